/-
  Texts of this claim, joined: EditLaw3, FrameW10, EditW19, FrameLaw, EditReg2, OpenR, FrameW9, FrameLaw2, EditCutP, Apart, EditCutV, EditW6, FrameW11, Conv, FrameW12, OpenZ.
-/
import Derived.IntWalk
import Derived.Lib.ConvBytes
import Derived.Test.YtokcaoaclheiiaaZ4
/-
  Plain law: the document's ReadEdit and edit.Read are one.
-/
namespace Go.Proofs.Ytokcaoaclheiiaa
open Go.RowKit
set_option linter.unusedVariables false

theorem rtk_ok {most x : Nat} {s r : List UInt8} {ok : Bool} (h : rtk most s ok = (x, r, true)) : ok = true ∧ (takeL s).2.2 = 0 ∧ (takeL s).1 = x ∧ x ≤ most ∧ r = s.drop (takeL s).2.1 := by
  unfold rtk at h
  split at h
  · rename_i h1
    injection h with e1 e2
    injection e2 with e2 e3
    exact ⟨h1.1, h1.2.1, e1, by rw [← e1]; exact h1.2.2, e2.symm⟩
  · injection h with e1 e2
    injection e2 with e2 e3
    cases e3
theorem rtk_is {most x : Nat} {s r : List UInt8} (h1 : (takeL s).2.2 = 0) (h2 : (takeL s).1 = x) (h3 : x ≤ most) (h4 : r = s.drop (takeL s).2.1) : rtk most s true = (x, r, true) := by
  unfold rtk
  rw [if_pos ⟨rfl, h1, by rw [h2]; exact h3⟩, h2, h4]
/-- numbers of what is left -/
def PN : Nat → List UInt8 → Option (List UInt64 × List UInt8)
  | 0, s => some ([], s)
  | k + 1, s => if (takeL s).2.2 = 0 ∧ (takeL s).1 ≤ 281474976710656 then (PN k (s.drop (takeL s).2.1)).map fun p => (UInt64.ofNat (takeL s).1 :: p.1, p.2) else none
theorem rdGo_PN : ∀ (k : Nat) (l : List UInt8) (a : Nat) (acc : List UInt64), a ≤ l.length → rdGo k l a acc = (PN k (l.drop a)).map fun p => (acc ++ p.1, l.length - p.2.length)
  | 0, l, a, acc, h => by simp [rdGo, PN]; omega
  | k + 1, l, a, acc, h => by
    rw [rdGo, PN]
    by_cases hc : (takeL (l.drop a)).2.2 = 0 ∧ (takeL (l.drop a)).1 ≤ 281474976710656
    · rw [if_pos hc, if_pos hc]
      have h2 := takeL_ok hc.1
      rw [List.length_drop] at h2
      rw [rdGo_PN k l _ _ (by omega), List.drop_drop, Option.map_map]
      congr 1
      funext p
      simp
    · rw [if_neg hc, if_neg hc]; rfl
theorem PN_add : ∀ (a b : Nat) (s : List UInt8), PN (a + b) s = (PN a s).bind fun p => (PN b p.2).map fun t => (p.1 ++ t.1, t.2)
  | 0, b, s => by simp [PN]
  | a + 1, b, s => by
    rw [show a + 1 + b = (a + b) + 1 by omega, PN, PN]
    by_cases hc : (takeL s).2.2 = 0 ∧ (takeL s).1 ≤ 281474976710656
    · rw [if_pos hc, if_pos hc, PN_add a b]
      cases PN a (s.drop (takeL s).2.1) with
      | none => rfl
      | some p =>
        simp only [Option.bind_some, Option.map_some, Option.map_map]
        congr 1
    · rw [if_neg hc, if_neg hc]; rfl
theorem PN_len : ∀ (k : Nat) (s : List UInt8) (p : List UInt64 × List UInt8), PN k s = some p → p.1.length = k
  | 0, s, p, h => by injection h with h; subst h; rfl
  | k + 1, s, p, h => by
    rw [PN] at h
    split at h
    · rw [Option.map_eq_some_iff] at h
      obtain ⟨p0, h1, rfl⟩ := h
      simp [PN_len k _ p0 h1]
    · cases h
theorem PN_one {s r : List UInt8} {x : Nat} (h1 : (takeL s).2.2 = 0) (h2 : (takeL s).1 = x) (h3 : x ≤ 281474976710656) (h4 : r = s.drop (takeL s).2.1) : PN 1 s = some ([UInt64.ofNat x], r) := by
  rw [PN, if_pos ⟨h1, by rw [h2]; exact h3⟩, PN, h2, h4]; rfl
theorem PN_one_inv {s : List UInt8} {p : List UInt64 × List UInt8} (h : PN 1 s = some p) : ∃ x, (takeL s).2.2 = 0 ∧ (takeL s).1 = x ∧ x ≤ 281474976710656 ∧ p.2 = s.drop (takeL s).2.1 ∧ p.1 = [UInt64.ofNat x] := by
  rw [PN] at h
  split at h
  · rename_i hc
    rw [PN] at h
    injection h with h
    subst h
    exact ⟨_, hc.1, rfl, hc.2, rfl, rfl⟩
  · cases h
theorem PN_snoc {k : Nat} {s : List UInt8} {l : List UInt64} {s1 r : List UInt8} {x : Nat} (h : PN k s = some (l, s1)) (h1 : (takeL s1).2.2 = 0) (h2 : (takeL s1).1 = x) (h3 : x ≤ 281474976710656) (h4 : r = s1.drop (takeL s1).2.1) : PN (k + 1) s = some (l ++ [UInt64.ofNat x], r) := by
  rw [PN_add, h, Option.bind_some]
  show (PN 1 s1).map _ = _
  rw [PN_one h1 h2 h3 h4]; rfl
theorem PN_snoc_inv {k : Nat} {s : List UInt8} {p : List UInt64 × List UInt8} (h : PN (k + 1) s = some p) : ∃ l s1 x, PN k s = some (l, s1) ∧ (takeL s1).2.2 = 0 ∧ (takeL s1).1 = x ∧ x ≤ 281474976710656 ∧ p.2 = s1.drop (takeL s1).2.1 ∧ p.1 = l ++ [UInt64.ofNat x] := by
  rw [PN_add] at h
  cases hk : PN k s with
  | none => rw [hk] at h; cases h
  | some t =>
    rw [hk, Option.bind_some, Option.map_eq_some_iff] at h
    obtain ⟨u, h1, rfl⟩ := h
    obtain ⟨x, e1, e2, e3, e4, e5⟩ := PN_one_inv h1
    exact ⟨t.1, t.2, x, rfl, e1, e2, e3, e4, by rw [e5]⟩
theorem PN_rest {k : Nat} {s : List UInt8} {p : List UInt64 × List UInt8} (h : PN k s = some p) : p.2.length ≤ s.length := by
  induction k generalizing s p with
  | zero => injection h with h; subst h; exact Nat.le_refl _
  | succ k ih =>
    rw [PN] at h
    split at h
    · rw [Option.map_eq_some_iff] at h
      obtain ⟨p0, h1, rfl⟩ := h
      have := ih h1
      rw [List.length_drop] at this
      show p0.2.length ≤ _
      omega
    · cases h
theorem rtk_false (most : Nat) (s : List UInt8) : rtk most s false = (0, s, false) := by unfold rtk; rw [if_neg (by simp)]
theorem rfiles_false : ∀ (k : Nat) (s : List UInt8), (rfiles k (s, false)).2.2 = false
  | 0, s => rfl
  | k + 1, s => by
    have ih := rfiles_false k s
    rcases h : rfiles k (s, false) with ⟨a, b, o⟩
    rw [h] at ih
    (try dsimp only at ih)
    subst ih
    rw [rfiles, h]
    simp only [rtk_false]
theorem u64_natL {x : Nat} (h : x ≤ 281474976710656) : (UInt64.ofNat x).toNat = x := by
  rw [UInt64.toNat_ofNat_of_lt']; show x < 18446744073709551616; omega
theorem gI_here {l t : List UInt64} {x k : Nat} (hk : l.length = k) (hx : x ≤ 281474976710656) : gI (l ++ UInt64.ofNat x :: t) k = x := by
  unfold gI
  rw [List.getD, List.getElem?_append_right (by omega), hk, Nat.sub_self]
  exact u64_natL hx
theorem gI_left {l t : List UInt64} {k : Nat} (hk : k < l.length) : gI (l ++ t) k = gI l k := by
  unfold gI
  rw [List.getD, List.getD, List.getElem?_append_left hk]
theorem prs_left {l t : List UInt64} {k : Nat} (hk : 2 * k ≤ l.length) : prs (l ++ t) k = prs l k := by
  unfold prs
  apply List.map_congr_left
  intro i hi
  rw [List.mem_range] at hi
  rw [gI_left (by omega), gI_left (by omega)]
theorem rfiles_PN : ∀ (k : Nat) (s r : List UInt8) (add : List Fl), rfiles k (s, true) = (add, (r, true)) → ∃ l, PN (2 * k) s = some (l, r) ∧ add = prs l k
  | 0, s, r, add, h => by
    rw [rfiles] at h
    injection h with h1 h2
    injection h2 with h2 h3
    exact ⟨[], by rw [PN, h2], h1.symm⟩
  | k + 1, s, r, add, h => by
    rcases ht : rfiles k (s, true) with ⟨add0, st⟩
    obtain ⟨b, ok⟩ := st
    rw [rfiles, ht] at h
    (try dsimp only at h)
    rcases ha : rtk 3 b ok with ⟨lv, s1, o1⟩
    rw [ha] at h
    (try dsimp only at h)
    rcases hb : rtk 1073741824 s1 o1 with ⟨nu, s2, o2⟩
    rw [hb] at h
    (try dsimp only at h)
    injection h with h1 h2
    injection h2 with h2 h3
    subst h3; subst h2
    obtain ⟨rfl, b1, b2, b3, b4⟩ := rtk_ok hb
    obtain ⟨rfl, a1, a2, a3, a4⟩ := rtk_ok ha
    obtain ⟨l, hl, rfl⟩ := rfiles_PN k s b add0 ht
    have hlen := PN_len _ _ _ hl
    (try dsimp only at hlen)
    refine ⟨l ++ [UInt64.ofNat lv] ++ [UInt64.ofNat nu], PN_snoc (PN_snoc hl a1 a2 (by omega) a4) b1 b2 (by omega) b4, ?_⟩
    rw [← h1, prs_succ, List.append_assoc, prs_left (by omega)]
    have e1 : gI (l ++ ([UInt64.ofNat lv] ++ [UInt64.ofNat nu])) (2 * k) = lv := gI_here hlen (by omega)
    have e2 : gI (l ++ ([UInt64.ofNat lv] ++ [UInt64.ofNat nu])) (2 * k + 1) = nu := by
      rw [← List.append_assoc]; exact gI_here (by simp [hlen]) (by omega)
    rw [e1, e2]
theorem PN_rfiles : ∀ (k : Nat) (s r : List UInt8) (l : List UInt64), PN (2 * k) s = some (l, r) → (∀ f ∈ prs l k, fileOk f = true) → rfiles k (s, true) = (prs l k, (r, true))
  | 0, s, r, l, h, _ => by
    rw [PN] at h
    injection h with h
    injection h with h1 h2
    rw [rfiles, ← h2]; rfl
  | k + 1, s, r, l, h, hall => by
    obtain ⟨l1, s1, nu, h1, b1, b2, b3, b4, rfl⟩ := PN_snoc_inv (k := 2 * k + 1) (p := (l, r)) h
    obtain ⟨l0, s0, lv, h0, a1, a2, a3, a4, rfl⟩ := PN_snoc_inv (k := 2 * k) (p := (l1, s1)) h1
    have hlen := PN_len _ _ _ h0
    (try dsimp only at hlen a4 b4)
    have e1 : gI (l0 ++ [UInt64.ofNat lv] ++ [UInt64.ofNat nu]) (2 * k) = lv := by rw [List.append_assoc]; exact gI_here hlen a3
    have e2 : gI (l0 ++ [UInt64.ofNat lv] ++ [UInt64.ofNat nu]) (2 * k + 1) = nu := gI_here (by simp [hlen]) b3
    have e3 : prs (l0 ++ [UInt64.ofNat lv] ++ [UInt64.ofNat nu]) k = prs l0 k := by rw [List.append_assoc]; exact prs_left (by omega)
    rw [prs_succ, e1, e2, e3] at hall ⊢
    have ih := PN_rfiles k s s0 l0 h0 fun f hf => hall f (List.mem_append_left _ hf)
    have hb := fileOk_b (hall _ (List.mem_append_right _ List.mem_cons_self))
    (try dsimp only at hb)
    rw [rfiles, ih]
    have r1 : rtk 3 s0 true = (lv, s1, true) := rtk_is a1 a2 (by omega) a4
    have r2 : rtk 1073741824 s1 true = (nu, r, true) := rtk_is b1 b2 (by omega) b4
    simp only [r1, r2]
theorem minD_idD {q : List UInt64} (h : ∀ x ∈ q, x.toNat ≤ 1073741824) : q.map minD = q.map idD := by
  apply List.map_congr_left
  intro x hx
  have := h x hx
  unfold minD capN idD
  rw [if_neg (by omega)]
theorem minD_ok {q : List UInt64} (h : (q.map minD).all numOk = true) : ∀ x ∈ q, x.toNat ≤ 1073741824 := by
  intro x hx
  have h1 := List.all_eq_true.1 h (minD x) (List.mem_map_of_mem hx)
  have h2 := of_decide_eq_true h1
  unfold minD capN at h2
  by_cases h3 : 1073741825 < x.toNat
  · rw [if_pos h3] at h2; omega
  · rw [if_neg h3] at h2; omega
theorem mayE_parts {ds : List Int} {add : List Fl} {lg : Int} {f ce at_ le : Nat} (hm : mayE ds add lg f ce at_ le = true) : ds.all numOk = true ∧ (∀ x ∈ add, fileOk x = true) ∧ lg ≤ 1073741824 := by
  simp only [mayE, Bool.and_eq_true, decide_eq_true_eq] at hm
  obtain ⟨m1, m2, m3, m4, m5, m6, m7⟩ := hm
  exact ⟨m6, List.all_eq_true.1 m7, m4⟩
theorem readR_eq (bs : List UInt8) : readR bs = readE bs := by
  apply Option.ext
  intro e
  rcases hu : unlistL bs 40 with ⟨q, qa, qe⟩
  have hqa := unlistL_at bs 40
  rw [hu] at hqa
  (try dsimp only at hqa)
  constructor
  · intro h
    unfold readR at h
    rw [hu] at h
    (try dsimp only at h)
    by_cases h0 : qe = 0
    · rw [if_neg (by simp [h0])] at h
      by_cases h1 : (q.any fun x => decide (1073741824 < x.toNat)) = true
      · rw [if_pos h1] at h; cases h
      · rw [if_neg h1] at h
        by_cases h2 : (takeL (bs.drop qa)).2.2 ≠ 0 ∨ 40 < (takeL (bs.drop qa)).1
        · rw [if_pos h2] at h; cases h
        · rw [if_neg h2] at h
          have h2a : (takeL (bs.drop qa)).2.2 = 0 := by by_cases hx : (takeL (bs.drop qa)).2.2 = 0; exact hx; exact absurd (.inl hx) h2
          have h2b : (takeL (bs.drop qa)).1 ≤ 40 := by by_cases hx : 40 < (takeL (bs.drop qa)).1; exact absurd (.inr hx) h2; omega
          have hsz := takeL_ok h2a
          rw [List.length_drop] at hsz
          rw [rdGo_PN _ _ _ _ (by omega), ← List.drop_drop] at h
          obtain ⟨m, hm⟩ : ∃ m, m = (takeL (bs.drop qa)).1 := ⟨_, rfl⟩
          rw [← hm] at h h2b
          cases hP : PN (2 * m + 5) ((bs.drop qa).drop (takeL (bs.drop qa)).2.1) with
          | none => rw [hP] at h; cases h
          | some p =>
            rw [hP] at h
            obtain ⟨L, r⟩ := p
            simp only [Option.map_some, Option.bind_some, List.nil_append, endR] at h
            split at h
            · rename_i hc
              injection h with h
              obtain ⟨hc1, hc2⟩ := hc
              obtain ⟨l4, s4, x4, k4, a1, a2, a3, a4, e4⟩ := PN_snoc_inv (k := 2 * m + 4) hP
              obtain ⟨l3, s3, x3, k3, b1, b2, b3, b4, e3⟩ := PN_snoc_inv (k := 2 * m + 3) k4
              obtain ⟨l2, s2, x2, k2, c1, c2, c3, c4, e2⟩ := PN_snoc_inv (k := 2 * m + 2) k3
              obtain ⟨l1, s1, x1, k1, d1, d2, d3, d4, e1⟩ := PN_snoc_inv (k := 2 * m + 1) k2
              obtain ⟨l0, s0, x0, k0, f1, f2, f3, f4, e0⟩ := PN_snoc_inv (k := 2 * m) k1
              (try dsimp only at e4 e3 e2 e1 e0 a4 b4 c4 d4 f4)
              subst e0; subst e1; subst e2; subst e3; subst e4
              have hl0 := PN_len _ _ _ k0
              (try dsimp only at hl0)
              have g0 : gI (l0 ++ [UInt64.ofNat x0] ++ [UInt64.ofNat x1] ++ [UInt64.ofNat x2] ++ [UInt64.ofNat x3] ++ [UInt64.ofNat x4]) (2 * m) = x0 := by
                simp only [List.append_assoc]; exact gI_here hl0 f3
              have g1 : gI (l0 ++ [UInt64.ofNat x0] ++ [UInt64.ofNat x1] ++ [UInt64.ofNat x2] ++ [UInt64.ofNat x3] ++ [UInt64.ofNat x4]) (2 * m + 1) = x1 := by
                rw [List.append_assoc, List.append_assoc, List.append_assoc]; exact gI_here (by simp [hl0]) d3
              have g2 : gI (l0 ++ [UInt64.ofNat x0] ++ [UInt64.ofNat x1] ++ [UInt64.ofNat x2] ++ [UInt64.ofNat x3] ++ [UInt64.ofNat x4]) (2 * m + 2) = x2 := by
                rw [List.append_assoc, List.append_assoc]; exact gI_here (by simp [hl0]) c3
              have g3 : gI (l0 ++ [UInt64.ofNat x0] ++ [UInt64.ofNat x1] ++ [UInt64.ofNat x2] ++ [UInt64.ofNat x3] ++ [UInt64.ofNat x4]) (2 * m + 3) = x3 := by
                rw [List.append_assoc]; exact gI_here (by simp [hl0]) b3
              have g4 : gI (l0 ++ [UInt64.ofNat x0] ++ [UInt64.ofNat x1] ++ [UInt64.ofNat x2] ++ [UInt64.ofNat x3] ++ [UInt64.ofNat x4]) (2 * m + 4) = x4 := gI_here (by simp [hl0]) a3
              have gp : prs (l0 ++ [UInt64.ofNat x0] ++ [UInt64.ofNat x1] ++ [UInt64.ofNat x2] ++ [UInt64.ofNat x3] ++ [UInt64.ofNat x4]) m = prs l0 m := by
                simp only [List.append_assoc]; exact prs_left (by omega)
              rw [g0, g1, g2, g3, g4, gp] at hc2 h
              obtain ⟨y1, y2, y3⟩ := mayE_parts hc2
              have hqb : ∀ x ∈ q, x.toNat ≤ 1073741824 := by
                intro x hx
                by_cases hx2 : 1073741824 < x.toNat
                · exact absurd (List.any_eq_true.2 ⟨x, hx, by simpa using hx2⟩) h1
                · omega
              have hrf := PN_rfiles m _ _ _ k0 y2
              have hr40 : rtk 40 (bs.drop qa) true = (m, (bs.drop qa).drop (takeL (bs.drop qa)).2.1, true) := rtk_is h2a hm.symm h2b rfl
              have hr0 : rtk 1073741824 s0 true = (x0, s1, true) := rtk_is f1 f2 (by omega) f4
              have hr1 : rtk 281474976710656 s1 true = (x1, s2, true) := rtk_is d1 d2 d3 d4
              have hr2 : rtk 281474976710656 s2 true = (x2, s3, true) := rtk_is c1 c2 c3 c4
              have hr3 : rtk 281474976710656 s3 true = (x3, s4, true) := rtk_is b1 b2 b3 b4
              have hr4 : rtk 281474976710656 s4 true = (x4, r, true) := rtk_is a1 a2 a3 a4
              have hr : r = [] := by
                apply List.eq_nil_of_length_eq_zero
                have := PN_rest hP
                (try dsimp only at this hc1)
                simp only [List.length_drop] at this
                omega
              unfold readE
              simp only [hu, hr40, hrf, hr0, hr1, hr2, hr3, hr4]
              rw [if_pos ⟨h0, by first | rfl | trivial, hr, by rw [minD_idD hqb]; exact hc2⟩, minD_idD hqb]
              exact congrArg some h
            · cases h
    · rw [if_pos h0] at h; cases h
  · intro h
    unfold readE at h
    rw [hu] at h
    (try dsimp only at h)
    rcases hr40 : rtk 40 (bs.drop qa) true with ⟨m, b0, o0⟩
    rw [hr40] at h
    (try dsimp only at h)
    rcases hrf : rfiles m (b0, o0) with ⟨add, st⟩
    obtain ⟨s0, o0'⟩ := st
    rw [hrf] at h
    (try dsimp only at h)
    rcases hr0 : rtk 1073741824 s0 o0' with ⟨x0, s1, o1⟩
    rw [hr0] at h
    (try dsimp only at h)
    rcases hr1 : rtk 281474976710656 s1 o1 with ⟨x1, s2, o2⟩
    rw [hr1] at h
    (try dsimp only at h)
    rcases hr2 : rtk 281474976710656 s2 o2 with ⟨x2, s3, o3⟩
    rw [hr2] at h
    (try dsimp only at h)
    rcases hr3 : rtk 281474976710656 s3 o3 with ⟨x3, s4, o4⟩
    rw [hr3] at h
    (try dsimp only at h)
    rcases hr4 : rtk 281474976710656 s4 o4 with ⟨x4, r, o5⟩
    rw [hr4] at h
    (try dsimp only at h)
    split at h
    · rename_i hc
      obtain ⟨rfl, rfl, rfl, hc2⟩ := hc
      injection h with h
      obtain ⟨rfl, a1, a2, a3, a4⟩ := rtk_ok hr4
      obtain ⟨rfl, b1, b2, b3, b4⟩ := rtk_ok hr3
      obtain ⟨rfl, c1, c2, c3, c4⟩ := rtk_ok hr2
      obtain ⟨rfl, d1, d2, d3, d4⟩ := rtk_ok hr1
      obtain ⟨rfl, f1, f2, f3, f4⟩ := rtk_ok hr0
      have ho0 : o0 = true := by
        cases o0
        · have h9 := rfiles_false m b0
          rw [hrf] at h9
          cases h9
        · rfl
      subst ho0
      obtain ⟨-, z1, z2, z3, z4⟩ := rtk_ok hr40
      obtain ⟨l0, k0, rfl⟩ := rfiles_PN m b0 s0 add hrf
      have hl0 := PN_len _ _ _ k0
      (try dsimp only at hl0)
      have k5 := PN_snoc (PN_snoc (PN_snoc (PN_snoc (PN_snoc k0 f1 f2 (by omega) f4) d1 d2 d3 d4) c1 c2 c3 c4) b1 b2 b3 b4) a1 a2 a3 a4
      have g0 : gI (l0 ++ [UInt64.ofNat x0] ++ [UInt64.ofNat x1] ++ [UInt64.ofNat x2] ++ [UInt64.ofNat x3] ++ [UInt64.ofNat x4]) (2 * m) = x0 := by
        simp only [List.append_assoc]; exact gI_here hl0 (by omega)
      have g1 : gI (l0 ++ [UInt64.ofNat x0] ++ [UInt64.ofNat x1] ++ [UInt64.ofNat x2] ++ [UInt64.ofNat x3] ++ [UInt64.ofNat x4]) (2 * m + 1) = x1 := by
        rw [List.append_assoc, List.append_assoc, List.append_assoc]; exact gI_here (by simp [hl0]) d3
      have g2 : gI (l0 ++ [UInt64.ofNat x0] ++ [UInt64.ofNat x1] ++ [UInt64.ofNat x2] ++ [UInt64.ofNat x3] ++ [UInt64.ofNat x4]) (2 * m + 2) = x2 := by
        rw [List.append_assoc, List.append_assoc]; exact gI_here (by simp [hl0]) c3
      have g3 : gI (l0 ++ [UInt64.ofNat x0] ++ [UInt64.ofNat x1] ++ [UInt64.ofNat x2] ++ [UInt64.ofNat x3] ++ [UInt64.ofNat x4]) (2 * m + 3) = x3 := by
        rw [List.append_assoc]; exact gI_here (by simp [hl0]) b3
      have g4 : gI (l0 ++ [UInt64.ofNat x0] ++ [UInt64.ofNat x1] ++ [UInt64.ofNat x2] ++ [UInt64.ofNat x3] ++ [UInt64.ofNat x4]) (2 * m + 4) = x4 := gI_here (by simp [hl0]) a3
      have gp : prs (l0 ++ [UInt64.ofNat x0] ++ [UInt64.ofNat x1] ++ [UInt64.ofNat x2] ++ [UInt64.ofNat x3] ++ [UInt64.ofNat x4]) m = prs l0 m := by
        simp only [List.append_assoc]; exact prs_left (by omega)
      obtain ⟨y1, y2, y3⟩ := mayE_parts hc2
      have hqb := minD_ok y1
      rw [minD_idD hqb] at hc2 h
      have hsz := takeL_ok z1
      rw [List.length_drop] at hsz
      unfold readR
      rw [hu]
      (try dsimp only)
      rw [if_neg (by simp), if_neg (by
        intro hx
        obtain ⟨x, hx1, hx2⟩ := List.any_eq_true.1 hx
        have := hqb x hx1
        simp only [decide_eq_true_eq] at hx2
        omega), if_neg (by rw [z2]; rintro (hx | hx); exact hx z1; omega), rdGo_PN _ _ _ _ (by omega), ← List.drop_drop, z2, ← z4, k5]
      simp only [Option.map_some, Option.bind_some, List.nil_append, endR]
      rw [g0, g1, g2, g3, g4, gp, if_pos ⟨by simp, hc2⟩]
      exact congrArg some h
    · cases h
end Go.Proofs.Ytokcaoaclheiiaa

/-
  The walk of clepsydraref1.Unframe.
-/
namespace Go.Proofs.Ytokcaoaclheiiaa
open Go.RowKit
set_option linter.unusedVariables false
set_option linter.unusedSimpArgs false

theorem tx_cut (l : List UInt8) (a b : Nat) : (tx l).extract a b = tx ((l.drop a).take (b - a)) := tx_of (by
  rw [ByteArray.data_extract, Array.toList_extract, List.extract_eq_take_drop, tx_list])
/-- what Unframe comes to: shut to the walk -/
def UnPost (r : List UInt8) (k : Nat) (w : World) (e : Ending) (w' : World) : Prop :=
  e = .returned (.tuple #[.int .i64 ((takeR r).2.1 : Int), .string (tx (takeR r).2.2.1), .int .i64 (if (takeR r).1 = 0 then (k : Int) + (takeR r).2.2.2 else 0), .int .i64 ((takeR r).1 : Int)]) ∧ Up w w'
theorem UnPost.bad {r : List UInt8} {k E : Nat} {w w' : World} (h : takeR r = (E, 0, [], 0)) (hE : E ≠ 0) (hu : Up w w') : UnPost r k w (.returned (.tuple #[.int .i64 0, .string (ByteArray.mk #[]), .int .i64 0, .int .i64 (E : Int)])) w' := by
  unfold UnPost
  rw [h, if_neg hE]
  exact ⟨rfl, hu⟩
set_option maxRecDepth 100000 in
set_option maxHeartbeats 800000 in
theorem unframe_core (l : List UInt8) (k : Nat) (w : World) (hl : l.length ≤ 549755813888) (hk : k ≤ l.length) :
    Calls Try.prog 49 #[.string (tx l), .int .i64 (k : Int)] w (UnPost (l.drop k) k w) := by
  have hz : (tx l).size = l.length := tx_size l
  have hrl : (l.drop k).length = l.length - k := List.length_drop
  have hcut := tx_cut l
  generalize hn : l.length = n at *
  generalize hr : l.drop k = r at *
  have HR := Lib.hid hr
  have HL := Lib.hid hrl
  have HN := Lib.hid hn
  clear hr hrl hn
  have g0 : decide ((k : Int) < 0) = false := by simp
  have g1 : decide ((n : Int) < (k : Int)) = false := by simp; omega
  have g2 : ¬ (n : Int) < (k : Int) := by omega
  by_cases h8 : n - k < 8
  · have hv : takeR r = (4, 0, [], 0) := by unfold takeR; rw [if_pos (by rw [HL.out]; exact h8)]
    have HV := Lib.hid hv
    clear hv
    have g3 : (n : Int) - k < 8 := by omega
    go_enter Try.func49, Try.ntmps49
    go_wp2_with fail
    refine bodyPost_ret (v := .tuple #[.int .i64 0, .string (ByteArray.mk #[]), .int .i64 0, .int .i64 4]) (by simp [results, Try.results49, go_sem]) rfl ?_
    exact .bad (E := 4) HV.out (by omega) (Up.refl _)
  · have g3 : ¬ (n : Int) - k < 8 := by omega
    have g4 : decide ((n : Int) - k < 8) = false := by simp; omega
    have hx8 : (tx l).extract k (k + 8) = tx (r.take 8) := by rw [hcut, HR.out, Nat.add_sub_cancel_left]
    have q1 : (k : Int) + 8 ≤ (n : Int) := by omega
    have q2 : ((k : Int) + 8).toNat = k + 8 := by omega
    have q3 : (k : Int) ≤ (k : Int) + 8 := by omega
    have HX := Lib.hid hx8
    clear hx8
    by_cases hE : openE (r.take 8) = 0
    · have hL : openL (r.take 8) = r.take 4 := by
        have hl8 : (r.take 8).length - 4 = 4 := by rw [List.length_take, HL.out]; omega
        unfold openL; rw [if_pos hE, hl8, List.take_take]; rfl
      have hb0 : (r.getD 0 0).toNat < 256 := (r.getD 0 0).toNat_lt
      have hb1 : (r.getD 1 0).toNat < 256 := (r.getD 1 0).toNat_lt
      have hb2 : (r.getD 2 0).toNat < 256 := (r.getD 2 0).toNat_lt
      have hb3 : (r.getD 3 0).toNat < 256 := (r.getD 3 0).toNat_lt
      have hT : takeR r = if (r.getD 0 0).toNat < 1 ∨ 100 < (r.getD 0 0).toNat ∨ 60000 < headN r then (3, 0, [], 0)
          else if r.length - 8 < headN r + 4 then (4, 0, [], 0)
          else if openE ((r.drop 8).take (headN r + 4)) ≠ 0 then (openE ((r.drop 8).take (headN r + 4)), 0, [], 0)
          else (0, (r.getD 0 0).toNat, (r.drop 8).take (headN r), headN r + 12) := by
        conv => lhs; unfold takeR
        rw [if_neg (by rw [HL.out]; exact h8), if_neg (by simpa using hE)]
      have hh : headN r = (r.getD 1 0).toNat * 65536 + (r.getD 2 0).toNat * 256 + (r.getD 3 0).toNat := rfl
      rw [hh, HL.out] at hT
      have hl8 : (r.drop 8).length = n - k - 8 := by rw [List.length_drop, HL.out]
      have hd8 : ∀ N, (tx l).extract (k + 8) (k + 12 + N) = tx ((r.drop 8).take (N + 4)) := fun N => by
        rw [hcut, ← HR.out, List.drop_drop, show k + 12 + N - (k + 8) = N + 4 by omega]
      have ht4 : (tx (r.take 4)).size = 4 := by rw [tx_size, List.length_take, HL.out]; omega
      have hbs : ∀ j, j < 4 → ∀ h, (tx (r.take 4))[j]'h = r.getD j 0 := fun j hj h => by
        rw [getD_str (tx_list _) h, take_getD r hj]
      have HE := Lib.hid hE
      have HO := Lib.hid hL
      have HT := Lib.hid hT
      have HL8 := Lib.hid hl8
      have HD8 := Lib.hid hd8
      have HBS := Lib.hid hbs
      clear hL hE hT hh hl8 hd8 hcut hbs
      go_enter Try.func49, Try.ntmps49
      go_wp2_with fail
      rw [HX.out]
      refine (ropen_any (r.take 8) w (by rw [List.length_take]; omega)).mono ?_
      rintro e w1 ⟨rfl, hu1⟩
      rw [HO.out, HE.out]
      generalize r.take 4 = r4 at *
      have i0 := HBS.out 0 (by omega) (by omega)
      have i1 := HBS.out 1 (by omega) (by omega)
      have i2 := HBS.out 2 (by omega) (by omega)
      have i3 := HBS.out 3 (by omega) (by omega)
      generalize r.getD 0 0 = y0 at *
      generalize r.getD 1 0 = y1 at *
      generalize r.getD 2 0 = y2 at *
      generalize r.getD 3 0 = y3 at *
      go_wp2_with fail
      generalize hy0 : y0.toNat = x0 at *
      generalize hy1 : y1.toNat = x1 at *
      generalize hy2 : y2.toNat = x2 at *
      generalize hy3 : y3.toNat = x3 at *
      have v0 : IntKind.i64.wrap (x0 : Int) = x0 := IntWalk.i64_in _ (by omega)
      have v1 : IntKind.i64.wrap (x1 : Int) = x1 := IntWalk.i64_in _ (by omega)
      have v2 : IntKind.i64.wrap (x2 : Int) = x2 := IntWalk.i64_in _ (by omega)
      have v3 : IntKind.i64.wrap (x3 : Int) = x3 := IntWalk.i64_in _ (by omega)
      have v4 : IntKind.i64.wrap ((x1 : Int) * 65536) = (x1 : Int) * 65536 := IntWalk.i64_in _ (by omega)
      have v5 : IntKind.i64.wrap ((x2 : Int) * 256) = (x2 : Int) * 256 := IntWalk.i64_in _ (by omega)
      have v6 := or_head x1 x2 x3 hb1 hb2 hb3
      have hNb : x1 * 65536 + x2 * 256 + x3 < 16777216 := by omega
      generalize hN : x1 * 65536 + x2 * 256 + x3 = N at v6 hNb
      have hT := HT.out
      rw [hN] at hT
      have HT2 := Lib.hid hT
      have HD := Lib.hid (HD8.out N)
      clear hN hT HT HD8 HBS
      apply Rg.region_up (fun W => Up w1 W) (by kernel_rfl) (by kernel_rfl) (fun w1 h => h)
      · intro QN hQN
        iterate 14 (apply Rg.RK.ok; (· intro vs w1 hS; go_simp; with_reducible rfl); (· rfl); simp only [Act.put, List.setIfInBounds_toArray, List.set_cons_zero, List.set_cons_succ, Nat.reduceAdd])
        apply Rg.RK.fin []
        intro vs w1 hK hS _
        refine hQN.out _ _ ?_
        clear hQN
        have hu2 := hu1.trans (keeps_up hK)
        clear v1 v2 v3 v4 v5 v6 i1 i2 i3 hy1 hy2 hy3 hS hK
        by_cases hbad : x0 < 1 ∨ 100 < x0 ∨ 60000 < N
        · have hv : takeR r = (3, 0, [], 0) := by rw [HT2.out, if_pos hbad]
          have hpe : putE (x0 : Int) N ≠ 0 := by unfold putE; split; simp; split; simp; omega
          have HV := Lib.hid hv
          clear hv
          go_wp2_with fail
          refine (frameok_any (x0 : Int) N _ (by omega)).mono ?_
          rintro e w2 ⟨rfl, rfl⟩
          generalize putE (x0 : Int) N = E3 at *
          have hE3 : ¬ (E3 : Int) = 0 := by omega
          go_wp2_with fail
          refine bodyPost_ret (v := .tuple #[.int .i64 0, .string (ByteArray.mk #[]), .int .i64 0, .int .i64 3]) (by simp [results, Try.results49, go_sem]) rfl ?_
          exact .bad (E := 3) HV.out (by omega) hu2
        · have hpe : putE (x0 : Int) N = 0 := by unfold putE; rw [if_neg (by omega), if_neg (by omega)]
          have HP := Lib.hid hpe
          have hN6 : N ≤ 60000 := by omega
          clear hpe
          by_cases hx4 : n - k - 8 < N + 4
          · have hv : takeR r = (4, 0, [], 0) := by rw [HT2.out, if_neg hbad, if_pos hx4]
            have HV := Lib.hid hv
            clear hv
            have g6 : (n : Int) - k - 8 < N + 4 := by omega
            go_wp2_with fail
            refine (frameok_any (x0 : Int) N _ (by omega)).mono ?_
            rintro e w2 ⟨rfl, rfl⟩
            rw [HP.out]
            go_wp2_with fail
            refine bodyPost_ret (v := .tuple #[.int .i64 0, .string (ByteArray.mk #[]), .int .i64 0, .int .i64 4]) (by simp [results, Try.results49, go_sem]) rfl ?_
            exact .bad (E := 4) HV.out (by omega) hu2
          · have g6 : ¬ (n : Int) - k - 8 < N + 4 := by omega
            have q4 : ((k : Int) + 12 + N).toNat = k + 12 + N := by omega
            have q5 : (k : Int) + 8 ≤ (k : Int) + 12 + N := by omega
            have q6 : (k : Int) + 12 + N ≤ (n : Int) := by omega
            have q7 : (0 : Int) ≤ (k : Int) + 8 := by omega
            have hlen5 : ((r.drop 8).take (N + 4)).length = N + 4 := by rw [List.length_take, HL8.out]; omega
            by_cases hx5 : openE ((r.drop 8).take (N + 4)) = 0
            · have hv : takeR r = (0, x0, (r.drop 8).take N, N + 12) := by rw [HT2.out, if_neg hbad, if_neg hx4, if_neg (by simpa using hx5)]
              have hL5 : openL ((r.drop 8).take (N + 4)) = (r.drop 8).take N := by
                unfold openL; rw [if_pos hx5, hlen5, List.take_take, Nat.min_eq_left (by omega)]; simp
              have HV := Lib.hid hv
              have H5 := Lib.hid hx5
              have HL5 := Lib.hid hL5
              have H6 := Lib.hid hlen5
              clear hv hx5 hL5 hlen5
              go_wp2_with fail
              refine (frameok_any (x0 : Int) N _ (by omega)).mono ?_
              rintro e w2 ⟨rfl, rfl⟩
              rw [HP.out]
              go_wp2_with fail
              rw [HD.out]
              refine (ropen_any _ w1 (by rw [H6.out]; omega)).mono ?_
              rintro e w3 ⟨rfl, hu3⟩
              rw [HL5.out, H5.out]
              go_wp2_with fail
              refine bodyPost_ret (v := .tuple #[.int .i64 (x0 : Int), .string (tx ((r.drop 8).take N)), .int .i64 ((k : Int) + 12 + N), .int .i64 0]) (by simp [results, Try.results49, go_sem]) rfl ?_
              unfold UnPost
              rw [HV.out]
              have e12 : (k : Int) + 12 + N = (k : Int) + ((N + 12 : Nat) : Int) := by omega
              rw [e12]
              exact ⟨rfl, hu2.trans hu3⟩
            · have hv : takeR r = (openE ((r.drop 8).take (N + 4)), 0, [], 0) := by rw [HT2.out, if_neg hbad, if_neg hx4, if_pos hx5]
              have HV := Lib.hid hv
              have H6 := Lib.hid hlen5
              clear hv hlen5
              go_wp2_with fail
              refine (frameok_any (x0 : Int) N _ (by omega)).mono ?_
              rintro e w2 ⟨rfl, rfl⟩
              rw [HP.out]
              go_wp2_with fail
              rw [HD.out]
              refine (ropen_any _ w1 (by rw [H6.out]; omega)).mono ?_
              rintro e w3 ⟨rfl, hu3⟩
              generalize openE ((r.drop 8).take (N + 4)) = E5 at *
              have hE5 : ¬ (E5 : Int) = 0 := by omega
              go_wp2_with fail
              refine bodyPost_ret (v := .tuple #[.int .i64 0, .string (ByteArray.mk #[]), .int .i64 0, .int .i64 (E5 : Int)]) (by simp [results, Try.results49, go_sem]) rfl ?_
              exact .bad HV.out hx5 (hu2.trans hu3)
      · kernel_rfl
    · have hv : takeR r = (openE (r.take 8), 0, [], 0) := by unfold takeR; rw [if_neg (by rw [HL.out]; exact h8), if_pos hE]
      have HV := Lib.hid hv
      clear hv hcut
      go_enter Try.func49, Try.ntmps49
      go_wp2_with fail
      rw [HX.out]
      refine (ropen_any (r.take 8) w (by rw [List.length_take]; omega)).mono ?_
      rintro e w1 ⟨rfl, hu1⟩
      generalize openE (r.take 8) = E5 at *
      have hE5 : ¬ (E5 : Int) = 0 := by omega
      go_wp2_with fail
      refine bodyPost_ret (v := .tuple #[.int .i64 0, .string (ByteArray.mk #[]), .int .i64 0, .int .i64 (E5 : Int)]) (by simp [results, Try.results49, go_sem]) rfl ?_
      exact .bad HV.out hE hu1
set_option maxRecDepth 100000 in
set_option maxHeartbeats 800000 in
theorem unframe_any (l : List UInt8) (at_ : Int) (w : World) (hl : l.length ≤ 549755813888) :
    Calls Try.prog 49 #[.string (tx l), .int .i64 at_] w fun e w' => e = .returned (.tuple #[.int .i64 ((takeF l at_).2.1 : Int), .string (tx (takeF l at_).2.2.1), .int .i64 (takeF l at_).2.2.2, .int .i64 ((takeF l at_).1 : Int)]) ∧ Up w w' := by
  by_cases h0 : at_ < 0 ∨ (l.length : Int) < at_
  · have hv : takeF l at_ = (1, 0, [], 0) := by unfold takeF; rw [if_pos h0]
    have HV := Lib.hid hv
    have hz : (tx l).size = l.length := tx_size l
    clear hv
    rcases h0 with h0 | h0
    · go_enter Try.func49, Try.ntmps49
      go_wp2_with fail
      refine bodyPost_ret (v := .tuple #[.int .i64 0, .string (ByteArray.mk #[]), .int .i64 0, .int .i64 1]) (by simp [results, Try.results49, go_sem]) rfl ?_
      rw [HV.out]
      exact ⟨rfl, Up.refl _⟩
    · have h1 : ¬ at_ < 0 := by omega
      have hd1 : decide (at_ < 0) = false := by simp; omega
      go_enter Try.func49, Try.ntmps49
      go_wp2_with fail
      refine bodyPost_ret (v := .tuple #[.int .i64 0, .string (ByteArray.mk #[]), .int .i64 0, .int .i64 1]) (by simp [results, Try.results49, go_sem]) rfl ?_
      rw [HV.out]
      exact ⟨rfl, Up.refl _⟩
  · obtain ⟨k, rfl⟩ := Int.eq_ofNat_of_zero_le (show 0 ≤ at_ by omega)
    have hv : takeF l (k : Int) = ((takeR (l.drop k)).1, (takeR (l.drop k)).2.1, (takeR (l.drop k)).2.2.1, if (takeR (l.drop k)).1 = 0 then (k : Int) + (takeR (l.drop k)).2.2.2 else 0) := by
      unfold takeF; rw [if_neg h0]; rfl
    rw [hv]
    exact unframe_core l k w hl (by omega)
end Go.Proofs.Ytokcaoaclheiiaa

/-
  The walk of the document's ReplayEdits.
-/
namespace Go.Proofs.Ytokcaoaclheiiaa
open Go.RowKit
set_option linter.unusedVariables false
set_option linter.unusedSimpArgs false

def stepC (s : VT × Nat) (k : Nat) (b : List UInt8) : Option (VT × Nat) := (stepV s.1 k b).map fun v => (v, s.2 + 1)
def rreplP (bs : List UInt8) : Option (VT × Nat) :=
  match seqF stepC bs (bs.length + 1) 0 (v0, 0) with
  | none => none
  | some x => if x.1.2 = 0 then none else some (x.1.1, x.2)
theorem fold_count : ∀ (ks : List Nat) (bs : List (List UInt8)) (v : VT) (m : Nat), ks.length = bs.length → foldF stepC (v, m) ks bs = (foldF stepV v ks bs).map fun u => (u, m + bs.length)
  | [], [], v, m, _ => rfl
  | k :: ks, b :: bs, v, m, h => by
    unfold foldF
    have hc : stepC (v, m) k b = (stepV v k b).map fun u => (u, m + 1) := rfl
    rw [hc]
    cases stepV v k b with
    | none => rfl
    | some u =>
      simp only [Option.map_some]
      rw [fold_count ks bs u (m + 1) (by simpa using h)]
      congr 1
      funext u
      simp only [List.length_cons]
      rw [show m + 1 + bs.length = m + (bs.length + 1) by omega]
theorem rrepl_eq (bs : List UInt8) : rreplP bs = replP bs := by
  have h := seq_split stepC bs (bs.length + 1) 0 (v0, 0)
  have hs : splitG bs (bs.length + 1) 0 [] [] = splitL bs := rfl
  rw [hs] at h
  have hl := (splitL_lens bs).1
  unfold rreplP replP viewsP
  rw [h]
  by_cases h1 : (splitL bs).2.2.2 = 0 ∨ (splitL bs).2.2.2 = 4
  · rw [if_pos h1, fold_count _ _ _ _ hl]
    by_cases h2 : (splitL bs).2.1.length = 0
    · rw [if_pos (.inr h2)]
      cases foldF stepV v0 (splitL bs).1 (splitL bs).2.1 with
      | none => rfl
      | some u => simp [h2]
    · rw [if_neg (by omega)]
      cases foldF stepV v0 (splitL bs).1 (splitL bs).2.1 with
      | none => rfl
      | some u => simp; intro h3; exact absurd (by rw [h3]; rfl) h2
  · rw [if_neg h1, if_pos (.inl (by omega))]; rfl
def RReplPost (r : Option (VT × Nat)) (w : World) (e : Ending) (w' : World) : Prop :=
  match r with
  | none => e = .returned (.tuple #[.agg #[.int .i64 0, .slice none 0 0, .int .u64 0, .int .u64 0, .int .u64 0, .int .u64 0], .int .i64 0, .int .i64 9]) ∧ Up w w'
  | some x => ∃ R rn rc, e = .returned (.tuple #[.agg (vcs x.1 R rn rc), .int .i64 (x.2 : Int), .int .i64 0]) ∧ Rd w' w'.heap.size 2 R rn (fvs x.1.2.1) ∧ rn ≤ rc ∧ rn ≤ 40 ∧ Up w w'
theorem takeF_nat {l : List UInt8} {k : Nat} (h : k ≤ l.length) : takeF l (k : Int) = ((takeR (l.drop k)).1, (takeR (l.drop k)).2.1, (takeR (l.drop k)).2.2.1, if (takeR (l.drop k)).1 = 0 then (((k + (takeR (l.drop k)).2.2.2 : Nat)) : Int) else 0) := by
  unfold takeF
  rw [if_neg (by omega)]
  simp
theorem seqF_step {σ : Type} (step : σ → Nat → List UInt8 → Option σ) (l : List UInt8) {f k : Nat} {s : σ} (h : k < l.length) : seqF step l (f + 1) k s = (if (takeR (l.drop k)).1 = 0 then (match step s (takeR (l.drop k)).2.1 (takeR (l.drop k)).2.2.1 with | none => none | some s' => seqF step l f (k + (takeR (l.drop k)).2.2.2) s') else if (takeR (l.drop k)).1 = 4 then some (s, k) else none) := by
  conv => lhs; unfold seqF
  rw [if_pos h]
  rfl
theorem seqF_stop {σ : Type} (step : σ → Nat → List UInt8 → Option σ) (l : List UInt8) {f k : Nat} {s : σ} (h : ¬ k < l.length) : seqF step l f k s = some (s, k) := by
  cases f with
  | zero => rfl
  | succ f => unfold seqF; rw [if_neg h]
set_option maxRecDepth 100000 in
set_option maxHeartbeats 6400000 in
theorem rreplay_any (bs : List UInt8) (w : World) (hn : bs.length ≤ 549755813888) :
    Calls Try.prog 25 #[.string (tx bs)] w (RReplPost (rreplP bs) w) := by
  obtain ⟨w1, hw1⟩ : ∃ w1, w1 = (w.alloc (.cells #[.int .i64 0, .slice none 0 0, .int .u64 0, .int .u64 0, .int .u64 0, .int .u64 0] 27)).alloc (.cells #[.int .i64 0, .slice none 0 0, .int .u64 0, .int .u64 0, .int .u64 0, .int .u64 0] 27) := ⟨_, rfl⟩
  have hup1 : Up w w1 := by rw [hw1]; exact ((Up.refl w).alloc _).alloc _
  have hg1 : w1.heap[w.heap.size]? = some (.cells #[.int .i64 0, .slice none 0 0, .int .u64 0, .int .u64 0, .int .u64 0, .int .u64 0] 27 (0, 0)) := by rw [hw1, Below.heap_alloc _ _ _ (by simp)]; exact heap_alloc_new w _
  have hg1b : w1.heap[w.heap.size + 1]? = some (.cells #[.int .i64 0, .slice none 0 0, .int .u64 0, .int .u64 0, .int .u64 0, .int .u64 0] 27 (0, 0)) := by
    rw [hw1]
    have h := heap_alloc_new (w.alloc (.cells #[.int .i64 0, .slice none 0 0, .int .u64 0, .int .u64 0, .int .u64 0, .int .u64 0] 27)) (.cells #[.int .i64 0, .slice none 0 0, .int .u64 0, .int .u64 0, .int .u64 0, .int .u64 0] 27)
    rwa [World.size_alloc] at h
  have HW := Lib.hid hw1
  clear hw1
  have hz : (tx bs).size = bs.length := tx_size bs
  go_enter Try.func25, Try.ntmps25
  go_wp2_with fail
  rw [← HW.out]
  clear HW
  have hg3E : w.heap.size < w.heap.size + 1 := by omega
  generalize hg3 : w.heap.size + 1 = g3 at *
  have hgw : w.heap.size ≤ w.heap.size := Nat.le_refl _
  generalize hg2 : w.heap.size = g2 at hg1 hg3E ⊢
  have hgw : w.heap.size ≤ g2 := Nat.le_of_eq hg2
  have hgw3 : w.heap.size ≤ g3 := by omega
  clear hg2 hg3
  obtain ⟨N, hN⟩ : ∃ N, N = bs.length := ⟨_, rfl⟩
  rw [← hN] at hz hn
  have HN := Lib.hid hN
  clear hN
  go_loopw [6, 7] (fun av cv wr => ∃ (k m : Nat) (v : VT) (A6 : Option Addr) (n6 c6 : Nat), av = .int .i64 (k : Int) ∧ cv = .int .i64 (m : Int) ∧ k ≤ N ∧ m ≤ k ∧ VW g3 v A6 n6 c6 wr ∧ wr.heap[g2]? = some (.cells #[.int .i64 0, .slice none 0 0, .int .u64 0, .int .u64 0, .int .u64 0, .int .u64 0] 27 (0, 0)) ∧ Hid (∃ f, N - k < f ∧ seqF stepC bs f k (v, m) = seqF stepC bs (bs.length + 1) 0 (v0, 0)) ∧ Up w wr) (fun av _ _ => N - (intOf av).toNat)
  case atStart => exact ⟨0, 0, v0, none, 0, 0, rfl, rfl, by omega, by omega, ⟨hg1b, Rd.empty, by omega, by omega, fun a ha => by cases ha⟩, hg1, ⟨bs.length + 1, by have := HN.out; omega, rfl⟩, hup1⟩
  case round =>
    obtain ⟨k, m, v, A6, n6, c6, rfl, rfl, hk, hm, hv, hb2, hsq, hup⟩ := hrel
    obtain ⟨lg, l, f, ce, at_, le⟩ := v
    by_cases hkN : k < N
    · have hkl : k < bs.length := by rw [← HN.out]; exact hkN
      have hkNi : (k : Int) < (N : Int) := by omega
      have htf := takeF_nat (l := bs) (k := k) (by omega)
      obtain ⟨fu, hfu, hsq2⟩ := hsq.out
      obtain ⟨fu', rfl⟩ : ∃ q, fu = q + 1 := ⟨fu - 1, by omega⟩
      rw [seqF_step stepC bs hkl] at hsq2
      have hok := @takeR_ok (bs.drop k)
      have hbb := takeR_bl (bs.drop k)
      rw [List.length_drop] at hbb hok
      obtain ⟨E, K, bd, nx, hT⟩ : ∃ a b c d, takeR (bs.drop k) = (a, b, c, d) := ⟨_, _, _, _, rfl⟩
      rw [hT] at htf hsq2 hok hbb
      (try dsimp only at htf hsq2 hok hbb)
      have HTF := Lib.hid htf
      have HSQ := Lib.hid hsq2
      have HOK := Lib.hid hok
      have hbdn : bd.length ≤ 549755813888 := by have := HN.out; omega
      clear htf hsq2 hok hbb hT hkl hsq
      go_wp2_with fail
      refine (unframe_any bs (k : Int) wr (by rw [← HN.out]; exact hn)).mono ?_
      rintro e w3 ⟨rfl, hu3⟩
      rw [HTF.out]
      (try dsimp only)
      have hv3 := hv.up hu3
      have hb3 := blk_upE hu3 hb2
      have hup3 := hup.trans hu3
      clear hv hb2 hup hu3
      by_cases hE4 : E = 4
      · subst hE4
        have hres : seqF stepC bs (bs.length + 1) 0 (v0, 0) = some (((lg, l, f, ce, at_, le), m), k) := by
          rw [← HSQ.out, if_neg (by decide), if_pos rfl]
        have HRES := Lib.hid hres
        clear hres HSQ HOK HTF
        by_cases hm0 : m = 0
        · subst hm0
          have HBAD : Hid (rreplP bs = none) := by show _ = _; unfold rreplP; rw [HRES.out]; rfl
          clear HRES
          go_wp2_with (first
            | (with_reducible show wpList _ _ _ (⟨none, .store 27 _ _, _, _, _, none⟩ :: _) _ _
               refine wpList_store_all rfl 27 _ _ rfl (g := g2) (cells := #[.int .i64 0, .slice none 0 0, .int .u64 0, .int .u64 0, .int .u64 0, .int .u64 0]) rfl (by kernel_rfl) hb3 view_info6 rfl (by simp [Value.oneCell']) ?_
               intro w9 hgd hbut
               have hup9 := But.up hup3 hbut hgw
               clear hbut))
          have t0 := blk_cell hgd 0
          have t1 := blk_cell hgd 1
          have t2 := blk_cell hgd 2
          have t3 := blk_cell hgd 3
          have t4 := blk_cell hgd 4
          have t5 := blk_cell hgd 5
          refine bodyPost_ret (v := .tuple #[.agg #[.int .i64 0, .slice none 0 0, .int .u64 0, .int .u64 0, .int .u64 0, .int .u64 0], .int .i64 0, .int .i64 9]) (by simp [results, Try.results25, go_sem, t0, t1, t2, t3, t4, t5]) rfl ?_
          rw [HBAD.out]
          exact ⟨rfl, hup9⟩
        · have dm : ((m : Int) == 0) = false := by rw [beq_eq_false_iff_ne]; omega
          have HR : Hid (rreplP bs = some ((lg, l, f, ce, at_, le), k)) := by show _ = _; unfold rreplP; rw [HRES.out]; simp only []; rw [if_neg hm0]
          clear HRES
          have hnc6 := (hv3).nc
          have hle6 := (hv3).le
          have hrd6 := (hv3).rd
          have hne6 := (hv3).ne
          have t0 : (w3).cell? ⟨g3, 0, none⟩ = some (.int .i64 lg) := blk_cell (hv3).blk 0
          have t1 : (w3).cell? ⟨g3, 1, none⟩ = some (.slice A6 n6 c6) := blk_cell (hv3).blk 1
          have t2 : (w3).cell? ⟨g3, 2, none⟩ = some (.int .u64 (f : Int)) := blk_cell (hv3).blk 2
          have t3 : (w3).cell? ⟨g3, 3, none⟩ = some (.int .u64 (ce : Int)) := blk_cell (hv3).blk 3
          have t4 : (w3).cell? ⟨g3, 4, none⟩ = some (.int .u64 (at_ : Int)) := blk_cell (hv3).blk 4
          have t5 : (w3).cell? ⟨g3, 5, none⟩ = some (.int .u64 (le : Int)) := blk_cell (hv3).blk 5
          go_wp2_with (first
            | (with_reducible show wpList _ _ _ (⟨none, .store 27 _ _, _, _, _, none⟩ :: _) _ _
               refine wpList_store_all rfl 27 _ _ rfl (g := g2) (cells := #[.int .i64 lg, .slice A6 n6 c6, .int .u64 (f : Int), .int .u64 (ce : Int), .int .u64 (at_ : Int), .int .u64 (le : Int)]) rfl (by kernel_rfl) hb3 view_info6 rfl (by simp [Value.oneCell']) ?_
               intro w9 hgd hbut))
          clear t0 t1 t2 t3 t4 t5
          have hup9 := But.up hup3 hbut hgw
          have t0 : (w9).cell? ⟨g2, 0, none⟩ = some (.int .i64 lg) := blk_cell hgd 0
          have t1 : (w9).cell? ⟨g2, 1, none⟩ = some (.slice A6 n6 c6) := blk_cell hgd 1
          have t2 : (w9).cell? ⟨g2, 2, none⟩ = some (.int .u64 (f : Int)) := blk_cell hgd 2
          have t3 : (w9).cell? ⟨g2, 3, none⟩ = some (.int .u64 (ce : Int)) := blk_cell hgd 3
          have t4 : (w9).cell? ⟨g2, 4, none⟩ = some (.int .u64 (at_ : Int)) := blk_cell hgd 4
          have t5 : (w9).cell? ⟨g2, 5, none⟩ = some (.int .u64 (le : Int)) := blk_cell hgd 5
          refine bodyPost_ret (v := .tuple #[.agg #[.int .i64 lg, .slice A6 n6 c6, .int .u64 (f : Int), .int .u64 (ce : Int), .int .u64 (at_ : Int), .int .u64 (le : Int)], .int .i64 (k : Int), .int .i64 0]) (by simp [results, Try.results25, go_sem, t0, t1, t2, t3, t4, t5]) rfl ?_
          rw [HR.out]
          exact ⟨A6, n6, c6, rfl, Rd.keepsNe hrd6 (Nat.le_refl _) (fun a ha => by have := hne6 a ha; omega) hbut, hnc6, hle6, hup9⟩
      have d4 : ((E : Int) == 4) = false := by rw [beq_eq_false_iff_ne]; omega
      by_cases hE0 : E = 0
      · have d0 : ((E : Int) != 0) = false := by rw [bne_eq_false_iff_eq]; omega
        obtain ⟨hx1, hx2, -, -⟩ := HOK.out hE0
        by_cases hK6 : K = 6
        · have d6 : ((K : Int) != 6) = false := by rw [bne_eq_false_iff_eq]; omega
          have hst : stepC ((lg, l, f, ce, at_, le), m) K bd = ((readE bd).bind (applyE (lg, l, f, ce, at_, le))).map fun v => (v, m + 1) := by
            unfold stepC stepV
            rw [if_pos hK6]
          have HST := Lib.hid hst
          clear hst
          rw [if_pos hE0]
          go_wp2_with fail
          refine (rread_any (tx bd) bd w3 (tx_list bd) (by rw [tx_size]; exact hbdn)).mono ?_
          intro e w4 hq
          rw [readR_eq] at hq
          cases hre : readE bd with
          | none =>
            rw [hre] at hq
            obtain ⟨rfl, hu4⟩ := hq
            have hbad : seqF stepC bs (bs.length + 1) 0 (v0, 0) = none := by rw [← HSQ.out, if_pos hE0, HST.out, hre]; rfl
            have HBAD : Hid (rreplP bs = none) := by show _ = _; unfold rreplP; rw [hbad]
            have hub : Up w4 (w4.alloc (.cells #[.slice none 0 0, .slice none 0 0, .int .i64 0, .int .u64 0, .int .u64 0, .int .u64 0, .int .u64 0] 32)) := (Up.refl w4).alloc _
            have hv4 := hv3.up (hu4.trans hub)
            have hb4 := blk_upE (hu4.trans hub) hb3
            have hup4 := hup3.trans (hu4.trans hub)
            have he4 : (w4.alloc (.cells #[.slice none 0 0, .slice none 0 0, .int .i64 0, .int .u64 0, .int .u64 0, .int .u64 0, .int .u64 0] 32)).heap[w4.heap.size]? = some (.cells #[.slice none 0 0, .slice none 0 0, .int .i64 0, .int .u64 0, .int .u64 0, .int .u64 0, .int .u64 0] 32 (0, 0)) := heap_alloc_new w4 _
            clear hbad hre hv3 hb3 hup3 hu4 hub HST HSQ HOK HTF
            have t0 : ((w4.alloc (.cells #[.slice none 0 0, .slice none 0 0, .int .i64 0, .int .u64 0, .int .u64 0, .int .u64 0, .int .u64 0] 32))).cell? ⟨g3, 0, none⟩ = some (.int .i64 lg) := blk_cell hv4.blk 0
            have t1 : ((w4.alloc (.cells #[.slice none 0 0, .slice none 0 0, .int .i64 0, .int .u64 0, .int .u64 0, .int .u64 0, .int .u64 0] 32))).cell? ⟨g3, 1, none⟩ = some (.slice A6 n6 c6) := blk_cell hv4.blk 1
            have t2 : ((w4.alloc (.cells #[.slice none 0 0, .slice none 0 0, .int .i64 0, .int .u64 0, .int .u64 0, .int .u64 0, .int .u64 0] 32))).cell? ⟨g3, 2, none⟩ = some (.int .u64 (f : Int)) := blk_cell hv4.blk 2
            have t3 : ((w4.alloc (.cells #[.slice none 0 0, .slice none 0 0, .int .i64 0, .int .u64 0, .int .u64 0, .int .u64 0, .int .u64 0] 32))).cell? ⟨g3, 3, none⟩ = some (.int .u64 (ce : Int)) := blk_cell hv4.blk 3
            have t4 : ((w4.alloc (.cells #[.slice none 0 0, .slice none 0 0, .int .i64 0, .int .u64 0, .int .u64 0, .int .u64 0, .int .u64 0] 32))).cell? ⟨g3, 4, none⟩ = some (.int .u64 (at_ : Int)) := blk_cell hv4.blk 4
            have t5 : ((w4.alloc (.cells #[.slice none 0 0, .slice none 0 0, .int .i64 0, .int .u64 0, .int .u64 0, .int .u64 0, .int .u64 0] 32))).cell? ⟨g3, 5, none⟩ = some (.int .u64 (le : Int)) := blk_cell hv4.blk 5
            have u0 : (w4.alloc (.cells #[.slice none 0 0, .slice none 0 0, .int .i64 0, .int .u64 0, .int .u64 0, .int .u64 0, .int .u64 0] 32)).cell? ⟨w4.heap.size, 0, none⟩ = some (.slice none 0 0) := blk_cell he4 0
            have u1 : (w4.alloc (.cells #[.slice none 0 0, .slice none 0 0, .int .i64 0, .int .u64 0, .int .u64 0, .int .u64 0, .int .u64 0] 32)).cell? ⟨w4.heap.size, 1, none⟩ = some (.slice none 0 0) := blk_cell he4 1
            have u2 : (w4.alloc (.cells #[.slice none 0 0, .slice none 0 0, .int .i64 0, .int .u64 0, .int .u64 0, .int .u64 0, .int .u64 0] 32)).cell? ⟨w4.heap.size, 2, none⟩ = some (.int .i64 0) := blk_cell he4 2
            have u3 : (w4.alloc (.cells #[.slice none 0 0, .slice none 0 0, .int .i64 0, .int .u64 0, .int .u64 0, .int .u64 0, .int .u64 0] 32)).cell? ⟨w4.heap.size, 3, none⟩ = some (.int .u64 0) := blk_cell he4 3
            have u4 : (w4.alloc (.cells #[.slice none 0 0, .slice none 0 0, .int .i64 0, .int .u64 0, .int .u64 0, .int .u64 0, .int .u64 0] 32)).cell? ⟨w4.heap.size, 4, none⟩ = some (.int .u64 0) := blk_cell he4 4
            have u5 : (w4.alloc (.cells #[.slice none 0 0, .slice none 0 0, .int .i64 0, .int .u64 0, .int .u64 0, .int .u64 0, .int .u64 0] 32)).cell? ⟨w4.heap.size, 5, none⟩ = some (.int .u64 0) := blk_cell he4 5
            have u6 : (w4.alloc (.cells #[.slice none 0 0, .slice none 0 0, .int .i64 0, .int .u64 0, .int .u64 0, .int .u64 0, .int .u64 0] 32)).cell? ⟨w4.heap.size, 6, none⟩ = some (.int .u64 0) := blk_cell he4 6
            go_wp2_with fail
            clear t0 t1 t2 t3 t4 t5 u0 u1 u2 u3 u4 u5 u6 he4
            generalize (w4.alloc (.cells #[.slice none 0 0, .slice none 0 0, .int .i64 0, .int .u64 0, .int .u64 0, .int .u64 0, .int .u64 0] 32)) = w5 at *
            generalize w4.heap.size = g5 at *
            refine (rapply_any lg A6 n6 c6 l f ce at_ le none 0 0 [] none 0 0 [] 0 0 0 0 0 w5 hv4.rd (by have := hv4.le; omega) Rd.empty (by omega) Rd.empty (by omega)).mono ?_
            intro e w6 ha
            cases hap : applyR lg l f ce at_ le [] [] 0 0 0 0 0 with
            | none =>
              rw [hap] at ha
              obtain ⟨rfl, hu6⟩ := ha
              have hb6 := blk_upE (hu6.trans ((Up.refl w6).alloc (.cells #[.int .i64 0, .slice none 0 0, .int .u64 0, .int .u64 0, .int .u64 0, .int .u64 0] 27))) hb4
              have hup6 := hup4.trans (hu6.trans ((Up.refl w6).alloc (.cells #[.int .i64 0, .slice none 0 0, .int .u64 0, .int .u64 0, .int .u64 0, .int .u64 0] 27)))
              clear hap hv4 hb4 hup4 hu6
              go_wp2_with (first
                | (with_reducible show wpList _ _ _ (⟨none, .store 27 _ _, _, _, _, none⟩ :: _) _ _
                   refine wpList_store_all rfl 27 _ _ rfl (g := g2) (cells := #[.int .i64 0, .slice none 0 0, .int .u64 0, .int .u64 0, .int .u64 0, .int .u64 0]) rfl (by kernel_rfl) hb6 view_info6 rfl (by simp [Value.oneCell']) ?_
                   intro w9 hgd hbut
                   have hup9 := But.up hup6 hbut hgw
                   clear hbut))
              have t0 := blk_cell hgd 0
              have t1 := blk_cell hgd 1
              have t2 := blk_cell hgd 2
              have t3 := blk_cell hgd 3
              have t4 := blk_cell hgd 4
              have t5 := blk_cell hgd 5
              refine bodyPost_ret (v := .tuple #[.agg #[.int .i64 0, .slice none 0 0, .int .u64 0, .int .u64 0, .int .u64 0, .int .u64 0], .int .i64 0, .int .i64 9]) (by simp [results, Try.results25, go_sem, t0, t1, t2, t3, t4, t5]) rfl ?_
              rw [HBAD.out]
              exact ⟨rfl, hup9⟩
            | some u =>
              obtain ⟨ulg, ul, uf, uce, uat, ule⟩ := u
              rw [hap] at ha
              obtain ⟨R6, rn6, rc6, rfl, -, -, hu6, -⟩ := ha
              (try dsimp only)
              have hb6 := blk_upE (hu6.trans ((Up.refl w6).alloc (.cells #[.int .i64 ulg, .slice R6 rn6 rc6, .int .u64 (uf : Int), .int .u64 (uce : Int), .int .u64 (uat : Int), .int .u64 (ule : Int)] 27))) hb4
              have hup6 := hup4.trans (hu6.trans ((Up.refl w6).alloc (.cells #[.int .i64 ulg, .slice R6 rn6 rc6, .int .u64 (uf : Int), .int .u64 (uce : Int), .int .u64 (uat : Int), .int .u64 (ule : Int)] 27)))
              clear hap hv4 hb4 hup4 hu6
              go_wp2_with (first
                | (with_reducible show wpList _ _ _ (⟨none, .store 27 _ _, _, _, _, none⟩ :: _) _ _
                   refine wpList_store_all rfl 27 _ _ rfl (g := g2) (cells := #[.int .i64 0, .slice none 0 0, .int .u64 0, .int .u64 0, .int .u64 0, .int .u64 0]) rfl (by kernel_rfl) hb6 view_info6 rfl (by simp [Value.oneCell']) ?_
                   intro w9 hgd hbut
                   have hup9 := But.up hup6 hbut hgw
                   clear hbut))
              have t0 := blk_cell hgd 0
              have t1 := blk_cell hgd 1
              have t2 := blk_cell hgd 2
              have t3 := blk_cell hgd 3
              have t4 := blk_cell hgd 4
              have t5 := blk_cell hgd 5
              refine bodyPost_ret (v := .tuple #[.agg #[.int .i64 0, .slice none 0 0, .int .u64 0, .int .u64 0, .int .u64 0, .int .u64 0], .int .i64 0, .int .i64 9]) (by simp [results, Try.results25, go_sem, t0, t1, t2, t3, t4, t5]) rfl ?_
              rw [HBAD.out]
              exact ⟨rfl, hup9⟩
          | some x =>
            obtain ⟨ds, add, elg, ef, ece, eat, ele⟩ := x
            rw [hre] at hq
            obtain ⟨hl1, hl2⟩ := readE_len hre
            (try dsimp only at hl1 hl2)
            obtain ⟨D, dn, dc, A5, an, ac, rfl, hD, hdc, hA5, hac, hu4⟩ := hq
            (try dsimp only at hD hA5)
            have hub : Up w4 (w4.alloc (.cells #[.slice D dn dc, .slice A5 an ac, .int .i64 elg, .int .u64 (ef : Int), .int .u64 (ece : Int), .int .u64 (eat : Int), .int .u64 (ele : Int)] 32)) := (Up.refl w4).alloc _
            have hv4 := hv3.up (hu4.trans hub)
            have hb4 := blk_upE (hu4.trans hub) hb3
            have hup4 := hup3.trans (hu4.trans hub)
            have hD4 := hD.up hub
            have hA54 := hA5.up hub
            have he4 : (w4.alloc (.cells #[.slice D dn dc, .slice A5 an ac, .int .i64 elg, .int .u64 (ef : Int), .int .u64 (ece : Int), .int .u64 (eat : Int), .int .u64 (ele : Int)] 32)).heap[w4.heap.size]? = some (.cells #[.slice D dn dc, .slice A5 an ac, .int .i64 elg, .int .u64 (ef : Int), .int .u64 (ece : Int), .int .u64 (eat : Int), .int .u64 (ele : Int)] 32 (0, 0)) := heap_alloc_new w4 _
            have hst2 : stepC ((lg, l, f, ce, at_, le), m) K bd = (applyR lg l f ce at_ le ds add elg ef ece eat ele).map fun v => (v, m + 1) := by rw [HST.out, hre]; rfl
            have HST2 := Lib.hid hst2
            have hdn : dn ≤ 1099511627776 := by have := hD4.1; rw [nmv_len] at this; omega
            have han : an ≤ 1099511627776 := by have := hA54.flen; omega
            clear hst2 hre hv3 hb3 hup3 hu4 hub HST HTF hD hA5
            have t0 : ((w4.alloc (.cells #[.slice D dn dc, .slice A5 an ac, .int .i64 elg, .int .u64 (ef : Int), .int .u64 (ece : Int), .int .u64 (eat : Int), .int .u64 (ele : Int)] 32))).cell? ⟨g3, 0, none⟩ = some (.int .i64 lg) := blk_cell hv4.blk 0
            have t1 : ((w4.alloc (.cells #[.slice D dn dc, .slice A5 an ac, .int .i64 elg, .int .u64 (ef : Int), .int .u64 (ece : Int), .int .u64 (eat : Int), .int .u64 (ele : Int)] 32))).cell? ⟨g3, 1, none⟩ = some (.slice A6 n6 c6) := blk_cell hv4.blk 1
            have t2 : ((w4.alloc (.cells #[.slice D dn dc, .slice A5 an ac, .int .i64 elg, .int .u64 (ef : Int), .int .u64 (ece : Int), .int .u64 (eat : Int), .int .u64 (ele : Int)] 32))).cell? ⟨g3, 2, none⟩ = some (.int .u64 (f : Int)) := blk_cell hv4.blk 2
            have t3 : ((w4.alloc (.cells #[.slice D dn dc, .slice A5 an ac, .int .i64 elg, .int .u64 (ef : Int), .int .u64 (ece : Int), .int .u64 (eat : Int), .int .u64 (ele : Int)] 32))).cell? ⟨g3, 3, none⟩ = some (.int .u64 (ce : Int)) := blk_cell hv4.blk 3
            have t4 : ((w4.alloc (.cells #[.slice D dn dc, .slice A5 an ac, .int .i64 elg, .int .u64 (ef : Int), .int .u64 (ece : Int), .int .u64 (eat : Int), .int .u64 (ele : Int)] 32))).cell? ⟨g3, 4, none⟩ = some (.int .u64 (at_ : Int)) := blk_cell hv4.blk 4
            have t5 : ((w4.alloc (.cells #[.slice D dn dc, .slice A5 an ac, .int .i64 elg, .int .u64 (ef : Int), .int .u64 (ece : Int), .int .u64 (eat : Int), .int .u64 (ele : Int)] 32))).cell? ⟨g3, 5, none⟩ = some (.int .u64 (le : Int)) := blk_cell hv4.blk 5
            have u0 : (w4.alloc (.cells #[.slice D dn dc, .slice A5 an ac, .int .i64 elg, .int .u64 (ef : Int), .int .u64 (ece : Int), .int .u64 (eat : Int), .int .u64 (ele : Int)] 32)).cell? ⟨w4.heap.size, 0, none⟩ = some (.slice D dn dc) := blk_cell he4 0
            have u1 : (w4.alloc (.cells #[.slice D dn dc, .slice A5 an ac, .int .i64 elg, .int .u64 (ef : Int), .int .u64 (ece : Int), .int .u64 (eat : Int), .int .u64 (ele : Int)] 32)).cell? ⟨w4.heap.size, 1, none⟩ = some (.slice A5 an ac) := blk_cell he4 1
            have u2 : (w4.alloc (.cells #[.slice D dn dc, .slice A5 an ac, .int .i64 elg, .int .u64 (ef : Int), .int .u64 (ece : Int), .int .u64 (eat : Int), .int .u64 (ele : Int)] 32)).cell? ⟨w4.heap.size, 2, none⟩ = some (.int .i64 elg) := blk_cell he4 2
            have u3 : (w4.alloc (.cells #[.slice D dn dc, .slice A5 an ac, .int .i64 elg, .int .u64 (ef : Int), .int .u64 (ece : Int), .int .u64 (eat : Int), .int .u64 (ele : Int)] 32)).cell? ⟨w4.heap.size, 3, none⟩ = some (.int .u64 (ef : Int)) := blk_cell he4 3
            have u4 : (w4.alloc (.cells #[.slice D dn dc, .slice A5 an ac, .int .i64 elg, .int .u64 (ef : Int), .int .u64 (ece : Int), .int .u64 (eat : Int), .int .u64 (ele : Int)] 32)).cell? ⟨w4.heap.size, 4, none⟩ = some (.int .u64 (ece : Int)) := blk_cell he4 4
            have u5 : (w4.alloc (.cells #[.slice D dn dc, .slice A5 an ac, .int .i64 elg, .int .u64 (ef : Int), .int .u64 (ece : Int), .int .u64 (eat : Int), .int .u64 (ele : Int)] 32)).cell? ⟨w4.heap.size, 5, none⟩ = some (.int .u64 (eat : Int)) := blk_cell he4 5
            have u6 : (w4.alloc (.cells #[.slice D dn dc, .slice A5 an ac, .int .i64 elg, .int .u64 (ef : Int), .int .u64 (ece : Int), .int .u64 (eat : Int), .int .u64 (ele : Int)] 32)).cell? ⟨w4.heap.size, 6, none⟩ = some (.int .u64 (ele : Int)) := blk_cell he4 6
            go_wp2_with fail
            clear t0 t1 t2 t3 t4 t5 u0 u1 u2 u3 u4 u5 u6 he4
            generalize (w4.alloc (.cells #[.slice D dn dc, .slice A5 an ac, .int .i64 elg, .int .u64 (ef : Int), .int .u64 (ece : Int), .int .u64 (eat : Int), .int .u64 (ele : Int)] 32)) = w5 at *
            generalize w4.heap.size = g5 at *
            refine (rapply_any lg A6 n6 c6 l f ce at_ le D dn dc ds A5 an ac add elg ef ece eat ele w5 hv4.rd (by have := hv4.le; omega) hD4 hdn hA54 han).mono ?_
            intro e w6 ha
            cases hap : applyR lg l f ce at_ le ds add elg ef ece eat ele with
            | none =>
              rw [hap] at ha
              obtain ⟨rfl, hu6⟩ := ha
              have hbad : seqF stepC bs (bs.length + 1) 0 (v0, 0) = none := by rw [← HSQ.out, if_pos hE0, HST2.out, hap]; rfl
              have HBAD : Hid (rreplP bs = none) := by show _ = _; unfold rreplP; rw [hbad]
              have hb6 := blk_upE (hu6.trans ((Up.refl w6).alloc (.cells #[.int .i64 0, .slice none 0 0, .int .u64 0, .int .u64 0, .int .u64 0, .int .u64 0] 27))) hb4
              have hup6 := hup4.trans (hu6.trans ((Up.refl w6).alloc (.cells #[.int .i64 0, .slice none 0 0, .int .u64 0, .int .u64 0, .int .u64 0, .int .u64 0] 27)))
              clear hbad hap hv4 hb4 hup4 hu6 HSQ HST2 HOK
              go_wp2_with (first
                | (with_reducible show wpList _ _ _ (⟨none, .store 27 _ _, _, _, _, none⟩ :: _) _ _
                   refine wpList_store_all rfl 27 _ _ rfl (g := g2) (cells := #[.int .i64 0, .slice none 0 0, .int .u64 0, .int .u64 0, .int .u64 0, .int .u64 0]) rfl (by kernel_rfl) hb6 view_info6 rfl (by simp [Value.oneCell']) ?_
                   intro w9 hgd hbut
                   have hup9 := But.up hup6 hbut hgw
                   clear hbut))
              have t0 := blk_cell hgd 0
              have t1 := blk_cell hgd 1
              have t2 := blk_cell hgd 2
              have t3 := blk_cell hgd 3
              have t4 := blk_cell hgd 4
              have t5 := blk_cell hgd 5
              refine bodyPost_ret (v := .tuple #[.agg #[.int .i64 0, .slice none 0 0, .int .u64 0, .int .u64 0, .int .u64 0, .int .u64 0], .int .i64 0, .int .i64 9]) (by simp [results, Try.results25, go_sem, t0, t1, t2, t3, t4, t5]) rfl ?_
              rw [HBAD.out]
              exact ⟨rfl, hup9⟩
            | some u =>
              have hlen : u.2.1.length ≤ 40 := applyE_len (v := (lg, l, f, ce, at_, le)) (e := (ds, add, elg, ef, ece, eat, ele)) hap
              rw [hap] at ha
              obtain ⟨R6, rn6, rc6, rfl, hR6, hrc6, hu6, hfr⟩ := ha
              have hsq3 : seqF stepC bs fu' (k + nx) (u, m + 1) = seqF stepC bs (bs.length + 1) 0 (v0, 0) := by rw [← HSQ.out, if_pos hE0, HST2.out, hap]; rfl
              have HSQ3 := Lib.hid hsq3
              obtain ⟨ulg, ul, uf, uce, uat, ule⟩ := u
              (try dsimp only at hR6 hlen ⊢)
              obtain ⟨w7, hw7⟩ : ∃ w7, w7 = w6.alloc (.cells #[.int .i64 ulg, .slice R6 rn6 rc6, .int .u64 (uf : Int), .int .u64 (uce : Int), .int .u64 (uat : Int), .int .u64 (ule : Int)] 27) := ⟨_, rfl⟩
              have hub7 : Up w6 w7 := by rw [hw7]; exact (Up.refl w6).alloc _
              have hb7 : w7.heap[w6.heap.size]? = some (.cells #[.int .i64 ulg, .slice R6 rn6 rc6, .int .u64 (uf : Int), .int .u64 (uce : Int), .int .u64 (uat : Int), .int .u64 (ule : Int)] 27 (0, 0)) := by rw [hw7]; exact heap_alloc_new w6 _
              have hv7 := hv4.up (hu6.trans hub7)
              have hup7 := hup4.trans (hu6.trans hub7)
              have hbz7 := blk_upE (hu6.trans hub7) hb4
              have hR7 := hR6.up hub7
              have hgl : g3 < w5.heap.size := (Array.getElem?_eq_some_iff.1 hv4.blk).1
              have hne6 : ∀ a, R6 = some a → g3 < a.block := fun a ha => by have := hfr a ha; omega
              have q0 : w7.cell? ⟨w6.heap.size, 0, none⟩ = some (.int .i64 ulg) := blk_cell hb7 0
              have q1 : w7.cell? ⟨w6.heap.size, 1, none⟩ = some (.slice R6 rn6 rc6) := blk_cell hb7 1
              have q2 : w7.cell? ⟨w6.heap.size, 2, none⟩ = some (.int .u64 (uf : Int)) := blk_cell hb7 2
              have q3 : w7.cell? ⟨w6.heap.size, 3, none⟩ = some (.int .u64 (uce : Int)) := blk_cell hb7 3
              have q4 : w7.cell? ⟨w6.heap.size, 4, none⟩ = some (.int .u64 (uat : Int)) := blk_cell hb7 4
              have q5 : w7.cell? ⟨w6.heap.size, 5, none⟩ = some (.int .u64 (ule : Int)) := blk_cell hb7 5
              have HW7 := Lib.hid hw7
              have hif : (if E = 0 then ((k + nx : Nat) : Int) else 0) = ((k + nx : Nat) : Int) := if_pos hE0
              clear hw7 hb7 hub7 hv4 hR6 hfr hap hsq3 hD4 hA54 HSQ HST2 hb4 hup4
              go_wp2_with (first
                | (with_reducible show wpList _ _ _ (⟨none, .store 27 _ _, _, _, _, none⟩ :: _) _ _
                   rw [← HW7.out]
                   refine wpList_store_all rfl 27 _ _ rfl (g := g3) (cells := #[.int .i64 ulg, .slice R6 rn6 rc6, .int .u64 (uf : Int), .int .u64 (uce : Int), .int .u64 (uat : Int), .int .u64 (ule : Int)]) rfl (by kernel_rfl) hv7.blk view_info6 rfl (by simp [Value.oneCell']) ?_
                   intro w9 hgd hbut))
              have hv9 : VW g3 (ulg, ul, uf, uce, uat, ule) R6 rn6 rc6 w9 := ⟨hgd, Rd.keepsNe hR7 (Nat.le_refl _) (fun a ha => by have := hne6 a ha; omega) hbut, hrc6, by have := hR7.flen; omega, hne6⟩
              have hbz9 := (hbut.block g2 (Array.getElem?_eq_some_iff.1 hbz7).1 (by show ¬ g2 = g3; omega)).trans hbz7
              have hup9 := But.up hup7 hbut hgw3
              go_roundw
              case rel => exact ⟨k + nx, m + 1, (ulg, ul, uf, uce, uat, ule), R6, rn6, rc6, by go_num, by go_num, by have := HN.out; omega, by omega, hv9, hbz9, ⟨fu', by omega, HSQ3.out⟩, hup9⟩
              case measure => simp [intOf] <;> omega
        · have d6 : ((K : Int) != 6) = true := by rw [bne_iff_ne]; omega
          have hbad : seqF stepC bs (bs.length + 1) 0 (v0, 0) = none := by
            rw [← HSQ.out, if_pos hE0]
            have : stepC ((lg, l, f, ce, at_, le), m) K bd = none := by unfold stepC stepV; rw [if_neg hK6]; rfl
            rw [this]
          have HBAD : Hid (rreplP bs = none) := by show _ = _; unfold rreplP; rw [hbad]
          clear hbad HSQ HOK HTF
          go_wp2_with (first
            | (with_reducible show wpList _ _ _ (⟨none, .store 27 _ _, _, _, _, none⟩ :: _) _ _
               refine wpList_store_all rfl 27 _ _ rfl (g := g2) (cells := #[.int .i64 0, .slice none 0 0, .int .u64 0, .int .u64 0, .int .u64 0, .int .u64 0]) rfl (by kernel_rfl) hb3 view_info6 rfl (by simp [Value.oneCell']) ?_
               intro w9 hgd hbut
               have hup9 := But.up hup3 hbut hgw
               clear hbut))
          have t0 := blk_cell hgd 0
          have t1 := blk_cell hgd 1
          have t2 := blk_cell hgd 2
          have t3 := blk_cell hgd 3
          have t4 := blk_cell hgd 4
          have t5 := blk_cell hgd 5
          refine bodyPost_ret (v := .tuple #[.agg #[.int .i64 0, .slice none 0 0, .int .u64 0, .int .u64 0, .int .u64 0, .int .u64 0], .int .i64 0, .int .i64 9]) (by simp [results, Try.results25, go_sem, t0, t1, t2, t3, t4, t5]) rfl ?_
          rw [HBAD.out]
          exact ⟨rfl, hup9⟩
      · have d0 : ((E : Int) != 0) = true := by rw [bne_iff_ne]; omega
        have hbad : seqF stepC bs (bs.length + 1) 0 (v0, 0) = none := by rw [← HSQ.out, if_neg hE0, if_neg hE4]
        have HBAD : Hid (rreplP bs = none) := by show _ = _; unfold rreplP; rw [hbad]
        clear hbad HSQ HOK HTF
        go_wp2_with (first
          | (with_reducible show wpList _ _ _ (⟨none, .store 27 _ _, _, _, _, none⟩ :: _) _ _
             refine wpList_store_all rfl 27 _ _ rfl (g := g2) (cells := #[.int .i64 0, .slice none 0 0, .int .u64 0, .int .u64 0, .int .u64 0, .int .u64 0]) rfl (by kernel_rfl) hb3 view_info6 rfl (by simp [Value.oneCell']) ?_
             intro w9 hgd hbut
             have hup9 := But.up hup3 hbut hgw
             clear hbut))
        have t0 := blk_cell hgd 0
        have t1 := blk_cell hgd 1
        have t2 := blk_cell hgd 2
        have t3 := blk_cell hgd 3
        have t4 := blk_cell hgd 4
        have t5 := blk_cell hgd 5
        refine bodyPost_ret (v := .tuple #[.agg #[.int .i64 0, .slice none 0 0, .int .u64 0, .int .u64 0, .int .u64 0, .int .u64 0], .int .i64 0, .int .i64 9]) (by simp [results, Try.results25, go_sem, t0, t1, t2, t3, t4, t5]) rfl ?_
        rw [HBAD.out]
        exact ⟨rfl, hup9⟩
    · have hkNi : ¬ (k : Int) < (N : Int) := by omega
      obtain ⟨fu, hfu, hsq2⟩ := hsq.out
      have hres : seqF stepC bs (bs.length + 1) 0 (v0, 0) = some (((lg, l, f, ce, at_, le), m), k) := by
        rw [← hsq2]; exact seqF_stop stepC bs (by rw [← HN.out]; exact hkN)
      have HRES := Lib.hid hres
      clear hres hsq2 hsq
      by_cases hm0 : m = 0
      · subst hm0
        have HBAD : Hid (rreplP bs = none) := by show _ = _; unfold rreplP; rw [HRES.out]; rfl
        clear HRES
        go_wp2_with (first
          | (with_reducible show wpList _ _ _ (⟨none, .store 27 _ _, _, _, _, none⟩ :: _) _ _
             refine wpList_store_all rfl 27 _ _ rfl (g := g2) (cells := #[.int .i64 0, .slice none 0 0, .int .u64 0, .int .u64 0, .int .u64 0, .int .u64 0]) rfl (by kernel_rfl) hb2 view_info6 rfl (by simp [Value.oneCell']) ?_
             intro w9 hgd hbut
             have hup9 := But.up hup hbut hgw
             clear hbut))
        have t0 := blk_cell hgd 0
        have t1 := blk_cell hgd 1
        have t2 := blk_cell hgd 2
        have t3 := blk_cell hgd 3
        have t4 := blk_cell hgd 4
        have t5 := blk_cell hgd 5
        refine bodyPost_ret (v := .tuple #[.agg #[.int .i64 0, .slice none 0 0, .int .u64 0, .int .u64 0, .int .u64 0, .int .u64 0], .int .i64 0, .int .i64 9]) (by simp [results, Try.results25, go_sem, t0, t1, t2, t3, t4, t5]) rfl ?_
        rw [HBAD.out]
        exact ⟨rfl, hup9⟩
      · have dm : ((m : Int) == 0) = false := by rw [beq_eq_false_iff_ne]; omega
        have HR : Hid (rreplP bs = some ((lg, l, f, ce, at_, le), k)) := by show _ = _; unfold rreplP; rw [HRES.out]; simp only []; rw [if_neg hm0]
        clear HRES
        have hnc6 := (hv).nc
        have hle6 := (hv).le
        have hrd6 := (hv).rd
        have hne6 := (hv).ne
        have t0 : (wr).cell? ⟨g3, 0, none⟩ = some (.int .i64 lg) := blk_cell (hv).blk 0
        have t1 : (wr).cell? ⟨g3, 1, none⟩ = some (.slice A6 n6 c6) := blk_cell (hv).blk 1
        have t2 : (wr).cell? ⟨g3, 2, none⟩ = some (.int .u64 (f : Int)) := blk_cell (hv).blk 2
        have t3 : (wr).cell? ⟨g3, 3, none⟩ = some (.int .u64 (ce : Int)) := blk_cell (hv).blk 3
        have t4 : (wr).cell? ⟨g3, 4, none⟩ = some (.int .u64 (at_ : Int)) := blk_cell (hv).blk 4
        have t5 : (wr).cell? ⟨g3, 5, none⟩ = some (.int .u64 (le : Int)) := blk_cell (hv).blk 5
        go_wp2_with (first
          | (with_reducible show wpList _ _ _ (⟨none, .store 27 _ _, _, _, _, none⟩ :: _) _ _
             refine wpList_store_all rfl 27 _ _ rfl (g := g2) (cells := #[.int .i64 lg, .slice A6 n6 c6, .int .u64 (f : Int), .int .u64 (ce : Int), .int .u64 (at_ : Int), .int .u64 (le : Int)]) rfl (by kernel_rfl) hb2 view_info6 rfl (by simp [Value.oneCell']) ?_
             intro w9 hgd hbut))
        clear t0 t1 t2 t3 t4 t5
        have hup9 := But.up hup hbut hgw
        have t0 : (w9).cell? ⟨g2, 0, none⟩ = some (.int .i64 lg) := blk_cell hgd 0
        have t1 : (w9).cell? ⟨g2, 1, none⟩ = some (.slice A6 n6 c6) := blk_cell hgd 1
        have t2 : (w9).cell? ⟨g2, 2, none⟩ = some (.int .u64 (f : Int)) := blk_cell hgd 2
        have t3 : (w9).cell? ⟨g2, 3, none⟩ = some (.int .u64 (ce : Int)) := blk_cell hgd 3
        have t4 : (w9).cell? ⟨g2, 4, none⟩ = some (.int .u64 (at_ : Int)) := blk_cell hgd 4
        have t5 : (w9).cell? ⟨g2, 5, none⟩ = some (.int .u64 (le : Int)) := blk_cell hgd 5
        refine bodyPost_ret (v := .tuple #[.agg #[.int .i64 lg, .slice A6 n6 c6, .int .u64 (f : Int), .int .u64 (ce : Int), .int .u64 (at_ : Int), .int .u64 (le : Int)], .int .i64 (k : Int), .int .i64 0]) (by simp [results, Try.results25, go_sem, t0, t1, t2, t3, t4, t5]) rfl ?_
        rw [HR.out]
        exact ⟨A6, n6, c6, rfl, Rd.keepsNe hrd6 (Nat.le_refl _) (fun a ha => by have := hne6 a ha; omega) hbut, hnc6, hle6, hup9⟩
end Go.Proofs.Ytokcaoaclheiiaa

/-
  Plain laws of frames; the walk of the laws' own test.
-/
namespace Go.Proofs.Ytokcaoaclheiiaa
open Go.RowKit
set_option linter.unusedVariables false
set_option linter.unusedSimpArgs false

theorem openE_seal (l : List UInt8) : openE (sealB l) = 0 := by
  have h : (sealB l).length - 4 = l.length := by rw [sealB_len]; omega
  have h2 : (sealB l).take l.length = l := by unfold sealB; rw [List.take_left]
  unfold openE
  rw [if_neg (by rw [sealB_len]; omega), h, h2, if_pos rfl]
theorem openL_seal (l : List UInt8) : openL (sealB l) = l := by
  unfold openL
  rw [if_pos (openE_seal l), sealB_len, Nat.add_sub_cancel]
  unfold sealB; rw [List.take_left]
theorem byteOf_nat (k : Nat) (h : k < 256) : (byteOf (k : Int)).toNat = k := by
  unfold byteOf
  rw [show ((k : Int) % 256).toNat = k by omega]
  simp; omega
/-- a frame that stands at the beginning is taken -/
theorem takeR_frame (k : Nat) (l rest : List UInt8) (hk1 : 1 ≤ k) (hk2 : k ≤ 100) (hl : l.length ≤ 60000) : takeR (frameB (k : Int) l ++ rest) = (0, k, l, l.length + 12) := by
  have e : frameB (k : Int) l ++ rest = sealB (headB (k : Int) l.length) ++ (sealB l ++ rest) := by simp [frameB]
  have hh : (sealB (headB (k : Int) l.length)).length = 8 := by rw [sealB_len]; rfl
  have hlen : (frameB (k : Int) l ++ rest).length = 12 + l.length + rest.length := by rw [List.length_append, frameB_len]; omega
  have h8 : (frameB (k : Int) l ++ rest).take 8 = sealB (headB (k : Int) l.length) := by rw [e, ← hh, List.take_left]
  have hd : (frameB (k : Int) l ++ rest).drop 8 = sealB l ++ rest := by rw [e, ← hh, List.drop_left]
  have g : ∀ j, j < 4 → (frameB (k : Int) l ++ rest).getD j 0 = (headB (k : Int) l.length).getD j 0 := by
    intro j hj
    rw [e]
    unfold sealB
    simp only [List.getD_eq_getElem?_getD]
    rw [List.append_assoc, List.getElem?_append_left (by simpa [headB] using hj)]
  have hN : headN (frameB (k : Int) l ++ rest) = l.length := by
    unfold headN
    rw [g 1 (by omega), g 2 (by omega), g 3 (by omega)]
    have e1 : (l.length / 65536) % 256 * 65536 + (l.length / 256) % 256 * 256 + l.length % 256 = l.length := by omega
    simpa [headB, List.getD] using e1
  have h0 : ((frameB (k : Int) l ++ rest).getD 0 0).toNat = k := by rw [g 0 (by omega)]; exact byteOf_nat k (by omega)
  unfold takeR
  have ht : (sealB l ++ rest).take (l.length + 4) = sealB l := by rw [← sealB_len l, List.take_left]
  have ht2 : (sealB l ++ rest).take l.length = l := by unfold sealB; rw [List.append_assoc, List.take_left]
  rw [if_neg (by rw [hlen]; omega), h8, openE_seal, if_neg (by simp), h0, hN, if_neg (by omega), if_neg (by rw [hlen]; omega), hd, ht, openE_seal, if_neg (by simp), ht2]
theorem takeF_frame (b : List UInt8) (k : Nat) (l rest : List UInt8) (hk1 : 1 ≤ k) (hk2 : k ≤ 100) (hl : l.length ≤ 60000) : takeF (b ++ (frameB (k : Int) l ++ rest)) (b.length : Int) = (0, k, l, ((b.length + (l.length + 12) : Nat) : Int)) := by
  unfold takeF
  rw [if_neg (by simp; omega)]
  have e : (b ++ (frameB (k : Int) l ++ rest)).drop ((b.length : Int)).toNat = frameB (k : Int) l ++ rest := by simp
  rw [e, takeR_frame k l rest hk1 hk2 hl]
  simp

end Go.Proofs.Ytokcaoaclheiiaa

/-
  Views in regions that draw, with a room of their own: what a call of either Apply hands back.
-/
namespace Go.Proofs.Ytokcaoaclheiiaa
open Go.RowKit
set_option linter.unusedVariables false
set_option linter.unusedSimpArgs false

def TW (x : VT) (R : Option Addr) (n c : Nat) : Value := .agg (vcs x R n c)
def TU (x : VT) (R : Option Addr) (n c : Nat) : Value := .tuple #[TW x R n c, .bool true]
theorem TU_inj {x : VT} {R R' : Option Addr} {n c c' : Nat} (h : TU x R n c = TU x R' n c') : R = R' ∧ c = c' := by
  simp [TU, TW, vcs] at h
  exact h
def OwnU (x : VT) (n : Nat) (v : Value) (g : Nat) : Prop := ∃ o s c, v = TU x (some ⟨g, o, s⟩) n c
def GU (x : VT) (n B : Nat) (v : Value) (W : World) : Prop := ∃ R c, v = TU x R n c ∧ Rd W W.heap.size 2 R n (fvs x.2.1) ∧ n ≤ c ∧ ∀ a, R = some a → B ≤ a.block
theorem GU.sta {x : VT} {n B : Nat} {v : Value} {w w' : World} {Y : Nat → Prop} (h : GU x n B v w) (hs : Rg.Sta (fun g => Y g ∨ OwnU x n v g) w w') : GU x n B v w' := by
  obtain ⟨R, c, rfl, hrd, hc, hb⟩ := h
  refine ⟨R, c, rfl, ⟨hrd.1, fun hn => ?_⟩, hc, hb⟩
  obtain ⟨b, o, rfl, hlt, hcc⟩ := hrd.2 hn
  exact ⟨b, o, rfl, Nat.lt_of_lt_of_le hlt hs.size, fun j u hu => sta_some hs (hcc j u hu) (.inr ⟨o, none, c, rfl⟩)⟩
theorem ap_rap {r : Option VT} {w : World} {e : Ending} {w' : World} (h : ApPost r w e w') : RApPost r w e w' := by
  cases r with
  | none => exact h
  | some x =>
    obtain ⟨R, rn, he, hrd, hu, hf⟩ := h
    exact ⟨R, rn, rn, he, hrd, Nat.le_refl _, hu, hf⟩
/-- a log of edits that was built so: its fold goes to its end -/
def LogI (S : List UInt8) (v : VT) (m : Nat) : Prop := (∀ (T : List UInt8) (f : Nat), seqF stepV (S ++ T) (f + m) 0 v0 = seqF stepV (S ++ T) f S.length v) ∧ 12 * m ≤ S.length
theorem splitG_none (l : List UInt8) (f k : Nat) (h : (splitG l f k [] []).2.1.length = 0) : (splitG l f k [] []).2.2.1 = k := by
  cases f with
  | zero => rfl
  | succ f =>
    unfold splitG at h ⊢
    by_cases h1 : k < l.length
    · rw [if_pos h1] at h ⊢
      by_cases h2 : (takeR (l.drop k)).1 = 0
      · rw [if_pos h2, splitG_acc l f] at h
        simp at h
      · rw [if_neg h2]
    · rw [if_neg h1]
theorem editB_le {ds : List Int} {add : List Fl} {lg : Int} {f ce at_ le : Nat} (hm : mayE ds add lg f ce at_ le = true) : (editB ds add lg f ce at_ le).length ≤ 1700 := by
  have hm2 := hm
  simp only [mayE, Bool.and_eq_true, decide_eq_true_eq] at hm2
  obtain ⟨m1, m2, m3, m4, m5, m6, m7⟩ := hm2
  have q1 := listB_ten (dq ds) (by rw [dq_len]; omega)
  rw [dq_len] at q1
  have q2 := filesB_len add (List.all_eq_true.1 m7)
  have q3 := numB_ten (n := add.length) (by omega)
  simp only [List.all_cons, List.all_nil, Bool.and_true, Bool.and_eq_true, verOk, decide_eq_true_eq] at m5
  have q4 := numsL_len [lg.toNat, f, ce, at_, le] (by
    intro x hx
    simp only [List.mem_cons, List.not_mem_nil, or_false] at hx
    rcases hx with rfl | rfl | rfl | rfl | rfl <;> omega)
  unfold editB
  simp only [List.length_append, List.length_cons, List.length_nil] at *
  omega
theorem LogI.snoc {S : List UInt8} {v u : VT} {m : Nat} {ds : List Int} {add : List Fl} {lg : Int} {f ce at_ le : Nat} (h : LogI S v m) (hm : mayE ds add lg f ce at_ le = true) (ha : applyE v (ds, add, lg, f, ce, at_, le) = some u) :
    LogI (S ++ frameB 6 (editB ds add lg f ce at_ le)) u (m + 1) := by
  have hle := editB_le hm
  have hre := readE_editB hm
  have hfl := frameB_len 6 (editB ds add lg f ce at_ le)
  refine ⟨fun T fu => ?_, by have := h.2; rw [List.length_append]; omega⟩
  have h1 := h.1 (frameB 6 (editB ds add lg f ce at_ le) ++ T) (fu + 1)
  rw [List.append_assoc, show fu + (m + 1) = fu + 1 + m by omega, h1]
  have hd : (S ++ (frameB 6 (editB ds add lg f ce at_ le) ++ T)).drop S.length = frameB ((6 : Nat) : Int) (editB ds add lg f ce at_ le) ++ T := by rw [List.drop_left]; rfl
  have ht := takeR_frame 6 (editB ds add lg f ce at_ le) T (by omega) (by omega) (by omega)
  rw [seqF_step stepV _ (by rw [List.length_append, List.length_append]; omega), hd, ht]
  have hst : stepV v 6 (editB ds add lg f ce at_ le) = some u := by
    unfold stepV
    rw [if_pos rfl, hre]
    exact ha
  simp only [if_true, hst]
  rw [List.length_append, hfl]
theorem LogI.end_ {S : List UInt8} {v : VT} {m : Nat} (h : LogI S v m) : replP S = if S.length = 0 then none else some (v, S.length) := by
  have h1 := h.1 [] (S.length + 1)
  rw [List.append_nil] at h1
  have h2 := seqF_stop stepV S (f := S.length + 1) (s := v) (k := S.length) (by omega)
  have h3 := seqF_more stepV S (S.length + 1 + m) (S.length + 1) 0 v0 (by omega) (by omega)
  have h4 := seq_split stepV S (S.length + 1) 0 v0
  rw [← h3, h1, h2] at h4
  have h5 := splitG_none S (S.length + 1) 0
  have hs : splitG S (S.length + 1) 0 [] [] = splitL S := rfl
  rw [hs] at h4 h5
  unfold replP viewsP
  by_cases hc : (splitL S).2.2.2 = 0 ∨ (splitL S).2.2.2 = 4
  · rw [if_pos hc] at h4
    cases hf : foldF stepV v0 (splitL S).1 (splitL S).2.1 with
    | none => rw [hf] at h4; cases h4
    | some u =>
      rw [hf] at h4
      simp only [Option.map_some, Option.some.injEq, Prod.mk.injEq] at h4
      obtain ⟨rfl, h6⟩ := h4
      by_cases hb : (splitL S).2.1.length = 0
      · have h7 := h5 hb
        rw [if_pos (.inr hb), if_pos (by omega)]; rfl
      · rw [if_neg (by omega)]
        by_cases hz : S.length = 0
        · exfalso
          have hn : S = [] := List.eq_nil_of_length_eq_zero hz
          subst hn
          exact hb rfl
        · rw [if_neg hz, ← h6]; rfl
  · rw [if_neg hc] at h4; cases h4
theorem LogI.nil : LogI [] v0 0 := ⟨fun T f => rfl, Nat.zero_le _⟩
end Go.Proofs.Ytokcaoaclheiiaa

/-
  Opening arguments: slices of slices of bytes.
-/
namespace Go.Proofs.Ytokcaoaclheiiaa
open Go.ChangeShapes Go.WideShapes Go.ChangeAt Go.RowKit Go.Deep
set_option linter.unusedVariables false

/-- a slice of slices of bytes that came in -/
def IsR (w : World) (A : Option Addr) (n c : Nat) (ps : List Pt) : Prop := Rd w w.heap.size 1 A n (ps.map Pt.v) ∧ (∀ p ∈ ps, IsB w p.A p.n p.c p.l) ∧ n ≤ c ∧ c ≤ 9223372036854775807
section
variable {H : Type} {enc : TypeId × Value → H} {W : World} {sp : Nat → Bool} {a : Option Addr} {len cap : Nat} {d : DataW H} {p : List MemPlace}
theorem body_cells {fuel : Nat} {cs : List Value} {y : DataW H × List MemPlace} (hf : DataW.trod enc Try.prog W 0 (fun _ => true) true fuel 43 cs = some y) : ∃ p : Pt, cs = [p.v] ∧ IsB W p.A p.n p.c p.l := by
  rcases open_ints Try.underlying43 Try.underlying5 (by kernel_rfl) hf with ⟨hcs, _⟩ | ⟨x, l, c, zs, hcs, _, hl, hm, hz, _, hcell, hwz⟩
  · exact ⟨⟨none, 0, 0, []⟩, hcs, Rd.empty, by simp, by simp⟩
  · refine ⟨⟨some x, l, c, _⟩, hcs, rd_ints bv (fun n => UInt8.ofNat n.toNat) (fun n hn => ?_) hl (by simpa using hz) hcell hwz, hl, by simpa only [maxLen] using hm⟩
    have := bd_u8 hn
    rw [bv_ofNat]; congr 1; omega
instance : Inhabited { p : Pt // IsB W p.A p.n p.c p.l } := ⟨⟨⟨none, 0, 0, []⟩, Rd.empty, by simp, by simp⟩⟩
theorem is_r (h : DataW.Trod enc Try.prog W 0 (fun _ => true) true 104 (.slice a len cap) d p) : ∃ ps, IsR W a len cap ps := by
  obtain ⟨fuel, hf⟩ := h
  rcases open_slice Try.underlying104 hf with ⟨hcs, _⟩ | ⟨x, l, c, m, n, D, Pl, hcs, _, hl, hm, hmm, _, hx⟩
  · simp [Value.cells] at hcs
    obtain ⟨rfl, rfl, rfl⟩ := hcs
    exact ⟨[], Rd.empty, fun p hp => (by cases hp), by omega, by omega⟩
  · simp [Value.cells] at hcs
    obtain ⟨rfl, rfl, rfl⟩ := hcs
    have hC : Try.prog.cellsOf 43 = 1 := by kernel_rfl
    rw [hC] at hx
    obtain ⟨L, hL, hr⟩ := rd_elems (α := { p : Pt // IsB W p.A p.n p.c p.l }) (W := W) (len := len) (a := x) (base := 0) (fun p => [p.1.v]) (sz := 1) (fun _ => rfl) (by omega) (fun i hi => by
      obtain ⟨cs', h1, h2⟩ := hx i (by simp at hmm; omega)
      obtain ⟨p, e, hp⟩ := body_cells h2
      exact ⟨cs', h1, ⟨p, hp⟩, e⟩)
    refine ⟨L.map (·.1), ?_, fun p hp => ?_, hl, by simpa only [maxLen] using hm⟩
    · have e : (L.map (·.1)).map Pt.v = L.flatMap fun p => [p.1.v] := by
        clear hr hL
        induction L with
        | nil => rfl
        | cons q r ih => simp only [List.map_cons, List.flatMap_cons, List.singleton_append, ih]
      rw [e]; exact hr
    · obtain ⟨q, _, rfl⟩ := List.mem_map.1 hp
      exact q.2
end
end Go.Proofs.Ytokcaoaclheiiaa

/-
  The walk of the laws' made.
-/
namespace Go.Proofs.Ytokcaoaclheiiaa
open Go.RowKit
set_option linter.unusedVariables false
set_option linter.unusedSimpArgs false

/-- the kind of the record with this number -/
def kindOf (k : Nat) : Nat := k * 9 % 100 + 1
theorem kindOf_bd (k : Nat) : 1 ≤ kindOf k ∧ kindOf k ≤ 100 := by unfold kindOf; omega
/-- records, one behind the other, their kinds from number i on -/
def frsB : Nat → List (List UInt8) → List UInt8
  | _, [] => []
  | i, l :: r => frameB (kindOf i : Int) l ++ frsB (i + 1) r
theorem frsB_append : ∀ (i : Nat) (a b : List (List UInt8)), frsB i (a ++ b) = frsB i a ++ frsB (i + a.length) b
  | i, [], b => by simp [frsB]
  | i, l :: r, b => by rw [List.cons_append, frsB, frsB, frsB_append (i + 1) r b, List.append_assoc, List.length_cons]; congr 3; omega
theorem frsB_snoc (L : List (List UInt8)) {k : Nat} (hk : k < L.length) : frsB 0 (L.take (k + 1)) = frsB 0 (L.take k) ++ frameB (kindOf k : Int) (L[k]) := by
  rw [List.take_succ_eq_append_getElem hk, frsB_append, List.length_take, Nat.min_eq_left (by omega), Nat.zero_add]
  simp [frsB]
def endAt (L : List (List UInt8)) (k : Nat) : Nat := (frsB 0 (L.take k)).length
def endsL (L : List (List UInt8)) (k : Nat) : List Nat := (List.range (k + 1)).map (endAt L)
theorem endsL_snoc (L : List (List UInt8)) (k : Nat) : endsL L (k + 1) = endsL L k ++ [endAt L (k + 1)] := by
  unfold endsL; rw [List.range_succ, List.map_append]; rfl
theorem endAt_snoc (L : List (List UInt8)) {k : Nat} (hk : k < L.length) : endAt L (k + 1) = endAt L k + (L[k].length + 12) := by
  unfold endAt; rw [frsB_snoc L hk, List.length_append, frameB_len]

def ptls (ps : List Pt) : List (List UInt8) := ps.map (·.l)
/-- a slice of slices that came in: number k -/
theorem IsR.at_ {w : World} {A : Option Addr} {n c : Nat} {ps : List Pt} (h : IsR w A n c ps) {k : Nat} (hk : k < n) :
    ∃ b o p, A = some ⟨b, o, none⟩ ∧ ps[k]? = some p ∧ (ptls ps)[k]? = some p.l ∧ p.n ≤ p.c ∧ p.n = p.l.length ∧ p.c ≤ 9223372036854775807 ∧ ∀ W, Up w W → W.cell? ⟨b, o + k, none⟩ = some (.slice p.A p.n p.c) ∧ Rd W W.heap.size 1 p.A p.n (bvs p.l) := by
  obtain ⟨hr, hp, hc1, hc2⟩ := h
  have hn : n = ps.length := by have := hr.1; rw [List.length_map] at this; omega
  obtain ⟨b, o, e, hb, hc⟩ := hr.2 (by omega)
  have hkl : k < ps.length := by omega
  have hpm := hp ps[k] (List.getElem_mem _)
  refine ⟨b, o, ps[k], e, List.getElem?_eq_getElem hkl, by simp [ptls, hkl], hpm.2.1, hpm.1.blen, hpm.2.2, fun W hW => ⟨?_, hpm.1.up hW⟩⟩
  have h1 := hc k (ps[k]).v (by simp [hkl])
  exact (hW.cell (p := ⟨b, o + k, none⟩) hb).trans h1
theorem IsR.len {w : World} {A : Option Addr} {n c : Nat} {ps : List Pt} (h : IsR w A n c ps) : n = (ptls ps).length := by have := h.1.1; simp [ptls] at *; omega

end Go.Proofs.Ytokcaoaclheiiaa

/-
  Plain laws of rows of frames.
-/
namespace Go.Proofs.Ytokcaoaclheiiaa
open Go.RowKit
set_option linter.unusedVariables false
set_option linter.unusedSimpArgs false

def kindsL (i : Nat) (n : Nat) : List Nat := (List.range n).map fun j => kindOf (i + j)
theorem kindsL_len (i n : Nat) : (kindsL i n).length = n := by simp [kindsL]
theorem kindsL_succ (i n : Nat) : kindsL i (n + 1) = kindOf i :: kindsL (i + 1) n := by
  unfold kindsL
  rw [List.range_succ_eq_map, List.map_cons, List.map_map]
  congr 1
  apply List.map_congr_left
  intro j _
  show kindOf (i + (j + 1)) = kindOf (i + 1 + j)
  congr 1; omega
theorem frsB_pos {i : Nat} {l : List UInt8} {r : List (List UInt8)} : 0 < (frsB i (l :: r)).length := by rw [frsB, List.length_append, frameB_len]; omega
/-- Split goes over whole frames -/
theorem splitG_frs (l : List UInt8) : ∀ (L : List (List UInt8)) (i f : Nat) (pre rest : List UInt8) (ks : List Nat) (bs : List (List UInt8)), l = pre ++ (frsB i L ++ rest) → (∀ x ∈ L, x.length ≤ 60000) →
    splitG l (f + L.length) pre.length ks bs = splitG l f (pre.length + (frsB i L).length) (ks ++ kindsL i L.length) (bs ++ L)
  | [], i, f, pre, rest, ks, bs, _, _ => by simp [frsB, kindsL]
  | x :: L, i, f, pre, rest, ks, bs, h, hx => by
    have hkb := kindOf_bd i
    have hx1 := hx x List.mem_cons_self
    have hd : l.drop pre.length = frameB (kindOf i : Int) x ++ (frsB (i + 1) L ++ rest) := by
      rw [h, List.drop_left, frsB, List.append_assoc]
    have ht := takeR_frame (kindOf i) x (frsB (i + 1) L ++ rest) hkb.1 hkb.2 hx1
    have hlt : pre.length < l.length := by
      rw [h, frsB]; simp only [List.length_append, frameB_len]; omega
    rw [List.length_cons, show f + (L.length + 1) = (f + L.length) + 1 by omega]
    conv => lhs; unfold splitG
    rw [if_pos hlt, hd, ht, if_pos rfl]
    have h' : l = (pre ++ frameB (kindOf i : Int) x) ++ (frsB (i + 1) L ++ rest) := by rw [h, frsB]; simp
    have ih := splitG_frs l L (i + 1) f (pre ++ frameB (kindOf i : Int) x) rest (ks ++ [kindOf i]) (bs ++ [x]) h' (fun y hy => hx y (List.mem_cons_of_mem _ hy))
    have hpl : (pre ++ frameB (kindOf i : Int) x).length = pre.length + (x.length + 12) := by rw [List.length_append, frameB_len]
    rw [hpl] at ih
    simp only []
    rw [ih]
    congr 1
    · rw [frsB, List.length_append, frameB_len]; omega
    · rw [kindsL_succ, List.append_assoc]; rfl
    · rw [List.append_assoc]; rfl
/-- a frame that is cut is torn -/
theorem takeR_cut {k : Nat} {l : List UInt8} {j : Nat} (hk1 : 1 ≤ k) (hk2 : k ≤ 100) (hl : l.length ≤ 60000) (hj : j < (frameB (k : Int) l).length) : (takeR ((frameB (k : Int) l).take j)).1 = 4 := by
  have hfl := frameB_len (k : Int) l
  by_cases h8 : j < 8
  · unfold takeR
    rw [if_pos (by rw [List.length_take]; omega)]
  · have e : frameB (k : Int) l = sealB (headB (k : Int) l.length) ++ sealB l := rfl
    have hh : (sealB (headB (k : Int) l.length)).length = 8 := by rw [sealB_len]; rfl
    have hlen : ((frameB (k : Int) l).take j).length = j := by rw [List.length_take]; omega
    have ht8 : ((frameB (k : Int) l).take j).take 8 = sealB (headB (k : Int) l.length) := by
      rw [List.take_take, Nat.min_eq_left (by omega), e, ← hh, List.take_left]
    have g : ∀ q, q < 4 → ((frameB (k : Int) l).take j).getD q 0 = (headB (k : Int) l.length).getD q 0 := by
      intro q hq
      rw [take_getD _ (by omega), e]
      unfold sealB
      simp only [List.getD_eq_getElem?_getD]
      rw [List.append_assoc, List.getElem?_append_left (by simpa [headB] using hq)]
    have hN : headN ((frameB (k : Int) l).take j) = l.length := by
      unfold headN
      rw [g 1 (by omega), g 2 (by omega), g 3 (by omega)]
      have e1 : (l.length / 65536) % 256 * 65536 + (l.length / 256) % 256 * 256 + l.length % 256 = l.length := by omega
      simpa [headB, List.getD] using e1
    have h0 : (((frameB (k : Int) l).take j).getD 0 0).toNat = k := by rw [g 0 (by omega)]; exact byteOf_nat k (by omega)
    unfold takeR
    rw [if_neg (by rw [hlen]; omega), ht8, openE_seal, if_neg (by simp), h0, hN, if_neg (by omega), if_pos (by rw [hlen]; omega)]
/-- rows of frames that are cut: what Split tells -/
theorem split_cut (L : List (List UInt8)) (n k : Nat) (hL : ∀ x ∈ L, x.length ≤ 60000) (hn : n ≤ L.length) (h1 : endAt L n ≤ k) (h2 : n < L.length → k < endAt L (n + 1)) (hk : k ≤ endAt L L.length) :
    splitL ((frsB 0 L).take k) = (kindsL 0 n, L.take n, endAt L n, if k = endAt L n then 0 else 4) := by
  have hfull : endAt L L.length = (frsB 0 L).length := by unfold endAt; rw [List.take_length]
  have hsplit : frsB 0 L = frsB 0 (L.take n) ++ frsB n (L.drop n) := by
    conv => lhs; rw [← List.take_append_drop n L]
    rw [frsB_append, List.length_take, Nat.min_eq_left hn, Nat.zero_add]
  have hl : (frsB 0 L).take k = [] ++ (frsB 0 (L.take n) ++ (frsB n (L.drop n)).take (k - endAt L n)) := by
    rw [hsplit, List.take_append, List.nil_append]
    congr 1
    exact List.take_of_length_le h1
  have hlen : ((frsB 0 L).take k).length = k := by rw [List.length_take, ← hfull]; omega
  have hkn : n ≤ k := by
    have : ∀ n, n ≤ L.length → n ≤ endAt L n := by
      intro n
      induction n with
      | zero => intro _; omega
      | succ m ih => intro hm; have := ih (by omega); rw [endAt_snoc L (show m < L.length by omega)]; omega
    have := this n hn; omega
  have hgo := splitG_frs ((frsB 0 L).take k) (L.take n) 0 (k + 1 - n) [] _ [] [] hl (fun x hx => hL x (List.mem_of_mem_take hx))
  rw [List.length_take, Nat.min_eq_left hn, List.length_nil, Nat.zero_add, List.nil_append, List.nil_append, show k + 1 - n + n = k + 1 by omega] at hgo
  unfold splitL
  rw [hlen, hgo]
  have hend : (frsB 0 (L.take n)).length = endAt L n := rfl
  rw [hend]
  obtain ⟨f, hf⟩ : ∃ f, k + 1 - n = f + 1 := ⟨k - n, by omega⟩
  rw [hf]
  unfold splitG
  by_cases hke : k = endAt L n
  · rw [if_neg (by rw [hlen]; omega), if_pos hke]
  · rw [if_pos (by rw [hlen]; omega)]
    have hnl : n < L.length := by
      rcases Nat.lt_or_ge n L.length with h | h
      · exact h
      · have : n = L.length := by omega
        subst this; omega
    have hd : ((frsB 0 L).take k).drop (endAt L n) = (frameB (kindOf n : Int) L[n]).take (k - endAt L n) := by
      rw [hl, List.nil_append, ← hend, List.drop_left, hend, List.drop_eq_getElem_cons hnl, frsB]
      rw [List.take_append_of_le_length]
      have := h2 hnl
      rw [endAt_snoc L hnl] at this
      rw [frameB_len]; omega
    have hj : k - endAt L n < (frameB (kindOf n : Int) L[n]).length := by
      have := h2 hnl
      rw [endAt_snoc L hnl] at this
      rw [frameB_len]; omega
    have htk := takeR_cut (kindOf_bd n).1 (kindOf_bd n).2 (hL _ (List.getElem_mem hnl)) hj
    rw [hd, htk, if_neg (by decide), if_neg hke]
end Go.Proofs.Ytokcaoaclheiiaa

/-
  EditCuts: the plain law. A log that was built edit by edit, cut anywhere.
-/
namespace Go.Proofs.Ytokcaoaclheiiaa
open Go.RowKit
set_option linter.unusedVariables false
set_option linter.unusedSimpArgs false

/-- what is so of the view behind k rounds -/
structure EcV (k : Nat) (v : VT) : Prop where
  files : ∀ f ∈ v.2.1, 0 ≤ f.1 ∧ f.1 ≤ 3 ∧ 10 ≤ f.2 ∧ f.2 < (k : Int) + 10
  pw : v.2.1.Pairwise (fun f g => f.2 < g.2)
  le : v.2.1.length ≤ k
  ge : k ≤ v.2.1.length ∨ 3 ≤ v.2.1.length
  fl : v.2.2.1 ≤ 255
  z1 : v.2.2.2.1 = 0
  z2 : v.2.2.2.2.1 = 0
  z3 : v.2.2.2.2.2 = 0
theorem EcV.zero : EcV 0 v0 := ⟨fun f hf => (by cases hf), List.Pairwise.nil, Nat.le_refl _, .inl (Nat.le_refl _), by decide, rfl, rfl, rfl⟩
def ecD (b : Bool) (v : VT) : List Int := if b then [(v.2.1.getD 0 (0, 0)).2] else []
theorem okTo_all (l : List Fl) : ∀ k, k ≤ l.length → (∀ f ∈ l, fileOk f = true) → l.Pairwise (fun f g => f.2 < g.2) → okTo l k = true
  | 0, _, _, _ => rfl
  | k + 1, hk, hf, hp => by
    rw [okTo_succ, okTo_all l k (by omega) hf hp, Bool.true_and]
    have hg : l.getD k (0, 0) = l[k] := by rw [List.getD_eq_getElem?_getD, List.getElem?_eq_getElem (by omega)]; rfl
    rw [hg, hf _ (List.getElem_mem _), Bool.true_and, Bool.not_eq_true', List.any_eq_false]
    intro g hgm
    obtain ⟨j, hj, rfl⟩ := List.getElem_of_mem hgm
    rw [List.length_take] at hj
    have := List.pairwise_iff_getElem.1 hp j k (by omega) (by omega) (by omega)
    rw [List.getElem_take, decide_eq_true_iff]
    omega
theorem EcV.step {k : Nat} {v : VT} (h : EcV k v) (hk : k < 12) (b : Bool) (hb : b = true → 3 ≤ v.2.1.length) (lv fl : Nat) (hlv : lv ≤ 3) (hfl : fl ≤ 255) :
    ∃ u, applyR v.1 v.2.1 v.2.2.1 v.2.2.2.1 v.2.2.2.2.1 v.2.2.2.2.2 (ecD b v) [((lv : Int), (k : Int) + 10)] ((k : Int) + 1) fl 0 0 0 = some u ∧ EcV (k + 1) u ∧ mayE (ecD b v) [((lv : Int), (k : Int) + 10)] ((k : Int) + 1) fl 0 0 0 = true := by
  obtain ⟨lg, l, f, ce, at_, le⟩ := v
  have hfiles := h.files
  have hpw := h.pw
  have hle := h.le
  have hge := h.ge
  have hf := h.fl
  have z1 := h.z1
  have z2 := h.z2
  have z3 := h.z3
  simp only [] at *
  subst z1 z2 z3
  clear h
  have hdr : ∃ l2, dropsF l (ecD b (lg, l, f, 0, 0, 0)) = some l2 ∧ (∀ g ∈ l2, g ∈ l) ∧ l2.Pairwise (fun f g => f.2 < g.2) ∧ l2.length ≤ l.length ∧ (k + 1 ≤ l2.length + 1 ∨ 3 ≤ l2.length + 1) := by
    cases b with
    | false => exact ⟨l, rfl, fun g hg => hg, hpw, Nat.le_refl _, by omega⟩
    | true =>
      have h3 := hb rfl
      cases l with
      | nil => simp at h3
      | cons a r =>
        refine ⟨r, ?_, fun g hg => List.mem_cons_of_mem _ hg, (List.pairwise_cons.1 hpw).2, by simp, by simp at h3; omega⟩
        simp [ecD, dropsF, dropF, List.findIdx_cons]
  obtain ⟨l2, hd, hm, hp2, hl2, hg2⟩ := hdr
  have hall : ∀ g ∈ l2 ++ [((lv : Int), (k : Int) + 10)], 0 ≤ g.1 ∧ g.1 ≤ 3 ∧ 10 ≤ g.2 ∧ g.2 < (k : Int) + 1 + 10 := by
    intro g hg
    rcases List.mem_append.1 hg with hg | hg
    · have := hfiles g (hm g hg); omega
    · rw [List.mem_singleton] at hg; subst hg; simp only []; omega
  have hpa : (l2 ++ [((lv : Int), (k : Int) + 10)]).Pairwise (fun f g => f.2 < g.2) := by
    rw [List.pairwise_append]
    refine ⟨hp2, by simp, fun a ha c hc => ?_⟩
    rw [List.mem_singleton] at hc
    subst hc
    have := hfiles a (hm a ha)
    simp only []
    omega
  have hfo : ∀ g ∈ l2 ++ [((lv : Int), (k : Int) + 10)], fileOk g = true := by
    intro g hg
    have := hall g hg
    unfold fileOk numOk
    rw [Bool.and_eq_true, decide_eq_true_iff, decide_eq_true_iff]
    omega
  have hup : updI lg ((k : Int) + 1) = (k : Int) + 1 := by unfold updI; rw [if_neg (by omega)]
  have hfu : updN f fl ≤ 255 := by unfold updN; split <;> omega
  have hvk : viewOk (updI lg ((k : Int) + 1)) (l2 ++ [((lv : Int), (k : Int) + 10)]) (updN f fl) (updN 0 0) (updN 0 0) (updN 0 0) = true := by
    unfold viewOk
    rw [okTo_all _ _ (Nat.le_refl _) hfo hpa, hup]
    simp only [List.all_cons, List.all_nil, Bool.and_true, Bool.and_eq_true, decide_eq_true_eq, numOk, verOk, updN, List.length_append, List.length_cons, List.length_nil]
    unfold updN at hfu
    refine ⟨⟨by omega, by omega⟩, by omega, by simp, by simp, by simp⟩
  refine ⟨(updI lg ((k : Int) + 1), l2 ++ [((lv : Int), (k : Int) + 10)], updN f fl, updN 0 0, updN 0 0, updN 0 0), ?_, ?_, ?_⟩
  · unfold applyR
    rw [hd]
    show (if _ then _ else _) = _
    rw [if_pos hvk]
  · refine ⟨fun g hg => ?_, hpa, ?_, ?_, hfu, rfl, rfl, rfl⟩
    · have := hall g hg; rw [Int.natCast_succ]; exact this
    · show (l2 ++ _).length ≤ _; rw [List.length_append]; simp only [List.length_cons, List.length_nil]; omega
    · show _ ≤ (l2 ++ _).length ∨ _ ≤ (l2 ++ _).length; rw [List.length_append]; simp only [List.length_cons, List.length_nil]; omega
  · have hds : (ecD b (lg, l, f, 0, 0, 0)).length ≤ 1 ∧ ∀ x ∈ ecD b (lg, l, f, 0, 0, 0), numOk x = true := by
      cases b with
      | false => exact ⟨Nat.zero_le _, fun x hx => by cases hx⟩
      | true =>
        refine ⟨Nat.le_refl _, fun x hx => ?_⟩
        simp only [ecD, if_true, List.mem_singleton] at hx
        subst hx
        have h3 := hb rfl
        cases l with
        | nil => simp at h3
        | cons a r =>
          have := hfiles a (List.mem_cons_self ..)
          simp only [List.getD_cons_zero]
          unfold numOk
          rw [decide_eq_true_iff]
          omega
    have h1 := List.all_eq_true.2 hds.2
    have h2 : fileOk ((lv : Int), (k : Int) + 10) = true := hfo _ (by simp)
    simp only [mayE, List.all_cons, List.all_nil, h1, h2, Bool.and_true, Bool.and_eq_true, decide_eq_true_eq, verOk, List.length_cons, List.length_nil]
    refine ⟨by omega, by omega, by omega, by omega, by omega, by omega, by omega, by omega⟩

theorem LogI.torn {S R : List UInt8} {v : VT} {m : Nat} (h : LogI S v m) (hR : 0 < R.length) (ht : (takeR R).1 = 4) : replP (S ++ R) = if S.length = 0 then none else some (v, S.length) := by
  have h1 := h.1 R ((S ++ R).length + 1)
  have hlt : S.length < (S ++ R).length := by rw [List.length_append]; omega
  rw [seqF_step stepV (S ++ R) hlt, List.drop_left, ht, if_neg (by decide), if_pos rfl] at h1
  have h3 := seqF_more stepV (S ++ R) ((S ++ R).length + 1 + m) ((S ++ R).length + 1) 0 v0 (by omega) (by omega)
  have h4 := seq_split stepV (S ++ R) ((S ++ R).length + 1) 0 v0
  rw [← h3, h1] at h4
  have h5 := splitG_none (S ++ R) ((S ++ R).length + 1) 0
  have hs : splitG (S ++ R) ((S ++ R).length + 1) 0 [] [] = splitL (S ++ R) := rfl
  rw [hs] at h4 h5
  unfold replP viewsP
  by_cases hc : (splitL (S ++ R)).2.2.2 = 0 ∨ (splitL (S ++ R)).2.2.2 = 4
  · rw [if_pos hc] at h4
    cases hf : foldF stepV v0 (splitL (S ++ R)).1 (splitL (S ++ R)).2.1 with
    | none => rw [hf] at h4; cases h4
    | some u =>
      rw [hf] at h4
      simp only [Option.map_some, Option.some.injEq, Prod.mk.injEq] at h4
      obtain ⟨rfl, h6⟩ := h4
      by_cases hb : (splitL (S ++ R)).2.1.length = 0
      · have h7 := h5 hb
        rw [if_pos (.inr hb), if_pos (by omega)]; rfl
      · rw [if_neg (by omega)]
        by_cases hz : S.length = 0
        · exfalso
          have hn : S = [] := List.eq_nil_of_length_eq_zero hz
          subst hn
          apply hb
          rw [List.nil_append]
          unfold splitL splitG
          rw [if_pos hR, List.drop_zero, ht, if_neg (by decide)]
          rfl
        · rw [if_neg hz, ← h6]; rfl
  · rw [if_neg hc] at h4; cases h4
/-- the log, the views behind each of its edits, where each ends: any beginning of it -/
structure CutI (S : List UInt8) (vs : List VT) (es : List Nat) (v : VT) (m : Nat) : Prop where
  lv : vs.length = m + 1
  le : es.length = m + 1
  zero : es[0]? = some 0
  last : es[m]? = some S.length
  lastv : vs[m]? = some v
  log : LogI S v m
  bd : ∀ (j e : Nat), es[j]? = some e → e ≤ S.length
  at_ : ∀ (q j e : Nat) (u : VT), q ≤ S.length → es[j]? = some e → vs[j]? = some u → e ≤ q → (∀ e', es[j + 1]? = some e' → q < e') → replP (S.take q) = if j = 0 then none else some (u, e)
theorem CutI.nil : CutI [] [v0] [0] v0 0 where
  lv := rfl
  le := rfl
  zero := rfl
  last := rfl
  lastv := rfl
  log := LogI.nil
  bd := fun j e h => by
    cases j with
    | zero => simp at h; subst h; exact Nat.zero_le _
    | succ j => simp at h
  at_ := fun q j e u hq he hv _ _ => by
    cases j with
    | zero => rw [List.take_nil]; exact LogI.nil.end_
    | succ j => simp at he
theorem CutI.snoc {S : List UInt8} {vs : List VT} {es : List Nat} {v u : VT} {m : Nat} {ds : List Int} {add : List Fl} {lg : Int} {f ce at_ le : Nat} (h : CutI S vs es v m) (hm : mayE ds add lg f ce at_ le = true) (ha : applyE v (ds, add, lg, f, ce, at_, le) = some u) :
    CutI (S ++ frameB 6 (editB ds add lg f ce at_ le)) (vs ++ [u]) (es ++ [S.length + (frameB 6 (editB ds add lg f ce at_ le)).length]) u (m + 1) := by
  have hlog := h.log.snoc hm ha
  have hend := hlog.end_
  have hle := editB_le hm
  have hfl := frameB_len 6 (editB ds add lg f ce at_ le)
  have hcut : ∀ r, 0 < r → r < (frameB 6 (editB ds add lg f ce at_ le)).length → replP (S ++ (frameB 6 (editB ds add lg f ce at_ le)).take r) = if S.length = 0 then none else some (v, S.length) := by
    intro r h0 hr
    exact h.log.torn (by rw [List.length_take]; omega) (takeR_cut (k := 6) (by omega) (by omega) (by omega) hr)
  have hS0 := h.log.2
  have h1 := h.lv
  have h2 := h.le
  generalize frameB 6 (editB ds add lg f ce at_ le) = F at *
  refine ⟨by simp [h1], by simp [h2], ?_, ?_, ?_, hlog, ?_, ?_⟩
  · rw [List.getElem?_append_left (by omega)]; exact h.zero
  · rw [List.getElem?_append_right (by omega), h2, Nat.sub_self, List.length_append]; rfl
  · rw [List.getElem?_append_right (by omega), h1, Nat.sub_self]; rfl
  · intro j e he
    rw [List.length_append]
    by_cases hj : j < es.length
    · rw [List.getElem?_append_left hj] at he
      have := h.bd j e he
      omega
    · rw [List.getElem?_append_right (by omega)] at he
      obtain ⟨hj2, he2⟩ := List.getElem?_eq_some_iff.1 he
      simp at hj2
      have hj3 : j - es.length = 0 := by omega
      simp only [hj3, List.getElem_cons_zero] at he2
      omega
  · intro q j e x hq he hx heq hnext
    by_cases hj : j < es.length
    · rw [List.getElem?_append_left hj] at he
      rw [List.getElem?_append_left (by omega)] at hx
      by_cases hqS : q ≤ S.length
      · rw [List.take_append_of_le_length hqS]
        refine h.at_ q j e x hqS he hx heq (fun e' he' => hnext e' ?_)
        rw [List.getElem?_append_left ((List.getElem?_eq_some_iff.1 he').1)]
        exact he'
      · have hjm : j = m := by
          by_cases hj2 : j + 1 < es.length
          · exfalso
            have he' : es[j + 1]? = some es[j + 1] := List.getElem?_eq_getElem hj2
            have h7 := h.bd _ _ he'
            have h8 := hnext es[j + 1] (by rw [List.getElem?_append_left hj2]; exact he')
            omega
          · omega
        subst hjm
        rw [h.last] at he
        rw [h.lastv] at hx
        injection he with he
        injection hx with hx
        subst he hx
        have h9 := hnext (S.length + F.length) (by rw [List.getElem?_append_right (by omega), h2, Nat.sub_self]; rfl)
        have htk : (S ++ F).take q = S ++ F.take (q - S.length) := by
          rw [List.take_append, List.take_of_length_le (show S.length ≤ q by omega)]
        rw [htk, hcut _ (by omega) (by omega)]
        by_cases hj0 : j = 0
        · subst hj0
          have hz := h.zero
          rw [h.last] at hz
          injection hz with hz
          rw [if_pos hz, if_pos rfl]
        · rw [if_neg (by omega), if_neg hj0]
    · rw [List.getElem?_append_right (by omega)] at he hx
      obtain ⟨hj2, he2⟩ := List.getElem?_eq_some_iff.1 he
      simp at hj2
      have hj3 : j - es.length = 0 := by omega
      have hj4 : j - vs.length = 0 := by omega
      simp only [hj3, List.getElem_cons_zero] at he2
      rw [hj4] at hx
      simp at hx
      subst hx he2
      rw [List.length_append] at hq hend
      have hqe : q = S.length + F.length := by omega
      rw [List.take_of_length_le (by rw [List.length_append]; omega), hend, if_neg (by omega), if_neg (by omega)]
end Go.Proofs.Ytokcaoaclheiiaa

/-
  Rows of unlike types lie apart. No program is named here.
-/
namespace Go.Proofs.Ytokcaoaclheiiaa
open Go.RowKit
set_option linter.unusedVariables false

/-- a row lies as it lay where another one of another type has grown -/
theorem own_apart {w w' : World} {base base' : Nat} {e e' : TypeId} {sz sz' n n' : Nat} {v v' : Value} {xs xs' : List Value} (h : w.ownsRow base e sz v n xs) (h2 : w.ownsRow base' e' sz' v' n' xs') (hne : e ≠ e') (hg : w.grownBy w' v'.ownBlock) : w'.ownsRow base e sz v n xs := by
  refine ⟨h.1, ?_⟩
  rcases h.2 with h3 | ⟨g, cap, cur, hv, hb, hh, r⟩
  · exact .inl h3
  · refine .inr ⟨g, cap, cur, hv, hb, (hg.block g (Array.getElem?_eq_some_iff.1 hh).1 (fun e9 => ?_)).trans hh, r⟩
    rcases h2.2 with ⟨h4, _⟩ | ⟨g', cap', cur', h4, _, hh', _⟩
    · rw [h4] at e9; cases e9
    · rw [h4] at e9
      simp only [Value.ownBlock, Option.some.injEq] at e9
      subst e9
      rw [hh] at hh'
      injection hh' with hh'
      injection hh' with q1 q2
      exact hne q2
end Go.Proofs.Ytokcaoaclheiiaa

/-
  EditCuts: the views and the ends as they lie in memory, and how they grow.
-/
namespace Go.Proofs.Ytokcaoaclheiiaa
open Go.RowKit
set_option linter.unusedVariables false
set_option linter.unusedSimpArgs false

structure PV where
  v : VT
  R : Option Addr
  n : Nat
  c : Nat
def PV.cs (p : PV) : List Value := [.int .i64 p.v.1, .slice p.R p.n p.c, .int .u64 (p.v.2.2.1 : Int), .int .u64 (p.v.2.2.2.1 : Int), .int .u64 (p.v.2.2.2.2.1 : Int), .int .u64 (p.v.2.2.2.2.2 : Int)]
def pvs (ps : List PV) : List Value := ps.flatMap PV.cs
theorem pvs_snoc (ps : List PV) (p : PV) : pvs (ps ++ [p]) = pvs ps ++ p.cs := by simp [pvs]
theorem pvs_one (ps : List PV) : ∀ u ∈ pvs ps, u.oneCell' = true := by
  intro u hu
  obtain ⟨p, _, hu⟩ := List.mem_flatMap.1 hu
  simp only [PV.cs, List.mem_cons, List.not_mem_nil, or_false] at hu
  rcases hu with rfl | rfl | rfl | rfl | rfl | rfl <;> rfl
theorem viewsT : SlT Try.prog 61 27 6 64 := SlT.mk' Try.underlying61 (z := .agg #[.int .i64 0, .slice none 0 0, .int .u64 0, .int .u64 0, .int .u64 0, .int .u64 0]) (by kernel_rfl) rfl (by decide)
theorem Rd.keepsX {w w' : World} {B sz n : Nat} {A : Option Addr} {xs : List Value} {X : Nat → Prop} (h : Rd w B sz A n xs) (hB : B ≤ w.heap.size) (hne : ∀ a, A = some a → ¬ X a.block) (hK : Rg.Keeps X w w') : Rd w' w'.heap.size sz A n xs := by
  refine ⟨h.1, fun hn => ?_⟩
  obtain ⟨b, o, rfl, hb, hc⟩ := h.2 hn
  refine ⟨b, o, rfl, Nat.lt_of_lt_of_le (Nat.lt_of_lt_of_le hb hB) hK.size, fun j u hu => ?_⟩
  exact (World.cell?_of_block (hK.block b (Nat.lt_of_lt_of_le hb hB) (hne _ rfl))).trans (hc j u hu)
structure VI (B gv : Nat) (ps : List PV) (es : List Nat) (VS ES : Option Addr) (n m vc ec : Nat) (W : World) : Prop where
  pn : ps.length = n
  em : es.length = m
  own : W.ownsRow B 27 6 (.slice VS n vc) n (pvs ps)
  ends : W.ownsRow B 3 1 (.slice ES m ec) m (nvi es)
  rd : ∀ p ∈ ps, Rd W W.heap.size 2 p.R p.n (fvs p.v.2.1) ∧ p.n ≤ 40 ∧ p.n ≤ p.c
  ne : ∀ p ∈ ps, ∀ a, p.R = some a → gv < a.block ∧ a.block < W.heap.size ∧ (∀ y, VS = some y → y.block ≠ a.block) ∧ ∀ y, ES = some y → y.block ≠ a.block
section
variable {B gv n m vc ec : Nat} {ps : List PV} {es : List Nat} {VS ES : Option Addr} {W W' : World}
theorem VI.up (h : VI B gv ps es VS ES n m vc ec W) (hu : Up W W') : VI B gv ps es VS ES n m vc ec W' :=
  ⟨h.pn, h.em, own_up h.own hu, own_up h.ends hu, fun p hp => ⟨(h.rd p hp).1.up hu, (h.rd p hp).2⟩, fun p hp a ha => by
    obtain ⟨h1, h2, h3⟩ := h.ne p hp a ha
    exact ⟨h1, Nat.lt_of_lt_of_le h2 hu.size, h3⟩⟩
theorem VI.keepsG (h : VI B gv ps es VS ES n m vc ec W) (hB : gv < B) (hK : Rg.Keeps (fun y => y = gv) W W') : VI B gv ps es VS ES n m vc ec W' :=
  ⟨h.pn, h.em, own_keeps6 h.own hB hK, own_keeps6 h.ends hB hK, fun p hp => ⟨(h.rd p hp).1.keepsNe (Nat.le_refl _) (fun a ha => by have := (h.ne p hp a ha).1; omega) hK, (h.rd p hp).2⟩, fun p hp a ha => by
    obtain ⟨h1, h2, h3⟩ := h.ne p hp a ha
    exact ⟨h1, Nat.lt_of_lt_of_le h2 hK.size, h3⟩⟩
theorem ob_slice {A : Option Addr} {k c g : Nat} (h : Rg.ob (.slice A k c) g) : ∃ y, A = some y ∧ y.block = g := by
  cases A with
  | none => exact h.elim
  | some a => exact ⟨a, rfl, h⟩
theorem block_of {VS V2 : Option Addr} {n n2 vc vc2 g : Nat} (hat : (Value.slice V2 n2 vc2).ownBlock = (Value.slice VS n vc).ownBlock ∨ (Value.slice V2 n2 vc2).ownBlock = some g) {y : Addr} (hy : V2 = some y) : (∃ z, VS = some z ∧ z.block = y.block) ∨ y.block = g := by
  subst hy
  rcases hat with h | h
  · cases VS with
    | none => simp [Value.ownBlock] at h
    | some z => simp [Value.ownBlock] at h; exact .inl ⟨z, rfl, h.symm⟩
  · simp [Value.ownBlock] at h; exact .inr h
theorem VI.snocV (h : VI B gv ps es VS ES n m vc ec W) {p : PV} {V2 : Option Addr} {vc2 : Nat} (ho : W'.ownsRow B 27 6 (.slice V2 (n + 1) vc2) (n + 1) (pvs ps ++ p.cs)) (hg : W.grownBy W' (Value.slice VS n vc).ownBlock)
    (hat : (Value.slice V2 (n + 1) vc2).ownBlock = (Value.slice VS n vc).ownBlock ∨ (Value.slice V2 (n + 1) vc2).ownBlock = some W.heap.size)
    (hr : Rd W W.heap.size 2 p.R p.n (fvs p.v.2.1)) (hn : p.n ≤ 40) (hc : p.n ≤ p.c) (hne : ∀ a, p.R = some a → gv < a.block ∧ a.block < W.heap.size ∧ (∀ y, VS = some y → y.block ≠ a.block) ∧ ∀ y, ES = some y → y.block ≠ a.block) : VI B gv (ps ++ [p]) es V2 ES (n + 1) m vc2 ec W' := by
  have hK : Rg.Keeps (fun g => Rg.ob (.slice VS n vc) g) W W' := keeps_grown h.own hg (X := fun g => Rg.ob (.slice VS n vc) g) (fun _ h => h)
  have hnx : ∀ (a : Addr), (∀ y, VS = some y → y.block ≠ a.block) → ¬ Rg.ob (.slice VS n vc) a.block := fun a h1 h2 => by
    obtain ⟨y, hy, e⟩ := ob_slice h2
    exact h1 y hy e
  refine ⟨by simp [h.pn], h.em, by rw [pvs_snoc]; exact ho, own_apart h.ends h.own (by decide) hg, fun q hq => ?_, fun q hq a ha => ?_⟩
  · rcases List.mem_append.1 hq with hq | hq
    · exact ⟨(h.rd q hq).1.keepsX (Nat.le_refl _) (fun a ha => hnx a (h.ne q hq a ha).2.2.1) hK, (h.rd q hq).2⟩
    · rw [List.mem_singleton] at hq
      subst hq
      exact ⟨hr.keepsX (Nat.le_refl _) (fun a ha => hnx a (hne a ha).2.2.1) hK, hn, hc⟩
  · have h9 : gv < a.block ∧ a.block < W.heap.size ∧ (∀ y, VS = some y → y.block ≠ a.block) ∧ ∀ y, ES = some y → y.block ≠ a.block := by
      rcases List.mem_append.1 hq with hq | hq
      · exact h.ne q hq a ha
      · rw [List.mem_singleton] at hq; subst hq; exact hne a ha
    obtain ⟨h1, h2, h3, h4⟩ := h9
    refine ⟨h1, Nat.lt_of_lt_of_le h2 hK.size, fun y hy => ?_, h4⟩
    rcases block_of hat hy with ⟨z, hz, e⟩ | e
    · rw [← e]; exact h3 z hz
    · omega
theorem VW.grown {gv n c B nn sz : Nat} {v : VT} {A : Option Addr} {e : TypeId} {vv : Value} {xs : List Value} {W W' : World} (h : VW gv v A n c W) (ho : W.ownsRow B e sz vv nn xs) (hB : gv < B) (hg : W.grownBy W' vv.ownBlock) (hne : ∀ a, A = some a → ¬ Rg.ob vv a.block) : VW gv v A n c W' := by
  have hK : Rg.Keeps (fun g => Rg.ob vv g) W W' := keeps_grown ho hg (X := fun g => Rg.ob vv g) (fun _ h => h)
  have hgv : ¬ Rg.ob vv gv := fun h2 => by
    rcases ho.2 with ⟨rfl, _⟩ | ⟨g, cap, cur, rfl, hb, _⟩
    · exact h2.elim
    · have h3 : g = gv := h2
      omega
  exact ⟨(hK.block gv (Array.getElem?_eq_some_iff.1 h.blk).1 hgv).trans h.blk, h.rd.keepsX (Nat.le_refl _) hne hK, h.nc, h.le, h.ne⟩
theorem VI.ltV (h : VI B gv ps es VS ES n m vc ec W) : ∀ y, VS = some y → y.block < W.heap.size := fun y hy => by
  subst hy
  exact (h.own.lt y.block rfl).2
theorem VI.ltE (h : VI B gv ps es VS ES n m vc ec W) : ∀ y, ES = some y → y.block < W.heap.size := fun y hy => by
  subst hy
  exact (h.ends.lt y.block rfl).2
/-- a cell of a row of the call's own, in whatever grows out of that world -/
theorem own_cellsX {w : World} {base n c sz : Nat} {e : TypeId} {A : Option Addr} {xs : List Value} (h : w.ownsRow base e sz (.slice A n c) n xs) (hn : 0 < n) : ∃ g, A = some ⟨g, 0, none⟩ ∧ ∀ (i : Nat) (u : Value), xs[i]? = some u → ∀ W, Up w W → W.cell? ⟨g, i, none⟩ = some u := by
  obtain ⟨g, rfl, _, hg⟩ := own_some h hn
  refine ⟨g, rfl, fun j u hj W hW => ?_⟩
  have hrd := Rd.own h
  obtain ⟨b, o, e, hb, hc⟩ := hrd.2 hn
  injection e with e
  injection e with e1 e2
  subst e1; subst e2
  have h1 := hc j u hj
  rw [Nat.zero_add] at h1
  exact (hW.cell (p := ⟨g, j, none⟩) hg).trans h1
theorem pvs_at (ps : List PV) {j : Nat} {p : PV} (h : ps[j]? = some p) (i : Nat) (hi : i < 6) : (pvs ps)[j * 6 + i]? = p.cs[i]? := by
  induction ps generalizing j with
  | nil => simp at h
  | cons q qs ih =>
    have hc : pvs (q :: qs) = q.cs ++ pvs qs := rfl
    have hl : q.cs.length = 6 := rfl
    rw [hc]
    cases j with
    | zero =>
      simp at h; subst h
      rw [List.getElem?_append_left (by omega), Nat.zero_mul, Nat.zero_add]
    | succ j =>
      simp at h
      rw [List.getElem?_append_right (by omega), hl, show (j + 1) * 6 + i - 6 = j * 6 + i by omega]
      exact ih h
theorem VI.snocE (h : VI B gv ps es VS ES n m vc ec W) {x : Nat} {E2 : Option Addr} {ec2 : Nat} (ho : W'.ownsRow B 3 1 (.slice E2 (m + 1) ec2) (m + 1) (nvi es ++ nvi [x])) (hg : W.grownBy W' (Value.slice ES m ec).ownBlock)
    (hat : (Value.slice E2 (m + 1) ec2).ownBlock = (Value.slice ES m ec).ownBlock ∨ (Value.slice E2 (m + 1) ec2).ownBlock = some W.heap.size) : VI B gv ps (es ++ [x]) VS E2 n (m + 1) vc ec2 W' := by
  have hK : Rg.Keeps (fun g => Rg.ob (.slice ES m ec) g) W W' := keeps_grown h.ends hg (X := fun g => Rg.ob (.slice ES m ec) g) (fun _ h => h)
  have hnx : ∀ (a : Addr), (∀ y, ES = some y → y.block ≠ a.block) → ¬ Rg.ob (.slice ES m ec) a.block := fun a h1 h2 => by
    obtain ⟨y, hy, e⟩ := ob_slice h2
    exact h1 y hy e
  refine ⟨h.pn, by simp [h.em], own_apart h.own h.ends (by decide) hg, ?_, fun q hq => ?_, fun q hq a ha => ?_⟩
  · have : nvi (es ++ [x]) = nvi es ++ nvi [x] := by simp [nvi]
    rw [this]; exact ho
  · exact ⟨(h.rd q hq).1.keepsX (Nat.le_refl _) (fun a ha => hnx a (h.ne q hq a ha).2.2.2) hK, (h.rd q hq).2⟩
  · obtain ⟨h1, h2, h3, h4⟩ := h.ne q hq a ha
    refine ⟨h1, Nat.lt_of_lt_of_le h2 hK.size, h3, fun y hy => ?_⟩
    rcases block_of hat hy with ⟨z, hz, e⟩ | e
    · rw [← e]; exact h4 z hz
    · omega
end
end Go.Proofs.Ytokcaoaclheiiaa

/-
  The walk of the laws' own test of layer 15.
-/
namespace Go.Proofs.Ytokcaoaclheiiaa
open Go.RowKit
set_option linter.unusedVariables false
set_option linter.unusedSimpArgs false

set_option maxRecDepth 100000 in
set_option maxHeartbeats 1600000 in
theorem awake15_any (w : World) : Calls Try.prog 11 #[] w fun e w' => e = .returned (.bool true) ∧ Up w w' := by
  have ha1 : applyR 0 [] 0 0 0 0 [] [(0, 2)] 1 0 0 0 0 = some (1, [(0, 2)], 0, 0, 0, 0) := by decide
  have ha2 : applyR 1 [(0, 2)] 0 0 0 0 [2] [] 0 0 0 0 0 = some (1, [], 0, 0, 0, 0) := by decide
  have ha3 : viewOk 1 [] 0 0 0 0 = true := by decide
  have HA1 := Lib.hid ha1
  have HA2 := Lib.hid ha2
  have HA3 := Lib.hid ha3
  clear ha1 ha2 ha3
  have hr1 : Rd (w.alloc (.cells #[.int .i64 0, .int .i64 2] 41)) (w.alloc (.cells #[.int .i64 0, .int .i64 2] 41)).heap.size 2 (some ⟨w.heap.size, 0, none⟩) 1 (fvs [(0, 2)]) := Rd.made w #[.int .i64 0, .int .i64 2] 41 rfl
  have hu1 : Up w (w.alloc (.cells #[.int .i64 0, .int .i64 2] 41)) := (Up.refl w).alloc _
  go_enter Try.func11, Try.ntmps11
  go_wp2_with fail
  generalize w.alloc (.cells #[.int .i64 0, .int .i64 2] 41) = w1 at *
  refine (apply_any 0 none 0 0 [] 0 0 0 0 none 0 0 [] (some ⟨w.heap.size, 0, none⟩) 1 1 [(0, 2)] 1 0 0 0 0 w1 Rd.empty (by omega) Rd.empty (by omega) hr1 (by omega)).mono ?_
  intro e w2 hp
  rw [HA1.out] at hp
  obtain ⟨R, rn, rfl, hrd2, hu2, -⟩ := hp
  have hrn : rn = 1 := by have := hrd2.flen; simpa using this
  subst hrn
  simp only [Int.natCast_zero, Int.ofNat_zero]
  have hb3 : (w2.alloc (.cells #[.int .i64 1, .slice R 1 1, .int .u64 0, .int .u64 0, .int .u64 0, .int .u64 0] 27)).heap[w2.heap.size]? = some (.cells #[.int .i64 1, .slice R 1 1, .int .u64 0, .int .u64 0, .int .u64 0, .int .u64 0] 27 (0, 0)) := heap_alloc_new _ _
  have hr3 := Rd.made (w2.alloc (.cells #[.int .i64 1, .slice R 1 1, .int .u64 0, .int .u64 0, .int .u64 0, .int .u64 0] 27)) (sz := 1) (n := 1) #[.int .i64 2] 3 rfl
  rw [World.size_alloc w2] at hr3
  have hu3 : Up w2 ((w2.alloc (.cells #[.int .i64 1, .slice R 1 1, .int .u64 0, .int .u64 0, .int .u64 0, .int .u64 0] 27)).alloc (.cells #[.int .i64 2] 3)) := ((Up.refl w2).alloc _).alloc _
  have hb4 := (((Up.refl (w2.alloc (.cells #[.int .i64 1, .slice R 1 1, .int .u64 0, .int .u64 0, .int .u64 0, .int .u64 0] 27))).alloc (.cells #[.int .i64 2] 3)).block _ (Array.getElem?_eq_some_iff.1 hb3).1).trans hb3
  go_wp2_with fail
  clear hb3
  generalize (w2.alloc (.cells #[.int .i64 1, .slice R 1 1, .int .u64 0, .int .u64 0, .int .u64 0, .int .u64 0] 27)).alloc (.cells #[.int .i64 2] 3) = w3 at *
  refine (apply_any 1 R 1 1 [(0, 2)] 0 0 0 0 (some ⟨w2.heap.size + 1, 0, none⟩) 1 1 [2] none 0 0 [] 0 0 0 0 0 w3 (hrd2.up hu3) (by omega) hr3 (by omega) Rd.empty (by omega)).mono ?_
  intro e w4 hp
  rw [HA2.out] at hp
  obtain ⟨R4, rn4, rfl, hrd4, hu4, -⟩ := hp
  have hrn : rn4 = 0 := by have := hrd4.flen; simpa using this
  subst hrn
  simp only [Int.natCast_zero, Int.ofNat_zero]
  have hb5 := (hu4.block _ (Array.getElem?_eq_some_iff.1 hb4).1).trans hb4
  generalize w2.heap.size = g1 at *
  have hb6 : (w4.alloc (.cells #[.int .i64 1, .slice R4 0 0, .int .u64 0, .int .u64 0, .int .u64 0, .int .u64 0] 27)).heap[w4.heap.size]? = some (.cells #[.int .i64 1, .slice R4 0 0, .int .u64 0, .int .u64 0, .int .u64 0, .int .u64 0] 27 (0, 0)) := heap_alloc_new _ _
  have hu5 : Up w4 (w4.alloc (.cells #[.int .i64 1, .slice R4 0 0, .int .u64 0, .int .u64 0, .int .u64 0, .int .u64 0] 27)) := (Up.refl w4).alloc _
  have hb7 := (hu5.block _ (Array.getElem?_eq_some_iff.1 hb5).1).trans hb5
  have q1 := blk_cell hb7 1
  have p0 := blk_cell hb6 0
  have p1 := blk_cell hb6 1
  have p2 := blk_cell hb6 2
  have p3 := blk_cell hb6 3
  have p4 := blk_cell hb6 4
  have p5 := blk_cell hb6 5
  go_wp2_with fail
  clear q1 p0 p1 p2 p3 p4 p5
  refine (vok_any 1 R4 0 0 [] 0 0 0 0 _ (hrd4.up hu5) (by omega) (by omega)).mono ?_
  rintro e w6 ⟨rfl, hu6⟩
  rw [HA3.out]
  go_wp2_with fail
  go_ret
  exact ⟨rfl, (((hu1.trans hu2).trans hu3).trans hu4).trans (hu5.trans hu6)⟩
end Go.Proofs.Ytokcaoaclheiiaa

/-
  The walk of clepsydraref1.Split.
-/
namespace Go.Proofs.Ytokcaoaclheiiaa
open Go.RowKit
set_option linter.unusedVariables false
set_option linter.unusedSimpArgs false

end Go.Proofs.Ytokcaoaclheiiaa

/-
  []byte(s): a new slice that holds a text's bytes.
-/
namespace Go.Proofs.Ytokcaoaclheiiaa
open Go.RowKit
set_option linter.unusedVariables false
set_option linter.unusedSimpArgs false

theorem conv_b (w : World) (l : List UInt8) : ∃ c w', (convert 9 43 (.string (tx l))).run Try.prog w = .ok (.slice (some ⟨w.heap.size, 0, none⟩) l.length c) w' ∧ l.length ≤ c ∧
    Rd w' w'.heap.size 1 (some ⟨w.heap.size, 0, none⟩) l.length (bvs l) ∧ Up w w' ∧ (∀ j, j < l.length → w'.frozen? ⟨w.heap.size, j, none⟩ = false) ∧ w.heap.size < w'.heap.size := by
  have hrun := Lib.run_convert_string_bytes (P := Try.prog) w 9 43 5 (tx l) Try.underlying9 bytesT.ut Try.underlying5
  rw [tx_size] at hrun
  refine ⟨_, _, hrun, grownCap_ge w _ 0 _, ⟨by rw [bvs_length, Nat.mul_one], fun _ => ⟨w.heap.size, 0, rfl, by rw [Lib.bytesWorld_size]; omega, fun j u hu => ?_⟩⟩, ⟨rfl, rfl, rfl, by rw [Lib.bytesWorld_size]; omega, fun k hk => Lib.bytesWorld_at_old w _ _ k hk⟩, fun j hj => ?_, by rw [Lib.bytesWorld_size]; omega⟩
  · rw [Nat.zero_add]
    have hj := (List.getElem?_eq_some_iff.1 hu).1
    rw [bvs_length] at hj
    rw [Lib.bytesWorld_cell w _ _ j (by rw [tx_size]; exact hj), tx_list, ← hu]
    simp [bvs, bv, hj, List.getD]
  · have hge := grownCap_ge w l.length 0 5
    unfold World.frozen?
    rw [Lib.bytesWorld_at_new]
    have hs : j < (Lib.bytesCells w 5 (tx l)).size := by
      unfold Lib.bytesCells
      simp [tx_size]; omega
    simp
    omega
end Go.Proofs.Ytokcaoaclheiiaa

/-
  []byte(s) whose bytes are written: the new block itself.
-/
namespace Go.Proofs.Ytokcaoaclheiiaa
open Go.RowKit
set_option linter.unusedVariables false
set_option linter.unusedSimpArgs false

/-- the block g begins with these bytes; none of them is shut -/
def Beg (g : Nat) (l : List UInt8) (w : World) : Prop := ∃ (cs : Array Value) (t : TypeId) (fz : Nat × Nat), w.heap[g]? = some (.cells cs t fz) ∧ l.length ≤ cs.size ∧ l.length ≤ fz.1 ∧ ∀ j, j < l.length → cs[j]? = some (bv (l.getD j 0))
theorem Beg.sta {g : Nat} {l : List UInt8} {w w' : World} {Y : Nat → Prop} (h : Beg g l w) (hs : Rg.Sta Y w w') (hy : Y g) : Beg g l w' := by
  obtain ⟨cs, t, fz, hh, h2, h3⟩ := h
  exact ⟨cs, t, fz, (hs.block g (Array.getElem?_eq_some_iff.1 hh).1 hy).trans hh, h2, h3⟩
theorem Beg.up {g : Nat} {l : List UInt8} {w w' : World} (h : Beg g l w) (hu : Up w w') : Beg g l w' := by
  obtain ⟨cs, t, fz, hh, h2, h3⟩ := h
  exact ⟨cs, t, fz, (hu.block g (Array.getElem?_eq_some_iff.1 hh).1).trans hh, h2, h3⟩
theorem Beg.cell {g : Nat} {l : List UInt8} {w : World} (h : Beg g l w) {j : Nat} (hj : j < l.length) : w.cell? ⟨g, j, none⟩ = some (bv (l.getD j 0)) := by
  obtain ⟨cs, t, fz, hh, h2, h4, h3⟩ := h
  rw [cell_of_row w g j cs t fz hh, h3 j hj]
theorem Beg.free {g : Nat} {l : List UInt8} {w : World} (h : Beg g l w) {j : Nat} (hj : j < l.length) : w.frozen? ⟨g, j, none⟩ = false := by
  obtain ⟨cs, t, fz, hh, h2, h4, h3⟩ := h
  simp [World.frozen?, hh]
  omega
theorem Beg.lt {g : Nat} {l : List UInt8} {w : World} (h : Beg g l w) : g < w.heap.size := by
  obtain ⟨cs, t, fz, hh, h2, h3⟩ := h
  exact (Array.getElem?_eq_some_iff.1 hh).1
theorem Beg.rd {g : Nat} {l : List UInt8} {w : World} (h : Beg g l w) : Rd w w.heap.size 1 (some ⟨g, 0, none⟩) l.length (bvs l) := by
  refine ⟨by rw [bvs_length, Nat.mul_one], fun _ => ⟨g, 0, rfl, h.lt, fun j u hu => ?_⟩⟩
  have hj := (List.getElem?_eq_some_iff.1 hu).1
  rw [bvs_length] at hj
  rw [Nat.zero_add, h.cell hj, ← hu]
  simp [bvs, bv, hj, List.getD]
theorem Beg.set {g : Nat} {l : List UInt8} {w : World} (h : Beg g l w) {j : Nat} (hj : j < l.length) (x : UInt8) : Beg g (l.set j x) (w.setCell ⟨g, j, none⟩ (bv x)) := by
  obtain ⟨cs, t, fz, hh, h2, h4, h3⟩ := h
  refine ⟨cs.setIfInBounds j (bv x), t, fz, by simp [World.setCell, Array.getElem?_modify, hh], by simp; exact h2, by simp; exact h4, fun i hi => ?_⟩
  rw [List.length_set] at hi
  by_cases hij : j = i
  · subst hij
    rw [Array.getElem?_setIfInBounds_self_of_lt (by omega)]
    simp [List.getD, hj]
  · rw [Array.getElem?_setIfInBounds_ne hij, h3 i hi]
    simp [List.getD, List.getElem?_set_ne hij]
theorem conv_beg (w : World) (l : List UInt8) : ∃ c w', (convert 9 43 (.string (tx l))).run Try.prog w = .ok (.slice (some ⟨w.heap.size, 0, none⟩) l.length c) w' ∧ l.length ≤ c ∧
    Beg w.heap.size l w' ∧ Up w w' := by
  have hrun := Lib.run_convert_string_bytes (P := Try.prog) w 9 43 5 (tx l) Try.underlying9 bytesT.ut Try.underlying5
  rw [tx_size] at hrun
  refine ⟨_, _, hrun, grownCap_ge w _ 0 _, ?_, ⟨rfl, rfl, rfl, by rw [Lib.bytesWorld_size]; omega, fun k hk => Lib.bytesWorld_at_old w _ _ k hk⟩⟩
  have hge := grownCap_ge w l.length 0 5
  have hs : l.length ≤ (Lib.bytesCells w 5 (tx l)).size := by
    unfold Lib.bytesCells
    simp [tx_size]
  refine ⟨_, _, _, Lib.bytesWorld_at_new w _ _, hs, hs, fun j hj => ?_⟩
  have hc := Lib.bytesWorld_cell w 5 (tx l) j (by rw [tx_size]; exact hj)
  rw [tx_list] at hc
  rw [cell_of_row _ _ _ _ _ _ (Lib.bytesWorld_at_new w _ _)] at hc
  exact hc
end Go.Proofs.Ytokcaoaclheiiaa

/-
  Opening arguments: slices of whole numbers.
-/
namespace Go.Proofs.Ytokcaoaclheiiaa
open Go.ChangeShapes Go.WideShapes Go.ChangeAt Go.RowKit Go.Deep
set_option linter.unusedVariables false

theorem i64_ofZ {n : Int} (h : (Lit.int .i64 n).wf = true) : n = (Int64.ofInt n).toInt := by
  have := bd_i64 h
  rw [Int64.toInt_ofInt_of_le (by simpa using this.1) (by have := this.2; simp; omega)]
section
variable {H : Type} {enc : TypeId × Value → H} {W : World} {sp : Nat → Bool} {a : Option Addr} {len cap : Nat} {d : DataW H} {p : List MemPlace}
/-- a slice of whole numbers that came in -/
def zvs (l : List Int64) : List Value := l.map fun z => Value.int .i64 z.toInt
def IsZ (w : World) (A : Option Addr) (n c : Nat) (l : List Int64) : Prop := Rd w w.heap.size 1 A n (zvs l) ∧ n ≤ c ∧ c ≤ 9223372036854775807
theorem is_z (h : DataW.Trod enc Try.prog W 0 (fun _ => true) true 30 (.slice a len cap) d p) : ∃ l, IsZ W a len cap l := by
  obtain ⟨fuel, hf⟩ := h
  rcases open_ints Try.underlying30 Try.underlying3 (by kernel_rfl) hf with ⟨hcs, _⟩ | ⟨x, l, c, zs, hcs, _, hl, hm, hz, _, hcell, hwz⟩
  · simp [Value.cells] at hcs
    obtain ⟨rfl, rfl, rfl⟩ := hcs
    exact ⟨[], Rd.empty, by omega, by omega⟩
  · simp [Value.cells] at hcs
    obtain ⟨rfl, rfl, rfl⟩ := hcs
    refine ⟨_, rd_ints (fun z : Int64 => Value.int .i64 z.toInt) (fun n => Int64.ofInt n) (fun n hn => ?_) hl (by simpa using hz) hcell hwz, hl, by simpa only [maxLen] using hm⟩
    exact congrArg _ (i64_ofZ hn).symm
theorem Rd.zlen {w : World} {B n : Nat} {A : Option Addr} {q : List Int64} (h : Rd w B 1 A n (zvs q)) : n = q.length := by have := h.1; simp [zvs] at this; omega
theorem Rd.znum {w : World} {B n : Nat} {A : Option Addr} {q : List Int64} (h : Rd w B 1 A n (zvs q)) {k : Nat} (hk : k < n) :
    ∃ b o, A = some ⟨b, o, none⟩ ∧ b < B ∧ w.cell? ⟨b, o + k, none⟩ = some (.int .i64 (q.getD k 0).toInt) := by
  obtain ⟨b, o, e, hb, hc⟩ := h.2 (by omega)
  have hl : k < q.length := by have := h.zlen; omega
  exact ⟨b, o, e, hb, hc k _ (by simp [zvs, hl, List.getD])⟩
end
end Go.Proofs.Ytokcaoaclheiiaa
