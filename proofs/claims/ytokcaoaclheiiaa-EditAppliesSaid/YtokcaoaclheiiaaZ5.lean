/-
  Texts of this claim, joined: EditLaw3, FrameW10, EditW19, FrameLaw, EditReg2, EditW6, EditW11, FrameW11, Conv, FrameW12, OpenM, OpenEd.
-/
import Derived.IntWalk
import Derived.Lib.ConvBytes
import Derived.Test.YtokcaoaclheiiaaZ4
/-
  Plain law: the document's ReadEdit and edit.Read are one.
-/
namespace Go.Proofs.Ytokcaoaclheiiaa
open Go.RowKit
set_option linter.unusedVariables false

theorem rtk_ok {most x : Nat} {s r : List UInt8} {ok : Bool} (h : rtk most s ok = (x, r, true)) : ok = true ∧ (takeL s).2.2 = 0 ∧ (takeL s).1 = x ∧ x ≤ most ∧ r = s.drop (takeL s).2.1 := by
  unfold rtk at h
  split at h
  · rename_i h1
    injection h with e1 e2
    injection e2 with e2 e3
    exact ⟨h1.1, h1.2.1, e1, by rw [← e1]; exact h1.2.2, e2.symm⟩
  · injection h with e1 e2
    injection e2 with e2 e3
    cases e3
theorem rtk_is {most x : Nat} {s r : List UInt8} (h1 : (takeL s).2.2 = 0) (h2 : (takeL s).1 = x) (h3 : x ≤ most) (h4 : r = s.drop (takeL s).2.1) : rtk most s true = (x, r, true) := by
  unfold rtk
  rw [if_pos ⟨rfl, h1, by rw [h2]; exact h3⟩, h2, h4]
/-- numbers of what is left -/
def PN : Nat → List UInt8 → Option (List UInt64 × List UInt8)
  | 0, s => some ([], s)
  | k + 1, s => if (takeL s).2.2 = 0 ∧ (takeL s).1 ≤ 281474976710656 then (PN k (s.drop (takeL s).2.1)).map fun p => (UInt64.ofNat (takeL s).1 :: p.1, p.2) else none
theorem rdGo_PN : ∀ (k : Nat) (l : List UInt8) (a : Nat) (acc : List UInt64), a ≤ l.length → rdGo k l a acc = (PN k (l.drop a)).map fun p => (acc ++ p.1, l.length - p.2.length)
  | 0, l, a, acc, h => by simp [rdGo, PN]; omega
  | k + 1, l, a, acc, h => by
    rw [rdGo, PN]
    by_cases hc : (takeL (l.drop a)).2.2 = 0 ∧ (takeL (l.drop a)).1 ≤ 281474976710656
    · rw [if_pos hc, if_pos hc]
      have h2 := takeL_ok hc.1
      rw [List.length_drop] at h2
      rw [rdGo_PN k l _ _ (by omega), List.drop_drop, Option.map_map]
      congr 1
      funext p
      simp
    · rw [if_neg hc, if_neg hc]; rfl
theorem PN_add : ∀ (a b : Nat) (s : List UInt8), PN (a + b) s = (PN a s).bind fun p => (PN b p.2).map fun t => (p.1 ++ t.1, t.2)
  | 0, b, s => by simp [PN]
  | a + 1, b, s => by
    rw [show a + 1 + b = (a + b) + 1 by omega, PN, PN]
    by_cases hc : (takeL s).2.2 = 0 ∧ (takeL s).1 ≤ 281474976710656
    · rw [if_pos hc, if_pos hc, PN_add a b]
      cases PN a (s.drop (takeL s).2.1) with
      | none => rfl
      | some p =>
        simp only [Option.bind_some, Option.map_some, Option.map_map]
        congr 1
    · rw [if_neg hc, if_neg hc]; rfl
theorem PN_len : ∀ (k : Nat) (s : List UInt8) (p : List UInt64 × List UInt8), PN k s = some p → p.1.length = k
  | 0, s, p, h => by injection h with h; subst h; rfl
  | k + 1, s, p, h => by
    rw [PN] at h
    split at h
    · rw [Option.map_eq_some_iff] at h
      obtain ⟨p0, h1, rfl⟩ := h
      simp [PN_len k _ p0 h1]
    · cases h
theorem PN_one {s r : List UInt8} {x : Nat} (h1 : (takeL s).2.2 = 0) (h2 : (takeL s).1 = x) (h3 : x ≤ 281474976710656) (h4 : r = s.drop (takeL s).2.1) : PN 1 s = some ([UInt64.ofNat x], r) := by
  rw [PN, if_pos ⟨h1, by rw [h2]; exact h3⟩, PN, h2, h4]; rfl
theorem PN_one_inv {s : List UInt8} {p : List UInt64 × List UInt8} (h : PN 1 s = some p) : ∃ x, (takeL s).2.2 = 0 ∧ (takeL s).1 = x ∧ x ≤ 281474976710656 ∧ p.2 = s.drop (takeL s).2.1 ∧ p.1 = [UInt64.ofNat x] := by
  rw [PN] at h
  split at h
  · rename_i hc
    rw [PN] at h
    injection h with h
    subst h
    exact ⟨_, hc.1, rfl, hc.2, rfl, rfl⟩
  · cases h
theorem PN_snoc {k : Nat} {s : List UInt8} {l : List UInt64} {s1 r : List UInt8} {x : Nat} (h : PN k s = some (l, s1)) (h1 : (takeL s1).2.2 = 0) (h2 : (takeL s1).1 = x) (h3 : x ≤ 281474976710656) (h4 : r = s1.drop (takeL s1).2.1) : PN (k + 1) s = some (l ++ [UInt64.ofNat x], r) := by
  rw [PN_add, h, Option.bind_some]
  show (PN 1 s1).map _ = _
  rw [PN_one h1 h2 h3 h4]; rfl
theorem PN_snoc_inv {k : Nat} {s : List UInt8} {p : List UInt64 × List UInt8} (h : PN (k + 1) s = some p) : ∃ l s1 x, PN k s = some (l, s1) ∧ (takeL s1).2.2 = 0 ∧ (takeL s1).1 = x ∧ x ≤ 281474976710656 ∧ p.2 = s1.drop (takeL s1).2.1 ∧ p.1 = l ++ [UInt64.ofNat x] := by
  rw [PN_add] at h
  cases hk : PN k s with
  | none => rw [hk] at h; cases h
  | some t =>
    rw [hk, Option.bind_some, Option.map_eq_some_iff] at h
    obtain ⟨u, h1, rfl⟩ := h
    obtain ⟨x, e1, e2, e3, e4, e5⟩ := PN_one_inv h1
    exact ⟨t.1, t.2, x, rfl, e1, e2, e3, e4, by rw [e5]⟩
theorem PN_rest {k : Nat} {s : List UInt8} {p : List UInt64 × List UInt8} (h : PN k s = some p) : p.2.length ≤ s.length := by
  induction k generalizing s p with
  | zero => injection h with h; subst h; exact Nat.le_refl _
  | succ k ih =>
    rw [PN] at h
    split at h
    · rw [Option.map_eq_some_iff] at h
      obtain ⟨p0, h1, rfl⟩ := h
      have := ih h1
      rw [List.length_drop] at this
      show p0.2.length ≤ _
      omega
    · cases h
theorem rtk_false (most : Nat) (s : List UInt8) : rtk most s false = (0, s, false) := by unfold rtk; rw [if_neg (by simp)]
theorem rfiles_false : ∀ (k : Nat) (s : List UInt8), (rfiles k (s, false)).2.2 = false
  | 0, s => rfl
  | k + 1, s => by
    have ih := rfiles_false k s
    rcases h : rfiles k (s, false) with ⟨a, b, o⟩
    rw [h] at ih
    (try dsimp only at ih)
    subst ih
    rw [rfiles, h]
    simp only [rtk_false]
theorem u64_natL {x : Nat} (h : x ≤ 281474976710656) : (UInt64.ofNat x).toNat = x := by
  rw [UInt64.toNat_ofNat_of_lt']; show x < 18446744073709551616; omega
theorem gI_here {l t : List UInt64} {x k : Nat} (hk : l.length = k) (hx : x ≤ 281474976710656) : gI (l ++ UInt64.ofNat x :: t) k = x := by
  unfold gI
  rw [List.getD, List.getElem?_append_right (by omega), hk, Nat.sub_self]
  exact u64_natL hx
theorem gI_left {l t : List UInt64} {k : Nat} (hk : k < l.length) : gI (l ++ t) k = gI l k := by
  unfold gI
  rw [List.getD, List.getD, List.getElem?_append_left hk]
theorem prs_left {l t : List UInt64} {k : Nat} (hk : 2 * k ≤ l.length) : prs (l ++ t) k = prs l k := by
  unfold prs
  apply List.map_congr_left
  intro i hi
  rw [List.mem_range] at hi
  rw [gI_left (by omega), gI_left (by omega)]
theorem rfiles_PN : ∀ (k : Nat) (s r : List UInt8) (add : List Fl), rfiles k (s, true) = (add, (r, true)) → ∃ l, PN (2 * k) s = some (l, r) ∧ add = prs l k
  | 0, s, r, add, h => by
    rw [rfiles] at h
    injection h with h1 h2
    injection h2 with h2 h3
    exact ⟨[], by rw [PN, h2], h1.symm⟩
  | k + 1, s, r, add, h => by
    rcases ht : rfiles k (s, true) with ⟨add0, st⟩
    obtain ⟨b, ok⟩ := st
    rw [rfiles, ht] at h
    (try dsimp only at h)
    rcases ha : rtk 3 b ok with ⟨lv, s1, o1⟩
    rw [ha] at h
    (try dsimp only at h)
    rcases hb : rtk 1073741824 s1 o1 with ⟨nu, s2, o2⟩
    rw [hb] at h
    (try dsimp only at h)
    injection h with h1 h2
    injection h2 with h2 h3
    subst h3; subst h2
    obtain ⟨rfl, b1, b2, b3, b4⟩ := rtk_ok hb
    obtain ⟨rfl, a1, a2, a3, a4⟩ := rtk_ok ha
    obtain ⟨l, hl, rfl⟩ := rfiles_PN k s b add0 ht
    have hlen := PN_len _ _ _ hl
    (try dsimp only at hlen)
    refine ⟨l ++ [UInt64.ofNat lv] ++ [UInt64.ofNat nu], PN_snoc (PN_snoc hl a1 a2 (by omega) a4) b1 b2 (by omega) b4, ?_⟩
    rw [← h1, prs_succ, List.append_assoc, prs_left (by omega)]
    have e1 : gI (l ++ ([UInt64.ofNat lv] ++ [UInt64.ofNat nu])) (2 * k) = lv := gI_here hlen (by omega)
    have e2 : gI (l ++ ([UInt64.ofNat lv] ++ [UInt64.ofNat nu])) (2 * k + 1) = nu := by
      rw [← List.append_assoc]; exact gI_here (by simp [hlen]) (by omega)
    rw [e1, e2]
theorem PN_rfiles : ∀ (k : Nat) (s r : List UInt8) (l : List UInt64), PN (2 * k) s = some (l, r) → (∀ f ∈ prs l k, fileOk f = true) → rfiles k (s, true) = (prs l k, (r, true))
  | 0, s, r, l, h, _ => by
    rw [PN] at h
    injection h with h
    injection h with h1 h2
    rw [rfiles, ← h2]; rfl
  | k + 1, s, r, l, h, hall => by
    obtain ⟨l1, s1, nu, h1, b1, b2, b3, b4, rfl⟩ := PN_snoc_inv (k := 2 * k + 1) (p := (l, r)) h
    obtain ⟨l0, s0, lv, h0, a1, a2, a3, a4, rfl⟩ := PN_snoc_inv (k := 2 * k) (p := (l1, s1)) h1
    have hlen := PN_len _ _ _ h0
    (try dsimp only at hlen a4 b4)
    have e1 : gI (l0 ++ [UInt64.ofNat lv] ++ [UInt64.ofNat nu]) (2 * k) = lv := by rw [List.append_assoc]; exact gI_here hlen a3
    have e2 : gI (l0 ++ [UInt64.ofNat lv] ++ [UInt64.ofNat nu]) (2 * k + 1) = nu := gI_here (by simp [hlen]) b3
    have e3 : prs (l0 ++ [UInt64.ofNat lv] ++ [UInt64.ofNat nu]) k = prs l0 k := by rw [List.append_assoc]; exact prs_left (by omega)
    rw [prs_succ, e1, e2, e3] at hall ⊢
    have ih := PN_rfiles k s s0 l0 h0 fun f hf => hall f (List.mem_append_left _ hf)
    have hb := fileOk_b (hall _ (List.mem_append_right _ List.mem_cons_self))
    (try dsimp only at hb)
    rw [rfiles, ih]
    have r1 : rtk 3 s0 true = (lv, s1, true) := rtk_is a1 a2 (by omega) a4
    have r2 : rtk 1073741824 s1 true = (nu, r, true) := rtk_is b1 b2 (by omega) b4
    simp only [r1, r2]
theorem minD_idD {q : List UInt64} (h : ∀ x ∈ q, x.toNat ≤ 1073741824) : q.map minD = q.map idD := by
  apply List.map_congr_left
  intro x hx
  have := h x hx
  unfold minD capN idD
  rw [if_neg (by omega)]
theorem minD_ok {q : List UInt64} (h : (q.map minD).all numOk = true) : ∀ x ∈ q, x.toNat ≤ 1073741824 := by
  intro x hx
  have h1 := List.all_eq_true.1 h (minD x) (List.mem_map_of_mem hx)
  have h2 := of_decide_eq_true h1
  unfold minD capN at h2
  by_cases h3 : 1073741825 < x.toNat
  · rw [if_pos h3] at h2; omega
  · rw [if_neg h3] at h2; omega
theorem mayE_parts {ds : List Int} {add : List Fl} {lg : Int} {f ce at_ le : Nat} (hm : mayE ds add lg f ce at_ le = true) : ds.all numOk = true ∧ (∀ x ∈ add, fileOk x = true) ∧ lg ≤ 1073741824 := by
  simp only [mayE, Bool.and_eq_true, decide_eq_true_eq] at hm
  obtain ⟨m1, m2, m3, m4, m5, m6, m7⟩ := hm
  exact ⟨m6, List.all_eq_true.1 m7, m4⟩
theorem readR_eq (bs : List UInt8) : readR bs = readE bs := by
  apply Option.ext
  intro e
  rcases hu : unlistL bs 40 with ⟨q, qa, qe⟩
  have hqa := unlistL_at bs 40
  rw [hu] at hqa
  (try dsimp only at hqa)
  constructor
  · intro h
    unfold readR at h
    rw [hu] at h
    (try dsimp only at h)
    by_cases h0 : qe = 0
    · rw [if_neg (by simp [h0])] at h
      by_cases h1 : (q.any fun x => decide (1073741824 < x.toNat)) = true
      · rw [if_pos h1] at h; cases h
      · rw [if_neg h1] at h
        by_cases h2 : (takeL (bs.drop qa)).2.2 ≠ 0 ∨ 40 < (takeL (bs.drop qa)).1
        · rw [if_pos h2] at h; cases h
        · rw [if_neg h2] at h
          have h2a : (takeL (bs.drop qa)).2.2 = 0 := by by_cases hx : (takeL (bs.drop qa)).2.2 = 0; exact hx; exact absurd (.inl hx) h2
          have h2b : (takeL (bs.drop qa)).1 ≤ 40 := by by_cases hx : 40 < (takeL (bs.drop qa)).1; exact absurd (.inr hx) h2; omega
          have hsz := takeL_ok h2a
          rw [List.length_drop] at hsz
          rw [rdGo_PN _ _ _ _ (by omega), ← List.drop_drop] at h
          obtain ⟨m, hm⟩ : ∃ m, m = (takeL (bs.drop qa)).1 := ⟨_, rfl⟩
          rw [← hm] at h h2b
          cases hP : PN (2 * m + 5) ((bs.drop qa).drop (takeL (bs.drop qa)).2.1) with
          | none => rw [hP] at h; cases h
          | some p =>
            rw [hP] at h
            obtain ⟨L, r⟩ := p
            simp only [Option.map_some, Option.bind_some, List.nil_append, endR] at h
            split at h
            · rename_i hc
              injection h with h
              obtain ⟨hc1, hc2⟩ := hc
              obtain ⟨l4, s4, x4, k4, a1, a2, a3, a4, e4⟩ := PN_snoc_inv (k := 2 * m + 4) hP
              obtain ⟨l3, s3, x3, k3, b1, b2, b3, b4, e3⟩ := PN_snoc_inv (k := 2 * m + 3) k4
              obtain ⟨l2, s2, x2, k2, c1, c2, c3, c4, e2⟩ := PN_snoc_inv (k := 2 * m + 2) k3
              obtain ⟨l1, s1, x1, k1, d1, d2, d3, d4, e1⟩ := PN_snoc_inv (k := 2 * m + 1) k2
              obtain ⟨l0, s0, x0, k0, f1, f2, f3, f4, e0⟩ := PN_snoc_inv (k := 2 * m) k1
              (try dsimp only at e4 e3 e2 e1 e0 a4 b4 c4 d4 f4)
              subst e0; subst e1; subst e2; subst e3; subst e4
              have hl0 := PN_len _ _ _ k0
              (try dsimp only at hl0)
              have g0 : gI (l0 ++ [UInt64.ofNat x0] ++ [UInt64.ofNat x1] ++ [UInt64.ofNat x2] ++ [UInt64.ofNat x3] ++ [UInt64.ofNat x4]) (2 * m) = x0 := by
                simp only [List.append_assoc]; exact gI_here hl0 f3
              have g1 : gI (l0 ++ [UInt64.ofNat x0] ++ [UInt64.ofNat x1] ++ [UInt64.ofNat x2] ++ [UInt64.ofNat x3] ++ [UInt64.ofNat x4]) (2 * m + 1) = x1 := by
                rw [List.append_assoc, List.append_assoc, List.append_assoc]; exact gI_here (by simp [hl0]) d3
              have g2 : gI (l0 ++ [UInt64.ofNat x0] ++ [UInt64.ofNat x1] ++ [UInt64.ofNat x2] ++ [UInt64.ofNat x3] ++ [UInt64.ofNat x4]) (2 * m + 2) = x2 := by
                rw [List.append_assoc, List.append_assoc]; exact gI_here (by simp [hl0]) c3
              have g3 : gI (l0 ++ [UInt64.ofNat x0] ++ [UInt64.ofNat x1] ++ [UInt64.ofNat x2] ++ [UInt64.ofNat x3] ++ [UInt64.ofNat x4]) (2 * m + 3) = x3 := by
                rw [List.append_assoc]; exact gI_here (by simp [hl0]) b3
              have g4 : gI (l0 ++ [UInt64.ofNat x0] ++ [UInt64.ofNat x1] ++ [UInt64.ofNat x2] ++ [UInt64.ofNat x3] ++ [UInt64.ofNat x4]) (2 * m + 4) = x4 := gI_here (by simp [hl0]) a3
              have gp : prs (l0 ++ [UInt64.ofNat x0] ++ [UInt64.ofNat x1] ++ [UInt64.ofNat x2] ++ [UInt64.ofNat x3] ++ [UInt64.ofNat x4]) m = prs l0 m := by
                simp only [List.append_assoc]; exact prs_left (by omega)
              rw [g0, g1, g2, g3, g4, gp] at hc2 h
              obtain ⟨y1, y2, y3⟩ := mayE_parts hc2
              have hqb : ∀ x ∈ q, x.toNat ≤ 1073741824 := by
                intro x hx
                by_cases hx2 : 1073741824 < x.toNat
                · exact absurd (List.any_eq_true.2 ⟨x, hx, by simpa using hx2⟩) h1
                · omega
              have hrf := PN_rfiles m _ _ _ k0 y2
              have hr40 : rtk 40 (bs.drop qa) true = (m, (bs.drop qa).drop (takeL (bs.drop qa)).2.1, true) := rtk_is h2a hm.symm h2b rfl
              have hr0 : rtk 1073741824 s0 true = (x0, s1, true) := rtk_is f1 f2 (by omega) f4
              have hr1 : rtk 281474976710656 s1 true = (x1, s2, true) := rtk_is d1 d2 d3 d4
              have hr2 : rtk 281474976710656 s2 true = (x2, s3, true) := rtk_is c1 c2 c3 c4
              have hr3 : rtk 281474976710656 s3 true = (x3, s4, true) := rtk_is b1 b2 b3 b4
              have hr4 : rtk 281474976710656 s4 true = (x4, r, true) := rtk_is a1 a2 a3 a4
              have hr : r = [] := by
                apply List.eq_nil_of_length_eq_zero
                have := PN_rest hP
                (try dsimp only at this hc1)
                simp only [List.length_drop] at this
                omega
              unfold readE
              simp only [hu, hr40, hrf, hr0, hr1, hr2, hr3, hr4]
              rw [if_pos ⟨h0, by first | rfl | trivial, hr, by rw [minD_idD hqb]; exact hc2⟩, minD_idD hqb]
              exact congrArg some h
            · cases h
    · rw [if_pos h0] at h; cases h
  · intro h
    unfold readE at h
    rw [hu] at h
    (try dsimp only at h)
    rcases hr40 : rtk 40 (bs.drop qa) true with ⟨m, b0, o0⟩
    rw [hr40] at h
    (try dsimp only at h)
    rcases hrf : rfiles m (b0, o0) with ⟨add, st⟩
    obtain ⟨s0, o0'⟩ := st
    rw [hrf] at h
    (try dsimp only at h)
    rcases hr0 : rtk 1073741824 s0 o0' with ⟨x0, s1, o1⟩
    rw [hr0] at h
    (try dsimp only at h)
    rcases hr1 : rtk 281474976710656 s1 o1 with ⟨x1, s2, o2⟩
    rw [hr1] at h
    (try dsimp only at h)
    rcases hr2 : rtk 281474976710656 s2 o2 with ⟨x2, s3, o3⟩
    rw [hr2] at h
    (try dsimp only at h)
    rcases hr3 : rtk 281474976710656 s3 o3 with ⟨x3, s4, o4⟩
    rw [hr3] at h
    (try dsimp only at h)
    rcases hr4 : rtk 281474976710656 s4 o4 with ⟨x4, r, o5⟩
    rw [hr4] at h
    (try dsimp only at h)
    split at h
    · rename_i hc
      obtain ⟨rfl, rfl, rfl, hc2⟩ := hc
      injection h with h
      obtain ⟨rfl, a1, a2, a3, a4⟩ := rtk_ok hr4
      obtain ⟨rfl, b1, b2, b3, b4⟩ := rtk_ok hr3
      obtain ⟨rfl, c1, c2, c3, c4⟩ := rtk_ok hr2
      obtain ⟨rfl, d1, d2, d3, d4⟩ := rtk_ok hr1
      obtain ⟨rfl, f1, f2, f3, f4⟩ := rtk_ok hr0
      have ho0 : o0 = true := by
        cases o0
        · have h9 := rfiles_false m b0
          rw [hrf] at h9
          cases h9
        · rfl
      subst ho0
      obtain ⟨-, z1, z2, z3, z4⟩ := rtk_ok hr40
      obtain ⟨l0, k0, rfl⟩ := rfiles_PN m b0 s0 add hrf
      have hl0 := PN_len _ _ _ k0
      (try dsimp only at hl0)
      have k5 := PN_snoc (PN_snoc (PN_snoc (PN_snoc (PN_snoc k0 f1 f2 (by omega) f4) d1 d2 d3 d4) c1 c2 c3 c4) b1 b2 b3 b4) a1 a2 a3 a4
      have g0 : gI (l0 ++ [UInt64.ofNat x0] ++ [UInt64.ofNat x1] ++ [UInt64.ofNat x2] ++ [UInt64.ofNat x3] ++ [UInt64.ofNat x4]) (2 * m) = x0 := by
        simp only [List.append_assoc]; exact gI_here hl0 (by omega)
      have g1 : gI (l0 ++ [UInt64.ofNat x0] ++ [UInt64.ofNat x1] ++ [UInt64.ofNat x2] ++ [UInt64.ofNat x3] ++ [UInt64.ofNat x4]) (2 * m + 1) = x1 := by
        rw [List.append_assoc, List.append_assoc, List.append_assoc]; exact gI_here (by simp [hl0]) d3
      have g2 : gI (l0 ++ [UInt64.ofNat x0] ++ [UInt64.ofNat x1] ++ [UInt64.ofNat x2] ++ [UInt64.ofNat x3] ++ [UInt64.ofNat x4]) (2 * m + 2) = x2 := by
        rw [List.append_assoc, List.append_assoc]; exact gI_here (by simp [hl0]) c3
      have g3 : gI (l0 ++ [UInt64.ofNat x0] ++ [UInt64.ofNat x1] ++ [UInt64.ofNat x2] ++ [UInt64.ofNat x3] ++ [UInt64.ofNat x4]) (2 * m + 3) = x3 := by
        rw [List.append_assoc]; exact gI_here (by simp [hl0]) b3
      have g4 : gI (l0 ++ [UInt64.ofNat x0] ++ [UInt64.ofNat x1] ++ [UInt64.ofNat x2] ++ [UInt64.ofNat x3] ++ [UInt64.ofNat x4]) (2 * m + 4) = x4 := gI_here (by simp [hl0]) a3
      have gp : prs (l0 ++ [UInt64.ofNat x0] ++ [UInt64.ofNat x1] ++ [UInt64.ofNat x2] ++ [UInt64.ofNat x3] ++ [UInt64.ofNat x4]) m = prs l0 m := by
        simp only [List.append_assoc]; exact prs_left (by omega)
      obtain ⟨y1, y2, y3⟩ := mayE_parts hc2
      have hqb := minD_ok y1
      rw [minD_idD hqb] at hc2 h
      have hsz := takeL_ok z1
      rw [List.length_drop] at hsz
      unfold readR
      rw [hu]
      (try dsimp only)
      rw [if_neg (by simp), if_neg (by
        intro hx
        obtain ⟨x, hx1, hx2⟩ := List.any_eq_true.1 hx
        have := hqb x hx1
        simp only [decide_eq_true_eq] at hx2
        omega), if_neg (by rw [z2]; rintro (hx | hx); exact hx z1; omega), rdGo_PN _ _ _ _ (by omega), ← List.drop_drop, z2, ← z4, k5]
      simp only [Option.map_some, Option.bind_some, List.nil_append, endR]
      rw [g0, g1, g2, g3, g4, gp, if_pos ⟨by simp, hc2⟩]
      exact congrArg some h
    · cases h
end Go.Proofs.Ytokcaoaclheiiaa

/-
  The walk of clepsydraref1.Unframe.
-/
namespace Go.Proofs.Ytokcaoaclheiiaa
open Go.RowKit
set_option linter.unusedVariables false
set_option linter.unusedSimpArgs false

theorem tx_cut (l : List UInt8) (a b : Nat) : (tx l).extract a b = tx ((l.drop a).take (b - a)) := tx_of (by
  rw [ByteArray.data_extract, Array.toList_extract, List.extract_eq_take_drop, tx_list])
/-- what Unframe comes to: shut to the walk -/
def UnPost (r : List UInt8) (k : Nat) (w : World) (e : Ending) (w' : World) : Prop :=
  e = .returned (.tuple #[.int .i64 ((takeR r).2.1 : Int), .string (tx (takeR r).2.2.1), .int .i64 (if (takeR r).1 = 0 then (k : Int) + (takeR r).2.2.2 else 0), .int .i64 ((takeR r).1 : Int)]) ∧ Up w w'
theorem UnPost.bad {r : List UInt8} {k E : Nat} {w w' : World} (h : takeR r = (E, 0, [], 0)) (hE : E ≠ 0) (hu : Up w w') : UnPost r k w (.returned (.tuple #[.int .i64 0, .string (ByteArray.mk #[]), .int .i64 0, .int .i64 (E : Int)])) w' := by
  unfold UnPost
  rw [h, if_neg hE]
  exact ⟨rfl, hu⟩
set_option maxRecDepth 100000 in
set_option maxHeartbeats 800000 in
theorem unframe_core (l : List UInt8) (k : Nat) (w : World) (hl : l.length ≤ 549755813888) (hk : k ≤ l.length) :
    Calls Try.prog 49 #[.string (tx l), .int .i64 (k : Int)] w (UnPost (l.drop k) k w) := by
  have hz : (tx l).size = l.length := tx_size l
  have hrl : (l.drop k).length = l.length - k := List.length_drop
  have hcut := tx_cut l
  generalize hn : l.length = n at *
  generalize hr : l.drop k = r at *
  have HR := Lib.hid hr
  have HL := Lib.hid hrl
  have HN := Lib.hid hn
  clear hr hrl hn
  have g0 : decide ((k : Int) < 0) = false := by simp
  have g1 : decide ((n : Int) < (k : Int)) = false := by simp; omega
  have g2 : ¬ (n : Int) < (k : Int) := by omega
  by_cases h8 : n - k < 8
  · have hv : takeR r = (4, 0, [], 0) := by unfold takeR; rw [if_pos (by rw [HL.out]; exact h8)]
    have HV := Lib.hid hv
    clear hv
    have g3 : (n : Int) - k < 8 := by omega
    go_enter Try.func49, Try.ntmps49
    go_wp2_with fail
    refine bodyPost_ret (v := .tuple #[.int .i64 0, .string (ByteArray.mk #[]), .int .i64 0, .int .i64 4]) (by simp [results, Try.results49, go_sem]) rfl ?_
    exact .bad (E := 4) HV.out (by omega) (Up.refl _)
  · have g3 : ¬ (n : Int) - k < 8 := by omega
    have g4 : decide ((n : Int) - k < 8) = false := by simp; omega
    have hx8 : (tx l).extract k (k + 8) = tx (r.take 8) := by rw [hcut, HR.out, Nat.add_sub_cancel_left]
    have q1 : (k : Int) + 8 ≤ (n : Int) := by omega
    have q2 : ((k : Int) + 8).toNat = k + 8 := by omega
    have q3 : (k : Int) ≤ (k : Int) + 8 := by omega
    have HX := Lib.hid hx8
    clear hx8
    by_cases hE : openE (r.take 8) = 0
    · have hL : openL (r.take 8) = r.take 4 := by
        have hl8 : (r.take 8).length - 4 = 4 := by rw [List.length_take, HL.out]; omega
        unfold openL; rw [if_pos hE, hl8, List.take_take]; rfl
      have hb0 : (r.getD 0 0).toNat < 256 := (r.getD 0 0).toNat_lt
      have hb1 : (r.getD 1 0).toNat < 256 := (r.getD 1 0).toNat_lt
      have hb2 : (r.getD 2 0).toNat < 256 := (r.getD 2 0).toNat_lt
      have hb3 : (r.getD 3 0).toNat < 256 := (r.getD 3 0).toNat_lt
      have hT : takeR r = if (r.getD 0 0).toNat < 1 ∨ 100 < (r.getD 0 0).toNat ∨ 60000 < headN r then (3, 0, [], 0)
          else if r.length - 8 < headN r + 4 then (4, 0, [], 0)
          else if openE ((r.drop 8).take (headN r + 4)) ≠ 0 then (openE ((r.drop 8).take (headN r + 4)), 0, [], 0)
          else (0, (r.getD 0 0).toNat, (r.drop 8).take (headN r), headN r + 12) := by
        conv => lhs; unfold takeR
        rw [if_neg (by rw [HL.out]; exact h8), if_neg (by simpa using hE)]
      have hh : headN r = (r.getD 1 0).toNat * 65536 + (r.getD 2 0).toNat * 256 + (r.getD 3 0).toNat := rfl
      rw [hh, HL.out] at hT
      have hl8 : (r.drop 8).length = n - k - 8 := by rw [List.length_drop, HL.out]
      have hd8 : ∀ N, (tx l).extract (k + 8) (k + 12 + N) = tx ((r.drop 8).take (N + 4)) := fun N => by
        rw [hcut, ← HR.out, List.drop_drop, show k + 12 + N - (k + 8) = N + 4 by omega]
      have ht4 : (tx (r.take 4)).size = 4 := by rw [tx_size, List.length_take, HL.out]; omega
      have hbs : ∀ j, j < 4 → ∀ h, (tx (r.take 4))[j]'h = r.getD j 0 := fun j hj h => by
        rw [getD_str (tx_list _) h, take_getD r hj]
      have HE := Lib.hid hE
      have HO := Lib.hid hL
      have HT := Lib.hid hT
      have HL8 := Lib.hid hl8
      have HD8 := Lib.hid hd8
      have HBS := Lib.hid hbs
      clear hL hE hT hh hl8 hd8 hcut hbs
      go_enter Try.func49, Try.ntmps49
      go_wp2_with fail
      rw [HX.out]
      refine (ropen_any (r.take 8) w (by rw [List.length_take]; omega)).mono ?_
      rintro e w1 ⟨rfl, hu1⟩
      rw [HO.out, HE.out]
      generalize r.take 4 = r4 at *
      have i0 := HBS.out 0 (by omega) (by omega)
      have i1 := HBS.out 1 (by omega) (by omega)
      have i2 := HBS.out 2 (by omega) (by omega)
      have i3 := HBS.out 3 (by omega) (by omega)
      generalize r.getD 0 0 = y0 at *
      generalize r.getD 1 0 = y1 at *
      generalize r.getD 2 0 = y2 at *
      generalize r.getD 3 0 = y3 at *
      go_wp2_with fail
      generalize hy0 : y0.toNat = x0 at *
      generalize hy1 : y1.toNat = x1 at *
      generalize hy2 : y2.toNat = x2 at *
      generalize hy3 : y3.toNat = x3 at *
      have v0 : IntKind.i64.wrap (x0 : Int) = x0 := IntWalk.i64_in _ (by omega)
      have v1 : IntKind.i64.wrap (x1 : Int) = x1 := IntWalk.i64_in _ (by omega)
      have v2 : IntKind.i64.wrap (x2 : Int) = x2 := IntWalk.i64_in _ (by omega)
      have v3 : IntKind.i64.wrap (x3 : Int) = x3 := IntWalk.i64_in _ (by omega)
      have v4 : IntKind.i64.wrap ((x1 : Int) * 65536) = (x1 : Int) * 65536 := IntWalk.i64_in _ (by omega)
      have v5 : IntKind.i64.wrap ((x2 : Int) * 256) = (x2 : Int) * 256 := IntWalk.i64_in _ (by omega)
      have v6 := or_head x1 x2 x3 hb1 hb2 hb3
      have hNb : x1 * 65536 + x2 * 256 + x3 < 16777216 := by omega
      generalize hN : x1 * 65536 + x2 * 256 + x3 = N at v6 hNb
      have hT := HT.out
      rw [hN] at hT
      have HT2 := Lib.hid hT
      have HD := Lib.hid (HD8.out N)
      clear hN hT HT HD8 HBS
      apply Rg.region_up (fun W => Up w1 W) (by kernel_rfl) (by kernel_rfl) (fun w1 h => h)
      · intro QN hQN
        iterate 14 (apply Rg.RK.ok; (· intro vs w1 hS; go_simp; with_reducible rfl); (· rfl); simp only [Act.put, List.setIfInBounds_toArray, List.set_cons_zero, List.set_cons_succ, Nat.reduceAdd])
        apply Rg.RK.fin []
        intro vs w1 hK hS _
        refine hQN.out _ _ ?_
        clear hQN
        have hu2 := hu1.trans (keeps_up hK)
        clear v1 v2 v3 v4 v5 v6 i1 i2 i3 hy1 hy2 hy3 hS hK
        by_cases hbad : x0 < 1 ∨ 100 < x0 ∨ 60000 < N
        · have hv : takeR r = (3, 0, [], 0) := by rw [HT2.out, if_pos hbad]
          have hpe : putE (x0 : Int) N ≠ 0 := by unfold putE; split; simp; split; simp; omega
          have HV := Lib.hid hv
          clear hv
          go_wp2_with fail
          refine (frameok_any (x0 : Int) N _ (by omega)).mono ?_
          rintro e w2 ⟨rfl, rfl⟩
          generalize putE (x0 : Int) N = E3 at *
          have hE3 : ¬ (E3 : Int) = 0 := by omega
          go_wp2_with fail
          refine bodyPost_ret (v := .tuple #[.int .i64 0, .string (ByteArray.mk #[]), .int .i64 0, .int .i64 3]) (by simp [results, Try.results49, go_sem]) rfl ?_
          exact .bad (E := 3) HV.out (by omega) hu2
        · have hpe : putE (x0 : Int) N = 0 := by unfold putE; rw [if_neg (by omega), if_neg (by omega)]
          have HP := Lib.hid hpe
          have hN6 : N ≤ 60000 := by omega
          clear hpe
          by_cases hx4 : n - k - 8 < N + 4
          · have hv : takeR r = (4, 0, [], 0) := by rw [HT2.out, if_neg hbad, if_pos hx4]
            have HV := Lib.hid hv
            clear hv
            have g6 : (n : Int) - k - 8 < N + 4 := by omega
            go_wp2_with fail
            refine (frameok_any (x0 : Int) N _ (by omega)).mono ?_
            rintro e w2 ⟨rfl, rfl⟩
            rw [HP.out]
            go_wp2_with fail
            refine bodyPost_ret (v := .tuple #[.int .i64 0, .string (ByteArray.mk #[]), .int .i64 0, .int .i64 4]) (by simp [results, Try.results49, go_sem]) rfl ?_
            exact .bad (E := 4) HV.out (by omega) hu2
          · have g6 : ¬ (n : Int) - k - 8 < N + 4 := by omega
            have q4 : ((k : Int) + 12 + N).toNat = k + 12 + N := by omega
            have q5 : (k : Int) + 8 ≤ (k : Int) + 12 + N := by omega
            have q6 : (k : Int) + 12 + N ≤ (n : Int) := by omega
            have q7 : (0 : Int) ≤ (k : Int) + 8 := by omega
            have hlen5 : ((r.drop 8).take (N + 4)).length = N + 4 := by rw [List.length_take, HL8.out]; omega
            by_cases hx5 : openE ((r.drop 8).take (N + 4)) = 0
            · have hv : takeR r = (0, x0, (r.drop 8).take N, N + 12) := by rw [HT2.out, if_neg hbad, if_neg hx4, if_neg (by simpa using hx5)]
              have hL5 : openL ((r.drop 8).take (N + 4)) = (r.drop 8).take N := by
                unfold openL; rw [if_pos hx5, hlen5, List.take_take, Nat.min_eq_left (by omega)]; simp
              have HV := Lib.hid hv
              have H5 := Lib.hid hx5
              have HL5 := Lib.hid hL5
              have H6 := Lib.hid hlen5
              clear hv hx5 hL5 hlen5
              go_wp2_with fail
              refine (frameok_any (x0 : Int) N _ (by omega)).mono ?_
              rintro e w2 ⟨rfl, rfl⟩
              rw [HP.out]
              go_wp2_with fail
              rw [HD.out]
              refine (ropen_any _ w1 (by rw [H6.out]; omega)).mono ?_
              rintro e w3 ⟨rfl, hu3⟩
              rw [HL5.out, H5.out]
              go_wp2_with fail
              refine bodyPost_ret (v := .tuple #[.int .i64 (x0 : Int), .string (tx ((r.drop 8).take N)), .int .i64 ((k : Int) + 12 + N), .int .i64 0]) (by simp [results, Try.results49, go_sem]) rfl ?_
              unfold UnPost
              rw [HV.out]
              have e12 : (k : Int) + 12 + N = (k : Int) + ((N + 12 : Nat) : Int) := by omega
              rw [e12]
              exact ⟨rfl, hu2.trans hu3⟩
            · have hv : takeR r = (openE ((r.drop 8).take (N + 4)), 0, [], 0) := by rw [HT2.out, if_neg hbad, if_neg hx4, if_pos hx5]
              have HV := Lib.hid hv
              have H6 := Lib.hid hlen5
              clear hv hlen5
              go_wp2_with fail
              refine (frameok_any (x0 : Int) N _ (by omega)).mono ?_
              rintro e w2 ⟨rfl, rfl⟩
              rw [HP.out]
              go_wp2_with fail
              rw [HD.out]
              refine (ropen_any _ w1 (by rw [H6.out]; omega)).mono ?_
              rintro e w3 ⟨rfl, hu3⟩
              generalize openE ((r.drop 8).take (N + 4)) = E5 at *
              have hE5 : ¬ (E5 : Int) = 0 := by omega
              go_wp2_with fail
              refine bodyPost_ret (v := .tuple #[.int .i64 0, .string (ByteArray.mk #[]), .int .i64 0, .int .i64 (E5 : Int)]) (by simp [results, Try.results49, go_sem]) rfl ?_
              exact .bad HV.out hx5 (hu2.trans hu3)
      · kernel_rfl
    · have hv : takeR r = (openE (r.take 8), 0, [], 0) := by unfold takeR; rw [if_neg (by rw [HL.out]; exact h8), if_pos hE]
      have HV := Lib.hid hv
      clear hv hcut
      go_enter Try.func49, Try.ntmps49
      go_wp2_with fail
      rw [HX.out]
      refine (ropen_any (r.take 8) w (by rw [List.length_take]; omega)).mono ?_
      rintro e w1 ⟨rfl, hu1⟩
      generalize openE (r.take 8) = E5 at *
      have hE5 : ¬ (E5 : Int) = 0 := by omega
      go_wp2_with fail
      refine bodyPost_ret (v := .tuple #[.int .i64 0, .string (ByteArray.mk #[]), .int .i64 0, .int .i64 (E5 : Int)]) (by simp [results, Try.results49, go_sem]) rfl ?_
      exact .bad HV.out hE hu1
set_option maxRecDepth 100000 in
set_option maxHeartbeats 800000 in
theorem unframe_any (l : List UInt8) (at_ : Int) (w : World) (hl : l.length ≤ 549755813888) :
    Calls Try.prog 49 #[.string (tx l), .int .i64 at_] w fun e w' => e = .returned (.tuple #[.int .i64 ((takeF l at_).2.1 : Int), .string (tx (takeF l at_).2.2.1), .int .i64 (takeF l at_).2.2.2, .int .i64 ((takeF l at_).1 : Int)]) ∧ Up w w' := by
  by_cases h0 : at_ < 0 ∨ (l.length : Int) < at_
  · have hv : takeF l at_ = (1, 0, [], 0) := by unfold takeF; rw [if_pos h0]
    have HV := Lib.hid hv
    have hz : (tx l).size = l.length := tx_size l
    clear hv
    rcases h0 with h0 | h0
    · go_enter Try.func49, Try.ntmps49
      go_wp2_with fail
      refine bodyPost_ret (v := .tuple #[.int .i64 0, .string (ByteArray.mk #[]), .int .i64 0, .int .i64 1]) (by simp [results, Try.results49, go_sem]) rfl ?_
      rw [HV.out]
      exact ⟨rfl, Up.refl _⟩
    · have h1 : ¬ at_ < 0 := by omega
      have hd1 : decide (at_ < 0) = false := by simp; omega
      go_enter Try.func49, Try.ntmps49
      go_wp2_with fail
      refine bodyPost_ret (v := .tuple #[.int .i64 0, .string (ByteArray.mk #[]), .int .i64 0, .int .i64 1]) (by simp [results, Try.results49, go_sem]) rfl ?_
      rw [HV.out]
      exact ⟨rfl, Up.refl _⟩
  · obtain ⟨k, rfl⟩ := Int.eq_ofNat_of_zero_le (show 0 ≤ at_ by omega)
    have hv : takeF l (k : Int) = ((takeR (l.drop k)).1, (takeR (l.drop k)).2.1, (takeR (l.drop k)).2.2.1, if (takeR (l.drop k)).1 = 0 then (k : Int) + (takeR (l.drop k)).2.2.2 else 0) := by
      unfold takeF; rw [if_neg h0]; rfl
    rw [hv]
    exact unframe_core l k w hl (by omega)
end Go.Proofs.Ytokcaoaclheiiaa

/-
  The walk of the document's ReplayEdits.
-/
namespace Go.Proofs.Ytokcaoaclheiiaa
open Go.RowKit
set_option linter.unusedVariables false
set_option linter.unusedSimpArgs false

def stepC (s : VT × Nat) (k : Nat) (b : List UInt8) : Option (VT × Nat) := (stepV s.1 k b).map fun v => (v, s.2 + 1)
def rreplP (bs : List UInt8) : Option (VT × Nat) :=
  match seqF stepC bs (bs.length + 1) 0 (v0, 0) with
  | none => none
  | some x => if x.1.2 = 0 then none else some (x.1.1, x.2)
theorem fold_count : ∀ (ks : List Nat) (bs : List (List UInt8)) (v : VT) (m : Nat), ks.length = bs.length → foldF stepC (v, m) ks bs = (foldF stepV v ks bs).map fun u => (u, m + bs.length)
  | [], [], v, m, _ => rfl
  | k :: ks, b :: bs, v, m, h => by
    unfold foldF
    have hc : stepC (v, m) k b = (stepV v k b).map fun u => (u, m + 1) := rfl
    rw [hc]
    cases stepV v k b with
    | none => rfl
    | some u =>
      simp only [Option.map_some]
      rw [fold_count ks bs u (m + 1) (by simpa using h)]
      congr 1
      funext u
      simp only [List.length_cons]
      rw [show m + 1 + bs.length = m + (bs.length + 1) by omega]
theorem rrepl_eq (bs : List UInt8) : rreplP bs = replP bs := by
  have h := seq_split stepC bs (bs.length + 1) 0 (v0, 0)
  have hs : splitG bs (bs.length + 1) 0 [] [] = splitL bs := rfl
  rw [hs] at h
  have hl := (splitL_lens bs).1
  unfold rreplP replP viewsP
  rw [h]
  by_cases h1 : (splitL bs).2.2.2 = 0 ∨ (splitL bs).2.2.2 = 4
  · rw [if_pos h1, fold_count _ _ _ _ hl]
    by_cases h2 : (splitL bs).2.1.length = 0
    · rw [if_pos (.inr h2)]
      cases foldF stepV v0 (splitL bs).1 (splitL bs).2.1 with
      | none => rfl
      | some u => simp [h2]
    · rw [if_neg (by omega)]
      cases foldF stepV v0 (splitL bs).1 (splitL bs).2.1 with
      | none => rfl
      | some u => simp; intro h3; exact absurd (by rw [h3]; rfl) h2
  · rw [if_neg h1, if_pos (.inl (by omega))]; rfl
def RReplPost (r : Option (VT × Nat)) (w : World) (e : Ending) (w' : World) : Prop :=
  match r with
  | none => e = .returned (.tuple #[.agg #[.int .i64 0, .slice none 0 0, .int .u64 0, .int .u64 0, .int .u64 0, .int .u64 0], .int .i64 0, .int .i64 9]) ∧ Up w w'
  | some x => ∃ R rn rc, e = .returned (.tuple #[.agg (vcs x.1 R rn rc), .int .i64 (x.2 : Int), .int .i64 0]) ∧ Rd w' w'.heap.size 2 R rn (fvs x.1.2.1) ∧ rn ≤ rc ∧ rn ≤ 40 ∧ Up w w'
theorem takeF_nat {l : List UInt8} {k : Nat} (h : k ≤ l.length) : takeF l (k : Int) = ((takeR (l.drop k)).1, (takeR (l.drop k)).2.1, (takeR (l.drop k)).2.2.1, if (takeR (l.drop k)).1 = 0 then (((k + (takeR (l.drop k)).2.2.2 : Nat)) : Int) else 0) := by
  unfold takeF
  rw [if_neg (by omega)]
  simp
theorem seqF_step {σ : Type} (step : σ → Nat → List UInt8 → Option σ) (l : List UInt8) {f k : Nat} {s : σ} (h : k < l.length) : seqF step l (f + 1) k s = (if (takeR (l.drop k)).1 = 0 then (match step s (takeR (l.drop k)).2.1 (takeR (l.drop k)).2.2.1 with | none => none | some s' => seqF step l f (k + (takeR (l.drop k)).2.2.2) s') else if (takeR (l.drop k)).1 = 4 then some (s, k) else none) := by
  conv => lhs; unfold seqF
  rw [if_pos h]
  rfl
theorem seqF_stop {σ : Type} (step : σ → Nat → List UInt8 → Option σ) (l : List UInt8) {f k : Nat} {s : σ} (h : ¬ k < l.length) : seqF step l f k s = some (s, k) := by
  cases f with
  | zero => rfl
  | succ f => unfold seqF; rw [if_neg h]
set_option maxRecDepth 100000 in
set_option maxHeartbeats 6400000 in
theorem rreplay_any (bs : List UInt8) (w : World) (hn : bs.length ≤ 549755813888) :
    Calls Try.prog 25 #[.string (tx bs)] w (RReplPost (rreplP bs) w) := by
  obtain ⟨w1, hw1⟩ : ∃ w1, w1 = (w.alloc (.cells #[.int .i64 0, .slice none 0 0, .int .u64 0, .int .u64 0, .int .u64 0, .int .u64 0] 27)).alloc (.cells #[.int .i64 0, .slice none 0 0, .int .u64 0, .int .u64 0, .int .u64 0, .int .u64 0] 27) := ⟨_, rfl⟩
  have hup1 : Up w w1 := by rw [hw1]; exact ((Up.refl w).alloc _).alloc _
  have hg1 : w1.heap[w.heap.size]? = some (.cells #[.int .i64 0, .slice none 0 0, .int .u64 0, .int .u64 0, .int .u64 0, .int .u64 0] 27 (0, 0)) := by rw [hw1, Below.heap_alloc _ _ _ (by simp)]; exact heap_alloc_new w _
  have hg1b : w1.heap[w.heap.size + 1]? = some (.cells #[.int .i64 0, .slice none 0 0, .int .u64 0, .int .u64 0, .int .u64 0, .int .u64 0] 27 (0, 0)) := by
    rw [hw1]
    have h := heap_alloc_new (w.alloc (.cells #[.int .i64 0, .slice none 0 0, .int .u64 0, .int .u64 0, .int .u64 0, .int .u64 0] 27)) (.cells #[.int .i64 0, .slice none 0 0, .int .u64 0, .int .u64 0, .int .u64 0, .int .u64 0] 27)
    rwa [World.size_alloc] at h
  have HW := Lib.hid hw1
  clear hw1
  have hz : (tx bs).size = bs.length := tx_size bs
  go_enter Try.func25, Try.ntmps25
  go_wp2_with fail
  rw [← HW.out]
  clear HW
  have hg3E : w.heap.size < w.heap.size + 1 := by omega
  generalize hg3 : w.heap.size + 1 = g3 at *
  have hgw : w.heap.size ≤ w.heap.size := Nat.le_refl _
  generalize hg2 : w.heap.size = g2 at hg1 hg3E ⊢
  have hgw : w.heap.size ≤ g2 := Nat.le_of_eq hg2
  have hgw3 : w.heap.size ≤ g3 := by omega
  clear hg2 hg3
  obtain ⟨N, hN⟩ : ∃ N, N = bs.length := ⟨_, rfl⟩
  rw [← hN] at hz hn
  have HN := Lib.hid hN
  clear hN
  go_loopw [6, 7] (fun av cv wr => ∃ (k m : Nat) (v : VT) (A6 : Option Addr) (n6 c6 : Nat), av = .int .i64 (k : Int) ∧ cv = .int .i64 (m : Int) ∧ k ≤ N ∧ m ≤ k ∧ VW g3 v A6 n6 c6 wr ∧ wr.heap[g2]? = some (.cells #[.int .i64 0, .slice none 0 0, .int .u64 0, .int .u64 0, .int .u64 0, .int .u64 0] 27 (0, 0)) ∧ Hid (∃ f, N - k < f ∧ seqF stepC bs f k (v, m) = seqF stepC bs (bs.length + 1) 0 (v0, 0)) ∧ Up w wr) (fun av _ _ => N - (intOf av).toNat)
  case atStart => exact ⟨0, 0, v0, none, 0, 0, rfl, rfl, by omega, by omega, ⟨hg1b, Rd.empty, by omega, by omega, fun a ha => by cases ha⟩, hg1, ⟨bs.length + 1, by have := HN.out; omega, rfl⟩, hup1⟩
  case round =>
    obtain ⟨k, m, v, A6, n6, c6, rfl, rfl, hk, hm, hv, hb2, hsq, hup⟩ := hrel
    obtain ⟨lg, l, f, ce, at_, le⟩ := v
    by_cases hkN : k < N
    · have hkl : k < bs.length := by rw [← HN.out]; exact hkN
      have hkNi : (k : Int) < (N : Int) := by omega
      have htf := takeF_nat (l := bs) (k := k) (by omega)
      obtain ⟨fu, hfu, hsq2⟩ := hsq.out
      obtain ⟨fu', rfl⟩ : ∃ q, fu = q + 1 := ⟨fu - 1, by omega⟩
      rw [seqF_step stepC bs hkl] at hsq2
      have hok := @takeR_ok (bs.drop k)
      have hbb := takeR_bl (bs.drop k)
      rw [List.length_drop] at hbb hok
      obtain ⟨E, K, bd, nx, hT⟩ : ∃ a b c d, takeR (bs.drop k) = (a, b, c, d) := ⟨_, _, _, _, rfl⟩
      rw [hT] at htf hsq2 hok hbb
      (try dsimp only at htf hsq2 hok hbb)
      have HTF := Lib.hid htf
      have HSQ := Lib.hid hsq2
      have HOK := Lib.hid hok
      have hbdn : bd.length ≤ 549755813888 := by have := HN.out; omega
      clear htf hsq2 hok hbb hT hkl hsq
      go_wp2_with fail
      refine (unframe_any bs (k : Int) wr (by rw [← HN.out]; exact hn)).mono ?_
      rintro e w3 ⟨rfl, hu3⟩
      rw [HTF.out]
      (try dsimp only)
      have hv3 := hv.up hu3
      have hb3 := blk_upE hu3 hb2
      have hup3 := hup.trans hu3
      clear hv hb2 hup hu3
      by_cases hE4 : E = 4
      · subst hE4
        have hres : seqF stepC bs (bs.length + 1) 0 (v0, 0) = some (((lg, l, f, ce, at_, le), m), k) := by
          rw [← HSQ.out, if_neg (by decide), if_pos rfl]
        have HRES := Lib.hid hres
        clear hres HSQ HOK HTF
        by_cases hm0 : m = 0
        · subst hm0
          have HBAD : Hid (rreplP bs = none) := by show _ = _; unfold rreplP; rw [HRES.out]; rfl
          clear HRES
          go_wp2_with (first
            | (with_reducible show wpList _ _ _ (⟨none, .store 27 _ _, _, _, _, none⟩ :: _) _ _
               refine wpList_store_all rfl 27 _ _ rfl (g := g2) (cells := #[.int .i64 0, .slice none 0 0, .int .u64 0, .int .u64 0, .int .u64 0, .int .u64 0]) rfl (by kernel_rfl) hb3 view_info6 rfl (by simp [Value.oneCell']) ?_
               intro w9 hgd hbut
               have hup9 := But.up hup3 hbut hgw
               clear hbut))
          have t0 := blk_cell hgd 0
          have t1 := blk_cell hgd 1
          have t2 := blk_cell hgd 2
          have t3 := blk_cell hgd 3
          have t4 := blk_cell hgd 4
          have t5 := blk_cell hgd 5
          refine bodyPost_ret (v := .tuple #[.agg #[.int .i64 0, .slice none 0 0, .int .u64 0, .int .u64 0, .int .u64 0, .int .u64 0], .int .i64 0, .int .i64 9]) (by simp [results, Try.results25, go_sem, t0, t1, t2, t3, t4, t5]) rfl ?_
          rw [HBAD.out]
          exact ⟨rfl, hup9⟩
        · have dm : ((m : Int) == 0) = false := by rw [beq_eq_false_iff_ne]; omega
          have HR : Hid (rreplP bs = some ((lg, l, f, ce, at_, le), k)) := by show _ = _; unfold rreplP; rw [HRES.out]; simp only []; rw [if_neg hm0]
          clear HRES
          have hnc6 := (hv3).nc
          have hle6 := (hv3).le
          have hrd6 := (hv3).rd
          have hne6 := (hv3).ne
          have t0 : (w3).cell? ⟨g3, 0, none⟩ = some (.int .i64 lg) := blk_cell (hv3).blk 0
          have t1 : (w3).cell? ⟨g3, 1, none⟩ = some (.slice A6 n6 c6) := blk_cell (hv3).blk 1
          have t2 : (w3).cell? ⟨g3, 2, none⟩ = some (.int .u64 (f : Int)) := blk_cell (hv3).blk 2
          have t3 : (w3).cell? ⟨g3, 3, none⟩ = some (.int .u64 (ce : Int)) := blk_cell (hv3).blk 3
          have t4 : (w3).cell? ⟨g3, 4, none⟩ = some (.int .u64 (at_ : Int)) := blk_cell (hv3).blk 4
          have t5 : (w3).cell? ⟨g3, 5, none⟩ = some (.int .u64 (le : Int)) := blk_cell (hv3).blk 5
          go_wp2_with (first
            | (with_reducible show wpList _ _ _ (⟨none, .store 27 _ _, _, _, _, none⟩ :: _) _ _
               refine wpList_store_all rfl 27 _ _ rfl (g := g2) (cells := #[.int .i64 lg, .slice A6 n6 c6, .int .u64 (f : Int), .int .u64 (ce : Int), .int .u64 (at_ : Int), .int .u64 (le : Int)]) rfl (by kernel_rfl) hb3 view_info6 rfl (by simp [Value.oneCell']) ?_
               intro w9 hgd hbut))
          clear t0 t1 t2 t3 t4 t5
          have hup9 := But.up hup3 hbut hgw
          have t0 : (w9).cell? ⟨g2, 0, none⟩ = some (.int .i64 lg) := blk_cell hgd 0
          have t1 : (w9).cell? ⟨g2, 1, none⟩ = some (.slice A6 n6 c6) := blk_cell hgd 1
          have t2 : (w9).cell? ⟨g2, 2, none⟩ = some (.int .u64 (f : Int)) := blk_cell hgd 2
          have t3 : (w9).cell? ⟨g2, 3, none⟩ = some (.int .u64 (ce : Int)) := blk_cell hgd 3
          have t4 : (w9).cell? ⟨g2, 4, none⟩ = some (.int .u64 (at_ : Int)) := blk_cell hgd 4
          have t5 : (w9).cell? ⟨g2, 5, none⟩ = some (.int .u64 (le : Int)) := blk_cell hgd 5
          refine bodyPost_ret (v := .tuple #[.agg #[.int .i64 lg, .slice A6 n6 c6, .int .u64 (f : Int), .int .u64 (ce : Int), .int .u64 (at_ : Int), .int .u64 (le : Int)], .int .i64 (k : Int), .int .i64 0]) (by simp [results, Try.results25, go_sem, t0, t1, t2, t3, t4, t5]) rfl ?_
          rw [HR.out]
          exact ⟨A6, n6, c6, rfl, Rd.keepsNe hrd6 (Nat.le_refl _) (fun a ha => by have := hne6 a ha; omega) hbut, hnc6, hle6, hup9⟩
      have d4 : ((E : Int) == 4) = false := by rw [beq_eq_false_iff_ne]; omega
      by_cases hE0 : E = 0
      · have d0 : ((E : Int) != 0) = false := by rw [bne_eq_false_iff_eq]; omega
        obtain ⟨hx1, hx2, -, -⟩ := HOK.out hE0
        by_cases hK6 : K = 6
        · have d6 : ((K : Int) != 6) = false := by rw [bne_eq_false_iff_eq]; omega
          have hst : stepC ((lg, l, f, ce, at_, le), m) K bd = ((readE bd).bind (applyE (lg, l, f, ce, at_, le))).map fun v => (v, m + 1) := by
            unfold stepC stepV
            rw [if_pos hK6]
          have HST := Lib.hid hst
          clear hst
          rw [if_pos hE0]
          go_wp2_with fail
          refine (rread_any (tx bd) bd w3 (tx_list bd) (by rw [tx_size]; exact hbdn)).mono ?_
          intro e w4 hq
          rw [readR_eq] at hq
          cases hre : readE bd with
          | none =>
            rw [hre] at hq
            obtain ⟨rfl, hu4⟩ := hq
            have hbad : seqF stepC bs (bs.length + 1) 0 (v0, 0) = none := by rw [← HSQ.out, if_pos hE0, HST.out, hre]; rfl
            have HBAD : Hid (rreplP bs = none) := by show _ = _; unfold rreplP; rw [hbad]
            have hub : Up w4 (w4.alloc (.cells #[.slice none 0 0, .slice none 0 0, .int .i64 0, .int .u64 0, .int .u64 0, .int .u64 0, .int .u64 0] 32)) := (Up.refl w4).alloc _
            have hv4 := hv3.up (hu4.trans hub)
            have hb4 := blk_upE (hu4.trans hub) hb3
            have hup4 := hup3.trans (hu4.trans hub)
            have he4 : (w4.alloc (.cells #[.slice none 0 0, .slice none 0 0, .int .i64 0, .int .u64 0, .int .u64 0, .int .u64 0, .int .u64 0] 32)).heap[w4.heap.size]? = some (.cells #[.slice none 0 0, .slice none 0 0, .int .i64 0, .int .u64 0, .int .u64 0, .int .u64 0, .int .u64 0] 32 (0, 0)) := heap_alloc_new w4 _
            clear hbad hre hv3 hb3 hup3 hu4 hub HST HSQ HOK HTF
            have t0 : ((w4.alloc (.cells #[.slice none 0 0, .slice none 0 0, .int .i64 0, .int .u64 0, .int .u64 0, .int .u64 0, .int .u64 0] 32))).cell? ⟨g3, 0, none⟩ = some (.int .i64 lg) := blk_cell hv4.blk 0
            have t1 : ((w4.alloc (.cells #[.slice none 0 0, .slice none 0 0, .int .i64 0, .int .u64 0, .int .u64 0, .int .u64 0, .int .u64 0] 32))).cell? ⟨g3, 1, none⟩ = some (.slice A6 n6 c6) := blk_cell hv4.blk 1
            have t2 : ((w4.alloc (.cells #[.slice none 0 0, .slice none 0 0, .int .i64 0, .int .u64 0, .int .u64 0, .int .u64 0, .int .u64 0] 32))).cell? ⟨g3, 2, none⟩ = some (.int .u64 (f : Int)) := blk_cell hv4.blk 2
            have t3 : ((w4.alloc (.cells #[.slice none 0 0, .slice none 0 0, .int .i64 0, .int .u64 0, .int .u64 0, .int .u64 0, .int .u64 0] 32))).cell? ⟨g3, 3, none⟩ = some (.int .u64 (ce : Int)) := blk_cell hv4.blk 3
            have t4 : ((w4.alloc (.cells #[.slice none 0 0, .slice none 0 0, .int .i64 0, .int .u64 0, .int .u64 0, .int .u64 0, .int .u64 0] 32))).cell? ⟨g3, 4, none⟩ = some (.int .u64 (at_ : Int)) := blk_cell hv4.blk 4
            have t5 : ((w4.alloc (.cells #[.slice none 0 0, .slice none 0 0, .int .i64 0, .int .u64 0, .int .u64 0, .int .u64 0, .int .u64 0] 32))).cell? ⟨g3, 5, none⟩ = some (.int .u64 (le : Int)) := blk_cell hv4.blk 5
            have u0 : (w4.alloc (.cells #[.slice none 0 0, .slice none 0 0, .int .i64 0, .int .u64 0, .int .u64 0, .int .u64 0, .int .u64 0] 32)).cell? ⟨w4.heap.size, 0, none⟩ = some (.slice none 0 0) := blk_cell he4 0
            have u1 : (w4.alloc (.cells #[.slice none 0 0, .slice none 0 0, .int .i64 0, .int .u64 0, .int .u64 0, .int .u64 0, .int .u64 0] 32)).cell? ⟨w4.heap.size, 1, none⟩ = some (.slice none 0 0) := blk_cell he4 1
            have u2 : (w4.alloc (.cells #[.slice none 0 0, .slice none 0 0, .int .i64 0, .int .u64 0, .int .u64 0, .int .u64 0, .int .u64 0] 32)).cell? ⟨w4.heap.size, 2, none⟩ = some (.int .i64 0) := blk_cell he4 2
            have u3 : (w4.alloc (.cells #[.slice none 0 0, .slice none 0 0, .int .i64 0, .int .u64 0, .int .u64 0, .int .u64 0, .int .u64 0] 32)).cell? ⟨w4.heap.size, 3, none⟩ = some (.int .u64 0) := blk_cell he4 3
            have u4 : (w4.alloc (.cells #[.slice none 0 0, .slice none 0 0, .int .i64 0, .int .u64 0, .int .u64 0, .int .u64 0, .int .u64 0] 32)).cell? ⟨w4.heap.size, 4, none⟩ = some (.int .u64 0) := blk_cell he4 4
            have u5 : (w4.alloc (.cells #[.slice none 0 0, .slice none 0 0, .int .i64 0, .int .u64 0, .int .u64 0, .int .u64 0, .int .u64 0] 32)).cell? ⟨w4.heap.size, 5, none⟩ = some (.int .u64 0) := blk_cell he4 5
            have u6 : (w4.alloc (.cells #[.slice none 0 0, .slice none 0 0, .int .i64 0, .int .u64 0, .int .u64 0, .int .u64 0, .int .u64 0] 32)).cell? ⟨w4.heap.size, 6, none⟩ = some (.int .u64 0) := blk_cell he4 6
            go_wp2_with fail
            clear t0 t1 t2 t3 t4 t5 u0 u1 u2 u3 u4 u5 u6 he4
            generalize (w4.alloc (.cells #[.slice none 0 0, .slice none 0 0, .int .i64 0, .int .u64 0, .int .u64 0, .int .u64 0, .int .u64 0] 32)) = w5 at *
            generalize w4.heap.size = g5 at *
            refine (rapply_any lg A6 n6 c6 l f ce at_ le none 0 0 [] none 0 0 [] 0 0 0 0 0 w5 hv4.rd (by have := hv4.le; omega) Rd.empty (by omega) Rd.empty (by omega)).mono ?_
            intro e w6 ha
            cases hap : applyR lg l f ce at_ le [] [] 0 0 0 0 0 with
            | none =>
              rw [hap] at ha
              obtain ⟨rfl, hu6⟩ := ha
              have hb6 := blk_upE (hu6.trans ((Up.refl w6).alloc (.cells #[.int .i64 0, .slice none 0 0, .int .u64 0, .int .u64 0, .int .u64 0, .int .u64 0] 27))) hb4
              have hup6 := hup4.trans (hu6.trans ((Up.refl w6).alloc (.cells #[.int .i64 0, .slice none 0 0, .int .u64 0, .int .u64 0, .int .u64 0, .int .u64 0] 27)))
              clear hap hv4 hb4 hup4 hu6
              go_wp2_with (first
                | (with_reducible show wpList _ _ _ (⟨none, .store 27 _ _, _, _, _, none⟩ :: _) _ _
                   refine wpList_store_all rfl 27 _ _ rfl (g := g2) (cells := #[.int .i64 0, .slice none 0 0, .int .u64 0, .int .u64 0, .int .u64 0, .int .u64 0]) rfl (by kernel_rfl) hb6 view_info6 rfl (by simp [Value.oneCell']) ?_
                   intro w9 hgd hbut
                   have hup9 := But.up hup6 hbut hgw
                   clear hbut))
              have t0 := blk_cell hgd 0
              have t1 := blk_cell hgd 1
              have t2 := blk_cell hgd 2
              have t3 := blk_cell hgd 3
              have t4 := blk_cell hgd 4
              have t5 := blk_cell hgd 5
              refine bodyPost_ret (v := .tuple #[.agg #[.int .i64 0, .slice none 0 0, .int .u64 0, .int .u64 0, .int .u64 0, .int .u64 0], .int .i64 0, .int .i64 9]) (by simp [results, Try.results25, go_sem, t0, t1, t2, t3, t4, t5]) rfl ?_
              rw [HBAD.out]
              exact ⟨rfl, hup9⟩
            | some u =>
              obtain ⟨ulg, ul, uf, uce, uat, ule⟩ := u
              rw [hap] at ha
              obtain ⟨R6, rn6, rc6, rfl, -, -, hu6, -⟩ := ha
              (try dsimp only)
              have hb6 := blk_upE (hu6.trans ((Up.refl w6).alloc (.cells #[.int .i64 ulg, .slice R6 rn6 rc6, .int .u64 (uf : Int), .int .u64 (uce : Int), .int .u64 (uat : Int), .int .u64 (ule : Int)] 27))) hb4
              have hup6 := hup4.trans (hu6.trans ((Up.refl w6).alloc (.cells #[.int .i64 ulg, .slice R6 rn6 rc6, .int .u64 (uf : Int), .int .u64 (uce : Int), .int .u64 (uat : Int), .int .u64 (ule : Int)] 27)))
              clear hap hv4 hb4 hup4 hu6
              go_wp2_with (first
                | (with_reducible show wpList _ _ _ (⟨none, .store 27 _ _, _, _, _, none⟩ :: _) _ _
                   refine wpList_store_all rfl 27 _ _ rfl (g := g2) (cells := #[.int .i64 0, .slice none 0 0, .int .u64 0, .int .u64 0, .int .u64 0, .int .u64 0]) rfl (by kernel_rfl) hb6 view_info6 rfl (by simp [Value.oneCell']) ?_
                   intro w9 hgd hbut
                   have hup9 := But.up hup6 hbut hgw
                   clear hbut))
              have t0 := blk_cell hgd 0
              have t1 := blk_cell hgd 1
              have t2 := blk_cell hgd 2
              have t3 := blk_cell hgd 3
              have t4 := blk_cell hgd 4
              have t5 := blk_cell hgd 5
              refine bodyPost_ret (v := .tuple #[.agg #[.int .i64 0, .slice none 0 0, .int .u64 0, .int .u64 0, .int .u64 0, .int .u64 0], .int .i64 0, .int .i64 9]) (by simp [results, Try.results25, go_sem, t0, t1, t2, t3, t4, t5]) rfl ?_
              rw [HBAD.out]
              exact ⟨rfl, hup9⟩
          | some x =>
            obtain ⟨ds, add, elg, ef, ece, eat, ele⟩ := x
            rw [hre] at hq
            obtain ⟨hl1, hl2⟩ := readE_len hre
            (try dsimp only at hl1 hl2)
            obtain ⟨D, dn, dc, A5, an, ac, rfl, hD, hdc, hA5, hac, hu4⟩ := hq
            (try dsimp only at hD hA5)
            have hub : Up w4 (w4.alloc (.cells #[.slice D dn dc, .slice A5 an ac, .int .i64 elg, .int .u64 (ef : Int), .int .u64 (ece : Int), .int .u64 (eat : Int), .int .u64 (ele : Int)] 32)) := (Up.refl w4).alloc _
            have hv4 := hv3.up (hu4.trans hub)
            have hb4 := blk_upE (hu4.trans hub) hb3
            have hup4 := hup3.trans (hu4.trans hub)
            have hD4 := hD.up hub
            have hA54 := hA5.up hub
            have he4 : (w4.alloc (.cells #[.slice D dn dc, .slice A5 an ac, .int .i64 elg, .int .u64 (ef : Int), .int .u64 (ece : Int), .int .u64 (eat : Int), .int .u64 (ele : Int)] 32)).heap[w4.heap.size]? = some (.cells #[.slice D dn dc, .slice A5 an ac, .int .i64 elg, .int .u64 (ef : Int), .int .u64 (ece : Int), .int .u64 (eat : Int), .int .u64 (ele : Int)] 32 (0, 0)) := heap_alloc_new w4 _
            have hst2 : stepC ((lg, l, f, ce, at_, le), m) K bd = (applyR lg l f ce at_ le ds add elg ef ece eat ele).map fun v => (v, m + 1) := by rw [HST.out, hre]; rfl
            have HST2 := Lib.hid hst2
            have hdn : dn ≤ 1099511627776 := by have := hD4.1; rw [nmv_len] at this; omega
            have han : an ≤ 1099511627776 := by have := hA54.flen; omega
            clear hst2 hre hv3 hb3 hup3 hu4 hub HST HTF hD hA5
            have t0 : ((w4.alloc (.cells #[.slice D dn dc, .slice A5 an ac, .int .i64 elg, .int .u64 (ef : Int), .int .u64 (ece : Int), .int .u64 (eat : Int), .int .u64 (ele : Int)] 32))).cell? ⟨g3, 0, none⟩ = some (.int .i64 lg) := blk_cell hv4.blk 0
            have t1 : ((w4.alloc (.cells #[.slice D dn dc, .slice A5 an ac, .int .i64 elg, .int .u64 (ef : Int), .int .u64 (ece : Int), .int .u64 (eat : Int), .int .u64 (ele : Int)] 32))).cell? ⟨g3, 1, none⟩ = some (.slice A6 n6 c6) := blk_cell hv4.blk 1
            have t2 : ((w4.alloc (.cells #[.slice D dn dc, .slice A5 an ac, .int .i64 elg, .int .u64 (ef : Int), .int .u64 (ece : Int), .int .u64 (eat : Int), .int .u64 (ele : Int)] 32))).cell? ⟨g3, 2, none⟩ = some (.int .u64 (f : Int)) := blk_cell hv4.blk 2
            have t3 : ((w4.alloc (.cells #[.slice D dn dc, .slice A5 an ac, .int .i64 elg, .int .u64 (ef : Int), .int .u64 (ece : Int), .int .u64 (eat : Int), .int .u64 (ele : Int)] 32))).cell? ⟨g3, 3, none⟩ = some (.int .u64 (ce : Int)) := blk_cell hv4.blk 3
            have t4 : ((w4.alloc (.cells #[.slice D dn dc, .slice A5 an ac, .int .i64 elg, .int .u64 (ef : Int), .int .u64 (ece : Int), .int .u64 (eat : Int), .int .u64 (ele : Int)] 32))).cell? ⟨g3, 4, none⟩ = some (.int .u64 (at_ : Int)) := blk_cell hv4.blk 4
            have t5 : ((w4.alloc (.cells #[.slice D dn dc, .slice A5 an ac, .int .i64 elg, .int .u64 (ef : Int), .int .u64 (ece : Int), .int .u64 (eat : Int), .int .u64 (ele : Int)] 32))).cell? ⟨g3, 5, none⟩ = some (.int .u64 (le : Int)) := blk_cell hv4.blk 5
            have u0 : (w4.alloc (.cells #[.slice D dn dc, .slice A5 an ac, .int .i64 elg, .int .u64 (ef : Int), .int .u64 (ece : Int), .int .u64 (eat : Int), .int .u64 (ele : Int)] 32)).cell? ⟨w4.heap.size, 0, none⟩ = some (.slice D dn dc) := blk_cell he4 0
            have u1 : (w4.alloc (.cells #[.slice D dn dc, .slice A5 an ac, .int .i64 elg, .int .u64 (ef : Int), .int .u64 (ece : Int), .int .u64 (eat : Int), .int .u64 (ele : Int)] 32)).cell? ⟨w4.heap.size, 1, none⟩ = some (.slice A5 an ac) := blk_cell he4 1
            have u2 : (w4.alloc (.cells #[.slice D dn dc, .slice A5 an ac, .int .i64 elg, .int .u64 (ef : Int), .int .u64 (ece : Int), .int .u64 (eat : Int), .int .u64 (ele : Int)] 32)).cell? ⟨w4.heap.size, 2, none⟩ = some (.int .i64 elg) := blk_cell he4 2
            have u3 : (w4.alloc (.cells #[.slice D dn dc, .slice A5 an ac, .int .i64 elg, .int .u64 (ef : Int), .int .u64 (ece : Int), .int .u64 (eat : Int), .int .u64 (ele : Int)] 32)).cell? ⟨w4.heap.size, 3, none⟩ = some (.int .u64 (ef : Int)) := blk_cell he4 3
            have u4 : (w4.alloc (.cells #[.slice D dn dc, .slice A5 an ac, .int .i64 elg, .int .u64 (ef : Int), .int .u64 (ece : Int), .int .u64 (eat : Int), .int .u64 (ele : Int)] 32)).cell? ⟨w4.heap.size, 4, none⟩ = some (.int .u64 (ece : Int)) := blk_cell he4 4
            have u5 : (w4.alloc (.cells #[.slice D dn dc, .slice A5 an ac, .int .i64 elg, .int .u64 (ef : Int), .int .u64 (ece : Int), .int .u64 (eat : Int), .int .u64 (ele : Int)] 32)).cell? ⟨w4.heap.size, 5, none⟩ = some (.int .u64 (eat : Int)) := blk_cell he4 5
            have u6 : (w4.alloc (.cells #[.slice D dn dc, .slice A5 an ac, .int .i64 elg, .int .u64 (ef : Int), .int .u64 (ece : Int), .int .u64 (eat : Int), .int .u64 (ele : Int)] 32)).cell? ⟨w4.heap.size, 6, none⟩ = some (.int .u64 (ele : Int)) := blk_cell he4 6
            go_wp2_with fail
            clear t0 t1 t2 t3 t4 t5 u0 u1 u2 u3 u4 u5 u6 he4
            generalize (w4.alloc (.cells #[.slice D dn dc, .slice A5 an ac, .int .i64 elg, .int .u64 (ef : Int), .int .u64 (ece : Int), .int .u64 (eat : Int), .int .u64 (ele : Int)] 32)) = w5 at *
            generalize w4.heap.size = g5 at *
            refine (rapply_any lg A6 n6 c6 l f ce at_ le D dn dc ds A5 an ac add elg ef ece eat ele w5 hv4.rd (by have := hv4.le; omega) hD4 hdn hA54 han).mono ?_
            intro e w6 ha
            cases hap : applyR lg l f ce at_ le ds add elg ef ece eat ele with
            | none =>
              rw [hap] at ha
              obtain ⟨rfl, hu6⟩ := ha
              have hbad : seqF stepC bs (bs.length + 1) 0 (v0, 0) = none := by rw [← HSQ.out, if_pos hE0, HST2.out, hap]; rfl
              have HBAD : Hid (rreplP bs = none) := by show _ = _; unfold rreplP; rw [hbad]
              have hb6 := blk_upE (hu6.trans ((Up.refl w6).alloc (.cells #[.int .i64 0, .slice none 0 0, .int .u64 0, .int .u64 0, .int .u64 0, .int .u64 0] 27))) hb4
              have hup6 := hup4.trans (hu6.trans ((Up.refl w6).alloc (.cells #[.int .i64 0, .slice none 0 0, .int .u64 0, .int .u64 0, .int .u64 0, .int .u64 0] 27)))
              clear hbad hap hv4 hb4 hup4 hu6 HSQ HST2 HOK
              go_wp2_with (first
                | (with_reducible show wpList _ _ _ (⟨none, .store 27 _ _, _, _, _, none⟩ :: _) _ _
                   refine wpList_store_all rfl 27 _ _ rfl (g := g2) (cells := #[.int .i64 0, .slice none 0 0, .int .u64 0, .int .u64 0, .int .u64 0, .int .u64 0]) rfl (by kernel_rfl) hb6 view_info6 rfl (by simp [Value.oneCell']) ?_
                   intro w9 hgd hbut
                   have hup9 := But.up hup6 hbut hgw
                   clear hbut))
              have t0 := blk_cell hgd 0
              have t1 := blk_cell hgd 1
              have t2 := blk_cell hgd 2
              have t3 := blk_cell hgd 3
              have t4 := blk_cell hgd 4
              have t5 := blk_cell hgd 5
              refine bodyPost_ret (v := .tuple #[.agg #[.int .i64 0, .slice none 0 0, .int .u64 0, .int .u64 0, .int .u64 0, .int .u64 0], .int .i64 0, .int .i64 9]) (by simp [results, Try.results25, go_sem, t0, t1, t2, t3, t4, t5]) rfl ?_
              rw [HBAD.out]
              exact ⟨rfl, hup9⟩
            | some u =>
              have hlen : u.2.1.length ≤ 40 := applyE_len (v := (lg, l, f, ce, at_, le)) (e := (ds, add, elg, ef, ece, eat, ele)) hap
              rw [hap] at ha
              obtain ⟨R6, rn6, rc6, rfl, hR6, hrc6, hu6, hfr⟩ := ha
              have hsq3 : seqF stepC bs fu' (k + nx) (u, m + 1) = seqF stepC bs (bs.length + 1) 0 (v0, 0) := by rw [← HSQ.out, if_pos hE0, HST2.out, hap]; rfl
              have HSQ3 := Lib.hid hsq3
              obtain ⟨ulg, ul, uf, uce, uat, ule⟩ := u
              (try dsimp only at hR6 hlen ⊢)
              obtain ⟨w7, hw7⟩ : ∃ w7, w7 = w6.alloc (.cells #[.int .i64 ulg, .slice R6 rn6 rc6, .int .u64 (uf : Int), .int .u64 (uce : Int), .int .u64 (uat : Int), .int .u64 (ule : Int)] 27) := ⟨_, rfl⟩
              have hub7 : Up w6 w7 := by rw [hw7]; exact (Up.refl w6).alloc _
              have hb7 : w7.heap[w6.heap.size]? = some (.cells #[.int .i64 ulg, .slice R6 rn6 rc6, .int .u64 (uf : Int), .int .u64 (uce : Int), .int .u64 (uat : Int), .int .u64 (ule : Int)] 27 (0, 0)) := by rw [hw7]; exact heap_alloc_new w6 _
              have hv7 := hv4.up (hu6.trans hub7)
              have hup7 := hup4.trans (hu6.trans hub7)
              have hbz7 := blk_upE (hu6.trans hub7) hb4
              have hR7 := hR6.up hub7
              have hgl : g3 < w5.heap.size := (Array.getElem?_eq_some_iff.1 hv4.blk).1
              have hne6 : ∀ a, R6 = some a → g3 < a.block := fun a ha => by have := hfr a ha; omega
              have q0 : w7.cell? ⟨w6.heap.size, 0, none⟩ = some (.int .i64 ulg) := blk_cell hb7 0
              have q1 : w7.cell? ⟨w6.heap.size, 1, none⟩ = some (.slice R6 rn6 rc6) := blk_cell hb7 1
              have q2 : w7.cell? ⟨w6.heap.size, 2, none⟩ = some (.int .u64 (uf : Int)) := blk_cell hb7 2
              have q3 : w7.cell? ⟨w6.heap.size, 3, none⟩ = some (.int .u64 (uce : Int)) := blk_cell hb7 3
              have q4 : w7.cell? ⟨w6.heap.size, 4, none⟩ = some (.int .u64 (uat : Int)) := blk_cell hb7 4
              have q5 : w7.cell? ⟨w6.heap.size, 5, none⟩ = some (.int .u64 (ule : Int)) := blk_cell hb7 5
              have HW7 := Lib.hid hw7
              have hif : (if E = 0 then ((k + nx : Nat) : Int) else 0) = ((k + nx : Nat) : Int) := if_pos hE0
              clear hw7 hb7 hub7 hv4 hR6 hfr hap hsq3 hD4 hA54 HSQ HST2 hb4 hup4
              go_wp2_with (first
                | (with_reducible show wpList _ _ _ (⟨none, .store 27 _ _, _, _, _, none⟩ :: _) _ _
                   rw [← HW7.out]
                   refine wpList_store_all rfl 27 _ _ rfl (g := g3) (cells := #[.int .i64 ulg, .slice R6 rn6 rc6, .int .u64 (uf : Int), .int .u64 (uce : Int), .int .u64 (uat : Int), .int .u64 (ule : Int)]) rfl (by kernel_rfl) hv7.blk view_info6 rfl (by simp [Value.oneCell']) ?_
                   intro w9 hgd hbut))
              have hv9 : VW g3 (ulg, ul, uf, uce, uat, ule) R6 rn6 rc6 w9 := ⟨hgd, Rd.keepsNe hR7 (Nat.le_refl _) (fun a ha => by have := hne6 a ha; omega) hbut, hrc6, by have := hR7.flen; omega, hne6⟩
              have hbz9 := (hbut.block g2 (Array.getElem?_eq_some_iff.1 hbz7).1 (by show ¬ g2 = g3; omega)).trans hbz7
              have hup9 := But.up hup7 hbut hgw3
              go_roundw
              case rel => exact ⟨k + nx, m + 1, (ulg, ul, uf, uce, uat, ule), R6, rn6, rc6, by go_num, by go_num, by have := HN.out; omega, by omega, hv9, hbz9, ⟨fu', by omega, HSQ3.out⟩, hup9⟩
              case measure => simp [intOf] <;> omega
        · have d6 : ((K : Int) != 6) = true := by rw [bne_iff_ne]; omega
          have hbad : seqF stepC bs (bs.length + 1) 0 (v0, 0) = none := by
            rw [← HSQ.out, if_pos hE0]
            have : stepC ((lg, l, f, ce, at_, le), m) K bd = none := by unfold stepC stepV; rw [if_neg hK6]; rfl
            rw [this]
          have HBAD : Hid (rreplP bs = none) := by show _ = _; unfold rreplP; rw [hbad]
          clear hbad HSQ HOK HTF
          go_wp2_with (first
            | (with_reducible show wpList _ _ _ (⟨none, .store 27 _ _, _, _, _, none⟩ :: _) _ _
               refine wpList_store_all rfl 27 _ _ rfl (g := g2) (cells := #[.int .i64 0, .slice none 0 0, .int .u64 0, .int .u64 0, .int .u64 0, .int .u64 0]) rfl (by kernel_rfl) hb3 view_info6 rfl (by simp [Value.oneCell']) ?_
               intro w9 hgd hbut
               have hup9 := But.up hup3 hbut hgw
               clear hbut))
          have t0 := blk_cell hgd 0
          have t1 := blk_cell hgd 1
          have t2 := blk_cell hgd 2
          have t3 := blk_cell hgd 3
          have t4 := blk_cell hgd 4
          have t5 := blk_cell hgd 5
          refine bodyPost_ret (v := .tuple #[.agg #[.int .i64 0, .slice none 0 0, .int .u64 0, .int .u64 0, .int .u64 0, .int .u64 0], .int .i64 0, .int .i64 9]) (by simp [results, Try.results25, go_sem, t0, t1, t2, t3, t4, t5]) rfl ?_
          rw [HBAD.out]
          exact ⟨rfl, hup9⟩
      · have d0 : ((E : Int) != 0) = true := by rw [bne_iff_ne]; omega
        have hbad : seqF stepC bs (bs.length + 1) 0 (v0, 0) = none := by rw [← HSQ.out, if_neg hE0, if_neg hE4]
        have HBAD : Hid (rreplP bs = none) := by show _ = _; unfold rreplP; rw [hbad]
        clear hbad HSQ HOK HTF
        go_wp2_with (first
          | (with_reducible show wpList _ _ _ (⟨none, .store 27 _ _, _, _, _, none⟩ :: _) _ _
             refine wpList_store_all rfl 27 _ _ rfl (g := g2) (cells := #[.int .i64 0, .slice none 0 0, .int .u64 0, .int .u64 0, .int .u64 0, .int .u64 0]) rfl (by kernel_rfl) hb3 view_info6 rfl (by simp [Value.oneCell']) ?_
             intro w9 hgd hbut
             have hup9 := But.up hup3 hbut hgw
             clear hbut))
        have t0 := blk_cell hgd 0
        have t1 := blk_cell hgd 1
        have t2 := blk_cell hgd 2
        have t3 := blk_cell hgd 3
        have t4 := blk_cell hgd 4
        have t5 := blk_cell hgd 5
        refine bodyPost_ret (v := .tuple #[.agg #[.int .i64 0, .slice none 0 0, .int .u64 0, .int .u64 0, .int .u64 0, .int .u64 0], .int .i64 0, .int .i64 9]) (by simp [results, Try.results25, go_sem, t0, t1, t2, t3, t4, t5]) rfl ?_
        rw [HBAD.out]
        exact ⟨rfl, hup9⟩
    · have hkNi : ¬ (k : Int) < (N : Int) := by omega
      obtain ⟨fu, hfu, hsq2⟩ := hsq.out
      have hres : seqF stepC bs (bs.length + 1) 0 (v0, 0) = some (((lg, l, f, ce, at_, le), m), k) := by
        rw [← hsq2]; exact seqF_stop stepC bs (by rw [← HN.out]; exact hkN)
      have HRES := Lib.hid hres
      clear hres hsq2 hsq
      by_cases hm0 : m = 0
      · subst hm0
        have HBAD : Hid (rreplP bs = none) := by show _ = _; unfold rreplP; rw [HRES.out]; rfl
        clear HRES
        go_wp2_with (first
          | (with_reducible show wpList _ _ _ (⟨none, .store 27 _ _, _, _, _, none⟩ :: _) _ _
             refine wpList_store_all rfl 27 _ _ rfl (g := g2) (cells := #[.int .i64 0, .slice none 0 0, .int .u64 0, .int .u64 0, .int .u64 0, .int .u64 0]) rfl (by kernel_rfl) hb2 view_info6 rfl (by simp [Value.oneCell']) ?_
             intro w9 hgd hbut
             have hup9 := But.up hup hbut hgw
             clear hbut))
        have t0 := blk_cell hgd 0
        have t1 := blk_cell hgd 1
        have t2 := blk_cell hgd 2
        have t3 := blk_cell hgd 3
        have t4 := blk_cell hgd 4
        have t5 := blk_cell hgd 5
        refine bodyPost_ret (v := .tuple #[.agg #[.int .i64 0, .slice none 0 0, .int .u64 0, .int .u64 0, .int .u64 0, .int .u64 0], .int .i64 0, .int .i64 9]) (by simp [results, Try.results25, go_sem, t0, t1, t2, t3, t4, t5]) rfl ?_
        rw [HBAD.out]
        exact ⟨rfl, hup9⟩
      · have dm : ((m : Int) == 0) = false := by rw [beq_eq_false_iff_ne]; omega
        have HR : Hid (rreplP bs = some ((lg, l, f, ce, at_, le), k)) := by show _ = _; unfold rreplP; rw [HRES.out]; simp only []; rw [if_neg hm0]
        clear HRES
        have hnc6 := (hv).nc
        have hle6 := (hv).le
        have hrd6 := (hv).rd
        have hne6 := (hv).ne
        have t0 : (wr).cell? ⟨g3, 0, none⟩ = some (.int .i64 lg) := blk_cell (hv).blk 0
        have t1 : (wr).cell? ⟨g3, 1, none⟩ = some (.slice A6 n6 c6) := blk_cell (hv).blk 1
        have t2 : (wr).cell? ⟨g3, 2, none⟩ = some (.int .u64 (f : Int)) := blk_cell (hv).blk 2
        have t3 : (wr).cell? ⟨g3, 3, none⟩ = some (.int .u64 (ce : Int)) := blk_cell (hv).blk 3
        have t4 : (wr).cell? ⟨g3, 4, none⟩ = some (.int .u64 (at_ : Int)) := blk_cell (hv).blk 4
        have t5 : (wr).cell? ⟨g3, 5, none⟩ = some (.int .u64 (le : Int)) := blk_cell (hv).blk 5
        go_wp2_with (first
          | (with_reducible show wpList _ _ _ (⟨none, .store 27 _ _, _, _, _, none⟩ :: _) _ _
             refine wpList_store_all rfl 27 _ _ rfl (g := g2) (cells := #[.int .i64 lg, .slice A6 n6 c6, .int .u64 (f : Int), .int .u64 (ce : Int), .int .u64 (at_ : Int), .int .u64 (le : Int)]) rfl (by kernel_rfl) hb2 view_info6 rfl (by simp [Value.oneCell']) ?_
             intro w9 hgd hbut))
        clear t0 t1 t2 t3 t4 t5
        have hup9 := But.up hup hbut hgw
        have t0 : (w9).cell? ⟨g2, 0, none⟩ = some (.int .i64 lg) := blk_cell hgd 0
        have t1 : (w9).cell? ⟨g2, 1, none⟩ = some (.slice A6 n6 c6) := blk_cell hgd 1
        have t2 : (w9).cell? ⟨g2, 2, none⟩ = some (.int .u64 (f : Int)) := blk_cell hgd 2
        have t3 : (w9).cell? ⟨g2, 3, none⟩ = some (.int .u64 (ce : Int)) := blk_cell hgd 3
        have t4 : (w9).cell? ⟨g2, 4, none⟩ = some (.int .u64 (at_ : Int)) := blk_cell hgd 4
        have t5 : (w9).cell? ⟨g2, 5, none⟩ = some (.int .u64 (le : Int)) := blk_cell hgd 5
        refine bodyPost_ret (v := .tuple #[.agg #[.int .i64 lg, .slice A6 n6 c6, .int .u64 (f : Int), .int .u64 (ce : Int), .int .u64 (at_ : Int), .int .u64 (le : Int)], .int .i64 (k : Int), .int .i64 0]) (by simp [results, Try.results25, go_sem, t0, t1, t2, t3, t4, t5]) rfl ?_
        rw [HR.out]
        exact ⟨A6, n6, c6, rfl, Rd.keepsNe hrd6 (Nat.le_refl _) (fun a ha => by have := hne6 a ha; omega) hbut, hnc6, hle6, hup9⟩
end Go.Proofs.Ytokcaoaclheiiaa

/-
  Plain laws of frames; the walk of the laws' own test.
-/
namespace Go.Proofs.Ytokcaoaclheiiaa
open Go.RowKit
set_option linter.unusedVariables false
set_option linter.unusedSimpArgs false

theorem openE_seal (l : List UInt8) : openE (sealB l) = 0 := by
  have h : (sealB l).length - 4 = l.length := by rw [sealB_len]; omega
  have h2 : (sealB l).take l.length = l := by unfold sealB; rw [List.take_left]
  unfold openE
  rw [if_neg (by rw [sealB_len]; omega), h, h2, if_pos rfl]
theorem openL_seal (l : List UInt8) : openL (sealB l) = l := by
  unfold openL
  rw [if_pos (openE_seal l), sealB_len, Nat.add_sub_cancel]
  unfold sealB; rw [List.take_left]
theorem byteOf_nat (k : Nat) (h : k < 256) : (byteOf (k : Int)).toNat = k := by
  unfold byteOf
  rw [show ((k : Int) % 256).toNat = k by omega]
  simp; omega
/-- a frame that stands at the beginning is taken -/
theorem takeR_frame (k : Nat) (l rest : List UInt8) (hk1 : 1 ≤ k) (hk2 : k ≤ 100) (hl : l.length ≤ 60000) : takeR (frameB (k : Int) l ++ rest) = (0, k, l, l.length + 12) := by
  have e : frameB (k : Int) l ++ rest = sealB (headB (k : Int) l.length) ++ (sealB l ++ rest) := by simp [frameB]
  have hh : (sealB (headB (k : Int) l.length)).length = 8 := by rw [sealB_len]; rfl
  have hlen : (frameB (k : Int) l ++ rest).length = 12 + l.length + rest.length := by rw [List.length_append, frameB_len]; omega
  have h8 : (frameB (k : Int) l ++ rest).take 8 = sealB (headB (k : Int) l.length) := by rw [e, ← hh, List.take_left]
  have hd : (frameB (k : Int) l ++ rest).drop 8 = sealB l ++ rest := by rw [e, ← hh, List.drop_left]
  have g : ∀ j, j < 4 → (frameB (k : Int) l ++ rest).getD j 0 = (headB (k : Int) l.length).getD j 0 := by
    intro j hj
    rw [e]
    unfold sealB
    simp only [List.getD_eq_getElem?_getD]
    rw [List.append_assoc, List.getElem?_append_left (by simpa [headB] using hj)]
  have hN : headN (frameB (k : Int) l ++ rest) = l.length := by
    unfold headN
    rw [g 1 (by omega), g 2 (by omega), g 3 (by omega)]
    have e1 : (l.length / 65536) % 256 * 65536 + (l.length / 256) % 256 * 256 + l.length % 256 = l.length := by omega
    simpa [headB, List.getD] using e1
  have h0 : ((frameB (k : Int) l ++ rest).getD 0 0).toNat = k := by rw [g 0 (by omega)]; exact byteOf_nat k (by omega)
  unfold takeR
  have ht : (sealB l ++ rest).take (l.length + 4) = sealB l := by rw [← sealB_len l, List.take_left]
  have ht2 : (sealB l ++ rest).take l.length = l := by unfold sealB; rw [List.append_assoc, List.take_left]
  rw [if_neg (by rw [hlen]; omega), h8, openE_seal, if_neg (by simp), h0, hN, if_neg (by omega), if_neg (by rw [hlen]; omega), hd, ht, openE_seal, if_neg (by simp), ht2]
theorem takeF_frame (b : List UInt8) (k : Nat) (l rest : List UInt8) (hk1 : 1 ≤ k) (hk2 : k ≤ 100) (hl : l.length ≤ 60000) : takeF (b ++ (frameB (k : Int) l ++ rest)) (b.length : Int) = (0, k, l, ((b.length + (l.length + 12) : Nat) : Int)) := by
  unfold takeF
  rw [if_neg (by simp; omega)]
  have e : (b ++ (frameB (k : Int) l ++ rest)).drop ((b.length : Int)).toNat = frameB (k : Int) l ++ rest := by simp
  rw [e, takeR_frame k l rest hk1 hk2 hl]
  simp

end Go.Proofs.Ytokcaoaclheiiaa

/-
  Views in regions that draw, with a room of their own: what a call of either Apply hands back.
-/
namespace Go.Proofs.Ytokcaoaclheiiaa
open Go.RowKit
set_option linter.unusedVariables false
set_option linter.unusedSimpArgs false

def TW (x : VT) (R : Option Addr) (n c : Nat) : Value := .agg (vcs x R n c)
def TU (x : VT) (R : Option Addr) (n c : Nat) : Value := .tuple #[TW x R n c, .bool true]
theorem TU_inj {x : VT} {R R' : Option Addr} {n c c' : Nat} (h : TU x R n c = TU x R' n c') : R = R' ∧ c = c' := by
  simp [TU, TW, vcs] at h
  exact h
def OwnU (x : VT) (n : Nat) (v : Value) (g : Nat) : Prop := ∃ o s c, v = TU x (some ⟨g, o, s⟩) n c
def GU (x : VT) (n B : Nat) (v : Value) (W : World) : Prop := ∃ R c, v = TU x R n c ∧ Rd W W.heap.size 2 R n (fvs x.2.1) ∧ n ≤ c ∧ ∀ a, R = some a → B ≤ a.block
theorem GU.sta {x : VT} {n B : Nat} {v : Value} {w w' : World} {Y : Nat → Prop} (h : GU x n B v w) (hs : Rg.Sta (fun g => Y g ∨ OwnU x n v g) w w') : GU x n B v w' := by
  obtain ⟨R, c, rfl, hrd, hc, hb⟩ := h
  refine ⟨R, c, rfl, ⟨hrd.1, fun hn => ?_⟩, hc, hb⟩
  obtain ⟨b, o, rfl, hlt, hcc⟩ := hrd.2 hn
  exact ⟨b, o, rfl, Nat.lt_of_lt_of_le hlt hs.size, fun j u hu => sta_some hs (hcc j u hu) (.inr ⟨o, none, c, rfl⟩)⟩
theorem ap_rap {r : Option VT} {w : World} {e : Ending} {w' : World} (h : ApPost r w e w') : RApPost r w e w' := by
  cases r with
  | none => exact h
  | some x =>
    obtain ⟨R, rn, he, hrd, hu, hf⟩ := h
    exact ⟨R, rn, rn, he, hrd, Nat.le_refl _, hu, hf⟩
/-- a log of edits that was built so: its fold goes to its end -/
def LogI (S : List UInt8) (v : VT) (m : Nat) : Prop := (∀ (T : List UInt8) (f : Nat), seqF stepV (S ++ T) (f + m) 0 v0 = seqF stepV (S ++ T) f S.length v) ∧ 12 * m ≤ S.length
theorem splitG_none (l : List UInt8) (f k : Nat) (h : (splitG l f k [] []).2.1.length = 0) : (splitG l f k [] []).2.2.1 = k := by
  cases f with
  | zero => rfl
  | succ f =>
    unfold splitG at h ⊢
    by_cases h1 : k < l.length
    · rw [if_pos h1] at h ⊢
      by_cases h2 : (takeR (l.drop k)).1 = 0
      · rw [if_pos h2, splitG_acc l f] at h
        simp at h
      · rw [if_neg h2]
    · rw [if_neg h1]
theorem editB_le {ds : List Int} {add : List Fl} {lg : Int} {f ce at_ le : Nat} (hm : mayE ds add lg f ce at_ le = true) : (editB ds add lg f ce at_ le).length ≤ 1700 := by
  have hm2 := hm
  simp only [mayE, Bool.and_eq_true, decide_eq_true_eq] at hm2
  obtain ⟨m1, m2, m3, m4, m5, m6, m7⟩ := hm2
  have q1 := listB_ten (dq ds) (by rw [dq_len]; omega)
  rw [dq_len] at q1
  have q2 := filesB_len add (List.all_eq_true.1 m7)
  have q3 := numB_ten (n := add.length) (by omega)
  simp only [List.all_cons, List.all_nil, Bool.and_true, Bool.and_eq_true, verOk, decide_eq_true_eq] at m5
  have q4 := numsL_len [lg.toNat, f, ce, at_, le] (by
    intro x hx
    simp only [List.mem_cons, List.not_mem_nil, or_false] at hx
    rcases hx with rfl | rfl | rfl | rfl | rfl <;> omega)
  unfold editB
  simp only [List.length_append, List.length_cons, List.length_nil] at *
  omega
theorem LogI.snoc {S : List UInt8} {v u : VT} {m : Nat} {ds : List Int} {add : List Fl} {lg : Int} {f ce at_ le : Nat} (h : LogI S v m) (hm : mayE ds add lg f ce at_ le = true) (ha : applyE v (ds, add, lg, f, ce, at_, le) = some u) :
    LogI (S ++ frameB 6 (editB ds add lg f ce at_ le)) u (m + 1) := by
  have hle := editB_le hm
  have hre := readE_editB hm
  have hfl := frameB_len 6 (editB ds add lg f ce at_ le)
  refine ⟨fun T fu => ?_, by have := h.2; rw [List.length_append]; omega⟩
  have h1 := h.1 (frameB 6 (editB ds add lg f ce at_ le) ++ T) (fu + 1)
  rw [List.append_assoc, show fu + (m + 1) = fu + 1 + m by omega, h1]
  have hd : (S ++ (frameB 6 (editB ds add lg f ce at_ le) ++ T)).drop S.length = frameB ((6 : Nat) : Int) (editB ds add lg f ce at_ le) ++ T := by rw [List.drop_left]; rfl
  have ht := takeR_frame 6 (editB ds add lg f ce at_ le) T (by omega) (by omega) (by omega)
  rw [seqF_step stepV _ (by rw [List.length_append, List.length_append]; omega), hd, ht]
  have hst : stepV v 6 (editB ds add lg f ce at_ le) = some u := by
    unfold stepV
    rw [if_pos rfl, hre]
    exact ha
  simp only [if_true, hst]
  rw [List.length_append, hfl]
theorem LogI.end_ {S : List UInt8} {v : VT} {m : Nat} (h : LogI S v m) : replP S = if S.length = 0 then none else some (v, S.length) := by
  have h1 := h.1 [] (S.length + 1)
  rw [List.append_nil] at h1
  have h2 := seqF_stop stepV S (f := S.length + 1) (s := v) (k := S.length) (by omega)
  have h3 := seqF_more stepV S (S.length + 1 + m) (S.length + 1) 0 v0 (by omega) (by omega)
  have h4 := seq_split stepV S (S.length + 1) 0 v0
  rw [← h3, h1, h2] at h4
  have h5 := splitG_none S (S.length + 1) 0
  have hs : splitG S (S.length + 1) 0 [] [] = splitL S := rfl
  rw [hs] at h4 h5
  unfold replP viewsP
  by_cases hc : (splitL S).2.2.2 = 0 ∨ (splitL S).2.2.2 = 4
  · rw [if_pos hc] at h4
    cases hf : foldF stepV v0 (splitL S).1 (splitL S).2.1 with
    | none => rw [hf] at h4; cases h4
    | some u =>
      rw [hf] at h4
      simp only [Option.map_some, Option.some.injEq, Prod.mk.injEq] at h4
      obtain ⟨rfl, h6⟩ := h4
      by_cases hb : (splitL S).2.1.length = 0
      · have h7 := h5 hb
        rw [if_pos (.inr hb), if_pos (by omega)]; rfl
      · rw [if_neg (by omega)]
        by_cases hz : S.length = 0
        · exfalso
          have hn : S = [] := List.eq_nil_of_length_eq_zero hz
          subst hn
          exact hb rfl
        · rw [if_neg hz, ← h6]; rfl
  · rw [if_neg hc] at h4; cases h4
theorem LogI.nil : LogI [] v0 0 := ⟨fun T f => rfl, Nat.zero_le _⟩
end Go.Proofs.Ytokcaoaclheiiaa

/-
  The walk of the laws' own test of layer 15.
-/
namespace Go.Proofs.Ytokcaoaclheiiaa
open Go.RowKit
set_option linter.unusedVariables false
set_option linter.unusedSimpArgs false

set_option maxRecDepth 100000 in
set_option maxHeartbeats 1600000 in
theorem awake15_any (w : World) : Calls Try.prog 11 #[] w fun e w' => e = .returned (.bool true) ∧ Up w w' := by
  have ha1 : applyR 0 [] 0 0 0 0 [] [(0, 2)] 1 0 0 0 0 = some (1, [(0, 2)], 0, 0, 0, 0) := by decide
  have ha2 : applyR 1 [(0, 2)] 0 0 0 0 [2] [] 0 0 0 0 0 = some (1, [], 0, 0, 0, 0) := by decide
  have ha3 : viewOk 1 [] 0 0 0 0 = true := by decide
  have HA1 := Lib.hid ha1
  have HA2 := Lib.hid ha2
  have HA3 := Lib.hid ha3
  clear ha1 ha2 ha3
  have hr1 : Rd (w.alloc (.cells #[.int .i64 0, .int .i64 2] 41)) (w.alloc (.cells #[.int .i64 0, .int .i64 2] 41)).heap.size 2 (some ⟨w.heap.size, 0, none⟩) 1 (fvs [(0, 2)]) := Rd.made w #[.int .i64 0, .int .i64 2] 41 rfl
  have hu1 : Up w (w.alloc (.cells #[.int .i64 0, .int .i64 2] 41)) := (Up.refl w).alloc _
  go_enter Try.func11, Try.ntmps11
  go_wp2_with fail
  generalize w.alloc (.cells #[.int .i64 0, .int .i64 2] 41) = w1 at *
  refine (apply_any 0 none 0 0 [] 0 0 0 0 none 0 0 [] (some ⟨w.heap.size, 0, none⟩) 1 1 [(0, 2)] 1 0 0 0 0 w1 Rd.empty (by omega) Rd.empty (by omega) hr1 (by omega)).mono ?_
  intro e w2 hp
  rw [HA1.out] at hp
  obtain ⟨R, rn, rfl, hrd2, hu2, -⟩ := hp
  have hrn : rn = 1 := by have := hrd2.flen; simpa using this
  subst hrn
  simp only [Int.natCast_zero, Int.ofNat_zero]
  have hb3 : (w2.alloc (.cells #[.int .i64 1, .slice R 1 1, .int .u64 0, .int .u64 0, .int .u64 0, .int .u64 0] 27)).heap[w2.heap.size]? = some (.cells #[.int .i64 1, .slice R 1 1, .int .u64 0, .int .u64 0, .int .u64 0, .int .u64 0] 27 (0, 0)) := heap_alloc_new _ _
  have hr3 := Rd.made (w2.alloc (.cells #[.int .i64 1, .slice R 1 1, .int .u64 0, .int .u64 0, .int .u64 0, .int .u64 0] 27)) (sz := 1) (n := 1) #[.int .i64 2] 3 rfl
  rw [World.size_alloc w2] at hr3
  have hu3 : Up w2 ((w2.alloc (.cells #[.int .i64 1, .slice R 1 1, .int .u64 0, .int .u64 0, .int .u64 0, .int .u64 0] 27)).alloc (.cells #[.int .i64 2] 3)) := ((Up.refl w2).alloc _).alloc _
  have hb4 := (((Up.refl (w2.alloc (.cells #[.int .i64 1, .slice R 1 1, .int .u64 0, .int .u64 0, .int .u64 0, .int .u64 0] 27))).alloc (.cells #[.int .i64 2] 3)).block _ (Array.getElem?_eq_some_iff.1 hb3).1).trans hb3
  go_wp2_with fail
  clear hb3
  generalize (w2.alloc (.cells #[.int .i64 1, .slice R 1 1, .int .u64 0, .int .u64 0, .int .u64 0, .int .u64 0] 27)).alloc (.cells #[.int .i64 2] 3) = w3 at *
  refine (apply_any 1 R 1 1 [(0, 2)] 0 0 0 0 (some ⟨w2.heap.size + 1, 0, none⟩) 1 1 [2] none 0 0 [] 0 0 0 0 0 w3 (hrd2.up hu3) (by omega) hr3 (by omega) Rd.empty (by omega)).mono ?_
  intro e w4 hp
  rw [HA2.out] at hp
  obtain ⟨R4, rn4, rfl, hrd4, hu4, -⟩ := hp
  have hrn : rn4 = 0 := by have := hrd4.flen; simpa using this
  subst hrn
  simp only [Int.natCast_zero, Int.ofNat_zero]
  have hb5 := (hu4.block _ (Array.getElem?_eq_some_iff.1 hb4).1).trans hb4
  generalize w2.heap.size = g1 at *
  have hb6 : (w4.alloc (.cells #[.int .i64 1, .slice R4 0 0, .int .u64 0, .int .u64 0, .int .u64 0, .int .u64 0] 27)).heap[w4.heap.size]? = some (.cells #[.int .i64 1, .slice R4 0 0, .int .u64 0, .int .u64 0, .int .u64 0, .int .u64 0] 27 (0, 0)) := heap_alloc_new _ _
  have hu5 : Up w4 (w4.alloc (.cells #[.int .i64 1, .slice R4 0 0, .int .u64 0, .int .u64 0, .int .u64 0, .int .u64 0] 27)) := (Up.refl w4).alloc _
  have hb7 := (hu5.block _ (Array.getElem?_eq_some_iff.1 hb5).1).trans hb5
  have q1 := blk_cell hb7 1
  have p0 := blk_cell hb6 0
  have p1 := blk_cell hb6 1
  have p2 := blk_cell hb6 2
  have p3 := blk_cell hb6 3
  have p4 := blk_cell hb6 4
  have p5 := blk_cell hb6 5
  go_wp2_with fail
  clear q1 p0 p1 p2 p3 p4 p5
  refine (vok_any 1 R4 0 0 [] 0 0 0 0 _ (hrd4.up hu5) (by omega) (by omega)).mono ?_
  rintro e w6 ⟨rfl, hu6⟩
  rw [HA3.out]
  go_wp2_with fail
  go_ret
  exact ⟨rfl, (((hu1.trans hu2).trans hu3).trans hu4).trans (hu5.trans hu6)⟩
end Go.Proofs.Ytokcaoaclheiiaa

/-
  The walk of the document's Edit (of what may be).
-/
namespace Go.Proofs.Ytokcaoaclheiiaa
open Go.RowKit
set_option linter.unusedVariables false
set_option linter.unusedSimpArgs false

set_option maxRecDepth 100000 in
set_option maxHeartbeats 1600000 in
theorem redit_any (D : Option Addr) (dn dc : Nat) (ds : List Int) (A : Option Addr) (an ac : Nat) (add : List Fl) (lg : Int) (f ce at_ le : Nat) (w : World)
    (hd : Rd w w.heap.size 1 D dn (nmv ds)) (hdn : dn ≤ 9223372036854775807) (ha : Rd w w.heap.size 2 A an (fvs add)) (han : an ≤ 9223372036854775807) (hm : mayE ds add lg f ce at_ le = true) :
    Calls Try.prog 17 #[.agg #[.slice D dn dc, .slice A an ac, .int .i64 lg, .int .u64 (f : Int), .int .u64 (ce : Int), .int .u64 (at_ : Int), .int .u64 (le : Int)]] w fun e w' => e = .returned (.string (tx (frameB 6 (editB ds add lg f ce at_ le)))) ∧ Up w w' := by
  have hm2 := hm
  simp only [mayE, Bool.and_eq_true, decide_eq_true_eq] at hm2
  obtain ⟨m1, m2, m3, m4, m5, m6, m7⟩ := hm2
  have m6' : ∀ x ∈ ds, numOk x = true := List.all_eq_true.1 m6
  have m7' : ∀ x ∈ add, fileOk x = true := List.all_eq_true.1 m7
  simp only [List.all_cons, List.all_nil, Bool.and_true, Bool.and_eq_true, verOk, decide_eq_true_eq] at m5
  obtain ⟨m51, m52, m53, m54⟩ := m5
  have hdl : dn = ds.length := by have := hd.1; rw [nmv_len] at this; omega
  have hal : an = add.length := ha.flen
  have HDL := Lib.hid hdl
  have HAL := Lib.hid hal
  have HM6 := Lib.hid m6'
  have HM7 := Lib.hid m7'
  rw [← hdl] at m1
  rw [← hal] at m2
  clear hm hdl hal m6 m7 m6' m7'
  obtain ⟨w1, hw1⟩ : ∃ w1, w1 = w.alloc (.cells #[.slice D dn dc, .slice A an ac, .int .i64 lg, .int .u64 (f : Int), .int .u64 (ce : Int), .int .u64 (at_ : Int), .int .u64 (le : Int)] 32) := ⟨_, rfl⟩
  have hup : Up w w1 := by rw [hw1]; exact (Up.refl w).alloc _
  have hb : w1.heap[w.heap.size]? = some (.cells #[.slice D dn dc, .slice A an ac, .int .i64 lg, .int .u64 (f : Int), .int .u64 (ce : Int), .int .u64 (at_ : Int), .int .u64 (le : Int)] 32 (0, 0)) := by rw [hw1]; exact heap_alloc_new w _
  have HW := Lib.hid hw1
  clear hw1
  go_enter Try.func17, Try.ntmps17
  go_wp2_with fail
  rw [← HW.out]
  clear HW
  have hge : w.heap.size ≤ w.heap.size := Nat.le_refl _
  generalize hgE : w.heap.size = ge at hb ⊢
  go_loopw [3, 4] (fun q i wr => ∃ (k : Nat) (Q : Option Addr) (qc : Nat), i = .int .i64 (k : Int) ∧ q = .slice Q k qc ∧ k ≤ dn ∧ Up w1 wr ∧ OwnQ wr w1.heap.size Q k qc (dq (ds.take k))) (fun _ i _ => dn - (intOf i).toNat)
  case atStart => exact ⟨0, none, 0, rfl, rfl, by omega, Up.refl _, World.ownsRow_nil _ _ _ _⟩
  case round =>
    obtain ⟨k, Q, qc, rfl, rfl, hk, hu, hq⟩ := hrel
    have hb2 := (hu.block _ (Array.getElem?_eq_some_iff.1 hb).1).trans hb
    have t0 := blk_cell hb2 0
    by_cases hlt : k < dn
    · have hkl : k < ds.length := by have := HDL.out; omega
      obtain ⟨b, o, rfl, hbb, hc⟩ := hd.2 (by omega)
      have hck : wr.cell? ⟨b, o + k, none⟩ = some (.int .i64 ds[k]) := ((hup.trans hu).cell (p := ⟨b, o + k, none⟩) hbb).trans (hc k _ (by simp [nmv, hkl]))
      obtain ⟨x, hx⟩ : ∃ x, x = ds[k] := ⟨_, rfl⟩
      have hxo : numOk x = true := by rw [hx]; exact HM6.out _ (List.getElem_mem hkl)
      rw [← hx] at hck
      obtain ⟨z1, z2⟩ := numOk_wrap hxo
      have htk : dq (ds.take (k + 1)) = dq (ds.take k) ++ [UInt64.ofNat x.toNat] := by
        rw [List.take_succ_eq_append_getElem hkl, ← hx]; simp [dq]
      generalize x.toNat = xn at *
      have hqv : Value.int .u64 (xn : Int) = qv (UInt64.ofNat xn) := by
        rw [qv_ofNat, Nat.mod_eq_of_lt (by omega)]
      have HT := Lib.hid htk
      have HQV := Lib.hid hqv
      have hki : (k : Int) < (dn : Int) := by omega
      clear hc hx hxo htk hqv
      go_wp2_with (at_builtin; refine wpList_append_rd _ numsT (news := qvs [UInt64.ofNat xn]) (World.ownsRow.alloc hq _) (Rd.boxq _ _ HQV.out) (qvs_one _) (by omega) (by omega) (by simp; have := hu.size; omega) rfl rfl rfl rfl ?_; intro v3 w3 hown3 hg3 hat3; obtain ⟨Q3, qc3, rfl⟩ := own_form hown3)
      have hu3 : Up w1 w3 := (hu.alloc _).grown hg3 (fun g hg => (hq.lt g hg).1)
      clear hck hat3 hg3 t0
      go_roundw
      case rel =>
        refine ⟨k + 1, Q3, qc3, by go_num, rfl, by omega, hu3, ?_⟩
        show World.ownsRow _ _ _ _ _ _ _
        rw [HT.out, qvs_append]
        exact hown3
      case measure => simp [intOf]; omega
    · have hkd : k = dn := by omega
      subst hkd
      have hqd : OwnQ wr w1.heap.size Q k qc (dq ds) := by
        have h := hq
        rw [HDL.out, List.take_length] at h
        rw [HDL.out]
        exact h
      have hqr := hqd.rd
      have hS : ∀ W, Up wr W → Up wr W ∧ W.cell? ⟨ge, 1, none⟩ = some (.slice A an ac) := fun W h =>
        ⟨h, blk_cell ((h.block _ (Array.getElem?_eq_some_iff.1 hb2).1).trans hb2) 1⟩
      have zan : IntKind.u64.wrap (an : Int) = (an : Int) := by simp [IntKind.wrap, IntKind.bits, IntKind.signed]; omega
      have hlb := listB_ten (dq ds) (by rw [dq_len, ← HDL.out]; omega)
      rw [dq_len, ← HDL.out] at hlb
      have hnb := numB_ten (n := an) (by omega)
      have hup9 := hup.trans hu
      have hki : ¬ (k : Int) < (k : Int) := by omega
      have ha9 := ha.up hup9
      clear hq hqd hd hb hup hu ha
      go_wp2_with fail
      clear t0
      apply Rg.region_up _ (by kernel_rfl) (by kernel_rfl) hS
      · intro QN hQN
        (apply Rg.RK.ok; (· intro vs w1 hS; go_simp; with_reducible rfl); (· rfl); simp only [Act.put, List.setIfInBounds_toArray, List.set_cons_zero, List.set_cons_succ, Nat.reduceAdd])
        apply Rg.RK.call (.string (tx (listB (dq ds)))) []
        · rfl
        · intro vs w1 hK hS _ K hKK
          go_simp
          refine (rlist_any Q k qc (dq ds) w1 (hqr.up hS.1) (by omega)).mono ?_
          rintro e w2 ⟨s1, rfl, hs1, hu1⟩
          rw [tx_of hs1.out]
          exact hKK.out _ hu1
        simp only [Act.put, List.setIfInBounds_toArray, List.set_cons_zero, List.set_cons_succ, Nat.reduceAdd]
        iterate 4 (apply Rg.RK.ok; (· intro vs w1 hS; go_simp; with_reducible rfl); (· rfl); simp only [Act.put, List.setIfInBounds_toArray, List.set_cons_zero, List.set_cons_succ, Nat.reduceAdd])
        apply Rg.RK.call (.string (tx (numB an))) []
        · rfl
        · intro vs w1 hK hS _ K hKK
          go_simp
          refine (rnum_any an w1 (by omega)).mono ?_
          rintro e w2 ⟨s1, rfl, hs1, hu1⟩
          rw [tx_of hs1.out]
          exact hKK.out _ hu1
        simp only [Act.put, List.setIfInBounds_toArray, List.set_cons_zero, List.set_cons_succ, Nat.reduceAdd]
        (apply Rg.RK.ok; (· intro vs w1 hS; go_simp; rw [if_neg (by simp [tx_size, cc_length]; omega), tx_append]); (· rfl); simp only [Act.put, List.setIfInBounds_toArray, List.set_cons_zero, List.set_cons_succ, Nat.reduceAdd])
        (apply Rg.RK.ok; (· intro vs w1 hS; go_simp; with_reducible rfl); (· rfl); simp only [Act.put, List.setIfInBounds_toArray, List.set_cons_zero, List.set_cons_succ, Nat.reduceAdd])
        apply Rg.RK.fin []
        intro vs w8 hK hS8 _
        refine hQN.out _ _ ?_
        clear hQN
        have hu8 := keeps_up hK
        have hb10 := (hu8.block _ (Array.getElem?_eq_some_iff.1 hb2).1).trans hb2
        have hup10 := hup9.trans hu8
        have ha10 := ha9.up hu8
        have hcc : cc (listB (dq ds)) (numB an) = listB (dq ds) ++ numB add.length := by rw [HAL.out]; rfl
        have hcl : (cc (listB (dq ds)) (numB an)).length ≤ 10 * k + 20 := by rw [cc_length]; omega
        have HCC := Lib.hid hcc
        clear hS8 hK hqr hb2 hup9 hu8 hlb ha9 hcc hnb
        generalize cc (listB (dq ds)) (numB an) = T0 at *
        go_wp2_with fail
        go_loopw [5, 6] (fun q i wr => ∃ (j : Nat) (T : List UInt8), i = .int .i64 (j : Int) ∧ q = .string (tx T) ∧ j ≤ an ∧ T.length ≤ 10 * k + 20 + 20 * j ∧ Up w8 wr ∧ Hid (T = listB (dq ds) ++ numB add.length ++ filesB (add.take j))) (fun _ i _ => an - (intOf i).toNat)
        case atStart =>
          refine ⟨0, T0, rfl, rfl, by omega, by omega, Up.refl _, ?_⟩
          show _ = _
          rw [HCC.out]; simp [filesB]
        case round =>
          obtain ⟨j, T, rfl, rfl, hj, hTl, hu, hT⟩ := hrel
          have hb11 := (hu.block _ (Array.getElem?_eq_some_iff.1 hb10).1).trans hb10
          have t1 := blk_cell hb11 1
          clear hcl
          by_cases hlt2 : j < an
          · have hjl : j < add.length := by have := HAL.out; omega
            obtain ⟨b, o, x, rfl, hbb, hx, c0, c1⟩ := (ha10.up hu).file_at hlt2
            rw [List.getElem?_eq_getElem hjl] at hx
            injection hx with hx
            have hxo : fileOk x = true := by rw [← hx]; exact HM7.out _ (List.getElem_mem hjl)
            have htk : filesB (add.take (j + 1)) = filesB (add.take j) ++ (numB x.1.toNat ++ numB x.2.toNat) := by
              rw [List.take_succ_eq_append_getElem hjl, hx]; simp [filesB]
            obtain ⟨x1, x2⟩ := x
            (try dsimp only at c0 c1 htk)
            simp [fileOk, numOk] at hxo
            have z1 := lev_wrap (x := x1) (by omega) (by omega)
            have z2 := lev_wrap (x := x2) (by omega) (by omega)
            have z3 : x1.toNat ≤ 3 := by omega
            have z4 : x2.toNat ≤ 1073741824 := by omega
            have HT := Lib.hid htk
            clear hx hxo htk
            generalize x1.toNat = y1 at *
            generalize x2.toNat = y2 at *
            have n1 := numB_ten (n := y1) (by omega)
            have n2 := numB_ten (n := y2) (by omega)
            have hji : (j : Int) < (an : Int) := by omega
            have hjb : decide ((j : Int) < (an : Int)) = true := by simp; omega
            have hS : ∀ W, Up wr W → Up wr W ∧ W.cell? ⟨ge, 1, none⟩ = some (.slice (some ⟨b, o, none⟩) an ac) ∧ W.cell? ⟨b, o + j * 2, none⟩ = some (.int .i64 x1) ∧ W.cell? ⟨b, o + j * 2 + 1, none⟩ = some (.int .i64 x2) := fun W h =>
              ⟨h, blk_cell ((h.block _ (Array.getElem?_eq_some_iff.1 hb11).1).trans hb11) 1, (h.cell (p := ⟨b, o + j * 2, none⟩) hbb).trans c0, (h.cell (p := ⟨b, o + j * 2 + 1, none⟩) hbb).trans c1⟩
            go_wp2_with fail
            clear c0 c1 t1
            apply Rg.region_up _ (by kernel_rfl) (by kernel_rfl) hS
            · intro QN hQN
              iterate 8 (apply Rg.RK.ok; (· intro vs w1 hS; go_simp; with_reducible rfl); (· rfl); simp only [Act.put, List.setIfInBounds_toArray, List.set_cons_zero, List.set_cons_succ, Nat.reduceAdd])
              apply Rg.RK.call (.string (tx (numB y1))) []
              · rfl
              · intro vs w1 hK hS _ K hKK
                go_simp
                refine (rnum_any y1 w1 (by omega)).mono ?_
                rintro e w2 ⟨s1, rfl, hs1, hu1⟩
                rw [tx_of hs1.out]
                exact hKK.out _ hu1
              simp only [Act.put, List.setIfInBounds_toArray, List.set_cons_zero, List.set_cons_succ, Nat.reduceAdd]
              (apply Rg.RK.ok; (· intro vs w1 hS; go_simp; rw [if_neg (by simp [tx_size, cc_length]; omega), tx_append]); (· rfl); simp only [Act.put, List.setIfInBounds_toArray, List.set_cons_zero, List.set_cons_succ, Nat.reduceAdd])
              iterate 7 (apply Rg.RK.ok; (· intro vs w1 hS; go_simp; with_reducible rfl); (· rfl); simp only [Act.put, List.setIfInBounds_toArray, List.set_cons_zero, List.set_cons_succ, Nat.reduceAdd])
              apply Rg.RK.call (.string (tx (numB y2))) []
              · rfl
              · intro vs w1 hK hS _ K hKK
                go_simp
                refine (rnum_any y2 w1 (by omega)).mono ?_
                rintro e w2 ⟨s1, rfl, hs1, hu1⟩
                rw [tx_of hs1.out]
                exact hKK.out _ hu1
              simp only [Act.put, List.setIfInBounds_toArray, List.set_cons_zero, List.set_cons_succ, Nat.reduceAdd]
              (apply Rg.RK.ok; (· intro vs w1 hS; go_simp; rw [if_neg (by simp [tx_size, cc_length]; omega), tx_append]); (· rfl); simp only [Act.put, List.setIfInBounds_toArray, List.set_cons_zero, List.set_cons_succ, Nat.reduceAdd])
              (apply Rg.RK.ok; (· intro vs w1 hS; go_simp; with_reducible rfl); (· rfl); simp only [Act.put, List.setIfInBounds_toArray, List.set_cons_zero, List.set_cons_succ, Nat.reduceAdd])
              apply Rg.RK.fin []
              intro vs w9 hK hS9 _
              refine hQN.out _ _ ?_
              clear hQN
              have hu9 := keeps_up hK
              have hcl : (cc (cc T (numB y1)) (numB y2)).length ≤ 10 * k + 20 + 20 * (j + 1) := by rw [cc_length, cc_length]; omega
              have hcT : cc (cc T (numB y1)) (numB y2) = listB (dq ds) ++ numB add.length ++ filesB (add.take (j + 1)) := by
                rw [HT.out, hT.out]
                show _ ++ _ ++ _ = _
                simp only [List.append_assoc]
              have HCT := Lib.hid hcT
              clear hS9 hK hcT
              generalize cc (cc T (numB y1)) (numB y2) = T2 at *
              go_wp2_with fail
              go_roundw
              case rel => exact ⟨j + 1, T2, by go_num, rfl, by omega, hcl, hu.trans hu9, HCT⟩
              case measure => simp [intOf]; omega
            · kernel_rfl
          · have hjn : j = an := by omega
            have hTe : T = listB (dq ds) ++ numB add.length ++ filesB add := by
              have h := hT.out
              rwa [hjn, HAL.out, List.take_length] at h
            have HTE := Lib.hid hTe
            have zlg := lev_wrap m3 m4
            have zl2 : lg.toNat ≤ 1073741824 := by omega
            obtain ⟨lgN, hlgN⟩ : ∃ lgN, lgN = lg.toNat := ⟨_, rfl⟩
            rw [← hlgN] at zlg zl2
            have HLG := Lib.hid hlgN
            have e1 := numB_ten (n := lgN) (by omega)
            have e2 := numB_ten (n := f) (by omega)
            have e3 := numB_ten (n := ce) (by omega)
            have e4 := numB_ten (n := at_) (by omega)
            have e5 := numB_ten (n := le) (by omega)
            have hS : ∀ W, Up wr W → W.cell? ⟨ge, 2, none⟩ = some (.int .i64 lg) ∧ W.cell? ⟨ge, 3, none⟩ = some (.int .u64 (f : Int)) ∧ W.cell? ⟨ge, 4, none⟩ = some (.int .u64 (ce : Int)) ∧ W.cell? ⟨ge, 5, none⟩ = some (.int .u64 (at_ : Int)) ∧ W.cell? ⟨ge, 6, none⟩ = some (.int .u64 (le : Int)) := fun W h => by
              have hbW := (h.block _ (Array.getElem?_eq_some_iff.1 hb11).1).trans hb11
              exact ⟨blk_cell hbW 2, blk_cell hbW 3, blk_cell hbW 4, blk_cell hbW 5, blk_cell hbW 6⟩
            have hji : ¬ (j : Int) < (an : Int) := by omega
            have hjb : decide ((j : Int) < (an : Int)) = false := by simp; omega
            clear hT hTe hlgN ha10 hjn
            go_wp2_with fail
            clear t1
            apply Rg.region_up _ (by kernel_rfl) (by kernel_rfl) hS
            · intro QN hQN
              iterate 4 (apply Rg.RK.ok; (· intro vs w1 hS; go_simp; with_reducible rfl); (· rfl); simp only [Act.put, List.setIfInBounds_toArray, List.set_cons_zero, List.set_cons_succ, Nat.reduceAdd])
              apply Rg.RK.call (.string (tx (numB lgN))) []
              · rfl
              · intro vs w1 hK hS _ K hKK
                go_simp
                refine (rnum_any lgN w1 (by omega)).mono ?_
                rintro e w2 ⟨s1, rfl, hs1, hu1⟩
                rw [tx_of hs1.out]
                exact hKK.out _ hu1
              simp only [Act.put, List.setIfInBounds_toArray, List.set_cons_zero, List.set_cons_succ, Nat.reduceAdd]
              (apply Rg.RK.ok; (· intro vs w1 hS; go_simp; rw [if_neg (by simp [tx_size, cc_length]; omega), tx_append]); (· rfl); simp only [Act.put, List.setIfInBounds_toArray, List.set_cons_zero, List.set_cons_succ, Nat.reduceAdd])
              iterate 2 (apply Rg.RK.ok; (· intro vs w1 hS; go_simp; with_reducible rfl); (· rfl); simp only [Act.put, List.setIfInBounds_toArray, List.set_cons_zero, List.set_cons_succ, Nat.reduceAdd])
              apply Rg.RK.call (.string (tx (numB f))) []
              · rfl
              · intro vs w1 hK hS _ K hKK
                go_simp
                refine (rnum_any f w1 (by omega)).mono ?_
                rintro e w2 ⟨s1, rfl, hs1, hu1⟩
                rw [tx_of hs1.out]
                exact hKK.out _ hu1
              simp only [Act.put, List.setIfInBounds_toArray, List.set_cons_zero, List.set_cons_succ, Nat.reduceAdd]
              (apply Rg.RK.ok; (· intro vs w1 hS; go_simp; rw [if_neg (by simp [tx_size, cc_length]; omega), tx_append]); (· rfl); simp only [Act.put, List.setIfInBounds_toArray, List.set_cons_zero, List.set_cons_succ, Nat.reduceAdd])
              iterate 2 (apply Rg.RK.ok; (· intro vs w1 hS; go_simp; with_reducible rfl); (· rfl); simp only [Act.put, List.setIfInBounds_toArray, List.set_cons_zero, List.set_cons_succ, Nat.reduceAdd])
              apply Rg.RK.call (.string (tx (numB ce))) []
              · rfl
              · intro vs w1 hK hS _ K hKK
                go_simp
                refine (rnum_any ce w1 (by omega)).mono ?_
                rintro e w2 ⟨s1, rfl, hs1, hu1⟩
                rw [tx_of hs1.out]
                exact hKK.out _ hu1
              simp only [Act.put, List.setIfInBounds_toArray, List.set_cons_zero, List.set_cons_succ, Nat.reduceAdd]
              (apply Rg.RK.ok; (· intro vs w1 hS; go_simp; rw [if_neg (by simp [tx_size, cc_length]; omega), tx_append]); (· rfl); simp only [Act.put, List.setIfInBounds_toArray, List.set_cons_zero, List.set_cons_succ, Nat.reduceAdd])
              iterate 2 (apply Rg.RK.ok; (· intro vs w1 hS; go_simp; with_reducible rfl); (· rfl); simp only [Act.put, List.setIfInBounds_toArray, List.set_cons_zero, List.set_cons_succ, Nat.reduceAdd])
              apply Rg.RK.call (.string (tx (numB at_))) []
              · rfl
              · intro vs w1 hK hS _ K hKK
                go_simp
                refine (rnum_any at_ w1 (by omega)).mono ?_
                rintro e w2 ⟨s1, rfl, hs1, hu1⟩
                rw [tx_of hs1.out]
                exact hKK.out _ hu1
              simp only [Act.put, List.setIfInBounds_toArray, List.set_cons_zero, List.set_cons_succ, Nat.reduceAdd]
              (apply Rg.RK.ok; (· intro vs w1 hS; go_simp; rw [if_neg (by simp [tx_size, cc_length]; omega), tx_append]); (· rfl); simp only [Act.put, List.setIfInBounds_toArray, List.set_cons_zero, List.set_cons_succ, Nat.reduceAdd])
              iterate 2 (apply Rg.RK.ok; (· intro vs w1 hS; go_simp; with_reducible rfl); (· rfl); simp only [Act.put, List.setIfInBounds_toArray, List.set_cons_zero, List.set_cons_succ, Nat.reduceAdd])
              apply Rg.RK.call (.string (tx (numB le))) []
              · rfl
              · intro vs w1 hK hS _ K hKK
                go_simp
                refine (rnum_any le w1 (by omega)).mono ?_
                rintro e w2 ⟨s1, rfl, hs1, hu1⟩
                rw [tx_of hs1.out]
                exact hKK.out _ hu1
              simp only [Act.put, List.setIfInBounds_toArray, List.set_cons_zero, List.set_cons_succ, Nat.reduceAdd]
              (apply Rg.RK.ok; (· intro vs w1 hS; go_simp; rw [if_neg (by simp [tx_size, cc_length]; omega), tx_append]); (· rfl); simp only [Act.put, List.setIfInBounds_toArray, List.set_cons_zero, List.set_cons_succ, Nat.reduceAdd])
              (apply Rg.RK.ok; (· intro vs w1 hS; go_simp; with_reducible rfl); (· rfl); simp only [Act.put, List.setIfInBounds_toArray, List.set_cons_zero, List.set_cons_succ, Nat.reduceAdd])
              apply Rg.RK.fin []
              intro vs w9 hK hS9 _
              refine hQN.out _ _ ?_
              clear hQN
              have hu9 := keeps_up hK
              have hcl : (cc (cc (cc (cc (cc T (numB lgN)) (numB f)) (numB ce)) (numB at_)) (numB le)).length ≤ 60000 := by
                rw [cc_length, cc_length, cc_length, cc_length, cc_length]; omega
              have hcT : cc (cc (cc (cc (cc T (numB lgN)) (numB f)) (numB ce)) (numB at_)) (numB le) = editB ds add lg f ce at_ le := by
                rw [HTE.out, HLG.out]
                show _ ++ _ ++ _ ++ _ ++ _ ++ _ = _
                simp only [editB, numsL, List.flatMap_cons, List.flatMap_nil, List.append_nil, List.append_assoc]
              rw [hcT] at hcl ⊢
              clear hS9 hK hcT
              go_wp2_with fail
              refine (rframe_any 6 (editB ds add lg f ce at_ le) w9 (by omega) hcl).mono ?_
              rintro e w10 ⟨rfl, hu10⟩
              go_wp2_with fail
              go_ret
              exact ⟨rfl, ((hup10.trans hu).trans hu9).trans hu10⟩
            · kernel_rfl
      · kernel_rfl
end Go.Proofs.Ytokcaoaclheiiaa

/-
  The walk of clepsydraref1.Split.
-/
namespace Go.Proofs.Ytokcaoaclheiiaa
open Go.RowKit
set_option linter.unusedVariables false
set_option linter.unusedSimpArgs false

end Go.Proofs.Ytokcaoaclheiiaa

/-
  []byte(s): a new slice that holds a text's bytes.
-/
namespace Go.Proofs.Ytokcaoaclheiiaa
open Go.RowKit
set_option linter.unusedVariables false
set_option linter.unusedSimpArgs false

theorem conv_b (w : World) (l : List UInt8) : ∃ c w', (convert 9 43 (.string (tx l))).run Try.prog w = .ok (.slice (some ⟨w.heap.size, 0, none⟩) l.length c) w' ∧ l.length ≤ c ∧
    Rd w' w'.heap.size 1 (some ⟨w.heap.size, 0, none⟩) l.length (bvs l) ∧ Up w w' ∧ (∀ j, j < l.length → w'.frozen? ⟨w.heap.size, j, none⟩ = false) ∧ w.heap.size < w'.heap.size := by
  have hrun := Lib.run_convert_string_bytes (P := Try.prog) w 9 43 5 (tx l) Try.underlying9 bytesT.ut Try.underlying5
  rw [tx_size] at hrun
  refine ⟨_, _, hrun, grownCap_ge w _ 0 _, ⟨by rw [bvs_length, Nat.mul_one], fun _ => ⟨w.heap.size, 0, rfl, by rw [Lib.bytesWorld_size]; omega, fun j u hu => ?_⟩⟩, ⟨rfl, rfl, rfl, by rw [Lib.bytesWorld_size]; omega, fun k hk => Lib.bytesWorld_at_old w _ _ k hk⟩, fun j hj => ?_, by rw [Lib.bytesWorld_size]; omega⟩
  · rw [Nat.zero_add]
    have hj := (List.getElem?_eq_some_iff.1 hu).1
    rw [bvs_length] at hj
    rw [Lib.bytesWorld_cell w _ _ j (by rw [tx_size]; exact hj), tx_list, ← hu]
    simp [bvs, bv, hj, List.getD]
  · have hge := grownCap_ge w l.length 0 5
    unfold World.frozen?
    rw [Lib.bytesWorld_at_new]
    have hs : j < (Lib.bytesCells w 5 (tx l)).size := by
      unfold Lib.bytesCells
      simp [tx_size]; omega
    simp
    omega
end Go.Proofs.Ytokcaoaclheiiaa

/-
  []byte(s) whose bytes are written: the new block itself.
-/
namespace Go.Proofs.Ytokcaoaclheiiaa
open Go.RowKit
set_option linter.unusedVariables false
set_option linter.unusedSimpArgs false

/-- the block g begins with these bytes; none of them is shut -/
def Beg (g : Nat) (l : List UInt8) (w : World) : Prop := ∃ (cs : Array Value) (t : TypeId) (fz : Nat × Nat), w.heap[g]? = some (.cells cs t fz) ∧ l.length ≤ cs.size ∧ l.length ≤ fz.1 ∧ ∀ j, j < l.length → cs[j]? = some (bv (l.getD j 0))
theorem Beg.sta {g : Nat} {l : List UInt8} {w w' : World} {Y : Nat → Prop} (h : Beg g l w) (hs : Rg.Sta Y w w') (hy : Y g) : Beg g l w' := by
  obtain ⟨cs, t, fz, hh, h2, h3⟩ := h
  exact ⟨cs, t, fz, (hs.block g (Array.getElem?_eq_some_iff.1 hh).1 hy).trans hh, h2, h3⟩
theorem Beg.up {g : Nat} {l : List UInt8} {w w' : World} (h : Beg g l w) (hu : Up w w') : Beg g l w' := by
  obtain ⟨cs, t, fz, hh, h2, h3⟩ := h
  exact ⟨cs, t, fz, (hu.block g (Array.getElem?_eq_some_iff.1 hh).1).trans hh, h2, h3⟩
theorem Beg.cell {g : Nat} {l : List UInt8} {w : World} (h : Beg g l w) {j : Nat} (hj : j < l.length) : w.cell? ⟨g, j, none⟩ = some (bv (l.getD j 0)) := by
  obtain ⟨cs, t, fz, hh, h2, h4, h3⟩ := h
  rw [cell_of_row w g j cs t fz hh, h3 j hj]
theorem Beg.free {g : Nat} {l : List UInt8} {w : World} (h : Beg g l w) {j : Nat} (hj : j < l.length) : w.frozen? ⟨g, j, none⟩ = false := by
  obtain ⟨cs, t, fz, hh, h2, h4, h3⟩ := h
  simp [World.frozen?, hh]
  omega
theorem Beg.lt {g : Nat} {l : List UInt8} {w : World} (h : Beg g l w) : g < w.heap.size := by
  obtain ⟨cs, t, fz, hh, h2, h3⟩ := h
  exact (Array.getElem?_eq_some_iff.1 hh).1
theorem Beg.rd {g : Nat} {l : List UInt8} {w : World} (h : Beg g l w) : Rd w w.heap.size 1 (some ⟨g, 0, none⟩) l.length (bvs l) := by
  refine ⟨by rw [bvs_length, Nat.mul_one], fun _ => ⟨g, 0, rfl, h.lt, fun j u hu => ?_⟩⟩
  have hj := (List.getElem?_eq_some_iff.1 hu).1
  rw [bvs_length] at hj
  rw [Nat.zero_add, h.cell hj, ← hu]
  simp [bvs, bv, hj, List.getD]
theorem Beg.set {g : Nat} {l : List UInt8} {w : World} (h : Beg g l w) {j : Nat} (hj : j < l.length) (x : UInt8) : Beg g (l.set j x) (w.setCell ⟨g, j, none⟩ (bv x)) := by
  obtain ⟨cs, t, fz, hh, h2, h4, h3⟩ := h
  refine ⟨cs.setIfInBounds j (bv x), t, fz, by simp [World.setCell, Array.getElem?_modify, hh], by simp; exact h2, by simp; exact h4, fun i hi => ?_⟩
  rw [List.length_set] at hi
  by_cases hij : j = i
  · subst hij
    rw [Array.getElem?_setIfInBounds_self_of_lt (by omega)]
    simp [List.getD, hj]
  · rw [Array.getElem?_setIfInBounds_ne hij, h3 i hi]
    simp [List.getD, List.getElem?_set_ne hij]
theorem conv_beg (w : World) (l : List UInt8) : ∃ c w', (convert 9 43 (.string (tx l))).run Try.prog w = .ok (.slice (some ⟨w.heap.size, 0, none⟩) l.length c) w' ∧ l.length ≤ c ∧
    Beg w.heap.size l w' ∧ Up w w' := by
  have hrun := Lib.run_convert_string_bytes (P := Try.prog) w 9 43 5 (tx l) Try.underlying9 bytesT.ut Try.underlying5
  rw [tx_size] at hrun
  refine ⟨_, _, hrun, grownCap_ge w _ 0 _, ?_, ⟨rfl, rfl, rfl, by rw [Lib.bytesWorld_size]; omega, fun k hk => Lib.bytesWorld_at_old w _ _ k hk⟩⟩
  have hge := grownCap_ge w l.length 0 5
  have hs : l.length ≤ (Lib.bytesCells w 5 (tx l)).size := by
    unfold Lib.bytesCells
    simp [tx_size]
  refine ⟨_, _, _, Lib.bytesWorld_at_new w _ _, hs, hs, fun j hj => ?_⟩
  have hc := Lib.bytesWorld_cell w 5 (tx l) j (by rw [tx_size]; exact hj)
  rw [tx_list] at hc
  rw [cell_of_row _ _ _ _ _ _ (Lib.bytesWorld_at_new w _ _)] at hc
  exact hc
end Go.Proofs.Ytokcaoaclheiiaa

/-
  Opening arguments: structs of one-cell fields; four numbers (api.Meta).
-/
namespace Go.Proofs.Ytokcaoaclheiiaa
open Go.ChangeShapes Go.WideShapes Go.ChangeAt Go.RowKit Go.Deep
set_option linter.unusedVariables false
section
variable {H : Type} {enc : TypeId × Value → H} {P : Program} {w : World} {base : Nat} {spare : Nat → Bool} {held : Bool}
theorem struct_one {t : TypeId} {fs : Array Field} {fuel : Nat} {cs : List Value} {y : DataW H × List MemPlace} (hs : P.underlying t = some (.struct fs)) (hone : oneCellFields P fs = true) (hC : P.cellsOf t = fs.size)
    (h : DataW.trod enc P w base spare held fuel t cs = some y) : cs.length = fs.size ∧ ∃ n, ∀ (j : Nat) (f : Field), fs[j]? = some f → ∃ y, DataW.trod enc P w base spare held n f.type ((cs.drop j).take 1) = some y := by
  obtain ⟨ys, n, _, _, hlen, hyl, hf⟩ := DataW.trod_struct hs h
  rw [hC] at hlen
  refine ⟨hlen, n, fun j f hj => ?_⟩
  obtain ⟨ho, hk⟩ := hone_of hone j f hj
  have h1 := hf j f hj
  rw [ho, hk] at h1
  have hjl : j < ys.length := by
    have := (Array.getElem?_eq_some_iff.1 hj).1
    rw [hyl]; exact this
  exact ⟨ys[j], h1.trans (List.getElem?_eq_getElem hjl)⟩
end
theorem u64_nat {n : Int} (h : (Lit.int .u64 n).wf = true) : ∃ k : Nat, n = (k : Int) ∧ k < 18446744073709551616 := by
  have := bd_u64 h
  exact ⟨n.toNat, by omega, by omega⟩
section
variable {H : Type} {enc : TypeId × Value → H} {w : World} {base : Nat} {spare : Nat → Bool} {held : Bool}
set_option maxRecDepth 100000 in
theorem is_meta {b0 : Nat} {v : Value} {d : DataW H} {p : List MemPlace} (hv : Value.okWide Try.prog w .any b0 24 v) (h : DataW.Trod enc Try.prog w base spare held 24 v d p) :
    ∃ a0 a1 a2 a3 : Nat, v = .agg #[.int .u64 (a0 : Int), .int .u64 (a1 : Int), .int .u64 (a2 : Int), .int .u64 (a3 : Int)] ∧ a0 < 18446744073709551616 ∧ a1 < 18446744073709551616 ∧ a2 < 18446744073709551616 ∧ a3 < 18446744073709551616 := by
  obtain ⟨cs, rfl, hsz⟩ := okWide_struct Try.underlying24 hv
  obtain ⟨fuel, hf⟩ := h
  obtain ⟨hlen, n, got⟩ := struct_one Try.underlying24 (by kernel_rfl) (by kernel_rfl) hf
  obtain ⟨y0, g0⟩ := got 0 _ rfl
  obtain ⟨y1, g1⟩ := got 1 _ rfl
  obtain ⟨y2, g2⟩ := got 2 _ rfl
  obtain ⟨y3, g3⟩ := got 3 _ rfl
  obtain ⟨n0, e0, _, w0⟩ := DataW.trod_int Try.underlying22 g0
  obtain ⟨n1, e1, _, w1⟩ := DataW.trod_int Try.underlying22 g1
  obtain ⟨n2, e2, _, w2⟩ := DataW.trod_int Try.underlying22 g2
  obtain ⟨n3, e3, _, w3⟩ := DataW.trod_int Try.underlying22 g3
  obtain ⟨k0, rfl, b0⟩ := u64_nat w0
  obtain ⟨k1, rfl, b1⟩ := u64_nat w1
  obtain ⟨k2, rfl, b2⟩ := u64_nat w2
  obtain ⟨k3, rfl, b3⟩ := u64_nat w3
  refine ⟨k0, k1, k2, k3, ?_, b0, b1, b2, b3⟩
  congr 1
  apply Array.toList_inj.1
  have hcs : (Value.agg cs).cells.toList = cs.toList := rfl
  rw [hcs] at e0 e1 e2 e3
  have hl4 : cs.toList.length = 4 := hlen
  generalize cs.toList = l at *
  match l, hl4 with
  | [c0, c1, c2, c3], _ =>
    simp only [List.drop_zero, List.drop_succ_cons, List.take_succ_cons, List.take_zero, List.cons.injEq, and_true] at e0 e1 e2 e3
    rw [e0, e1, e2, e3]
end
end Go.Proofs.Ytokcaoaclheiiaa

/-
  Opening arguments: edits, and slices of them.
-/
namespace Go.Proofs.Ytokcaoaclheiiaa
open Go.ChangeShapes Go.WideShapes Go.ChangeAt Go.RowKit Go.Deep
set_option linter.unusedVariables false
set_option linter.unusedSimpArgs false

/-- an edit as it lies in memory, and what its two rows hold -/
structure EdV where
  D : Option Addr
  dn : Nat
  dc : Nat
  ds : List Int
  A : Option Addr
  an : Nat
  ac : Nat
  add : List Fl
  lg : Int
  f : Nat
  ce : Nat
  at_ : Nat
  le : Nat
def EdV.cs (e : EdV) : List Value := [.slice e.D e.dn e.dc, .slice e.A e.an e.ac, .int .i64 e.lg, .int .u64 (e.f : Int), .int .u64 (e.ce : Int), .int .u64 (e.at_ : Int), .int .u64 (e.le : Int)]
theorem EdV.cs_len (e : EdV) : e.cs.length = 7 := rfl
structure IsEd (w : World) (e : EdV) : Prop where
  rd : Rd w w.heap.size 1 e.D e.dn (nmv e.ds)
  dc1 : e.dn ≤ e.dc
  dc2 : e.dc ≤ 9223372036854775807
  ra : Rd w w.heap.size 2 e.A e.an (fvs e.add)
  ac1 : e.an ≤ e.ac
  ac2 : e.ac ≤ 9223372036854775807
  lg1 : -9223372036854775808 ≤ e.lg ∧ e.lg ≤ 9223372036854775807
  nf : e.f < 18446744073709551616
  nc : e.ce < 18446744073709551616
  na : e.at_ < 18446744073709551616
  nl : e.le < 18446744073709551616
  bd : ∀ x ∈ e.ds, -9223372036854775808 ≤ x ∧ x ≤ 9223372036854775807
  ba : ∀ x ∈ e.add, (-9223372036854775808 ≤ x.1 ∧ x.1 ≤ 9223372036854775807) ∧ (-9223372036854775808 ≤ x.2 ∧ x.2 ≤ 9223372036854775807)
section
variable {H : Type} {enc : TypeId × Value → H} {W : World} {sp : Nat → Bool} {a : Option Addr} {len cap : Nat} {d : DataW H} {p : List MemPlace}
theorem ints_cells {fuel : Nat} {cs : List Value} {y : DataW H × List MemPlace} (hf : DataW.trod enc Try.prog W 0 (fun _ => true) true fuel 30 cs = some y) :
    ∃ (A : Option Addr) (n c : Nat) (l : List Int), cs = [.slice A n c] ∧ Rd W W.heap.size 1 A n (nmv l) ∧ n ≤ c ∧ c ≤ 9223372036854775807 ∧ ∀ x ∈ l, -9223372036854775808 ≤ x ∧ x ≤ 9223372036854775807 := by
  rcases open_ints Try.underlying30 Try.underlying3 (by kernel_rfl) hf with ⟨hcs, _⟩ | ⟨x, l, c, zs, hcs, _, hl, hm, hz, _, hcell, hwz⟩
  · exact ⟨none, 0, 0, [], hcs, Rd.empty, by omega, by omega, fun x hx => by cases hx⟩
  · refine ⟨some x, l, c, _, hcs, rd_ints (fun z : Int => Value.int .i64 z) (fun n => n) (fun n hn => rfl) hl (by simpa using hz) hcell hwz, hl, by simpa only [maxLen] using hm, fun z hz => ?_⟩
    rw [List.map_id'] at hz
    exact bd_i64 (hwz z (List.mem_of_mem_take hz))
set_option maxRecDepth 100000 in
theorem file_cells {fuel : Nat} {cs : List Value} {y : DataW H × List MemPlace} (hf : DataW.trod enc Try.prog W 0 (fun _ => true) true fuel 41 cs = some y) :
    ∃ f : Fl, cs = flc f ∧ (-9223372036854775808 ≤ f.1 ∧ f.1 ≤ 9223372036854775807) ∧ (-9223372036854775808 ≤ f.2 ∧ f.2 ≤ 9223372036854775807) := by
  obtain ⟨hlen, n, got⟩ := struct_one Try.underlying41 (by kernel_rfl) (by kernel_rfl) hf
  obtain ⟨y0, g0⟩ := got 0 _ rfl
  obtain ⟨y1, g1⟩ := got 1 _ rfl
  obtain ⟨n0, e0, _, w0⟩ := DataW.trod_int Try.underlying3 g0
  obtain ⟨n1, e1, _, w1⟩ := DataW.trod_int Try.underlying3 g1
  have hl2 : cs.length = 2 := hlen
  match cs, hl2 with
  | [c0, c1], _ =>
    simp only [List.drop_zero, List.drop_succ_cons, List.take_succ_cons, List.take_zero, List.cons.injEq, and_true] at e0 e1
    exact ⟨(n0, n1), by rw [e0, e1]; rfl, bd_i64 w0, bd_i64 w1⟩
instance : Inhabited { f : Fl // (-9223372036854775808 ≤ f.1 ∧ f.1 ≤ 9223372036854775807) ∧ (-9223372036854775808 ≤ f.2 ∧ f.2 ≤ 9223372036854775807) } := ⟨⟨(0, 0), by omega, by omega⟩⟩
theorem files_cells {fuel : Nat} {cs : List Value} {y : DataW H × List MemPlace} (hf : DataW.trod enc Try.prog W 0 (fun _ => true) true fuel 25 cs = some y) :
    ∃ (A : Option Addr) (n c : Nat) (l : List Fl), cs = [.slice A n c] ∧ Rd W W.heap.size 2 A n (fvs l) ∧ n ≤ c ∧ c ≤ 9223372036854775807 ∧ ∀ f ∈ l, (-9223372036854775808 ≤ f.1 ∧ f.1 ≤ 9223372036854775807) ∧ (-9223372036854775808 ≤ f.2 ∧ f.2 ≤ 9223372036854775807) := by
  rcases open_slice Try.underlying25 hf with ⟨hcs, _⟩ | ⟨x, l, c, m, n, D, Pl, hcs, _, hl, hm, hmm, _, hx⟩
  · exact ⟨none, 0, 0, [], hcs, Rd.empty, by omega, by omega, fun x hx => by cases hx⟩
  · have hC : Try.prog.cellsOf 41 = 2 := by kernel_rfl
    rw [hC] at hx
    obtain ⟨L, hL, hr⟩ := rd_elems (α := { f : Fl // (-9223372036854775808 ≤ f.1 ∧ f.1 ≤ 9223372036854775807) ∧ (-9223372036854775808 ≤ f.2 ∧ f.2 ≤ 9223372036854775807) }) (W := W) (len := l) (a := x) (base := 0) (fun f => flc f.1) (sz := 2) (fun _ => rfl) (by omega) (fun i hi => by
      obtain ⟨cs', h1, h2⟩ := hx i (by simp at hmm; omega)
      obtain ⟨f, e, hb⟩ := file_cells h2
      exact ⟨cs', h1, ⟨f, hb⟩, e⟩)
    have e : fvs (L.map (·.1)) = L.flatMap fun f => flc f.1 := by
      clear hr hL
      induction L with
      | nil => rfl
      | cons q r ih => simp only [fvs, List.map_cons, List.flatMap_cons] at *; rw [ih]
    refine ⟨some x, l, c, L.map (·.1), hcs, by rw [e]; exact hr, hl, by simpa only [maxLen] using hm, fun f hf => ?_⟩
    obtain ⟨q, _, rfl⟩ := List.mem_map.1 hf
    exact q.2
set_option maxRecDepth 100000 in
theorem edit_cells {fuel : Nat} {cs : List Value} {y : DataW H × List MemPlace} (hf : DataW.trod enc Try.prog W 0 (fun _ => true) true fuel 32 cs = some y) : ∃ e : EdV, cs = e.cs ∧ IsEd W e := by
  obtain ⟨hlen, n, got⟩ := struct_one Try.underlying32 (by kernel_rfl) (by kernel_rfl) hf
  obtain ⟨y0, g0⟩ := got 0 _ rfl
  obtain ⟨y1, g1⟩ := got 1 _ rfl
  obtain ⟨y2, g2⟩ := got 2 _ rfl
  obtain ⟨y3, g3⟩ := got 3 _ rfl
  obtain ⟨y4, g4⟩ := got 4 _ rfl
  obtain ⟨y5, g5⟩ := got 5 _ rfl
  obtain ⟨y6, g6⟩ := got 6 _ rfl
  obtain ⟨D, dn, dc, ds, e0, hd, d1, d2, db⟩ := ints_cells g0
  obtain ⟨A, an, ac, add, e1, ha, a1, a2, ab⟩ := files_cells g1
  obtain ⟨n2, e2, _, w2⟩ := DataW.trod_int Try.underlying3 g2
  obtain ⟨n3, e3, _, w3⟩ := DataW.trod_int Try.underlying22 g3
  obtain ⟨n4, e4, _, w4⟩ := DataW.trod_int Try.underlying22 g4
  obtain ⟨n5, e5, _, w5⟩ := DataW.trod_int Try.underlying22 g5
  obtain ⟨n6, e6, _, w6⟩ := DataW.trod_int Try.underlying22 g6
  obtain ⟨k3, rfl, b3⟩ := u64_nat w3
  obtain ⟨k4, rfl, b4⟩ := u64_nat w4
  obtain ⟨k5, rfl, b5⟩ := u64_nat w5
  obtain ⟨k6, rfl, b6⟩ := u64_nat w6
  have hl7 : cs.length = 7 := hlen
  match cs, hl7 with
  | [c0, c1, c2, c3, c4, c5, c6], _ =>
    simp only [List.drop_zero, List.drop_succ_cons, List.take_succ_cons, List.take_zero, List.cons.injEq, and_true] at e0 e1 e2 e3 e4 e5 e6
    exact ⟨⟨D, dn, dc, ds, A, an, ac, add, n2, k3, k4, k5, k6⟩, by rw [e0, e1, e2, e3, e4, e5, e6]; rfl, hd, d1, d2, ha, a1, a2, bd_i64 w2, b3, b4, b5, b6, db, ab⟩
set_option maxRecDepth 100000 in
/-- an edit by value -/
theorem is_edit {b0 : Nat} {v : Value} (hv : Value.okWide Try.prog W .any b0 32 v) (h : DataW.Trod enc Try.prog W 0 (fun _ => true) true 32 v d p) : ∃ e : EdV, v = .agg e.cs.toArray ∧ IsEd W e := by
  obtain ⟨cs, rfl, hsz⟩ := okWide_struct Try.underlying32 hv
  obtain ⟨fuel, hf⟩ := h
  obtain ⟨e, he, hi⟩ := edit_cells hf
  refine ⟨e, ?_, hi⟩
  congr 1
  apply Array.toList_inj.1
  simpa [Value.cells] using he
/-- a slice of edits that came in -/
def IsEs (w : World) (A : Option Addr) (n c : Nat) (l : List EdV) : Prop := Rd w w.heap.size 7 A n (l.flatMap EdV.cs) ∧ (∀ e ∈ l, IsEd w e) ∧ n ≤ c ∧ c ≤ 9223372036854775807
def ed0 : EdV := ⟨none, 0, 0, [], none, 0, 0, [], 0, 0, 0, 0, 0⟩
theorem isEd0 (w : World) : IsEd w ed0 where
  rd := Rd.empty
  dc1 := by decide
  dc2 := by decide
  ra := Rd.empty
  ac1 := by decide
  ac2 := by decide
  lg1 := by decide
  nf := by decide
  nc := by decide
  na := by decide
  nl := by decide
  bd := fun x hx => nomatch hx
  ba := fun x hx => nomatch hx
instance : Inhabited { e : EdV // IsEd W e } := ⟨⟨ed0, isEd0 W⟩⟩
set_option maxRecDepth 100000 in
theorem is_es (h : DataW.Trod enc Try.prog W 0 (fun _ => true) true 36 (.slice a len cap) d p) : ∃ l, IsEs W a len cap l := by
  obtain ⟨fuel, hf⟩ := h
  rcases open_slice Try.underlying36 hf with ⟨hcs, _⟩ | ⟨x, l, c, m, n, D, Pl, hcs, _, hl, hm, hmm, _, hx⟩
  · simp [Value.cells] at hcs
    obtain ⟨rfl, rfl, rfl⟩ := hcs
    exact ⟨[], Rd.empty, fun p hp => (by cases hp), by omega, by omega⟩
  · simp [Value.cells] at hcs
    obtain ⟨rfl, rfl, rfl⟩ := hcs
    have hC : Try.prog.cellsOf 32 = 7 := by kernel_rfl
    rw [hC] at hx
    obtain ⟨L, hL, hr⟩ := rd_elems (α := { e : EdV // IsEd W e }) (W := W) (len := len) (a := x) (base := 0) (fun e => e.1.cs) (sz := 7) (fun _ => rfl) (by omega) (fun i hi => by
      obtain ⟨cs', h1, h2⟩ := hx i (by simp at hmm; omega)
      obtain ⟨e, he, hp⟩ := edit_cells h2
      exact ⟨cs', h1, ⟨e, hp⟩, he⟩)
    have e : (L.map (·.1)).flatMap EdV.cs = L.flatMap fun f => f.1.cs := by
      clear hr hL
      induction L with
      | nil => rfl
      | cons q r ih => simp only [List.map_cons, List.flatMap_cons, ih]
    refine ⟨L.map (·.1), by rw [e]; exact hr, fun p hp => ?_, hl, by simpa only [maxLen] using hm⟩
    obtain ⟨q, _, rfl⟩ := List.mem_map.1 hp
    exact q.2
/-- a slice's edit k: its seven cells, in whatever grows -/
theorem IsEs.at_ {w : World} {A : Option Addr} {n c : Nat} {l : List EdV} (h : IsEs w A n c l) {k : Nat} (hk : k < n) :
    ∃ b o e, A = some ⟨b, o, none⟩ ∧ l[k]? = some e ∧ IsEd w e ∧ ∀ W, Up w W → W.cell? ⟨b, o + k * 7, none⟩ = some (.slice e.D e.dn e.dc) ∧ W.cell? ⟨b, o + k * 7 + 1, none⟩ = some (.slice e.A e.an e.ac) ∧ W.cell? ⟨b, o + k * 7 + 2, none⟩ = some (.int .i64 e.lg) ∧
      W.cell? ⟨b, o + k * 7 + 3, none⟩ = some (.int .u64 (e.f : Int)) ∧ W.cell? ⟨b, o + k * 7 + 4, none⟩ = some (.int .u64 (e.ce : Int)) ∧ W.cell? ⟨b, o + k * 7 + 5, none⟩ = some (.int .u64 (e.at_ : Int)) ∧ W.cell? ⟨b, o + k * 7 + 6, none⟩ = some (.int .u64 (e.le : Int)) := by
  obtain ⟨hr, hp, hc1, hc2⟩ := h
  have hl := hr.1
  rw [flat_len EdV.cs EdV.cs_len] at hl
  obtain ⟨b, o, e, hb, hc⟩ := hr.2 (by omega)
  have hkl : k < l.length := by omega
  refine ⟨b, o, l[k], e, List.getElem?_eq_getElem hkl, hp _ (List.getElem_mem _), fun W hW => ?_⟩
  have got : ∀ j u, j < 7 → (l[k]).cs[j]? = some u → W.cell? ⟨b, o + k * 7 + j, none⟩ = some u := fun j u hj hu => by
    rw [Nat.add_assoc]
    exact (hW.cell (p := ⟨b, o + (k * 7 + j), none⟩) hb).trans (hc _ _ ((flat_at EdV.cs EdV.cs_len l hkl hj).trans hu))
  exact ⟨got 0 _ (by omega) rfl, got 1 _ (by omega) rfl, got 2 _ (by omega) rfl, got 3 _ (by omega) rfl, got 4 _ (by omega) rfl, got 5 _ (by omega) rfl, got 6 _ (by omega) rfl⟩
end
end Go.Proofs.Ytokcaoaclheiiaa
