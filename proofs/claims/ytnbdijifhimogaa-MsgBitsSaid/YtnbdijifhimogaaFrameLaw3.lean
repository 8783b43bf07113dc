/-
  Frames with bits turned: the plain law.
-/
import Derived.Test.YtnbdijifhimogaaFrameLaw2
import Derived.Test.YtnbdijifhimogaaCrc
namespace Go.Proofs.Ytnbdijifhimogaa
open Go.RowKit
set_option linter.unusedVariables false
set_option linter.unusedSimpArgs false

theorem flipB_mid {pre F post : List UInt8} {p : Nat} (h : p < 8 * F.length) : flipB (pre ++ (F ++ post)) (8 * pre.length + p) = pre ++ (flipB F p ++ post) := by
  rw [flipB_right (by omega), show 8 * pre.length + p - 8 * pre.length = p by omega, flipB_left h]
theorem flips_mid : ∀ (ps : List Nat) (pre F post : List UInt8), (∀ p ∈ ps, p < 8 * F.length) → flipsB (pre ++ (F ++ post)) (ps.map (8 * pre.length + ·)) = pre ++ (flipsB F ps ++ post)
  | [], _, _, _, _ => rfl
  | p :: ps, pre, F, post, h => by
    show flipsB (flipB (pre ++ (F ++ post)) (8 * pre.length + p)) _ = _
    rw [flipB_mid (h p List.mem_cons_self), flips_mid ps pre (flipB F p) post (fun q hq => by rw [flipB_len]; exact h q (List.mem_cons_of_mem _ hq))]
    rfl
theorem headN_head (k : Int) (n : Nat) (hn : n ≤ 60000) (x : List UInt8) : headN (sealB (headB k n) ++ x) = n := by
  have g : ∀ j, j < 4 → (sealB (headB k n) ++ x).getD j 0 = (headB k n).getD j 0 := by
    intro j hj
    unfold sealB
    simp only [List.getD_eq_getElem?_getD]
    rw [List.append_assoc, List.getElem?_append_left (by simpa [headB] using hj)]
  unfold headN
  rw [g 1 (by omega), g 2 (by omega), g 3 (by omega)]
  have e1 : (n / 65536) % 256 * 65536 + (n / 256) % 256 * 256 + n % 256 = n := by omega
  simpa [headB, List.getD] using e1
theorem takeR_bad1 {r : List UInt8} (h : openE (r.take 8) ≠ 0) : (takeR r).1 ≠ 0 := by
  unfold takeR
  split
  · decide
  · exact h
theorem takeR_bad2 {r : List UInt8} (h : openE ((r.drop 8).take (headN r + 4)) ≠ 0) : (takeR r).1 ≠ 0 := by
  unfold takeR
  split
  · decide
  · split
    · assumption
    · split
      · decide
      · split
        · decide
        · exact h
/-- a frame with up to three bits turned is told as it was, or refused -/
theorem frame_flips (k : Int) (l post : List UInt8) (hl : l.length ≤ 60000) {ps : List Nat} (h3 : ps.length ≤ 3) (hb : ∀ p ∈ ps, p < 8 * (frameB k l).length) :
    flipsB (frameB k l) ps = frameB k l ∨ (takeR (flipsB (frameB k l) ps ++ post)).1 ≠ 0 := by
  have hH : (sealB (headB k l.length)).length = 8 := by rw [sealB_len]; rfl
  have hB := sealB_len l
  have hf : frameB k l = sealB (headB k l.length) ++ sealB l := rfl
  rw [frameB_len] at hb
  obtain ⟨p1, p2, e, l1, l2, b1, b2⟩ := flips_split ps (sealB (headB k l.length)) (sealB l) (fun p hp => by have := hb p hp; omega)
  rw [hf, e]
  have fl1 := flipsB_len p1 (sealB (headB k l.length))
  have fl2 := flipsB_len p2 (sealB l)
  by_cases o1 : openE (flipsB (sealB (headB k l.length)) p1) = 0
  · have e1 := open_flips (openE_seal _) (by omega) b1 (by omega) o1
    rw [e1]
    by_cases o2 : openE (flipsB (sealB l) p2) = 0
    · left
      rw [open_flips (openE_seal _) (by omega) b2 (by omega) o2]
    · right
      apply takeR_bad2
      rw [List.append_assoc, headN_head k _ hl]
      have e3 : (sealB (headB k l.length) ++ (flipsB (sealB l) p2 ++ post)).drop 8 = flipsB (sealB l) p2 ++ post := by rw [← hH, List.drop_left]
      have e4 : (flipsB (sealB l) p2 ++ post).take (l.length + 4) = flipsB (sealB l) p2 := by rw [← hB, ← fl2, List.take_left]
      rw [e3, e4]
      exact o2
  · right
    apply takeR_bad1
    have e3 : (flipsB (sealB (headB k l.length)) p1 ++ flipsB (sealB l) p2 ++ post).take 8 = flipsB (sealB (headB k l.length)) p1 := by
      rw [List.append_assoc, show (8 : Nat) = (flipsB (sealB (headB k l.length)) p1).length by rw [fl1, hH], List.take_left]
    rw [e3]
    exact o1
/-- rows of frames, of which one has up to three bits turned -/
theorem split_flips (L : List (List UInt8)) (hL : ∀ x ∈ L, x.length ≤ 60000) {m : Nat} (hm : m < L.length) {ps : List Nat} (h3 : ps.length ≤ 3) (hb : ∀ p ∈ ps, p < 8 * (endAt L (m + 1) - endAt L m)) :
    (flipsB (frsB 0 L) (ps.map (8 * endAt L m + ·)) = frsB 0 L ∧ splitL (flipsB (frsB 0 L) (ps.map (8 * endAt L m + ·))) = (kindsL 0 L.length, L, endAt L L.length, 0)) ∨
    (flipsB (frsB 0 L) (ps.map (8 * endAt L m + ·)) ≠ frsB 0 L ∧ ∃ e, e ≠ 0 ∧ splitL (flipsB (frsB 0 L) (ps.map (8 * endAt L m + ·))) = (kindsL 0 m, L.take m, endAt L m, e)) := by
  have hsplit : frsB 0 L = frsB 0 (L.take m) ++ (frameB (kindOf m : Int) L[m] ++ frsB (m + 1) (L.drop (m + 1))) := by
    conv => lhs; rw [← List.take_append_drop m L]
    rw [frsB_append, List.length_take, Nat.min_eq_left (by omega), Nat.zero_add, List.drop_eq_getElem_cons hm, frsB]
  have hend : (frsB 0 (L.take m)).length = endAt L m := rfl
  have hlen := frameB_len (kindOf m : Int) L[m]
  have hb2 : ∀ p ∈ ps, p < 8 * (frameB (kindOf m : Int) L[m]).length := by
    intro p hp
    have := hb p hp
    rw [endAt_snoc L hm] at this
    omega
  have hmid := flips_mid ps (frsB 0 (L.take m)) (frameB (kindOf m : Int) L[m]) (frsB (m + 1) (L.drop (m + 1))) hb2
  rw [← hsplit, hend] at hmid
  rcases frame_flips (kindOf m : Int) L[m] (frsB (m + 1) (L.drop (m + 1))) (hL _ (List.getElem_mem hm)) h3 hb2 with he | he
  · left
    rw [he, ← hsplit] at hmid
    rw [hmid]
    refine ⟨rfl, ?_⟩
    have hfull : (frsB 0 L).length = endAt L L.length := by unfold endAt; rw [List.take_length]
    have h := split_cut L L.length (endAt L L.length) hL (Nat.le_refl _) (Nat.le_refl _) (fun h => absurd h (by omega)) (Nat.le_refl _)
    rw [← hfull, List.take_length, List.take_length, if_pos rfl] at h
    rw [h, hfull]
  · right
    have hfl := flipsB_len ps (frameB (kindOf m : Int) L[m])
    generalize flipsB (frameB (kindOf m : Int) L[m]) ps = F at *
    generalize frsB (m + 1) (L.drop (m + 1)) = post at *
    rw [hmid]
    have hsp : splitL (frsB 0 (L.take m) ++ (F ++ post)) = (kindsL 0 m, L.take m, endAt L m, (takeR (F ++ post)).1) := by
      have hlm : (L.take m).length = m := by rw [List.length_take]; omega
      have hmm : m ≤ (frsB 0 (L.take m)).length := by
        have : ∀ n, n ≤ L.length → n ≤ endAt L n := by
          intro n
          induction n with
          | zero => intro _; omega
          | succ m ih => intro hm; have := ih (by omega); rw [endAt_snoc L (show m < L.length by omega)]; omega
        exact this m (by omega)
      have hgo := splitG_frs (frsB 0 (L.take m) ++ (F ++ post)) (L.take m) 0 ((frsB 0 (L.take m) ++ (F ++ post)).length + 1 - m) [] (F ++ post) [] [] rfl (fun x hx => hL x (List.mem_of_mem_take hx))
      have hle : (frsB 0 (L.take m) ++ (F ++ post)).length = endAt L m + F.length + post.length := by rw [List.length_append, List.length_append, hend]; omega
      rw [hend] at hmm
      rw [hlm, List.length_nil, Nat.zero_add, List.nil_append, List.nil_append, hend, hle, show endAt L m + F.length + post.length + 1 - m + m = endAt L m + F.length + post.length + 1 by omega] at hgo
      unfold splitL
      rw [hle, hgo]
      obtain ⟨f, hf⟩ : ∃ f, endAt L m + F.length + post.length + 1 - m = f + 1 := ⟨endAt L m + F.length + post.length - m, by omega⟩
      rw [hf]
      unfold splitG
      have hd : (frsB 0 (L.take m) ++ (F ++ post)).drop (endAt L m) = F ++ post := by rw [← hend, List.drop_left]
      rw [if_pos (by rw [hle]; omega), hd, if_neg he]
    refine ⟨fun h => he ?_, _, he, hsp⟩
    rw [h] at hsp
    have hfull : (frsB 0 L).length = endAt L L.length := by unfold endAt; rw [List.take_length]
    have h := split_cut L L.length (endAt L L.length) hL (Nat.le_refl _) (Nat.le_refl _) (fun h => absurd h (by omega)) (Nat.le_refl _)
    rw [← hfull, List.take_length, List.take_length, if_pos rfl, hsp] at h
    exact congrArg (fun x => x.2.2.2) h
end Go.Proofs.Ytnbdijifhimogaa
