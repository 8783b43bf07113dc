/-
  The walk of the law NumLists.
-/
import Derived.Test.YtenkamppgcgcdaaRefW4
import Derived.Test.YtenkamppgcgcdaaNumLaw
import Derived.Test.YtenkamppgcgcdaaOpen
import Derived.Deep.RegionHeld3
namespace Go.Proofs.Ytenkamppgcgcdaa.numLists
open Go.RowKit
set_option linter.unusedVariables false

set_option maxRecDepth 100000 in
set_option maxHeartbeats 1600000 in
theorem law_any (A : Option Addr) (m c : Nat) (l : List UInt8) (B : Option Addr) (k d : Nat) (q : List UInt64) (C : Option Addr) (n e0 : Nat) (z : List UInt8) (most : Int) (w : World)
    (h1 : IsB w A m c l) (h2 : IsQ w B k d q) (h3 : IsB w C n e0 z) (h4 : -9223372036854775808 ≤ most ∧ most ≤ 9223372036854775807) :
    Calls Try.prog 10 #[.slice A m c, .slice B k d, .slice C n e0, .int .i64 most] w fun e w' => e = .returned (.bool true) ∧ Up w w' := by
  obtain ⟨hr, hmc, hc⟩ := h1
  obtain ⟨hq, hkd, hd⟩ := h2
  obtain ⟨hz, hne, he⟩ := h3
  have HM := Lib.hid hr.blen
  have HK := Lib.hid hq.qlen
  have HN := Lib.hid hz.blen
  have FIN := Lib.hid awake_any
  by_cases hbig : 500 < m ∨ 200 < k ∨ 2000 < n
  · by_cases g1 : 500 < m
    all_goals by_cases g2 : 200 < k
    all_goals by_cases g3 : 2000 < n
    all_goals try (exfalso; omega)
    all_goals
      go_enter Try.func10, Try.ntmps10
      go_wp2_with fail
      refine (FIN.out _).mono ?_
      rintro e w1 ⟨rfl, hu⟩
      go_wp2_with fail
      go_ret
      exact ⟨rfl, hu⟩
  · have g1 : m ≤ 500 := by omega
    have g2 : k ≤ 200 := by omega
    have g3 : n ≤ 2000 := by omega
    clear hbig
    go_enter Try.func10, Try.ntmps10
    go_wp2_with fail
    refine (list_any A m c l B k d q w hr hq (by omega)).mono ?_
    rintro e w1 ⟨A1, n1, c1, rfl, ho1, hu1⟩
    have hcv0 : ∀ W, Up w1 W → (convert 23 9 (.slice A1 n1 c1)).run Try.prog W = .ok (.string ⟨(l ++ listB q).toArray⟩) W ∧ (convert 23 9 (.slice A m c)).run Try.prog W = .ok (.string ⟨l.toArray⟩) W := fun W hW =>
      ⟨run_str c1 ((ho1.up hW).rd), run_str c (hr.up (hu1.trans hW))⟩
    obtain ⟨t0, ht0⟩ : ∃ t : ByteArray, ByteArray.mk l.toArray = t := ⟨_, rfl⟩
    obtain ⟨t1, ht1⟩ : ∃ t : ByteArray, ByteArray.mk (l ++ listB q).toArray = t := ⟨_, rfl⟩
    rw [ht0, ht1] at hcv0
    have hz0 : t0.size ≤ 500 := by rw [← ht0]; have := HM.out; simp [ByteArray.size]; omega
    have HCV := Lib.hid hcv0
    have e3 : ∀ s3 : ByteArray, s3.data.toList = listB q → t0 ++ s3 = t1 ∧ s3.size ≤ 2010 := fun s3 h3 => by
      refine ⟨?_, ?_⟩
      · rw [← ht0, ← ht1]; apply ByteArray.ext; apply Array.toList_inj.1; simp [ByteArray.data_append, h3]
      · rw [size_str h3]; have := listB_len q (by have := HK.out; omega); have := HK.out; omega
    have E3 := Lib.hid e3
    clear hcv0 ht0 ht1 e3
    go_wp2_with fail
    go_region_held3 (fun W => (convert 23 9 (.slice A1 n1 c1)).run Try.prog W = .ok (.string t1) W ∧ (convert 23 9 (.slice A m c)).run Try.prog W = .ok (.string t0) W)
      (first | exact HCV.out _ ((Up.refl _).drew) | exact HCV.out _ (by assumption))
      (first
        | (go_at_call 25; refine (rlist_any B k d q _ (hq.up hu1.drew) (by omega)).mono ?_; rintro e w3 ⟨s3, rfl, hs3, hu3⟩; have hu23 : Up w1 w3 := (Up.refl w1).drew.trans hu3; obtain ⟨q3, z3⟩ := E3.out s3 hs3.out; have z3' : ¬ (9223372036854775807 < t0.size + s3.size) := by omega))
    have hc1 := ho1.cap
    have hn1 := ho1.len
    have hll := listB_len q (by have := HK.out; omega)
    obtain ⟨k1, hk1⟩ : ∃ k1, (listB q).length = k1 := ⟨_, rfl⟩
    have hn1e : n1 = m + k1 := by have h2 := HM.out; rw [List.length_append] at hn1; omega
    have hm1 : m ≤ n1 := by omega
    have hm2 : n1 ≤ 2600 := by have := HK.out; omega
    have hkk : (n1 : Int) - (m : Int) = (k1 : Int) := by omega
    have HNE := Lib.hid hn1e
    have HK1 := Lib.hid hk1
    clear hn1 hll hn1e hk1 q3 z3 z3'
    have CUT := cut_from_b
    have ho13 := ho1.up hu23
    have hb13 : w.heap.size ≤ w3.heap.size := (hu1.trans hu23).size
    go_wp2_with (at_builtin; refine wpList_append_cut _ bytesT (k := m) (news := bvs [9]) (World.ownsRow.alloc ho13 _) hm1 (Rd.boxb _ _ (b := 9) rfl) (by omega) (bvs_one _) (by omega) (by omega) (by simp; omega) rfl rfl rfl rfl ?_; intro A4 c4 w4 hr4 hc4 hb4)
    have hup4 : Up w w4 := Below.trans ((hu1.trans hu23).alloc _) hb4
    have hrl : bvs (l ++ listB q) = bvs l ++ bvs (listB q) := bvs_append _ _
    rw [hrl, Nat.mul_one, List.drop_append_of_le_length (by rw [bvs_length]; have := HM.out; omega), List.drop_of_length_le (by rw [bvs_length]; have := HM.out; omega), List.nil_append, ← bvs_append] at hr4
    have hfull := unlist_full q [9] (k : Int) (by have := HK.out; omega) (by have := HK.out; omega)
    rw [HK1.out] at hfull
    have HF := Lib.hid hfull
    clear hfull hrl hb4
    refine (unlist_any A4 _ c4 (listB q ++ [9]) k w4 hr4 (by omega) hc4 (by omega) (by omega)).mono ?_
    rintro e w5 ⟨A5, n5, c5, rfl, ho5, hu5⟩
    rw [HF.out] at ho5 ⊢
    have hn5 : n5 ≤ 200 := by have := ho5.len; have := HK.out; simp only at *; omega
    go_wp2_with fail
    refine (same_any A5 B n5 c5 k d q w5 ho5.rd (hq.up (hup4.trans hu5)) (by omega)).mono ?_
    rintro e w6 ⟨rfl, hu6⟩
    have hr6 : Up w w6 := (hup4.trans hu5).trans hu6
    go_wp2_with fail
    refine (unlist_any C n e0 z most w6 (hz.up hr6) (by omega) hne (by omega) (by omega)).mono ?_
    rintro e w7 ⟨A7, n7, c7, rfl, ho7, hu7⟩
    have hcv := run_str e0 (hz.up (hr6.trans hu7))
    obtain ⟨s7, hs7⟩ : ∃ t : ByteArray, ByteArray.mk z.toArray = t := ⟨_, rfl⟩
    rw [hs7] at hcv
    have hsd : s7.data.toList = z := by rw [← hs7]
    have HSD := Lib.hid hsd
    clear hs7 hsd
    go_wp2_with fail
    refine (runlist_any s7 z most w7 HSD.out (by rw [size_str HSD.out]; have := HN.out; omega) (by omega) (by omega)).mono ?_
    rintro e w8 ⟨A8, n8, c8, rfl, ho8, hu8⟩
    have hn7 : n7 ≤ 4611686018427387903 := by have h1 := ho7.len; have h2 := unlistL_len z most; have h3 := HN.out; omega
    go_wp2_with fail
    refine (same_any A7 A8 n7 c7 n8 c8 _ w8 (ho7.up hu8).rd ho8.rd hn7).mono ?_
    rintro e w9 ⟨rfl, hu9⟩
    go_wp2_with (go_at_call 13; refine (FIN.out _).mono ?_; rintro e w' ⟨rfl, hup⟩)
    go_ret
    exact ⟨rfl, (((hr6.trans hu7).trans hu8).trans hu9).trans hup⟩
end Go.Proofs.Ytenkamppgcgcdaa.numLists
