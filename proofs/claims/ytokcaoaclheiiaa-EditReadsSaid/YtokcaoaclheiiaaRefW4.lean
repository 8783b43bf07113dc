/-
  The walk of the document's answer for lists of numbers: Unlist.
-/
import Derived.Test.YtokcaoaclheiiaaRefW3
namespace Go.Proofs.Ytokcaoaclheiiaa
open Go.RowKit
set_option linter.unusedVariables false

theorem ext_str {s : ByteArray} {l : List UInt8} (hs : s.data.toList = l) (a : Nat) : (s.extract a s.size).data.toList = l.drop a := by
  subst hs
  rw [ByteArray.data_extract, Array.toList_extract, List.extract_eq_take_drop]
  exact List.take_of_length_le (by rw [List.length_drop, Array.length_toList]; exact Nat.le_refl _)

set_option maxRecDepth 100000 in
set_option maxHeartbeats 1600000 in
theorem runlist_any (s : ByteArray) (bs : List UInt8) (most : Int) (w : World) (hs : s.data.toList = bs) (hn : s.size ≤ 1099511627776)
    (hm1 : -9223372036854775808 ≤ most) (hm2 : most ≤ 9223372036854775807) :
    Calls Try.prog 43 #[.string s, .int .i64 most] w fun e w' => ∃ A' n' c', e = .returned (.tuple #[.slice A' n' c', .int .i64 ((unlistL bs most).2.1 : Int), .int .i64 ((unlistL bs most).2.2 : Int)]) ∧ OwnQ w' w.heap.size A' n' c' (unlistL bs most).1 ∧ Up w w' := by
  have hl := size_str hs
  have HS := Lib.hid hs
  have HL := Lib.hid hl
  clear hl hs
  have hq0 : ∀ w0, OwnQ w0 w.heap.size none 0 0 [] := fun w0 => World.ownsRow_nil _ _ _ _
  have HQ0 := Lib.hid hq0
  clear hq0
  obtain ⟨x, at_, er, ht⟩ : ∃ x a e, takeL bs = (x, a, e) := ⟨_, _, _, rfl⟩
  have hu : unlistL bs most = if er ≠ 0 then ([], 0, er) else if (if most < 0 then 0 else most) < (x : Int) then ([], 0, 2) else unGo x bs at_ [] := by unfold unlistL; rw [ht]
  have HU := Lib.hid hu
  have HT := Lib.hid ht
  clear hu ht
  go_enter Try.func43, Try.ntmps43
  go_wp2_with fail
  refine (rtake_any s bs w HS.out (by omega)).mono ?_
  rintro e w1 ⟨rfl, rfl⟩
  rw [HT.out]
  by_cases he : er = 0
  · subst he
    have ⟨hx, ha1, ha2, ha3⟩ : x < 18446744073709551616 ∧ 1 ≤ at_ ∧ at_ ≤ bs.length ∧ at_ ≤ 10 := by have := takeL_ok (l := bs) (by rw [HT.out]); rw [HT.out] at this; exact this
    by_cases hbig : (if most < 0 then 0 else most) < (x : Int)
    · have HF : Hid (unlistL bs most = ([], 0, 2)) := by show _ = _; rw [HU.out, if_neg (by simp), if_pos hbig]
      clear HU
      by_cases hm0 : most < 0
      all_goals
        simp only [hm0, if_true, if_false] at hbig
        go_wp2_with fail
        go_ret3
        rw [HF.out]
        exact ⟨none, 0, 0, rfl, HQ0.out _, Up.refl _⟩
    · have HF : Hid (unGo x bs at_ [] = unlistL bs most) := by show _ = _; rw [HU.out, if_neg (by simp), if_neg hbig]
      clear HU
      by_cases hm0 : most < 0
      all_goals
        simp only [hm0, if_true, if_false] at hbig
        have hxi : (x : Int) ≤ 18446744073709551615 := by omega
        clear hx
        go_wp2_with fail
        go_loopw [8, 10, 11] (fun p v i wr => ∃ (k at_ : Nat) (Q : Option Addr) (m d : Nat) (acc : List UInt64), i = .int .u64 (k : Int) ∧ p = .int .i64 (at_ : Int) ∧ v = .slice Q m d ∧ k ≤ x ∧ at_ ≤ s.size ∧ m ≤ at_ ∧ OwnQ wr w.heap.size Q m d acc ∧ Up w wr ∧ Hid (unGo (x - k) bs at_ acc = unlistL bs most))
          (fun _ _ i _ => x - (intOf i).toNat)
        case atStart => exact ⟨0, at_, none, 0, 0, [], rfl, rfl, rfl, by omega, by have := HL.out; omega, by omega, HQ0.out _, Up.refl _, HF.out⟩
        case round =>
          clear HF
          obtain ⟨k, at_, Q, m, d, acc, rfl, rfl, rfl, hk, hat, hm, hown, hu, hun⟩ := hrel
          by_cases hlt : k < x
          · try (exfalso; omega)
            all_goals
              have hex := ext_str HS.out at_
              have HE := Lib.hid hex
              clear hex
              go_wp2_with fail
              refine (rtake_any _ (bs.drop at_) wr HE.out (by simp [ByteArray.size_extract]; omega)).mono ?_
              rintro e w2 ⟨rfl, rfl⟩
              have htk : ∃ y s e2, takeL (bs.drop at_) = (y, s, e2) := ⟨_, _, _, rfl⟩
              obtain ⟨y, sz, e2, htk⟩ := htk
              rw [htk]
              have hun' : Hid (unlistL bs most = if e2 = 0 then unGo (x - k - 1) bs (at_ + sz) (acc ++ [UInt64.ofNat y]) else ([], 0, e2)) := by
                show _ = _
                rw [← hun.out, show x - k = (x - k - 1) + 1 by omega, unGo, htk]
                simp
              clear hun
              by_cases he : e2 = 0
              · subst he
                have ⟨hy, hs1, hs2⟩ : (y : Int) ≤ 18446744073709551615 ∧ 1 ≤ sz ∧ sz ≤ s.size - at_ := by
                  have := takeL_ok (l := bs.drop at_) (by rw [htk])
                  rw [htk] at this
                  have h3 := HL.out
                  simp only [List.length_drop] at this
                  omega
                have HB : Hid (Value.int .u64 (y : Int) = qv (UInt64.ofNat y)) := by
                  show _ = _
                  rw [qv_ofNat]; congr 1; omega
                clear htk
                go_wp2_with (at_builtin; refine wpList_append_rd _ numsT (news := qvs [UInt64.ofNat y]) (hown.alloc _) (Rd.boxq _ _ HB.out) (qvs_one _) (by omega) (by omega) (by simp; have := hu.size; omega) rfl rfl rfl rfl ?_; intro v2 w2 hown2 hg2 hat2)
                obtain ⟨A2, c2, rfl⟩ := own_form hown2
                go_roundw
                case rel =>
                  refine ⟨k + 1, at_ + sz, A2, _, c2, acc ++ [UInt64.ofNat y], by go_num, by go_num, rfl, by omega, by omega, by omega, ?_, hu.alloc _ |>.grown hg2 (fun k hk => (hown.lt k hk).1), ?_⟩
                  · show World.ownsRow _ _ _ _ _ _ _
                    rw [qvs_append]; exact hown2
                  · show _ = _
                    rw [hun'.out, if_pos (by trivial), show x - (k + 1) = x - k - 1 by omega]
                case measure => simp [intOf]; omega
              · have hb : ((e2 : Int) != 0) = true := by rw [bne_iff_ne]; omega
                clear htk
                go_wp2
                go_ret3
                rw [hun'.out, if_neg he]
                exact ⟨none, 0, 0, rfl, HQ0.out _, hu⟩
          · go_wp2
            go_ret3
            have hk' : k = x := by omega
            have h := hun.out
            rw [hk', Nat.sub_self, unGo] at h
            rw [← h]
            exact ⟨Q, m, d, rfl, hown, hu⟩
  · have hb : ((er : Int) != 0) = true := by rw [bne_iff_ne]; omega
    go_wp2_with fail
    go_ret3
    rw [HU.out, if_pos he]
    exact ⟨none, 0, 0, rfl, HQ0.out _, Up.refl _⟩
end Go.Proofs.Ytokcaoaclheiiaa
