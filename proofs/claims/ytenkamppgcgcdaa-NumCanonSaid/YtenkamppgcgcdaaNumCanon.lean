/-
  The walk of the law NumCanon.
-/
import Derived.Test.YtenkamppgcgcdaaNumW6
import Derived.Test.YtenkamppgcgcdaaNumLaw
import Derived.Test.YtenkamppgcgcdaaOpen
namespace Go.Proofs.Ytenkamppgcgcdaa.numCanon
open Go.RowKit
set_option linter.unusedVariables false

set_option maxRecDepth 100000 in
set_option maxHeartbeats 1600000 in
theorem law_any (n way : Int) (w : World) (h1 : 0 ≤ n ∧ n ≤ 18446744073709551615) (h2 : -9223372036854775808 ≤ way ∧ way ≤ 9223372036854775807) :
    Calls Try.prog 4 #[.int .u64 n, .int .i64 way] w fun e w' => e = .returned (.bool true) ∧ Up w w' := by
  obtain ⟨x, rfl⟩ := Int.eq_ofNat_of_zero_le h1.1
  have hx : (x : Int) ≤ 18446744073709551615 := h1.2
  have FIN := Lib.hid awake_any
  obtain ⟨K, hK, hK2⟩ := i64_and_le way 3 (by omega)
  have hK' : bits BinOp.and IntKind.i64 way 3 = (K : Int) := hK
  clear hK h1 h2
  have hx2 : x < 18446744073709551616 := by omega
  have h3 : K = 0 ∨ K = 1 ∨ K = 2 ∨ K = 3 := by omega
  clear hK2
  have H2 := Lib.hid hx2
  clear hx2
  rcases h3 with rfl | rfl | rfl | rfl
  · -- a byte more than it needs
    go_enter Try.func4, Try.ntmps4
    go_wp2_with fail
    refine (put_any none 0 0 [] x w Rd.empty (by omega) hx).mono ?_
    rintro e w1 ⟨A1, n1, c1, rfl, ho1, hu1⟩
    rw [List.nil_append] at ho1
    have hn1 := ho1.len
    have hp := numB_pos x
    have ht := numB_ten H2.out
    have hne : ((n1 : Int) == 0) = false := beq_eq_false_iff_ne.2 (by omega)
    by_cases h10 : n1 = 10
    · subst h10
      have HN := Lib.hid hn1
      clear hn1 hp ht
      go_wp2_with fail
      refine (take_any _ _ _ [128, 0] _ (Rd.lit w1 [128, 0] _ _ rfl) (by decide)).mono ?_
      rintro e w2 ⟨rfl, rfl⟩
      rw [show takeL [128, 0] = (0, 0, 3) from rfl]
      go_wp2_with (go_at_call 13; refine (FIN.out _).mono ?_; rintro e w' ⟨rfl, hup⟩)
      go_ret
      exact ⟨rfl, (hu1.alloc _).trans hup⟩
    · have hb10 : ((n1 : Int) == 10) = false := beq_eq_false_iff_ne.2 (by omega)
      obtain ⟨l, ch, hlc⟩ : ∃ l ch, numB x = l ++ [ch] := ⟨_, _, (List.dropLast_concat_getLast (by intro h; rw [h] at hp; simp at hp)).symm⟩
      obtain ⟨k, rfl⟩ : ∃ k, n1 = k + 1 := ⟨n1 - 1, by omega⟩
      have hlk : l.length = k := by rw [hlc, List.length_append, List.length_singleton] at hn1; omega
      obtain ⟨g, rfl, hg1, hg2⟩ := own_some ho1 (by omega)
      rw [hlc] at ho1
      have hcell := ho1.cellAt k (by omega)
      have hfz := ho1.frozenAt k
      have hst := ho1.stored k (bv (UInt8.ofNat (ch.toNat % 128 + 128)))
      have hbv : bvs (l ++ [ch]) = bvs l ++ [bv ch] := by rw [bvs_append]; rfl
      have hset : (bvs (l ++ [ch])).set k (bv (UInt8.ofNat (ch.toNat % 128 + 128))) = bvs (l ++ [UInt8.ofNat (ch.toNat % 128 + 128)]) := by
        rw [hbv, List.set_append_right _ _ (by rw [bvs_length]; omega), bvs_length, hlk, Nat.sub_self, bvs_append]; rfl
      rw [hset] at hst
      have hcell2 : w1.cell? ⟨g, k, none⟩ = some (.int .u8 (ch.toNat : Int)) := by
        rw [hcell, hbv, List.getElem?_append_right (by rw [bvs_length]; omega), bvs_length, hlk, Nat.sub_self]; rfl
      have hval : bits BinOp.or IntKind.u8 (ch.toNat : Int) 128 = ((ch.toNat % 128 + 128 : Nat) : Int) := or128 ch.toNat ch.toNat_lt
      have hv2 : Value.int .u8 (bits BinOp.or IntKind.u8 (ch.toNat : Int) 128) = bv (UInt8.ofNat (ch.toNat % 128 + 128)) := by
        rw [hval, bv_ofNat]; congr 1; omega
      rw [← hv2] at hst
      have HST := Lib.hid hst
      have HT := Lib.hid (takeL_more0 hlc)
      have hk10 : k ≤ 9 := by omega
      clear hst hset hbv hcell hval hv2 hlc hlk hn1 hp ht
      go_wp2_with (at_builtin; refine wpList_append_rd _ bytesT (news := bvs [0]) (World.ownsRow.alloc HST.out.1 _) (Rd.boxb_at _ _ (b := 0) (g := w1.heap.size) (World.size_setCell _ _ _) rfl) (bvs_one _) (by omega) (by omega) (by simp; omega) rfl rfl rfl rfl ?_; intro v2 w2 hown2 hg2 hat2; obtain ⟨A2, c2, rfl⟩ := own_form hown2)
      rw [← bvs_append] at hown2
      refine (take_any _ _ _ _ _ (Rd.own hown2) (by omega)).mono ?_
      rintro e w3 ⟨rfl, rfl⟩
      rw [List.append_assoc, List.singleton_append, HT.out]
      have hu2 : Up w w2 := ((hu1.set_ (p := ⟨g, k, none⟩) hg1 _).alloc _).grown hg2 (fun j hj => by simp [Value.ownBlock] at hj; omega)
      go_wp2_with (go_at_call 13; refine (FIN.out _).mono ?_; rintro e w' ⟨rfl, hup⟩)
      go_ret
      exact ⟨rfl, hu2.trans hup⟩
  · -- one that is too great
    go_enter Try.func4, Try.ntmps4
    go_wp2_with fail
    refine (put_any none 0 0 [] x w Rd.empty (by omega) hx).mono ?_
    rintro e w1 ⟨A1, n1, c1, rfl, ho1, hu1⟩
    rw [List.nil_append] at ho1
    have hn1 := ho1.len
    have hp := numB_pos x
    have ht := numB_ten H2.out
    have hne : ((n1 : Int) == 0) = false := beq_eq_false_iff_ne.2 (by omega)
    have hn1a : 1 ≤ n1 := by omega
    have hn1b : n1 ≤ 10 := by omega
    have HN := Lib.hid hn1
    clear hn1 hp ht
    obtain ⟨K2, hk2, hk3⟩ : ∃ K2 : Nat, bits BinOp.and IntKind.u64 (x : Int) 125 = (K2 : Int) ∧ K2 ≤ 125 := ⟨x &&& 125, u64_and_nat x 125 H2.out (by decide), Nat.and_le_right⟩
    go_wp2_with fail
    refine (take_any _ _ _ [255, 255, 255, 255, 255, 255, 255, 255, 255, UInt8.ofNat (K2 + 2)] _ (Rd.lit w1 _ _ _ (by simp [bvs, bv]; omega)) (by simp)).mono ?_
    rintro e w2 ⟨rfl, rfl⟩
    rw [takeL_great _ (by simp; omega)]
    go_wp2_with (go_at_call 13; refine (FIN.out _).mono ?_; rintro e w' ⟨rfl, hup⟩)
    go_ret
    exact ⟨rfl, (hu1.alloc _).trans hup⟩
  · -- one of eleven bytes
    go_enter Try.func4, Try.ntmps4
    go_wp2_with fail
    refine (put_any none 0 0 [] x w Rd.empty (by omega) hx).mono ?_
    rintro e w1 ⟨A1, n1, c1, rfl, ho1, hu1⟩
    rw [List.nil_append] at ho1
    have hn1 := ho1.len
    have hp := numB_pos x
    have ht := numB_ten H2.out
    have hne : ((n1 : Int) == 0) = false := beq_eq_false_iff_ne.2 (by omega)
    have hn1a : 1 ≤ n1 := by omega
    have hn1b : n1 ≤ 10 := by omega
    have HN := Lib.hid hn1
    clear hn1 hp ht
    go_wp2_with fail
    refine (take_any _ _ _ [128, 128, 128, 128, 128, 128, 128, 128, 128, 128, 1] _ (Rd.lit w1 _ _ _ rfl) (by simp)).mono ?_
    rintro e w2 ⟨rfl, rfl⟩
    rw [show takeL [128, 128, 128, 128, 128, 128, 128, 128, 128, 128, 1] = (0, 0, 3) from rfl]
    go_wp2_with (go_at_call 13; refine (FIN.out _).mono ?_; rintro e w' ⟨rfl, hup⟩)
    go_ret
    exact ⟨rfl, (hu1.alloc _).trans hup⟩
  · -- one that is cut
    go_enter Try.func4, Try.ntmps4
    go_wp2_with fail
    refine (put_any none 0 0 [] x w Rd.empty (by omega) hx).mono ?_
    rintro e w1 ⟨A1, n1, c1, rfl, ho1, hu1⟩
    rw [List.nil_append] at ho1
    have hn1 := ho1.len
    have hp := numB_pos x
    have ht := numB_ten H2.out
    have hne : ((n1 : Int) == 0) = false := beq_eq_false_iff_ne.2 (by omega)
    have hn1a : 1 ≤ n1 := by omega
    have hn1b : n1 ≤ 10 := by omega
    have HN := Lib.hid hn1
    clear hn1 hp ht
    obtain ⟨k, rfl⟩ : ∃ k, n1 = k + 1 := ⟨n1 - 1, by omega⟩
    have hcap := ho1.cap
    go_wp2_with fail
    refine (take_any A1 k c1 ((numB x).take k) _ (ho1.rd.bto (by omega)) (by omega)).mono ?_
    rintro e w2 ⟨rfl, rfl⟩
    rw [takeL_cut H2.out (by have := HN.out; omega)]
    go_wp2_with (go_at_call 13; refine (FIN.out _).mono ?_; rintro e w' ⟨rfl, hup⟩)
    go_ret
    exact ⟨rfl, hu1.trans hup⟩
end Go.Proofs.Ytenkamppgcgcdaa.numCanon
