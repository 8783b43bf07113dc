/-
  The walk of item.one: the item that bytes begin with.
-/
import Derived.Test.YtnbdijifhimogaaItemW3
import Derived.Test.YtnbdijifhimogaaNumW3
import Derived.Deep.RegionWith
import Derived.Deep.DrawnRows
namespace Go.Proofs.Ytnbdijifhimogaa
open Go.RowKit
set_option linter.unusedVariables false

/-- k numbers, one behind the other -/
def takesL : Nat → List Nat → List UInt8 → Nat × List Nat × List UInt8
  | 0, acc, l => (0, acc, l)
  | k + 1, acc, l => if (takeL l).2.2 = 0 then takesL k (acc ++ [(takeL l).1]) (l.drop (takeL l).2.1) else ((takeL l).2.2, [], [])
def mkIt (s k t v x : Nat) : It := ⟨Int64.ofInt s, Int64.ofInt k, UInt64.ofNat t, UInt64.ofNat v, Int64.ofInt (unsignZ x)⟩
def noIt : It := ⟨0, 0, 0, 0, 0⟩
/-- the error, the item, the bytes behind it -/
def oneL (l : List UInt8) : Nat × It × List UInt8 :=
  if l.length < 2 then (4, noIt, [])
  else if (takesL 3 [] (l.drop 2)).1 = 0 then (0, mkIt (l.getD 0 0).toNat (l.getD 1 0).toNat ((takesL 3 [] (l.drop 2)).2.1.getD 0 0) ((takesL 3 [] (l.drop 2)).2.1.getD 1 0) ((takesL 3 [] (l.drop 2)).2.1.getD 2 0), (takesL 3 [] (l.drop 2)).2.2)
  else ((takesL 3 [] (l.drop 2)).1, noIt, [])
theorem mkIt_c (s k t v x : Nat) (hs : s < 256) (hk : k < 256) (ht : t < 18446744073709551616) (hv : v < 18446744073709551616) (hx : x < 18446744073709551616) :
    itc (mkIt s k t v x) = [.int .i64 (s : Int), .int .i64 (k : Int), .int .u64 (t : Int), .int .u64 (v : Int), .int .i64 (unsignZ x)] := by
  have hb : -9223372036854775808 ≤ unsignZ x ∧ unsignZ x ≤ 9223372036854775807 := by unfold unsignZ; split <;> omega
  have e1 : ∀ n : Nat, n < 256 → (Int64.ofInt (n : Int)).toInt = (n : Int) := fun n hn => by rw [Int64.toInt_ofInt_of_le (by omega) (by simp; omega)]
  have ex : (Int64.ofInt (unsignZ x)).toInt = unsignZ x := by rw [Int64.toInt_ofInt_of_le (by simpa using hb.1) (by have := hb.2; simp; omega)]
  have e2 : ∀ n : Nat, n < 18446744073709551616 → ((UInt64.ofNat n).toNat : Int) = (n : Int) := fun n hn => by simp; omega
  simp only [itc, mkIt, e1 s hs, e1 k hk, e2 t ht, e2 v hv, ex]
theorem noIt_c : itc noIt = [.int .i64 0, .int .i64 0, .int .u64 0, .int .u64 0, .int .i64 0] := by kernel_rfl

set_option maxRecDepth 100000 in
set_option maxHeartbeats 3200000 in
theorem one_any (A : Option Addr) (n c : Nat) (l : List UInt8) (w : World) (B : Nat) (hB : B ≤ w.heap.size) (hr : Rd w B 1 A n (bvs l)) (hn : n ≤ 9223372036854775807) (hc : n ≤ c) :
    Calls Try.prog 43 #[.slice A n c] w fun e w' => ∃ A' n' c', e = .returned (.tuple #[.agg (itc (oneL l).2.1).toArray, .slice A' n' c', .int .i64 ((oneL l).1 : Int)]) ∧ Rd w' B 1 A' n' (bvs (oneL l).2.2) ∧ n' ≤ c' ∧ n' ≤ n ∧ Up w w' := by
  have HL := Lib.hid hr.blen
  have CUT := cut_from_b
  by_cases h2 : n < 2
  · have hv : oneL l = (4, noIt, []) := by unfold oneL; rw [if_pos (by rw [← HL.out]; exact h2)]
    have HV := Lib.hid hv
    clear hv
    go_enter Try.func43, Try.ntmps43
    go_wp2_with fail
    refine bodyPost_ret (v := .tuple #[.agg #[.int .i64 0, .int .i64 0, .int .u64 0, .int .u64 0, .int .i64 0], .slice none 0 0, .int .i64 4]) (by simp [results, Try.results43, go_sem]) rfl ?_
    rw [HV.out, noIt_c]
    exact ⟨none, 0, 0, rfl, Rd.empty, by omega, by omega, (Up.refl w).alloc _⟩
  · obtain ⟨b, o, rfl, hb, hc0⟩ := hr.byte (k := 0) (by omega)
    obtain ⟨b', o', e', _, hc1⟩ := hr.byte (k := 1) (by omega)
    injection e' with e'
    injection e' with e1 e2
    subst e1; subst e2
    have hbw : b < w.heap.size := by omega
    have hd := hr.bfrom (k := 2) (cap := c) (by omega) hc
    rw [Nat.add_zero] at hc0
    have hv : oneL l = if (takesL 3 [] (l.drop 2)).1 = 0 then (0, mkIt (l.getD 0 0).toNat (l.getD 1 0).toNat ((takesL 3 [] (l.drop 2)).2.1.getD 0 0) ((takesL 3 [] (l.drop 2)).2.1.getD 1 0) ((takesL 3 [] (l.drop 2)).2.1.getD 2 0), (takesL 3 [] (l.drop 2)).2.2)
        else ((takesL 3 [] (l.drop 2)).1, noIt, []) := by
      conv => lhs; unfold oneL
      rw [if_neg (by rw [← HL.out]; exact h2)]
    have HV := Lib.hid hv
    clear hv
    have hb0 := (l.getD 0 0).toNat_lt
    have hb1 := (l.getD 1 0).toNat_lt
    generalize (l.getD 0 0).toNat = b0 at *
    generalize (l.getD 1 0).toNat = b1 at *
    have hl2 : (l.drop 2).length = n - 2 := by rw [List.length_drop, HL.out]
    have HL2 := Lib.hid hl2
    clear hl2
    generalize l.drop 2 = l2 at *
    have w0 : wrap64 (b0 : Int) = b0 := by unfold wrap64; omega
    have w1 : wrap64 (b1 : Int) = b1 := by unfold wrap64; omega
    have g0 : (0 : Int) < n := by omega
    have g1 : (1 : Int) < n := by omega
    have g2 : 0 < n := by omega
    have g3 : 1 < n := by omega
    have g4 : (2 : Int) ≤ n := by omega
    clear hr
    have SD : ∀ (W : World) (q : Nat) (a : Addr) (v : Value), (W.drewN q).setCell a v = (W.setCell a v).drewN q := fun _ _ _ _ => rfl
    go_enter Try.func43, Try.ntmps43
    go_wp2_with fail
    go_region
    clear w0 w1
    go_wp2_with fail
    go_loopw [0, 26] (fun q i wr => ∃ (k : Nat) (A' : Option Addr) (n' c' : Nat) (r : List UInt8) (acc : List Nat) (x y z qd : Nat), i = .int .i64 (k : Int) ∧ q = .slice A' n' c' ∧ k ≤ 3 ∧ Rd w B 1 A' n' (bvs r) ∧ n' ≤ c' ∧ n' ≤ n ∧
        wr = ((w.alloc (.cells #[.int .i64 (b0 : Int), .int .i64 (b1 : Int), .int .u64 0, .int .u64 0, .int .i64 0] 27)).alloc (.cells #[.int .u64 (x : Int), .int .u64 (y : Int), .int .u64 (z : Int)] 83)).drewN qd ∧ Hid (takesL (3 - k) acc r = takesL 3 [] l2) ∧ Hid (acc.length = k ∧ acc.getD 0 0 = x ∧ acc.getD 1 0 = y ∧ acc.getD 2 0 = z) ∧ (x : Int) ≤ 18446744073709551615 ∧ (y : Int) ≤ 18446744073709551615 ∧ (z : Int) ≤ 18446744073709551615) (fun _ i _ => 3 - (intOf i).toNat)
    case atStart => exact ⟨0, _, _, _, l2, [], 0, 0, 0, 1, rfl, rfl, by omega, hd, by omega, by omega, rfl, rfl, ⟨rfl, rfl, rfl, rfl⟩, by omega, by omega, by omega⟩
    case round =>
      obtain ⟨k, A', n', c', r, acc, x, y, z, qd, rfl, rfl, hk, hrr, hnc, hnn, rfl, HT, HA, hx, hy, hz⟩ := hrel
      clear hd
      have hup : Up w (((w.alloc (.cells #[.int .i64 (b0 : Int), .int .i64 (b1 : Int), .int .u64 0, .int .u64 0, .int .i64 0] 27)).alloc (.cells #[.int .u64 (x : Int), .int .u64 (y : Int), .int .u64 (z : Int)] 83)).drewN qd) := (((Up.refl w).alloc _).alloc _).drewN _
      by_cases hlt : k < 3
      · go_wp2_with fail
        refine (take_any A' n' c' r _ ((hrr.mono hB).up hup) (by omega)).mono ?_
        rintro e w1 ⟨rfl, rfl⟩
        by_cases he : (takeL r).2.2 = 0
        · have hok := takeL_ok he
          have hst : takesL (3 - k) acc r = takesL (3 - (k + 1)) (acc ++ [(takeL r).1]) (r.drop (takeL r).2.1) := by
            rw [show 3 - k = (3 - (k + 1)) + 1 by omega]
            conv => lhs; unfold takesL
            rw [if_pos he]
          have hrl := hrr.blen
          have hd2 := hrr.bfrom (k := (takeL r).2.1) (cap := c') (by omega) hnc
          rw [he]
          have HST := Lib.hid (HT.out.symm.trans hst)
          clear hst he
          generalize (takeL r).1 = tn at *
          generalize (takeL r).2.1 = ts at *
          generalize r.drop ts = r2 at *
          obtain ⟨h1, h2', h3, h4⟩ := hok
          have t1 : (0 : Int) ≤ ts := by omega
          have t2 : (ts : Int) ≤ n' := by omega
          have t3 : (tn : Int) ≤ 18446744073709551615 := by omega
          clear h1 h2' h3 h4 hrl HT
          have hk3 : k = 0 ∨ k = 1 ∨ k = 2 := by omega
          rcases hk3 with rfl | rfl | rfl
          · go_wp2_with fail
            go_region
            go_wp2_with fail
            go_roundw
            case rel =>
              refine ⟨1, _, _, _, r2, acc ++ [tn], tn, y, z, _, rfl, rfl, by omega, hd2, by omega, by omega, rfl, HST.out.symm, ?_, by omega, by omega, by omega⟩
              obtain ⟨q1, q2, q3, q4⟩ := HA.out
              match acc, q1 with
              | [], _ => exact ⟨by simp, by first | exact q2 | simp, by first | exact q3 | simp, by first | exact q4 | simp⟩
            case measure => simp [intOf]
          · go_wp2_with fail
            go_region
            go_wp2_with fail
            go_roundw
            case rel =>
              refine ⟨2, _, _, _, r2, acc ++ [tn], x, tn, z, _, rfl, rfl, by omega, hd2, by omega, by omega, rfl, HST.out.symm, ?_, by omega, by omega, by omega⟩
              obtain ⟨q1, q2, q3, q4⟩ := HA.out
              match acc, q1 with
              | [a0], _ => exact ⟨by simp, by first | exact q2 | simp, by first | exact q3 | simp, by first | exact q4 | simp⟩
            case measure => simp [intOf]
          · go_wp2_with fail
            go_region
            go_wp2_with fail
            go_roundw
            case rel =>
              refine ⟨3, _, _, _, r2, acc ++ [tn], x, y, tn, _, rfl, rfl, by omega, hd2, by omega, by omega, rfl, HST.out.symm, ?_, by omega, by omega, by omega⟩
              obtain ⟨q1, q2, q3, q4⟩ := HA.out
              match acc, q1 with
              | [a0, a1], _ => exact ⟨by simp, by first | exact q2 | simp, by first | exact q3 | simp, by first | exact q4 | simp⟩
            case measure => simp [intOf]
        · have hbad := HT.out
          have hst : takesL (3 - k) acc r = ((takeL r).2.2, [], []) := by
            rw [show 3 - k = (3 - (k + 1)) + 1 by omega]
            unfold takesL
            rw [if_neg he]
          rw [hst] at hbad
          have hr1 : oneL l = ((takeL r).2.2, noIt, []) := by
            rw [HV.out, ← hbad]
            exact if_neg he
          have HR := Lib.hid hr1
          generalize (takeL r).2.2 = te at *
          have h0 : ¬ (te : Int) = 0 := by omega
          clear hr1 hst hbad HT he
          go_wp2_with fail
          refine bodyPost_ret (v := .tuple #[.agg #[.int .i64 0, .int .i64 0, .int .u64 0, .int .u64 0, .int .i64 0], .slice none 0 0, .int .i64 (te : Int)]) (by simp [results, Try.results43, go_sem]) rfl ?_
          rw [HR.out, noIt_c]
          exact ⟨none, 0, 0, rfl, Rd.empty, by omega, by omega, (((Up.refl w).alloc _).alloc _).drewN _⟩
      · have h3 : k = 3 := by omega
        subst h3
        have hT := HT.out
        have hok : (takesL 3 [] l2) = (0, acc, r) := by rw [← hT]; rfl
        obtain ⟨q1, q2, q3, q4⟩ := HA.out
        have hr1 : oneL l = (0, mkIt b0 b1 x y z, r) := by
          rw [HV.out, hok, if_pos rfl, q2, q3, q4]
        have HR := Lib.hid hr1
        clear hr1 hok hT q1 q2 q3 q4 HT HA
        go_wp2_with fail
        go_region_with (go_at_call 52; refine (unsign_any z _ (by omega)).mono ?_; rintro e w1 ⟨rfl, rfl⟩)
        all_goals
          go_wp2_with fail
          refine bodyPost_ret (v := .tuple #[.agg #[.int .i64 (b0 : Int), .int .i64 (b1 : Int), .int .u64 (x : Int), .int .u64 (y : Int), .int .i64 (unsignZ z)], .slice A' n' c', .int .i64 0]) (by simp [results, Try.results43, go_sem]) rfl ?_
          rw [HR.out, mkIt_c b0 b1 x y z hb0 hb1 (by omega) (by omega) (by omega)]
          exact ⟨A', n', c', rfl, hrr.below (Below.mono ((((Up.refl w).alloc _).alloc _).drewN _) hB), hnc, hnn, (((Up.refl w).alloc _).alloc _).drewN _⟩
end Go.Proofs.Ytnbdijifhimogaa
