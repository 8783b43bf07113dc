/-
  The walk of item.Read.
-/
import Derived.Test.YtnbdijifhimogaaItemW7
namespace Go.Proofs.Ytnbdijifhimogaa
open Go.RowKit
set_option linter.unusedVariables false

/-- k items, one behind the other -/
def itsL : Nat → List It → List UInt8 → Nat × List It × List UInt8
  | 0, acc, l => (0, acc, l)
  | k + 1, acc, l => if (oneL l).1 = 0 then itsL k (acc ++ [(oneL l).2.1]) (oneL l).2.2 else ((oneL l).1, [], [])
/-- what Read tells: the error, the items -/
def readL (l : List UInt8) : Nat × List It :=
  if (takeL l).2.2 ≠ 0 then ((takeL l).2.2, [])
  else if 2000 < (takeL l).1 then (2, [])
  else if (itsL (takeL l).1 [] (l.drop (takeL l).2.1)).1 ≠ 0 then ((itsL (takeL l).1 [] (l.drop (takeL l).2.1)).1, [])
  else if (itsL (takeL l).1 [] (l.drop (takeL l).2.1)).2.2.length = 0 ∧ (itsL (takeL l).1 [] (l.drop (takeL l).2.1)).2.1.all okB = true then (0, (itsL (takeL l).1 [] (l.drop (takeL l).2.1)).2.1)
  else (3, [])

theorem itemsT : SlT Try.prog 23 27 5 40 := SlT.mk' Try.underlying23 (z := .agg #[.int .i64 0, .int .i64 0, .int .u64 0, .int .u64 0, .int .i64 0]) (by kernel_rfl) rfl (by decide)
/-- the slice is a row of the call's own that holds these items -/
def OwnI (w : World) (base : Nat) (A : Option Addr) (n c : Nat) (l : List It) : Prop := w.ownsRow base 27 5 (.slice A n c) n (itcs l)
section
variable {w w' : World} {base n c : Nat} {A : Option Addr} {l : List It}
theorem OwnI.rd (h : OwnI w base A n c l) : Rd w w.heap.size 5 A n (itcs l) := Rd.own h
theorem OwnI.len (h : OwnI w base A n c l) : n = l.length := h.rd.ilen
theorem OwnI.up (h : OwnI w base A n c l) (hu : Up w w') : OwnI w' base A n c l := own_up h hu
end

set_option maxRecDepth 100000 in
set_option maxHeartbeats 3200000 in
theorem read_any (A : Option Addr) (n c : Nat) (l : List UInt8) (w : World) (hr : Rd w w.heap.size 1 A n (bvs l)) (hn : n ≤ 9223372036854775807) (hc : n ≤ c) :
    Calls Try.prog 27 #[.slice A n c] w fun e w' => ∃ A' n' c', e = .returned (.tuple #[.slice A' n' c', .int .i64 ((readL l).1 : Int)]) ∧ OwnI w' w.heap.size A' n' c' (readL l).2 ∧ Up w w' := by
  have CUT := cut_from_b
  have nil0 : ∀ w0, OwnI w0 w.heap.size none 0 0 [] := fun w0 => World.ownsRow_nil _ _ _ _
  have NIL := Lib.hid nil0
  clear nil0
  have HL := Lib.hid hr.blen
  by_cases he : (takeL l).2.2 = 0
  · have hok := takeL_ok he
    by_cases hbig : 2000 < (takeL l).1
    · have hv : readL l = (2, []) := by unfold readL; rw [if_neg (by simpa using he), if_pos hbig]
      have HV := Lib.hid hv
      clear hv
      go_enter Try.func27, Try.ntmps27
      go_wp2_with fail
      refine (take_any A n c l w hr hn).mono ?_
      rintro e w1 ⟨rfl, rfl⟩
      rw [he]
      generalize (takeL l).1 = tn at *
      generalize (takeL l).2.1 = ts at *
      clear he
      go_wp2_with fail
      go_ret2
      rw [HV.out]
      exact ⟨none, 0, 0, rfl, NIL.out _, Up.refl _⟩
    · have hv : readL l = if (itsL (takeL l).1 [] (l.drop (takeL l).2.1)).1 ≠ 0 then ((itsL (takeL l).1 [] (l.drop (takeL l).2.1)).1, [])
          else if (itsL (takeL l).1 [] (l.drop (takeL l).2.1)).2.2.length = 0 ∧ (itsL (takeL l).1 [] (l.drop (takeL l).2.1)).2.1.all okB = true then (0, (itsL (takeL l).1 [] (l.drop (takeL l).2.1)).2.1) else (3, []) := by
        conv => lhs; unfold readL
        rw [if_neg (by simpa using he), if_neg hbig]
      have HV := Lib.hid hv
      clear hv
      have hd := hr.bfrom (k := (takeL l).2.1) (cap := c) (by have := HL.out; omega) hc
      have htl : (takeL l).2.1 ≤ n := by have := HL.out; omega
      go_enter Try.func27, Try.ntmps27
      go_wp2_with fail
      refine (take_any A n c l w hr hn).mono ?_
      rintro e w1 ⟨rfl, rfl⟩
      rw [he]
      generalize (takeL l).1 = tn at *
      generalize (takeL l).2.1 = ts at *
      generalize l.drop ts = l2 at *
      clear he
      obtain ⟨h1, h2', h3, h4⟩ := hok
      have t1 : (0 : Int) ≤ ts := by omega
      have t2 : (ts : Int) ≤ n := by omega
      go_wp2_with fail
      go_loopw [0, 7, 28] (fun q v i wr => ∃ (k : Nat) (A' : Option Addr) (n' c' : Nat) (r : List UInt8) (R : Option Addr) (m d : Nat) (acc : List It), i = .int .u64 (k : Int) ∧ q = .slice A' n' c' ∧ v = .slice R m d ∧ k ≤ tn ∧ Rd wr w.heap.size 1 A' n' (bvs r) ∧ n' ≤ c' ∧ n' ≤ n ∧ m = k ∧
          OwnI wr w.heap.size R m d acc ∧ Hid (itsL (tn - k) acc r = itsL tn [] l2) ∧ Up w wr) (fun _ _ i _ => tn - (intOf i).toNat)
      case atStart => exact ⟨0, _, _, _, l2, none, 0, 0, [], rfl, rfl, rfl, by omega, hd, by omega, by omega, rfl, NIL.out _, rfl, Up.refl _⟩
      case round =>
        obtain ⟨k, A', n', c', r, R, m, d, acc, rfl, rfl, rfl, hk, hrr, hnc, hnn, hmk, hown, HT, hu⟩ := hrel
        clear hd hr
        by_cases hlt : k < tn
        · go_wp2_with fail
          refine (one_any A' n' c' r wr w.heap.size hu.size hrr (by omega) hnc).mono ?_
          rintro e w1 ⟨A2, n2, c2, rfl, hr2, hnc2, hnn2, hu2⟩
          by_cases h1e : (oneL r).1 = 0
          · have hst : itsL tn [] l2 = itsL (tn - (k + 1)) (acc ++ [(oneL r).2.1]) (oneL r).2.2 := by
              rw [← HT.out, show tn - k = (tn - (k + 1)) + 1 by omega]
              conv => lhs; unfold itsL
              rw [if_pos h1e]
            have HST := Lib.hid hst
            rw [h1e]
            clear hst h1e HT
            generalize (oneL r).2.1 = it at *
            generalize (oneL r).2.2 = r2 at *
            have hag : Value.agg (itc it).toArray = .agg #[.int .i64 it.s.toInt, .int .i64 it.k.toInt, .int .u64 (it.t.toNat : Int), .int .u64 (it.v.toNat : Int), .int .i64 it.x.toInt] := rfl
            rw [hag]
            clear hag
            have hown1 := hown.up hu2
            subst hmk
            have hm2 : m ≤ 2000 := by omega
            go_wp2_with (at_builtin; refine wpList_append_rd _ itemsT (news := itcs [it]) (World.ownsRow.alloc (World.ownsRow.alloc hown1 _) _) (Rd.ilit_at _ [it] _ _ (by simp) rfl) (itcs_one _) (by simp; omega) (by simp; omega) (by simp; have := hu.size; have := hu2.size; omega) rfl rfl rfl rfl ?_; intro v3 w3 hown3 hg3 hat3; obtain ⟨R3, d3, rfl⟩ := own_form hown3)
            have hu3 : Up w w3 := (((hu.trans hu2).alloc _).alloc _).grown hg3 (fun g hg => (hown1.lt g hg).1)
            go_roundw
            case rel =>
              refine ⟨m + 1, A2, n2, c2, r2, R3, m + 1, d3, acc ++ [it], by go_num, rfl, rfl, by omega, ?_, hnc2, by omega, rfl, ?_, HST.out.symm, hu3⟩
              · have hz1 : w.heap.size ≤ w1.heap.size := Nat.le_trans hu.size hu2.size
                exact hr2.below ((((Below.refl w.heap.size w1).alloc hz1 _).alloc (by simp; omega) _).grown hg3 (by simp; omega) (fun g hg => (hown1.lt g hg).1))
              · show World.ownsRow _ _ _ _ _ _ _
                rw [itcs_append]; exact hown3
            case measure => simp [intOf]; omega
          · have hst : itsL tn [] l2 = ((oneL r).1, [], []) := by
              rw [← HT.out, show tn - k = (tn - (k + 1)) + 1 by omega]
              unfold itsL
              rw [if_neg h1e]
            have hv : readL l = ((oneL r).1, []) := by rw [HV.out, hst, if_pos h1e]
            have HR := Lib.hid hv
            clear hst hv HT
            generalize (oneL r).1 = te at *
            have h0 : ¬ (te : Int) = 0 := by omega
            generalize (oneL r).2.1 = it at *
            have hag : Value.agg (itc it).toArray = .agg #[.int .i64 it.s.toInt, .int .i64 it.k.toInt, .int .u64 (it.t.toNat : Int), .int .u64 (it.v.toNat : Int), .int .i64 it.x.toInt] := rfl
            rw [hag]
            clear hag h1e
            go_wp2_with fail
            go_ret2
            rw [HR.out]
            exact ⟨none, 0, 0, rfl, NIL.out _, (hu.trans hu2).alloc _⟩
        · subst hmk
          have hkt : m = tn := by omega
          subst hkt
          have hT : itsL m [] l2 = (0, acc, r) := by rw [← HT.out, Nat.sub_self]; rfl
          have hv := HV.out
          rw [hT, if_neg (by simp)] at hv
          have hrl := hrr.blen
          by_cases hr0 : n' = 0
          · subst hr0
            have hr0' : r.length = 0 := hrl.symm
            cases hall : acc.all okB
            · rw [if_neg (by simp [hall])] at hv
              have HR := Lib.hid hv
              have HA := Lib.hid hall
              clear hv hall hT HT hr0' hrl
              go_wp2_with fail
              refine (all_any R m d acc wr hown.rd (by omega)).mono ?_
              rintro e w1 ⟨rfl, hu2⟩
              rw [HA.out]
              go_wp2_with fail
              go_ret2
              rw [HR.out]
              exact ⟨none, 0, 0, rfl, NIL.out _, hu.trans hu2⟩
            · rw [if_pos ⟨hr0', hall⟩] at hv
              have HR := Lib.hid hv
              have HA := Lib.hid hall
              clear hv hall hT HT hr0' hrl
              go_wp2_with fail
              refine (all_any R m d acc wr hown.rd (by omega)).mono ?_
              rintro e w1 ⟨rfl, hu2⟩
              rw [HA.out]
              go_wp2_with fail
              go_ret2
              rw [HR.out]
              exact ⟨R, m, d, rfl, hown.up hu2, hu.trans hu2⟩
          · rw [if_neg (fun h => hr0 (by rw [hrl]; exact h.1))] at hv
            have HR := Lib.hid hv
            clear hv hT HT hrl
            have h0 : (0 : Int) < n' := by omega
            go_wp2_with fail
            go_ret2
            rw [HR.out]
            exact ⟨none, 0, 0, rfl, NIL.out _, hu⟩
  · have hv : readL l = ((takeL l).2.2, []) := by unfold readL; rw [if_pos he]
    have HV := Lib.hid hv
    clear hv
    go_enter Try.func27, Try.ntmps27
    go_wp2_with fail
    refine (take_any A n c l w hr hn).mono ?_
    rintro e w1 ⟨rfl, rfl⟩
    generalize (takeL l).2.2 = te at *
    have h0 : ¬ (te : Int) = 0 := by omega
    go_wp2_with fail
    go_ret2
    rw [HV.out]
    exact ⟨none, 0, 0, rfl, NIL.out _, Up.refl _⟩
end Go.Proofs.Ytnbdijifhimogaa
