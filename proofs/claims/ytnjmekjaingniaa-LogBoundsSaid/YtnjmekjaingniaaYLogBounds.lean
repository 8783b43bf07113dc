/-
  'clepsydra/clepsydralaw14.LogBounds': for every input the law returns true; each argument reads behind the call as it read before. No condition.
-/
import Derived.IntWalk
import Derived.Test.YtnjmekjaingniaaZ5
/-
  The law LogBounds: the walk.
-/
namespace Go.Proofs.Ytnjmekjaingniaa.logBounds
open Go.RowKit
set_option linter.unusedVariables false
set_option linter.unusedSimpArgs false

/-- a row of the call's own of which one cell is written -/
theorem own_setc {w : World} {base g n c sz j : Nat} {e : TypeId} {xs : List Value} (h : w.ownsRow base e sz (.slice (some ⟨g, 0, none⟩) n c) n xs) (u : Value) : (w.setCell ⟨g, j, none⟩ u).ownsRow base e sz (.slice (some ⟨g, 0, none⟩) n c) n (xs.set j u) := by
  refine ⟨by rw [List.length_set]; exact h.1, ?_⟩
  rcases h.2 with ⟨hv, _⟩ | ⟨g', cap, cur, hv, hb, hh, h1, h2, h3, h4⟩
  · cases hv
  · injection hv with hA _ hc
    injection hA with hA
    injection hA with hg _
    subst hg; subst hc
    refine .inr ⟨g, c, cur.setIfInBounds j u, rfl, hb, setc_heap w g j u cur e hh, h1, h2, by simp; exact h3, ?_⟩
    rw [Array.toList_setIfInBounds, List.take_set, h4]
theorem itcs_kind (u : Int64) : ∀ (l : List It) (i : Nat), i < l.length → ∃ l' : List It, l'.length = l.length ∧ itcs l' = (itcs l).set (i * 5 + 1) (.int .i64 u.toInt)
  | [], i, h => absurd h (Nat.not_lt_zero _)
  | x :: l, 0, _ => ⟨⟨x.s, u, x.t, x.v, x.x⟩ :: l, rfl, by simp [itcs, itc]⟩
  | x :: l, i + 1, h => by
    obtain ⟨l', h1, h2⟩ := itcs_kind u l i (by simpa using h)
    refine ⟨x :: l', by simp [h1], ?_⟩
    have e1 : itcs (x :: l') = itc x ++ itcs l' := by simp [itcs]
    have e2 : itcs (x :: l) = itc x ++ itcs l := by simp [itcs]
    rw [e1, e2, h2, List.set_append_right _ _ (by simp [itc]; omega)]
    congr 2
    simp [itc]; omega
/-- five numbers as an item -/
theorem it_of (s k : Int) (t v : Nat) (x : Int) (hs : -9223372036854775808 ≤ s ∧ s ≤ 9223372036854775807) (hk : -9223372036854775808 ≤ k ∧ k ≤ 9223372036854775807) (ht : t < 18446744073709551616) (hv : v < 18446744073709551616) (hx : -9223372036854775808 ≤ x ∧ x ≤ 9223372036854775807) :
    ∃ i : It, itc i = [.int .i64 s, .int .i64 k, .int .u64 (t : Int), .int .u64 (v : Int), .int .i64 x] := by
  refine ⟨⟨Int64.ofInt s, Int64.ofInt k, UInt64.ofNat t, UInt64.ofNat v, Int64.ofInt x⟩, ?_⟩
  have e1 : ∀ z : Int, -9223372036854775808 ≤ z ∧ z ≤ 9223372036854775807 → (Int64.ofInt z).toInt = z := fun z hz => Int64.toInt_ofInt_of_le (by simpa using hz.1) (by have := hz.2; simp; omega)
  have e2 : ∀ z : Nat, z < 18446744073709551616 → (UInt64.ofNat z).toNat = z := fun z hz => by simp; omega
  simp only [itc]
  rw [e1 s hs, e1 k hk, e1 x hx, e2 t ht, e2 v hv]
theorem itc_one' (i : It) : ∀ u ∈ itc i, u.oneCell' = true := by
  have h := itcs_one [i]
  simpa [itcs] using h
set_option maxRecDepth 100000 in
set_option maxHeartbeats 4000000 in
theorem law_any (n at_ : Int) (bad : Bool) (w : World) (b1 : -9223372036854775808 ≤ n ∧ n ≤ 9223372036854775807) (b2 : -9223372036854775808 ≤ at_ ∧ at_ ≤ 9223372036854775807) :
    Calls Try.prog 3 #[.int .i64 n, .int .i64 at_, .bool bad] w fun e w' => e = .returned (.bool true) ∧ Up w w' := by
  obtain ⟨N0, hN0, hN1⟩ := i64_and_le n 255 (by omega)
  replace hN0 : bits .and .i64 n 255 = (N0 : Int) := hN0
  obtain ⟨N, hN⟩ : ∃ N, N = N0 + 1900 := ⟨_, rfl⟩
  have hNw : IntKind.i64.wrap ((N0 : Int) + 1900) = (N : Int) := by rw [IntWalk.i64_in _ (by omega)]; omega
  have hN2 : N ≤ 2155 ∧ 1900 ≤ N := by omega
  obtain ⟨hN3, hN4⟩ := hN2
  have HN := Lib.hid hN
  have nil0 : ∀ w0, OwnI w0 w.heap.size none 0 0 [] := fun w0 => World.ownsRow_nil _ _ _ _
  have NIL := Lib.hid nil0
  clear hN nil0
  go_enter Try.func3, Try.ntmps3
  go_wp2_with fail
  clear hN0 hNw
  go_loopw [7, 8] (fun lv i wr => ∃ (k : Nat) (R : Option Addr) (rc : Nat) (l : List It), i = .int .i64 (k : Int) ∧ lv = .slice R k rc ∧ k ≤ N ∧ OwnI wr w.heap.size R k rc l ∧ Up w wr) (fun _ i _ => N - (intOf i).toNat)
  case atStart => exact ⟨0, none, 0, [], rfl, rfl, by omega, NIL.out _, Up.refl _⟩
  case round =>
    obtain ⟨k, R, rc, l, rfl, rfl, hk, hown, hup⟩ := hrel
    by_cases hkN : k < N
    · have i1 : (k : Int) < (N : Int) := by omega
      obtain ⟨s, hs, hs1⟩ := i64_and_le (k : Int) 255 (by omega)
      replace hs : bits .and .i64 (k : Int) 255 = (s : Int) := hs
      obtain ⟨t, ht⟩ : ∃ t, t = 1099511627776 - k := ⟨_, rfl⟩
      obtain ⟨v, hv⟩ : ∃ v, v = 281474976710656 - k := ⟨_, rfl⟩
      have hcv : IntKind.u64.wrap (k : Int) = (k : Int) := by rw [IntKind.wrap_u64]; omega
      have htw : IntKind.u64.wrap ((1099511627776 : Int) - (k : Int)) = (t : Int) := by rw [IntKind.wrap_u64]; omega
      have hvw : IntKind.u64.wrap ((281474976710656 : Int) - (k : Int)) = (v : Int) := by rw [IntKind.wrap_u64]; omega
      obtain ⟨it, hit⟩ := it_of (s : Int) 2 t v (-9223372036854775808) (by omega) (by omega) (by omega) (by omega) (by omega)
      have hone := itc_one' it
      have hbox : ∀ W : World, Rd (W.alloc (.cells #[.int .i64 (s : Int), .int .i64 2, .int .u64 (t : Int), .int .u64 (v : Int), .int .i64 (-9223372036854775808)] 25)) (W.alloc (.cells #[.int .i64 (s : Int), .int .i64 2, .int .u64 (t : Int), .int .u64 (v : Int), .int .i64 (-9223372036854775808)] 25)).heap.size 5 (some ⟨W.heap.size, 0, none⟩) 1 (itc it) := fun W => by
        rw [hit]
        exact Rd.made W #[.int .i64 (s : Int), .int .i64 2, .int .u64 (t : Int), .int .u64 (v : Int), .int .i64 (-9223372036854775808)] 25 (sz := 5) (n := 1) rfl
      have HBOX := Lib.hid hbox
      have HONE := Lib.hid hone
      clear ht hv hit hbox hone
      go_wp2_with (at_builtin; refine wpList_append_rd _ itemsT (news := itc it) (World.ownsRow.alloc hown _) (HBOX.out _) HONE.out (by omega) (by omega) (by simp; have := hup.size; omega) rfl rfl rfl rfl ?_; intro v5 w5 hown5 hg5 hat5; obtain ⟨R5, rc5, rfl⟩ := own_form hown5)
      have hu5 : Up w w5 := (hup.alloc _).grown hg5 (fun g hg => (World.ownsRow.lt hown g hg).1)
      have hown6 : OwnI w5 w.heap.size R5 (k + 1) rc5 (l ++ [it]) := by
        unfold OwnI
        rw [itcs_append, show itcs [it] = itc it by simp [itcs]]
        exact hown5
      go_roundw
      case rel => exact ⟨k + 1, R5, rc5, l ++ [it], by go_num, rfl, by omega, hown6, hu5⟩
      case measure => simp [intOf]; omega
    · have hkE : k = N := by omega
      have i1 : ¬ (k : Int) < (N : Int) := by omega
      subst hkE
      clear HN hkN
      cases bad with
      | false =>
        have hrd1 := OwnI.rd hown
        clear hown
        go_wp2_with fail
        refine (batch_any (R) k rc (l) wr hrd1 (by omega)).mono ?_
        rintro e w3 ⟨X, xn, xc, rfl, hX, hu3⟩
        have hrd3 := hrd1.up hu3
        have HXL := Lib.hid hX.rd.blen
        clear hX
        go_wp2_with fail
        refine (batch_any none 0 0 [] w3 Rd.empty (by omega)).mono ?_
        rintro e w4 ⟨Y, yn, yc, rfl, hY, hu4⟩
        rw [show batE [] = 1 from rfl]
        have hrd4 := hrd3.up hu4
        clear hY
        go_wp2_with fail
        refine (rbmay14_any (R) k rc (l) w4 hrd4 (by omega)).mono ?_
        rintro e w5 ⟨rfl, hu5⟩
        have hup5 := (hup).trans (hu3.trans (hu4.trans hu5))
        obtain ⟨be, hbe⟩ : ∃ q, q = batE (l) := ⟨_, rfl⟩
        have hx0 : be ≠ 0 → xn = 0 := fun h => by
          rw [HXL.out]
          unfold batB
          rw [if_neg (by rw [← hbe]; exact h)]
          rfl
        rw [← hbe]
        have j1 : ((be : Int) == (be : Int)) = true := by simp
        clear HXL hbe hrd1 hrd3 hrd4 hu3 hu4 hu5
        by_cases h0 : be = 0
        · have j2 : ((be : Int) == 0) = true := by rw [beq_iff_eq]; omega
          clear hx0 h0
          go_wp2_with fail
          refine (awake14_any w5).mono ?_
          rintro e w6 ⟨rfl, hu6⟩
          go_wp2_with fail
          go_ret
          exact ⟨rfl, hup5.trans hu6⟩
        · have j2 : ((be : Int) == 0) = false := by rw [beq_eq_false_iff_ne]; omega
          have hxn := hx0 h0
          subst hxn
          clear hx0 h0
          go_wp2_with fail
          refine (awake14_any w5).mono ?_
          rintro e w6 ⟨rfl, hu6⟩
          go_wp2_with fail
          go_ret
          exact ⟨rfl, hup5.trans hu6⟩
      | true =>
        obtain ⟨C, hC, hC2⟩ := i64_and_le at_ 65535 (by omega)
        replace hC : bits .and .i64 at_ 65535 = (C : Int) := hC
        have hk0 : ¬ ((k : Int) = 0) := by omega
        obtain ⟨I, hI, hIk⟩ : ∃ I : Nat, (C : Int).tmod (k : Int) = (I : Int) ∧ I < k := ⟨C % k, (by rw [Int.tmod_eq_emod_of_nonneg (by omega), Int.natCast_emod]), Nat.mod_lt C (by omega)⟩
        have hIi : (I : Int) < (k : Int) := by omega
        obtain ⟨g, rfl, hg1, hg2⟩ := own_some hown (by omega)
        obtain ⟨b9, o9, e9, hb9, hc9⟩ := (Rd.own hown).2 (by omega)
        injection e9 with e9
        injection e9 with e91 e92
        subst e91; subst e92
        have hll := (OwnI.rd hown).ilen
        obtain ⟨z1, hc1⟩ : ∃ z, wr.cell? ⟨g, I * 5 + 1, none⟩ = some (.int .i64 z) := by
          have hc1 := hc9 (I * 5 + 1) _ ((itcs_at l (k := I) (by omega) (j := 1) (by omega)).trans (by simp [itc]; rfl))
          rw [Nat.zero_add] at hc1
          exact ⟨_, hc1⟩
        have hz1 : wr.frozen? ⟨g, I * 5 + 1, none⟩ = false := World.ownsRow.frozenAt hown (I * 5 + 1)
        obtain ⟨l2, hl2, hs2⟩ := itcs_kind 3 l I (by omega)
        have hown2 := own_setc (j := I * 5 + 1) hown (.int .i64 (3 : Int64).toInt)
        rw [← hs2] at hown2
        have hup2 : Up w (wr.setCell ⟨g, I * 5 + 1, none⟩ (.int .i64 3)) := hup.set_ (p := ⟨g, I * 5 + 1, none⟩) hg1 _
        have hown2 : OwnI (wr.setCell ⟨g, I * 5 + 1, none⟩ (.int .i64 3)) w.heap.size (some ⟨g, 0, none⟩) k rc l2 := hown2
        have HOWN := Lib.hid hown2
        have HUP := Lib.hid hup2
        clear hll hs2 hl2 hown2 hc9 hown hup hup2
        go_upto_region 9 with fail
        have hown2 := HOWN.out
        have hup2 := HUP.out
        clear HOWN HUP hC hI hk0 hIi hc1 hz1
        generalize wr.setCell ⟨g, I * 5 + 1, none⟩ (.int .i64 3) = wq at *
        have hrd1 := OwnI.rd hown2
        clear hown2
        go_wp2_with fail
        refine (batch_any (some ⟨g, 0, none⟩) k rc (l2) wq hrd1 (by omega)).mono ?_
        rintro e w3 ⟨X, xn, xc, rfl, hX, hu3⟩
        have hrd3 := hrd1.up hu3
        have HXL := Lib.hid hX.rd.blen
        clear hX
        go_wp2_with fail
        refine (batch_any none 0 0 [] w3 Rd.empty (by omega)).mono ?_
        rintro e w4 ⟨Y, yn, yc, rfl, hY, hu4⟩
        rw [show batE [] = 1 from rfl]
        have hrd4 := hrd3.up hu4
        clear hY
        go_wp2_with fail
        refine (rbmay14_any (some ⟨g, 0, none⟩) k rc (l2) w4 hrd4 (by omega)).mono ?_
        rintro e w5 ⟨rfl, hu5⟩
        have hup5 := (hup2).trans (hu3.trans (hu4.trans hu5))
        obtain ⟨be, hbe⟩ : ∃ q, q = batE (l2) := ⟨_, rfl⟩
        have hx0 : be ≠ 0 → xn = 0 := fun h => by
          rw [HXL.out]
          unfold batB
          rw [if_neg (by rw [← hbe]; exact h)]
          rfl
        rw [← hbe]
        have j1 : ((be : Int) == (be : Int)) = true := by simp
        clear HXL hbe hrd1 hrd3 hrd4 hu3 hu4 hu5
        by_cases h0 : be = 0
        · have j2 : ((be : Int) == 0) = true := by rw [beq_iff_eq]; omega
          clear hx0 h0
          go_wp2_with fail
          refine (awake14_any w5).mono ?_
          rintro e w6 ⟨rfl, hu6⟩
          go_wp2_with fail
          go_ret
          exact ⟨rfl, hup5.trans hu6⟩
        · have j2 : ((be : Int) == 0) = false := by rw [beq_eq_false_iff_ne]; omega
          have hxn := hx0 h0
          subst hxn
          clear hx0 h0
          go_wp2_with fail
          refine (awake14_any w5).mono ?_
          rintro e w6 ⟨rfl, hu6⟩
          go_wp2_with fail
          go_ret
          exact ⟨rfl, hup5.trans hu6⟩
end Go.Proofs.Ytnjmekjaingniaa.logBounds

/-
  'clepsydra/clepsydralaw14.LogBounds': for every input the law returns true; each argument reads behind the call as it read before. No condition.
-/

namespace Go.Proofs.Ytnjmekjaingniaa.logBounds
open Go.ChangeShapes Go.WideShapes Go.ChangeAt Go.RowKit
open Go.ChangeMaps (open_string shut_string)
set_option linter.unusedVariables false

set_option maxRecDepth 100000 in
theorem lifted (os : Os) (started : os.Started) (H : Type) (enc : TypeId × Value → H) :
    ReturnsInHanded {} Try.checked os 3 .any (Rows.logBoundsSpec.pre6 enc Try.prog Try.f3 Rows.logBoundsRow.domain false) (Rows.logBoundsSpec.post enc Try.prog Try.f3 false true false false) := by
  refine returnsInHanded_of_change (C := Try.checked) prog_own started (by kernel_rfl) Try.func3
    (ChangeSpec.witness6 (enc := enc) (C := Try.checked) false ⟨#[], #[.int .i64 0, .int .i64 0, .bool false], []⟩ 8 (by kernel_rfl) (by kernel_rfl) (by kernel_rfl) (by kernel_rfl)) ?_
  intro W base args ds gs before hval0 hW hcnd _
  have hval : ∀ (j : Nat) t v, Try.f3.params[j]? = some t → args[j]? = some v → Value.okWide Try.prog W .any base t v := hval0
  have hW' := hW
  obtain ⟨p, q, hA0, hV, rfl, hfz, hnd⟩ := hW
  have hA : DataW.TrodAll enc Try.prog W 0 (fun _ => true) true Try.f3.params.toList args.toList ds p := hA0
  rw [Try.params3] at hA hval
  obtain ⟨v0, vs0, d0, ds0, p0, q0, hargs, rfl, rfl, h0, r0⟩ := trodAll_cons hA
  obtain ⟨v1, vs1, d1, ds1, p1, q1, rfl, rfl, rfl, h1, r1⟩ := trodAll_cons r0
  obtain ⟨v2, vs2, d2, ds2, p2, q2, rfl, rfl, rfl, h2, r2⟩ := trodAll_cons r1
  obtain ⟨rfl, rfl, rfl⟩ := trodAll_nil r2
  obtain rfl : args = #[v0, v1, v2] := by cases args; simp_all
  obtain ⟨rfl, rfl⟩ := trodVars_none hV
  obtain ⟨a0, rfl, rfl, rfl, w0⟩ := open_int Try.underlying3 (hval 0 3 v0 rfl rfl) h0
  have b0 := bd_i64 w0
  obtain ⟨a1, rfl, rfl, rfl, w1⟩ := open_int Try.underlying3 (hval 1 3 v1 rfl rfl) h1
  have b1 := bd_i64 w1
  obtain ⟨a2, rfl, rfl, rfl⟩ := open_bool Try.underlying4 (hval 2 4 v2 rfl rfl) h2
  clear hA0 hval0
  refine (law_any a0 a1 a2 W b0 b1).mono fun e W' ⟨he, bel⟩ => ?_
  subst he
  exact ⟨_, rfl, _, _, _, [], _, [], hW', trodAll_mk1 (shut_bool Try.underlying4 _), (trodAll_cons_mk (shut_int Try.underlying3 w0) (trodAll_cons_mk (shut_int Try.underlying3 w1) (trodAll_cons_mk (shut_bool Try.underlying4 a2) trodAll_mk0))), rfl, bel.frame _, fun h => by cases h⟩

theorem proved : Rows.LogBoundsSaid :=
  OpenClaim.holds_of_wide 3 Try.f3 rfl rfl rfl rfl rfl rfl rfl ⟨rfl, rfl, rfl, rfl, rfl⟩ rfl rfl rfl rfl rfl (by kernel_rfl) Try.func3 (by kernel_rfl)
    (of_decide_eq_true (by kernel_rfl)) (by unfold Func.isWrapper; first | (rw [if_pos (by decide +kernel)]; kernel_rfl) | (rw [if_neg (by decide +kernel)]; exact ⟨rfl, rfl⟩))
    (fun os started H enc _ => lifted os started H enc)
#print axioms proved
end Go.Proofs.Ytnjmekjaingniaa.logBounds
