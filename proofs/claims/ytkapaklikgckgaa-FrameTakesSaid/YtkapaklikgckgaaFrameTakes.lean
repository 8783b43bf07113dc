/-
  The law FrameTakes: the walk.
-/
import Derived.Test.YtkapaklikgckgaaFrameLaw2
import Derived.Test.YtkapaklikgckgaaFrameW12
import Derived.Test.YtkapaklikgckgaaNumLaw
import Derived.IntWalk
namespace Go.Proofs.Ytkapaklikgckgaa.frameTakes
open Go.RowKit
set_option linter.unusedVariables false
set_option linter.unusedSimpArgs false

/-- blocks that were written are newer than w -/
theorem keeps_fresh {w wq w2 : World} {gx : Nat} (hu : Up w wq) (hg : w.heap.size ≤ gx) (hK : Rg.Keeps (fun g => g = gx) wq w2) : Up w w2 :=
  ⟨hK.os.trans hu.os, hK.tape.trans hu.tape, hK.output.trans hu.output, Nat.le_trans hu.size hK.size, fun k hk => (hK.block k (Nat.lt_of_lt_of_le hk hu.size) (by show ¬ k = gx; omega)).trans (hu.block k hk)⟩
theorem splitG_len (l : List UInt8) : ∀ (f k : Nat) (ks : List Nat) (bs : List (List UInt8)), ks.length = bs.length → (splitG l f k ks bs).1.length = (splitG l f k ks bs).2.1.length
  | 0, k, ks, bs, h => h
  | f + 1, k, ks, bs, h => by
    unfold splitG
    split
    · split
      · exact splitG_len l f _ _ _ (by simp [h])
      · exact h
    · exact h
theorem splitL_len (l : List UInt8) : (splitL l).1.length = (splitL l).2.1.length := splitG_len l _ _ _ _ rfl
theorem splitG_most (l : List UInt8) : ∀ (f k : Nat) (ks : List Nat) (bs : List (List UInt8)), (splitG l f k ks bs).1.length ≤ ks.length + f
  | 0, k, ks, bs => Nat.le_refl _
  | f + 1, k, ks, bs => by
    unfold splitG
    split
    · split
      · refine Nat.le_trans (splitG_most l f _ _ _) ?_
        rw [List.length_append, List.length_singleton]; omega
      · show ks.length ≤ _; omega
    · show ks.length ≤ _; omega
theorem splitL_most (l : List UInt8) : (splitL l).1.length ≤ l.length + 1 := by
  have := splitG_most l (l.length + 1) 0 [] []
  rw [List.length_nil, Nat.zero_add] at this
  exact this
/-- a cell of a row of the call's own, in whatever grows out of that world -/
theorem own_cells {w : World} {base n c : Nat} {e : TypeId} {A : Option Addr} {xs : List Value} (h : w.ownsRow base e 1 (.slice A n c) n xs) (hn : 0 < n) : ∃ g, A = some ⟨g, 0, none⟩ ∧ ∀ (i : Nat) (u : Value), xs[i]? = some u → ∀ W, Up w W → W.cell? ⟨g, i, none⟩ = some u := by
  obtain ⟨g, rfl, _, hg⟩ := own_some h hn
  refine ⟨g, rfl, fun j u hj W hW => ?_⟩
  have hrd := Rd.own h
  obtain ⟨b, o, e, hb, hc⟩ := hrd.2 hn
  injection e with e
  injection e with e1 e2
  subst e1; subst e2
  have h1 := hc j u hj
  rw [Nat.zero_add] at h1
  exact (hW.cell (p := ⟨g, j, none⟩) hg).trans h1

theorem xor_byte (x y : Int) : ∃ z : UInt8, bits .xor .u8 x y = (z.toNat : Int) := by
  have h : ∃ q : Int, bits .xor .u8 x y = IntKind.u8.wrap q := ⟨_, rfl⟩
  obtain ⟨q, hq⟩ := h
  refine ⟨UInt8.ofNat (q % 256).toNat, ?_⟩
  rw [hq, IntKind.wrap_u8]
  have h0 : 0 ≤ q % 256 := by omega
  have h1 : q % 256 < 256 := by omega
  simp
  omega

set_option maxRecDepth 100000 in
set_option maxHeartbeats 6000000 in
theorem law_any (A : Option Addr) (n c : Nat) (bs : List UInt8) (at_ : Int) (R : Option Addr) (rn rc : Nat) (ps : List Pt) (to_ by_ cut : Int) (w : World) (h0 : IsB w A n c bs) (b1 : -9223372036854775808 ≤ at_ ∧ at_ ≤ 9223372036854775807) (h2 : IsR w R rn rc ps)
    (b3 : -9223372036854775808 ≤ to_ ∧ to_ ≤ 9223372036854775807) (b4 : 0 ≤ by_ ∧ by_ ≤ 255) (b5 : -9223372036854775808 ≤ cut ∧ cut ≤ 9223372036854775807) :
    Calls Try.prog 6 #[.slice A n c, .int .i64 at_, .slice R rn rc, .int .i64 to_, .int .u8 by_, .int .i64 cut] w fun e w' => e = .returned (.bool true) ∧ Up w w' := by
  obtain ⟨hb, hnc, -⟩ := h0
  have HN := Lib.hid hb.blen
  have hrn : rn ≤ 9223372036854775807 := by have := h2.2.2; omega
  by_cases g0 : 3000 < n
  · go_enter Try.func6, Try.ntmps6
    go_wp2_with (go_at_call 9; with_reducible refine (awake3_any _).mono ?_; rintro e w4 ⟨rfl, hu4⟩)
    go_ret
    exact ⟨rfl, hu4⟩
  have d0 : decide (3000 < (n : Int)) = false := by simp; omega
  cases hok : madeOk (ptls ps) 8
  · have HMD := Lib.hid (made_no R rn rc ps 8 w h2 hrn (by omega) hok)
    clear hok h2
    go_enter Try.func6, Try.ntmps6
    go_wp2_with fail
    refine HMD.out.mono ?_
    rintro e w1 ⟨rfl, hu1⟩
    go_wp2_with (go_at_call 9; with_reducible refine (awake3_any _).mono ?_; rintro e w4 ⟨rfl, hu4⟩)
    go_ret
    exact ⟨rfl, hu1.trans hu4⟩
  · obtain ⟨L, -, hx, hm, hle, HMD⟩ := made_yes R rn rc ps 8 w h2 hrn (by omega) hok
    have hfull : (frsB 0 L).length = endAt L L.length := by unfold endAt; rw [List.take_length]
    rw [← hfull] at hle
    generalize hM : L.length = M at *
    generalize hT : frsB 0 L = T at *
    clear hok h2 hfull hM hT hm hx
    obtain ⟨S, hS⟩ : ∃ S, S = T.length := ⟨_, rfl⟩
    rw [← hS] at hle
    have HS := Lib.hid hS
    clear hS
    obtain ⟨C, hC, hC2⟩ := i64_and_le to_ 16777215 (by omega)
    replace hC : bits .and .i64 to_ 16777215 = (C : Int) := hC
    obtain ⟨D, hD, hD2⟩ := i64_and_le cut 65535 (by omega)
    replace hD : bits .and .i64 cut 65535 = (D : Int) := hD
    obtain ⟨P, hP, hPS⟩ : ∃ P : Nat, (D : Int) % ((S : Int) + 1) = (P : Int) ∧ P ≤ S := ⟨D % (S + 1), (by rw [Int.natCast_emod]; rfl), by have := Nat.mod_lt D (show 0 < S + 1 by omega); omega⟩
    have hP0 : ¬ ((S : Int) + 1 = 0) := by omega
    go_enter Try.func6, Try.ntmps6
    go_wp2_with fail
    refine HMD.out.mono ?_
    rintro e w1 ⟨E1, ec, rfl, hown, hu1⟩
    clear hown
    obtain ⟨c5, w5, hconv, hcap, hbeg, hu5⟩ := conv_beg w1 T
    rw [← HS.out] at hconv hcap
    have hg5 : w.heap.size ≤ w1.heap.size := hu1.size
    have hg6 : w1.heap.size ≤ w1.heap.size := Nat.le_refl _
    generalize hg7 : w1.heap.size = g5 at hconv hbeg hg5 hg6
    have hu15 := hu1.trans hu5
    by_cases hS0 : S = 0
    · have hSn : ¬ ((0 : Int) < (S : Int)) := by omega
      have hlen2 : T.length = S := HS.out.symm
      go_wp2_with fail
      have hrd6 := hbeg.rd
      rw [hlen2, hS0] at hrd6
      have hSP : 0 ≤ c5 := by omega
      have hSP2 : 0 ≤ 3000 := by omega
      have hu6 := hu15
      clear hbeg hu15 hu5 hu1
      generalize w5 = w6 at *
      go_loopw [0, 17] (fun bv i wr => ∃ (x : Nat) (X : Option Addr) (xn xc : Nat) (xl : List UInt8), i = .int .i64 (x : Int) ∧ bv = .slice X xn xc ∧ x ≤ 2 ∧ xn ≤ 3000 ∧ xn ≤ xc ∧ Rd wr wr.heap.size 1 X xn (bvs xl) ∧ Up w6 wr) (fun _ i _ => 2 - (intOf i).toNat)
      case atStart => exact ⟨0, A, n, c, bs, rfl, rfl, by omega, by omega, hnc, hb.up hu6, Up.refl _⟩
      case round =>
        obtain ⟨x, X, xn, xc, xl, rfl, rfl, hx2, hxn, hxc, hrdx, hu7⟩ := hrel
        have hcases : x = 0 ∨ x = 1 ∨ x = 2 := by omega
        rcases hcases with rfl | rfl | rfl
        · have hrx := hrdx
          have hbl := hrx.blen
          have HBL := Lib.hid hbl
          clear hbl
          go_wp2_with fail
          refine (ftake_any (X) (xn) (xc) (xl) at_ wr hrx (by omega) (by omega)).mono ?_
          rintro e w2 ⟨A2, n2, c2, rfl, ho2, hu2⟩
          have hcv2 : (convert 22 9 (.slice (X) (xn) (xc))).run Try.prog w2 = .ok (.string (tx (xl))) w2 := run_str (xc) (hrx.up hu2)
          go_wp2_with fail
          refine (unframe_any (xl) at_ w2 (by rw [← HBL.out]; omega)).mono ?_
          rintro e w3 ⟨rfl, hu3⟩
          have hcv3 : (convert 22 9 (.slice A2 n2 c2)).run Try.prog w3 = .ok (.string (tx (takeF (xl) at_).2.2.1)) w3 := run_str c2 (ho2.rd.up hu3)
          clear ho2
          generalize (takeF (xl) at_).2.2.1 = tb at *
          generalize (takeF (xl) at_).2.2.2 = te at *
          generalize (takeF (xl) at_).2.1 = tk at *
          generalize (takeF (xl) at_).1 = tE at *
          have hs3 : ((tx tb).toList == (tx tb).toList) = true := tx_beq rfl
          have hr3 := (hrx.up hu2).up hu3
          go_wp2_with fail
          refine (split_any (X) (xn) (xc) (xl) w3 hr3 (by omega) (by omega)).mono ?_
          rintro e w4 ⟨K6, kn, kc, R6, rn6, rc6, ps6, rfl, hK6, hR6, hP6, hu4⟩
          have hcv4 : (convert 22 9 (.slice (X) (xn) (xc))).run Try.prog w4 = .ok (.string (tx (xl))) w4 := run_str (xc) (hr3.up hu4)
          clear hcv2 hcv3 hs3
          go_wp2_with fail
          refine (rsplit_any (xl) w4 (by rw [← HBL.out]; omega)).mono ?_
          rintro e w5 ⟨K7, kn7, kc7, R7, rn7, rc7, rfl, hK7, hR7, hu5⟩
          have hlen := splitL_len (xl)
          have hmost := splitL_most (xl)
          rw [← HBL.out] at hmost
          generalize (splitL (xl)).1 = KS at *
          generalize (splitL (xl)).2.1 = BS at *
          generalize (splitL (xl)).2.2.1 = SE at *
          generalize (splitL (xl)).2.2.2 = SF at *
          have k1 : kn = KS.length := by have := hK6.1; unfold nvi at this; rw [List.length_map] at this; omega
          have k2 : kn7 = KS.length := by have := hK7.1; unfold nvi at this; rw [List.length_map] at this; omega
          have k3 : rn6 = KS.length := by have h := hR6.1; have h2 := congrArg List.length hP6.1; rw [List.length_map] at h h2; omega
          have k4 : rn7 = KS.length := by have := hR7.1; unfold nstr at this; rw [List.length_map] at this; omega
          rw [← k1] at k2 k3 k4
          subst k2
          subst k3
          subst k4
          have hrn7 : rn7 ≤ 3001 := by omega
          have HK1 := Lib.hid k1
          have HLEN := Lib.hid hlen
          clear k1 hlen hcv4 hmost
          have hu05 := (((hu2.trans hu3).trans hu4).trans hu5)
          go_wp2_with fail
          go_loopw [34] (fun i wr => ∃ j : Nat, i = .int .i64 (j : Int) ∧ j ≤ rn7 ∧ Up w5 wr) (fun i _ => rn7 - (intOf i).toNat)
          case atStart => exact ⟨0, rfl, by omega, Up.refl _⟩
          case round =>
            obtain ⟨j, rfl, hj, huq⟩ := hrel
            by_cases hlj : j < rn7
            · obtain ⟨gK, rfl, hcK⟩ := own_cells hK6 (by omega)
              obtain ⟨gR, rfl, hcR⟩ := own_cells hR6 (by omega)
              obtain ⟨gL, rfl, hcL⟩ := own_cells hK7 (by omega)
              obtain ⟨gS, rfl, hcS⟩ := own_cells hR7 (by omega)
              have hjk : j < KS.length := by rw [← HK1.out]; exact hlj
              have hjb : j < BS.length := by rw [← HLEN.out]; exact hjk
              have hj6 : j < ps6.length := by have h2 := congrArg List.length hP6.1; rw [List.length_map] at h2; omega
              have e1 := hcK j (.int .i64 (KS[j] : Int)) (by unfold nvi; simp [hjk])
              have e3 := hcL j (.int .i64 (KS[j] : Int)) (by unfold nvi; simp [hjk])
              have e2 := hcR j ps6[j].v (by rw [List.getElem?_map, List.getElem?_eq_getElem hj6]; rfl)
              have e4 := hcS j (.string (tx BS[j])) (by unfold nstr; simp [hjb])
              have ho := hP6.2 ps6[j] (List.getElem_mem _)
              have hl : ps6[j].l = BS[j] := by
                have h := congrArg (fun l => l[j]?) hP6.1
                simp only [List.getElem?_map, List.getElem?_eq_getElem hj6, List.getElem?_eq_getElem hjb, Option.map_some] at h
                injection h
              rw [hl] at ho
              generalize ps6[j] = p5 at *
              generalize KS[j] = kj at *
              generalize BS[j] = bj at *
              obtain ⟨A5, n5, c55, l5⟩ := p5
              have hrd5 := ho.rd
              simp only [] at hrd5 e2
              have hS2 : ∀ W, Up wr W → Up wr W ∧ W.cell? ⟨gK, j, none⟩ = some (.int .i64 (kj : Int)) ∧ W.cell? ⟨gR, j, none⟩ = some (.slice A5 n5 c55) ∧ W.cell? ⟨gL, j, none⟩ = some (.int .i64 (kj : Int)) ∧ W.cell? ⟨gS, j, none⟩ = some (.string (tx bj)) := fun W h =>
                ⟨h, e1 W (hu5.trans (huq.trans h)), e2 W (hu5.trans (huq.trans h)), e3 W (huq.trans h), e4 W (huq.trans h)⟩
              have hrA : ∀ W, Up wr W → Rd W W.heap.size 1 A5 n5 (bvs bj) := fun W h => hrd5.up (hu5.trans (huq.trans h))
              have q4 : (j : Int) < (rn7 : Int) := by omega
              have q5 : decide ((j : Int) < (rn7 : Int)) = true := by simp; omega
              have hs7 : ((tx bj).toList == (tx bj).toList) = true := tx_beq rfl
              clear e1 e2 e3 e4 ho hl hcK hcR hcL hcS hrd5 hK6 hR6 hK7 hR7 hP6
              go_wp2_with fail
              apply Rg.region_up _ (by kernel_rfl) (by kernel_rfl) hS2
              · intro QN hQN
                iterate 10 (apply Rg.RK.ok; (· intro vs w1 hS; go_simp; with_reducible rfl); (· rfl); simp only [Act.put, List.setIfInBounds_toArray, List.set_cons_zero, List.set_cons_succ, Nat.reduceAdd])
                iterate 4 (apply Rg.RK.gok (t := 170); (· intro vs w1 hS; go_simp; with_reducible rfl); (· rfl); (· intro vs; rfl); simp only [Act.put, List.setIfInBounds_toArray, List.set_cons_zero, List.set_cons_succ, Nat.reduceAdd])
                apply Rg.RK.gok (t := 170) (v := .string (tx (bj)))
                · intro vs w1 hS
                  exact exec_str rfl rfl (hrA _ hS.1)
                · rfl
                · intro vs; rfl
                simp only [Act.put, List.setIfInBounds_toArray, List.set_cons_zero, List.set_cons_succ, Nat.reduceAdd]
                iterate 5 (apply Rg.RK.gok (t := 170); (· intro vs w1 hS; go_simp; with_reducible rfl); (· rfl); (· intro vs; rfl); simp only [Act.put, List.setIfInBounds_toArray, List.set_cons_zero, List.set_cons_succ, Nat.reduceAdd])
                iterate 1 (apply Rg.RK.ok; (· intro vs w1 hS; go_simp; with_reducible rfl); (· rfl); simp only [Act.put, List.setIfInBounds_toArray, List.set_cons_zero, List.set_cons_succ, Nat.reduceAdd])
                apply Rg.RK.fin []
                intro vs w1 hK hS _
                refine hQN.out _ _ ?_
                clear hQN
                go_wp2_with fail
                go_roundw
                case rel => exact ⟨j + 1, by go_num, by omega, huq.trans (keeps_up hK)⟩
                case measure => simp [intOf]; omega
              · kernel_rfl
            · have hje : j = rn7 := by omega
              have q6 : ¬ ((j : Int) < (rn7 : Int)) := by omega
              have hr9 := ((hr3.up hu4).up hu5).up huq
              clear hK6 hR6 hK7 hR7 hP6
              go_wp2_with fail
              go_roundw
              case rel => exact ⟨1, X, xn, xc, xl, by go_num, rfl, by omega, by omega, by omega, hr9, hu7.trans (hu05.trans huq)⟩
              case measure => simp [intOf]
        · have hrx := hrd6.up hu7
          have hbl := hrx.blen
          have HBL := Lib.hid hbl
          clear hbl
          go_wp2_with fail
          refine (ftake_any (some ⟨g5, 0, none⟩) (0) (c5) (T) at_ wr hrx (by omega) (by omega)).mono ?_
          rintro e w2 ⟨A2, n2, c2, rfl, ho2, hu2⟩
          have hcv2 : (convert 22 9 (.slice (some ⟨g5, 0, none⟩) (0) (c5))).run Try.prog w2 = .ok (.string (tx (T))) w2 := run_str (c5) (hrx.up hu2)
          go_wp2_with fail
          refine (unframe_any (T) at_ w2 (by rw [← HBL.out]; omega)).mono ?_
          rintro e w3 ⟨rfl, hu3⟩
          have hcv3 : (convert 22 9 (.slice A2 n2 c2)).run Try.prog w3 = .ok (.string (tx (takeF (T) at_).2.2.1)) w3 := run_str c2 (ho2.rd.up hu3)
          clear ho2
          generalize (takeF (T) at_).2.2.1 = tb at *
          generalize (takeF (T) at_).2.2.2 = te at *
          generalize (takeF (T) at_).2.1 = tk at *
          generalize (takeF (T) at_).1 = tE at *
          have hs3 : ((tx tb).toList == (tx tb).toList) = true := tx_beq rfl
          have hr3 := (hrx.up hu2).up hu3
          go_wp2_with fail
          refine (split_any (some ⟨g5, 0, none⟩) (0) (c5) (T) w3 hr3 (by omega) (by omega)).mono ?_
          rintro e w4 ⟨K6, kn, kc, R6, rn6, rc6, ps6, rfl, hK6, hR6, hP6, hu4⟩
          have hcv4 : (convert 22 9 (.slice (some ⟨g5, 0, none⟩) (0) (c5))).run Try.prog w4 = .ok (.string (tx (T))) w4 := run_str (c5) (hr3.up hu4)
          clear hcv2 hcv3 hs3
          go_wp2_with fail
          refine (rsplit_any (T) w4 (by rw [← HBL.out]; omega)).mono ?_
          rintro e w5 ⟨K7, kn7, kc7, R7, rn7, rc7, rfl, hK7, hR7, hu5⟩
          have hlen := splitL_len (T)
          have hmost := splitL_most (T)
          rw [← HBL.out] at hmost
          generalize (splitL (T)).1 = KS at *
          generalize (splitL (T)).2.1 = BS at *
          generalize (splitL (T)).2.2.1 = SE at *
          generalize (splitL (T)).2.2.2 = SF at *
          have k1 : kn = KS.length := by have := hK6.1; unfold nvi at this; rw [List.length_map] at this; omega
          have k2 : kn7 = KS.length := by have := hK7.1; unfold nvi at this; rw [List.length_map] at this; omega
          have k3 : rn6 = KS.length := by have h := hR6.1; have h2 := congrArg List.length hP6.1; rw [List.length_map] at h h2; omega
          have k4 : rn7 = KS.length := by have := hR7.1; unfold nstr at this; rw [List.length_map] at this; omega
          rw [← k1] at k2 k3 k4
          subst k2
          subst k3
          subst k4
          have hrn7 : rn7 ≤ 3001 := by omega
          have HK1 := Lib.hid k1
          have HLEN := Lib.hid hlen
          clear k1 hlen hcv4 hmost
          have hu05 := (((hu2.trans hu3).trans hu4).trans hu5)
          go_wp2_with fail
          go_loopw [34] (fun i wr => ∃ j : Nat, i = .int .i64 (j : Int) ∧ j ≤ rn7 ∧ Up w5 wr) (fun i _ => rn7 - (intOf i).toNat)
          case atStart => exact ⟨0, rfl, by omega, Up.refl _⟩
          case round =>
            obtain ⟨j, rfl, hj, huq⟩ := hrel
            by_cases hlj : j < rn7
            · obtain ⟨gK, rfl, hcK⟩ := own_cells hK6 (by omega)
              obtain ⟨gR, rfl, hcR⟩ := own_cells hR6 (by omega)
              obtain ⟨gL, rfl, hcL⟩ := own_cells hK7 (by omega)
              obtain ⟨gS, rfl, hcS⟩ := own_cells hR7 (by omega)
              have hjk : j < KS.length := by rw [← HK1.out]; exact hlj
              have hjb : j < BS.length := by rw [← HLEN.out]; exact hjk
              have hj6 : j < ps6.length := by have h2 := congrArg List.length hP6.1; rw [List.length_map] at h2; omega
              have e1 := hcK j (.int .i64 (KS[j] : Int)) (by unfold nvi; simp [hjk])
              have e3 := hcL j (.int .i64 (KS[j] : Int)) (by unfold nvi; simp [hjk])
              have e2 := hcR j ps6[j].v (by rw [List.getElem?_map, List.getElem?_eq_getElem hj6]; rfl)
              have e4 := hcS j (.string (tx BS[j])) (by unfold nstr; simp [hjb])
              have ho := hP6.2 ps6[j] (List.getElem_mem _)
              have hl : ps6[j].l = BS[j] := by
                have h := congrArg (fun l => l[j]?) hP6.1
                simp only [List.getElem?_map, List.getElem?_eq_getElem hj6, List.getElem?_eq_getElem hjb, Option.map_some] at h
                injection h
              rw [hl] at ho
              generalize ps6[j] = p5 at *
              generalize KS[j] = kj at *
              generalize BS[j] = bj at *
              obtain ⟨A5, n5, c55, l5⟩ := p5
              have hrd5 := ho.rd
              simp only [] at hrd5 e2
              have hS2 : ∀ W, Up wr W → Up wr W ∧ W.cell? ⟨gK, j, none⟩ = some (.int .i64 (kj : Int)) ∧ W.cell? ⟨gR, j, none⟩ = some (.slice A5 n5 c55) ∧ W.cell? ⟨gL, j, none⟩ = some (.int .i64 (kj : Int)) ∧ W.cell? ⟨gS, j, none⟩ = some (.string (tx bj)) := fun W h =>
                ⟨h, e1 W (hu5.trans (huq.trans h)), e2 W (hu5.trans (huq.trans h)), e3 W (huq.trans h), e4 W (huq.trans h)⟩
              have hrA : ∀ W, Up wr W → Rd W W.heap.size 1 A5 n5 (bvs bj) := fun W h => hrd5.up (hu5.trans (huq.trans h))
              have q4 : (j : Int) < (rn7 : Int) := by omega
              have q5 : decide ((j : Int) < (rn7 : Int)) = true := by simp; omega
              have hs7 : ((tx bj).toList == (tx bj).toList) = true := tx_beq rfl
              clear e1 e2 e3 e4 ho hl hcK hcR hcL hcS hrd5 hK6 hR6 hK7 hR7 hP6
              go_wp2_with fail
              apply Rg.region_up _ (by kernel_rfl) (by kernel_rfl) hS2
              · intro QN hQN
                iterate 10 (apply Rg.RK.ok; (· intro vs w1 hS; go_simp; with_reducible rfl); (· rfl); simp only [Act.put, List.setIfInBounds_toArray, List.set_cons_zero, List.set_cons_succ, Nat.reduceAdd])
                iterate 4 (apply Rg.RK.gok (t := 170); (· intro vs w1 hS; go_simp; with_reducible rfl); (· rfl); (· intro vs; rfl); simp only [Act.put, List.setIfInBounds_toArray, List.set_cons_zero, List.set_cons_succ, Nat.reduceAdd])
                apply Rg.RK.gok (t := 170) (v := .string (tx (bj)))
                · intro vs w1 hS
                  exact exec_str rfl rfl (hrA _ hS.1)
                · rfl
                · intro vs; rfl
                simp only [Act.put, List.setIfInBounds_toArray, List.set_cons_zero, List.set_cons_succ, Nat.reduceAdd]
                iterate 5 (apply Rg.RK.gok (t := 170); (· intro vs w1 hS; go_simp; with_reducible rfl); (· rfl); (· intro vs; rfl); simp only [Act.put, List.setIfInBounds_toArray, List.set_cons_zero, List.set_cons_succ, Nat.reduceAdd])
                iterate 1 (apply Rg.RK.ok; (· intro vs w1 hS; go_simp; with_reducible rfl); (· rfl); simp only [Act.put, List.setIfInBounds_toArray, List.set_cons_zero, List.set_cons_succ, Nat.reduceAdd])
                apply Rg.RK.fin []
                intro vs w1 hK hS _
                refine hQN.out _ _ ?_
                clear hQN
                go_wp2_with fail
                go_roundw
                case rel => exact ⟨j + 1, by go_num, by omega, huq.trans (keeps_up hK)⟩
                case measure => simp [intOf]; omega
              · kernel_rfl
            · have hje : j = rn7 := by omega
              have q6 : ¬ ((j : Int) < (rn7 : Int)) := by omega
              have hr9 := ((hr3.up hu4).up hu5).up huq
              clear hK6 hR6 hK7 hR7 hP6
              go_wp2_with fail
              go_roundw
              case rel => exact ⟨2, some ⟨g5, 0, none⟩, 0, c5, T, by go_num, rfl, by omega, by omega, by omega, hr9, hu7.trans (hu05.trans huq)⟩
              case measure => simp [intOf]
        · go_wp2_with (go_at_call 9; with_reducible refine (awake3_any _).mono ?_; rintro e w4 ⟨rfl, hu4⟩)
          go_ret
          exact ⟨rfl, (hu6.trans hu7).trans hu4⟩
    · obtain ⟨I, hI, hIS⟩ : ∃ I : Nat, (C : Int) % (S : Int) = (I : Int) ∧ I < S := ⟨C % S, by rw [Int.natCast_emod], Nat.mod_lt C (by omega)⟩
      have hS1 : ¬ ((S : Int) = 0) := by omega
      have hSp : (0 : Int) < (S : Int) := by omega
      have hIS2 : (I : Int) < (S : Int) := by omega
      have hIT : I < T.length := by rw [← HS.out]; exact hIS
      obtain ⟨y, hy⟩ := xor_byte ((T.getD I 0).toNat : Int) by_
      have hc8 : w5.cell? ⟨g5, I, none⟩ = some (.int .u8 ((T.getD I 0).toNat : Int)) := hbeg.cell hIT
      have hf8 := hbeg.free hIT
      generalize T.getD I 0 = t0 at *
      have hbeg2 := hbeg.set hIT y
      have hlen2 : (T.set I y).length = S := by rw [List.length_set, ← HS.out]
      have hu6 : Up w (w5.setCell ⟨g5, I, none⟩ (bv y)) := keeps_fresh (wq := w5) hu15 hg5 (setc_keeps w5 w5 g5 I _ (Rg.Keeps.refl _ _))
      have hbv : bv y = .int .u8 (y.toNat : Int) := rfl
      rw [hbv] at hbeg2 hu6
      generalize T.set I y = T2 at *
      go_wp2_with fail
      generalize w5.setCell ⟨g5, I, none⟩ (.int .u8 (y.toNat : Int)) = w6 at *
      have hrd6 := (hbeg2.rd).bto (k := S - P) (by omega)
      have hT2 : (T2.take (S - P)).length = S - P := by rw [List.length_take]; omega
      have hSP : S - P ≤ c5 := by omega
      have hSP2 : S - P ≤ 3000 := by omega
      clear hc8 hf8 hbeg hbeg2 hu15 hu5 hu1
      generalize T2.take (S - P) = T3 at *
      generalize S - P = D3 at *
      have hSd : decide (0 < S) = true := by simp; omega
      simp only [hSd]
      clear hC hD hP hI hy hT2 hlen2 HS hconv hcap hIT hIS2 hSp hS1 hP0 hg7
      go_loopw [0, 17] (fun bv i wr => ∃ (x : Nat) (X : Option Addr) (xn xc : Nat) (xl : List UInt8), i = .int .i64 (x : Int) ∧ bv = .slice X xn xc ∧ x ≤ 2 ∧ xn ≤ 3000 ∧ xn ≤ xc ∧ Rd wr wr.heap.size 1 X xn (bvs xl) ∧ Up w6 wr) (fun _ i _ => 2 - (intOf i).toNat)
      case atStart => exact ⟨0, A, n, c, bs, rfl, rfl, by omega, by omega, hnc, hb.up hu6, Up.refl _⟩
      case round =>
        obtain ⟨x, X, xn, xc, xl, rfl, rfl, hx2, hxn, hxc, hrdx, hu7⟩ := hrel
        have hcases : x = 0 ∨ x = 1 ∨ x = 2 := by omega
        rcases hcases with rfl | rfl | rfl
        · have hrx := hrdx
          have hbl := hrx.blen
          have HBL := Lib.hid hbl
          clear hbl
          go_wp2_with fail
          refine (ftake_any (X) (xn) (xc) (xl) at_ wr hrx (by omega) (by omega)).mono ?_
          rintro e w2 ⟨A2, n2, c2, rfl, ho2, hu2⟩
          have hcv2 : (convert 22 9 (.slice (X) (xn) (xc))).run Try.prog w2 = .ok (.string (tx (xl))) w2 := run_str (xc) (hrx.up hu2)
          go_wp2_with fail
          refine (unframe_any (xl) at_ w2 (by rw [← HBL.out]; omega)).mono ?_
          rintro e w3 ⟨rfl, hu3⟩
          have hcv3 : (convert 22 9 (.slice A2 n2 c2)).run Try.prog w3 = .ok (.string (tx (takeF (xl) at_).2.2.1)) w3 := run_str c2 (ho2.rd.up hu3)
          clear ho2
          generalize (takeF (xl) at_).2.2.1 = tb at *
          generalize (takeF (xl) at_).2.2.2 = te at *
          generalize (takeF (xl) at_).2.1 = tk at *
          generalize (takeF (xl) at_).1 = tE at *
          have hs3 : ((tx tb).toList == (tx tb).toList) = true := tx_beq rfl
          have hr3 := (hrx.up hu2).up hu3
          go_wp2_with fail
          refine (split_any (X) (xn) (xc) (xl) w3 hr3 (by omega) (by omega)).mono ?_
          rintro e w4 ⟨K6, kn, kc, R6, rn6, rc6, ps6, rfl, hK6, hR6, hP6, hu4⟩
          have hcv4 : (convert 22 9 (.slice (X) (xn) (xc))).run Try.prog w4 = .ok (.string (tx (xl))) w4 := run_str (xc) (hr3.up hu4)
          clear hcv2 hcv3 hs3
          go_wp2_with fail
          refine (rsplit_any (xl) w4 (by rw [← HBL.out]; omega)).mono ?_
          rintro e w5 ⟨K7, kn7, kc7, R7, rn7, rc7, rfl, hK7, hR7, hu5⟩
          have hlen := splitL_len (xl)
          have hmost := splitL_most (xl)
          rw [← HBL.out] at hmost
          generalize (splitL (xl)).1 = KS at *
          generalize (splitL (xl)).2.1 = BS at *
          generalize (splitL (xl)).2.2.1 = SE at *
          generalize (splitL (xl)).2.2.2 = SF at *
          have k1 : kn = KS.length := by have := hK6.1; unfold nvi at this; rw [List.length_map] at this; omega
          have k2 : kn7 = KS.length := by have := hK7.1; unfold nvi at this; rw [List.length_map] at this; omega
          have k3 : rn6 = KS.length := by have h := hR6.1; have h2 := congrArg List.length hP6.1; rw [List.length_map] at h h2; omega
          have k4 : rn7 = KS.length := by have := hR7.1; unfold nstr at this; rw [List.length_map] at this; omega
          rw [← k1] at k2 k3 k4
          subst k2
          subst k3
          subst k4
          have hrn7 : rn7 ≤ 3001 := by omega
          have HK1 := Lib.hid k1
          have HLEN := Lib.hid hlen
          clear k1 hlen hcv4 hmost
          have hu05 := (((hu2.trans hu3).trans hu4).trans hu5)
          go_wp2_with fail
          go_loopw [34] (fun i wr => ∃ j : Nat, i = .int .i64 (j : Int) ∧ j ≤ rn7 ∧ Up w5 wr) (fun i _ => rn7 - (intOf i).toNat)
          case atStart => exact ⟨0, rfl, by omega, Up.refl _⟩
          case round =>
            obtain ⟨j, rfl, hj, huq⟩ := hrel
            by_cases hlj : j < rn7
            · obtain ⟨gK, rfl, hcK⟩ := own_cells hK6 (by omega)
              obtain ⟨gR, rfl, hcR⟩ := own_cells hR6 (by omega)
              obtain ⟨gL, rfl, hcL⟩ := own_cells hK7 (by omega)
              obtain ⟨gS, rfl, hcS⟩ := own_cells hR7 (by omega)
              have hjk : j < KS.length := by rw [← HK1.out]; exact hlj
              have hjb : j < BS.length := by rw [← HLEN.out]; exact hjk
              have hj6 : j < ps6.length := by have h2 := congrArg List.length hP6.1; rw [List.length_map] at h2; omega
              have e1 := hcK j (.int .i64 (KS[j] : Int)) (by unfold nvi; simp [hjk])
              have e3 := hcL j (.int .i64 (KS[j] : Int)) (by unfold nvi; simp [hjk])
              have e2 := hcR j ps6[j].v (by rw [List.getElem?_map, List.getElem?_eq_getElem hj6]; rfl)
              have e4 := hcS j (.string (tx BS[j])) (by unfold nstr; simp [hjb])
              have ho := hP6.2 ps6[j] (List.getElem_mem _)
              have hl : ps6[j].l = BS[j] := by
                have h := congrArg (fun l => l[j]?) hP6.1
                simp only [List.getElem?_map, List.getElem?_eq_getElem hj6, List.getElem?_eq_getElem hjb, Option.map_some] at h
                injection h
              rw [hl] at ho
              generalize ps6[j] = p5 at *
              generalize KS[j] = kj at *
              generalize BS[j] = bj at *
              obtain ⟨A5, n5, c55, l5⟩ := p5
              have hrd5 := ho.rd
              simp only [] at hrd5 e2
              have hS2 : ∀ W, Up wr W → Up wr W ∧ W.cell? ⟨gK, j, none⟩ = some (.int .i64 (kj : Int)) ∧ W.cell? ⟨gR, j, none⟩ = some (.slice A5 n5 c55) ∧ W.cell? ⟨gL, j, none⟩ = some (.int .i64 (kj : Int)) ∧ W.cell? ⟨gS, j, none⟩ = some (.string (tx bj)) := fun W h =>
                ⟨h, e1 W (hu5.trans (huq.trans h)), e2 W (hu5.trans (huq.trans h)), e3 W (huq.trans h), e4 W (huq.trans h)⟩
              have hrA : ∀ W, Up wr W → Rd W W.heap.size 1 A5 n5 (bvs bj) := fun W h => hrd5.up (hu5.trans (huq.trans h))
              have q4 : (j : Int) < (rn7 : Int) := by omega
              have q5 : decide ((j : Int) < (rn7 : Int)) = true := by simp; omega
              have hs7 : ((tx bj).toList == (tx bj).toList) = true := tx_beq rfl
              clear e1 e2 e3 e4 ho hl hcK hcR hcL hcS hrd5 hK6 hR6 hK7 hR7 hP6
              go_wp2_with fail
              apply Rg.region_up _ (by kernel_rfl) (by kernel_rfl) hS2
              · intro QN hQN
                iterate 10 (apply Rg.RK.ok; (· intro vs w1 hS; go_simp; with_reducible rfl); (· rfl); simp only [Act.put, List.setIfInBounds_toArray, List.set_cons_zero, List.set_cons_succ, Nat.reduceAdd])
                iterate 4 (apply Rg.RK.gok (t := 170); (· intro vs w1 hS; go_simp; with_reducible rfl); (· rfl); (· intro vs; rfl); simp only [Act.put, List.setIfInBounds_toArray, List.set_cons_zero, List.set_cons_succ, Nat.reduceAdd])
                apply Rg.RK.gok (t := 170) (v := .string (tx (bj)))
                · intro vs w1 hS
                  exact exec_str rfl rfl (hrA _ hS.1)
                · rfl
                · intro vs; rfl
                simp only [Act.put, List.setIfInBounds_toArray, List.set_cons_zero, List.set_cons_succ, Nat.reduceAdd]
                iterate 5 (apply Rg.RK.gok (t := 170); (· intro vs w1 hS; go_simp; with_reducible rfl); (· rfl); (· intro vs; rfl); simp only [Act.put, List.setIfInBounds_toArray, List.set_cons_zero, List.set_cons_succ, Nat.reduceAdd])
                iterate 1 (apply Rg.RK.ok; (· intro vs w1 hS; go_simp; with_reducible rfl); (· rfl); simp only [Act.put, List.setIfInBounds_toArray, List.set_cons_zero, List.set_cons_succ, Nat.reduceAdd])
                apply Rg.RK.fin []
                intro vs w1 hK hS _
                refine hQN.out _ _ ?_
                clear hQN
                go_wp2_with fail
                go_roundw
                case rel => exact ⟨j + 1, by go_num, by omega, huq.trans (keeps_up hK)⟩
                case measure => simp [intOf]; omega
              · kernel_rfl
            · have hje : j = rn7 := by omega
              have q6 : ¬ ((j : Int) < (rn7 : Int)) := by omega
              have hr9 := ((hr3.up hu4).up hu5).up huq
              clear hK6 hR6 hK7 hR7 hP6
              go_wp2_with fail
              go_roundw
              case rel => exact ⟨1, X, xn, xc, xl, by go_num, rfl, by omega, by omega, by omega, hr9, hu7.trans (hu05.trans huq)⟩
              case measure => simp [intOf]
        · have hrx := hrd6.up hu7
          have hbl := hrx.blen
          have HBL := Lib.hid hbl
          clear hbl
          go_wp2_with fail
          refine (ftake_any (some ⟨g5, 0, none⟩) (D3) (c5) (T3) at_ wr hrx (by omega) (by omega)).mono ?_
          rintro e w2 ⟨A2, n2, c2, rfl, ho2, hu2⟩
          have hcv2 : (convert 22 9 (.slice (some ⟨g5, 0, none⟩) (D3) (c5))).run Try.prog w2 = .ok (.string (tx (T3))) w2 := run_str (c5) (hrx.up hu2)
          go_wp2_with fail
          refine (unframe_any (T3) at_ w2 (by rw [← HBL.out]; omega)).mono ?_
          rintro e w3 ⟨rfl, hu3⟩
          have hcv3 : (convert 22 9 (.slice A2 n2 c2)).run Try.prog w3 = .ok (.string (tx (takeF (T3) at_).2.2.1)) w3 := run_str c2 (ho2.rd.up hu3)
          clear ho2
          generalize (takeF (T3) at_).2.2.1 = tb at *
          generalize (takeF (T3) at_).2.2.2 = te at *
          generalize (takeF (T3) at_).2.1 = tk at *
          generalize (takeF (T3) at_).1 = tE at *
          have hs3 : ((tx tb).toList == (tx tb).toList) = true := tx_beq rfl
          have hr3 := (hrx.up hu2).up hu3
          go_wp2_with fail
          refine (split_any (some ⟨g5, 0, none⟩) (D3) (c5) (T3) w3 hr3 (by omega) (by omega)).mono ?_
          rintro e w4 ⟨K6, kn, kc, R6, rn6, rc6, ps6, rfl, hK6, hR6, hP6, hu4⟩
          have hcv4 : (convert 22 9 (.slice (some ⟨g5, 0, none⟩) (D3) (c5))).run Try.prog w4 = .ok (.string (tx (T3))) w4 := run_str (c5) (hr3.up hu4)
          clear hcv2 hcv3 hs3
          go_wp2_with fail
          refine (rsplit_any (T3) w4 (by rw [← HBL.out]; omega)).mono ?_
          rintro e w5 ⟨K7, kn7, kc7, R7, rn7, rc7, rfl, hK7, hR7, hu5⟩
          have hlen := splitL_len (T3)
          have hmost := splitL_most (T3)
          rw [← HBL.out] at hmost
          generalize (splitL (T3)).1 = KS at *
          generalize (splitL (T3)).2.1 = BS at *
          generalize (splitL (T3)).2.2.1 = SE at *
          generalize (splitL (T3)).2.2.2 = SF at *
          have k1 : kn = KS.length := by have := hK6.1; unfold nvi at this; rw [List.length_map] at this; omega
          have k2 : kn7 = KS.length := by have := hK7.1; unfold nvi at this; rw [List.length_map] at this; omega
          have k3 : rn6 = KS.length := by have h := hR6.1; have h2 := congrArg List.length hP6.1; rw [List.length_map] at h h2; omega
          have k4 : rn7 = KS.length := by have := hR7.1; unfold nstr at this; rw [List.length_map] at this; omega
          rw [← k1] at k2 k3 k4
          subst k2
          subst k3
          subst k4
          have hrn7 : rn7 ≤ 3001 := by omega
          have HK1 := Lib.hid k1
          have HLEN := Lib.hid hlen
          clear k1 hlen hcv4 hmost
          have hu05 := (((hu2.trans hu3).trans hu4).trans hu5)
          go_wp2_with fail
          go_loopw [34] (fun i wr => ∃ j : Nat, i = .int .i64 (j : Int) ∧ j ≤ rn7 ∧ Up w5 wr) (fun i _ => rn7 - (intOf i).toNat)
          case atStart => exact ⟨0, rfl, by omega, Up.refl _⟩
          case round =>
            obtain ⟨j, rfl, hj, huq⟩ := hrel
            by_cases hlj : j < rn7
            · obtain ⟨gK, rfl, hcK⟩ := own_cells hK6 (by omega)
              obtain ⟨gR, rfl, hcR⟩ := own_cells hR6 (by omega)
              obtain ⟨gL, rfl, hcL⟩ := own_cells hK7 (by omega)
              obtain ⟨gS, rfl, hcS⟩ := own_cells hR7 (by omega)
              have hjk : j < KS.length := by rw [← HK1.out]; exact hlj
              have hjb : j < BS.length := by rw [← HLEN.out]; exact hjk
              have hj6 : j < ps6.length := by have h2 := congrArg List.length hP6.1; rw [List.length_map] at h2; omega
              have e1 := hcK j (.int .i64 (KS[j] : Int)) (by unfold nvi; simp [hjk])
              have e3 := hcL j (.int .i64 (KS[j] : Int)) (by unfold nvi; simp [hjk])
              have e2 := hcR j ps6[j].v (by rw [List.getElem?_map, List.getElem?_eq_getElem hj6]; rfl)
              have e4 := hcS j (.string (tx BS[j])) (by unfold nstr; simp [hjb])
              have ho := hP6.2 ps6[j] (List.getElem_mem _)
              have hl : ps6[j].l = BS[j] := by
                have h := congrArg (fun l => l[j]?) hP6.1
                simp only [List.getElem?_map, List.getElem?_eq_getElem hj6, List.getElem?_eq_getElem hjb, Option.map_some] at h
                injection h
              rw [hl] at ho
              generalize ps6[j] = p5 at *
              generalize KS[j] = kj at *
              generalize BS[j] = bj at *
              obtain ⟨A5, n5, c55, l5⟩ := p5
              have hrd5 := ho.rd
              simp only [] at hrd5 e2
              have hS2 : ∀ W, Up wr W → Up wr W ∧ W.cell? ⟨gK, j, none⟩ = some (.int .i64 (kj : Int)) ∧ W.cell? ⟨gR, j, none⟩ = some (.slice A5 n5 c55) ∧ W.cell? ⟨gL, j, none⟩ = some (.int .i64 (kj : Int)) ∧ W.cell? ⟨gS, j, none⟩ = some (.string (tx bj)) := fun W h =>
                ⟨h, e1 W (hu5.trans (huq.trans h)), e2 W (hu5.trans (huq.trans h)), e3 W (huq.trans h), e4 W (huq.trans h)⟩
              have hrA : ∀ W, Up wr W → Rd W W.heap.size 1 A5 n5 (bvs bj) := fun W h => hrd5.up (hu5.trans (huq.trans h))
              have q4 : (j : Int) < (rn7 : Int) := by omega
              have q5 : decide ((j : Int) < (rn7 : Int)) = true := by simp; omega
              have hs7 : ((tx bj).toList == (tx bj).toList) = true := tx_beq rfl
              clear e1 e2 e3 e4 ho hl hcK hcR hcL hcS hrd5 hK6 hR6 hK7 hR7 hP6
              go_wp2_with fail
              apply Rg.region_up _ (by kernel_rfl) (by kernel_rfl) hS2
              · intro QN hQN
                iterate 10 (apply Rg.RK.ok; (· intro vs w1 hS; go_simp; with_reducible rfl); (· rfl); simp only [Act.put, List.setIfInBounds_toArray, List.set_cons_zero, List.set_cons_succ, Nat.reduceAdd])
                iterate 4 (apply Rg.RK.gok (t := 170); (· intro vs w1 hS; go_simp; with_reducible rfl); (· rfl); (· intro vs; rfl); simp only [Act.put, List.setIfInBounds_toArray, List.set_cons_zero, List.set_cons_succ, Nat.reduceAdd])
                apply Rg.RK.gok (t := 170) (v := .string (tx (bj)))
                · intro vs w1 hS
                  exact exec_str rfl rfl (hrA _ hS.1)
                · rfl
                · intro vs; rfl
                simp only [Act.put, List.setIfInBounds_toArray, List.set_cons_zero, List.set_cons_succ, Nat.reduceAdd]
                iterate 5 (apply Rg.RK.gok (t := 170); (· intro vs w1 hS; go_simp; with_reducible rfl); (· rfl); (· intro vs; rfl); simp only [Act.put, List.setIfInBounds_toArray, List.set_cons_zero, List.set_cons_succ, Nat.reduceAdd])
                iterate 1 (apply Rg.RK.ok; (· intro vs w1 hS; go_simp; with_reducible rfl); (· rfl); simp only [Act.put, List.setIfInBounds_toArray, List.set_cons_zero, List.set_cons_succ, Nat.reduceAdd])
                apply Rg.RK.fin []
                intro vs w1 hK hS _
                refine hQN.out _ _ ?_
                clear hQN
                go_wp2_with fail
                go_roundw
                case rel => exact ⟨j + 1, by go_num, by omega, huq.trans (keeps_up hK)⟩
                case measure => simp [intOf]; omega
              · kernel_rfl
            · have hje : j = rn7 := by omega
              have q6 : ¬ ((j : Int) < (rn7 : Int)) := by omega
              have hr9 := ((hr3.up hu4).up hu5).up huq
              clear hK6 hR6 hK7 hR7 hP6
              go_wp2_with fail
              go_roundw
              case rel => exact ⟨2, some ⟨g5, 0, none⟩, D3, c5, T3, by go_num, rfl, by omega, by omega, by omega, hr9, hu7.trans (hu05.trans huq)⟩
              case measure => simp [intOf]
        · go_wp2_with (go_at_call 9; with_reducible refine (awake3_any _).mono ?_; rintro e w4 ⟨rfl, hu4⟩)
          go_ret
          exact ⟨rfl, (hu6.trans hu7).trans hu4⟩
end Go.Proofs.Ytkapaklikgckgaa.frameTakes
