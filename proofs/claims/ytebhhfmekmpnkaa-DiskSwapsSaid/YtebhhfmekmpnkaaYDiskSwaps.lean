/-
  'clepsydra/clepsydralaw4.DiskSwaps': for every input the law returns true; each argument reads behind the call as it read before. No condition.
-/
import Derived.Laws.BitsAllLaws
import Derived.IntWalk
import Derived.Deep.Cut
import Derived.Deep.CutRange
import Derived.Test.YtebhhfmekmpnkaaZ3
/-
  The law DiskSwaps: the walk.
-/
namespace Go.Proofs.Ytebhhfmekmpnkaa.diskSwaps
open Go.RowKit Go.Maps
set_option linter.unusedVariables false
set_option linter.unusedSimpArgs false

theorem zvs_izs (l : List Int64) : zvs l = izs (l.map Int64.toInt) := by simp [zvs, izs]
theorem i64_rg (x : Int64) : -9223372036854775808 ≤ x.toInt ∧ x.toInt ≤ 9223372036854775807 := by
  have h1 := Int64.le_toInt x
  have h2 := Int64.toInt_lt x
  omega
set_option maxRecDepth 100000 in
set_option maxHeartbeats 4000000 in
theorem law_any (a0 b0 : Int) (A2 : Option Addr) (m2 c2 : Nat) (l2 : List Int64) (sy : Bool) (w : World) (xa : -9223372036854775808 ≤ a0 ∧ a0 ≤ 9223372036854775807) (xb : -9223372036854775808 ≤ b0 ∧ b0 ≤ 9223372036854775807) (hr2 : IsZ w A2 m2 c2 l2) :
    Calls Try.prog 8 #[.int .i64 a0, .int .i64 b0, .slice A2 m2 c2, .bool sy] w fun e w' => e = .returned (.bool true) ∧ Up w w' := by
  have hm2 : m2 ≤ 9223372036854775807 := by have := hr2.2; omega
  have hkr := hr2.1
  rw [zvs_izs] at hkr
  have hkrg : ∀ x ∈ l2.map Int64.toInt, -9223372036854775808 ≤ x ∧ x ≤ 9223372036854775807 := fun x hx => by
    obtain ⟨y, _, rfl⟩ := List.mem_map.1 hx
    exact i64_rg y
  have hkc := hr2.2.1
  have hkl : ∀ a, A2 = some a → 0 < m2 → a.block < w.heap.size := fun a ha hm => by
    obtain ⟨b, o, e, hb, _⟩ := hkr.2 hm
    rw [ha] at e
    injection e with e
    rw [e]; exact hb
  have HKR := Lib.hid hkrg
  clear hkrg
  obtain ⟨C1, hC1, hC1b⟩ := i64_and_le a0 255 (by omega)
  replace hC1 : bits .and .i64 a0 255 = (C1 : Int) := hC1
  obtain ⟨C2, hC2, hC2b⟩ := i64_and_le b0 255 (by omega)
  replace hC2 : bits .and .i64 b0 255 = (C2 : Int) := hC2
  obtain ⟨p1, hp1⟩ : ∃ p1, p1 = bytesL 1 C1 := ⟨_, rfl⟩
  obtain ⟨p2, hp2⟩ : ∃ p2, p2 = bytesL 2 C2 := ⟨_, rfl⟩
  have P1 := Lib.hid hp1
  have P2 := Lib.hid hp2
  have l1 : p1.length ≤ 255 := by rw [hp1, bytesL_len]; exact hC1b
  have l2' : p2.length ≤ 255 := by rw [hp2, bytesL_len]; exact hC2b
  clear hp1 hp2
  have BC1 := Lib.hid hC1
  have BC2 := Lib.hid hC2
  go_enter Try.func8, Try.ntmps8
  go_wp2_with fail
  refine (dnew_any 1048576 w).mono ?_
  rintro e w0 ⟨h0, rfl, H0, hu0, hf0⟩
  generalize hG : h0.g = G at *
  have HG0 : Hid (h0.g = G) := Lib.hid hG
  clear hG hf0 hC1 hC2
  have hcx := create_any H0 (newD_ok (by omega)) (by simp [newD]) (by simp [newD]) (by simp [newD]) [109] (by decide)
  rw [HG0.out, e1] at hcx
  (try dsimp only at hcx)
  rw [show ((0 : Nat) : Int) = 0 from rfl] at hcx
  have HCX := Lib.hid hcx
  clear hcx
  go_wp2_with fail
  refine HCX.out.mono ?_
  rintro e w1 ⟨h1, rfl, H1, Dx⟩
  have hu1 := Dx.below H0 (Nat.le_refl _) hu0
  have HG1 : Hid (h1.g = G) := Dx.g.trans HG0.out
  clear HCX Dx H0 hu0 HG0
  have hC1 := BC1.out
  go_wp2_with fail
  refine (bytes_any 1 C1 _ (by omega) (by omega)).mono ?_
  rintro e wy ⟨rfl, huy⟩
  rw [← P1.out]
  have Hy := H1.up huy
  have hupy := hu1.trans huy
  obtain ⟨cb, wz, hconv, hcap, hrdz, huz, -, hltz⟩ := conv_b wy p1
  have Hz := Hy.up huz
  have hupz := hupy.trans huz
  have hcx := dappend_any Hz s1_ok (by decide) [109] (by decide) (some ⟨wy.heap.size, 0, none⟩) (p1).length cb p1 hrdz (by omega) (fun y hy hfy => by
    obtain ⟨a, ha, e⟩ := hy
    injection ha with ha
    subst ha
    have h9 := (Hy.lt hfy).2
    have e' : wy.heap.size = y := e
    omega)
  rw [HG1.out, e2 l1] at hcx
  (try dsimp only at hcx)
  rw [show ((0 : Nat) : Int) = 0 from rfl] at hcx
  have HCX := Lib.hid hcx
  clear hcx hrdz hltz Hy hupy hC1
  go_wp2_with fail
  clear hconv
  refine HCX.out.mono ?_
  rintro e w2 ⟨h2, rfl, H2, Dx⟩
  have hu2 := Dx.below Hz (Nat.le_refl _) hupz
  have HG2 : Hid (h2.g = G) := Dx.g.trans HG1.out
  clear HCX Dx H1 hu1 HG1 Hz hupz huz huy
  have hcx := sync_any H2 (s2_ok l1) (by show (2 : Nat) ≤ _; decide) [109] (by decide)
  rw [HG2.out, e3] at hcx
  (try dsimp only at hcx)
  rw [show ((0 : Nat) : Int) = 0 from rfl] at hcx
  have HCX := Lib.hid hcx
  clear hcx
  go_wp2_with fail
  refine HCX.out.mono ?_
  rintro e w3 ⟨h3, rfl, H3, Dx⟩
  have hu3 := Dx.below H2 (Nat.le_refl _) hu2
  have HG3 : Hid (h3.g = G) := Dx.g.trans HG2.out
  clear HCX Dx H2 hu2 HG2
  have hcx := create_any H3 (s3_ok l1) (by show (3 : Nat) ≤ _; decide) (by show (1 : Nat) < _; decide) (by show (1 : Nat) < _; decide) [116] (by decide)
  rw [HG3.out, e4] at hcx
  (try dsimp only at hcx)
  rw [show ((0 : Nat) : Int) = 0 from rfl] at hcx
  have HCX := Lib.hid hcx
  clear hcx
  go_wp2_with fail
  refine HCX.out.mono ?_
  rintro e w4 ⟨h4, rfl, H4, Dx⟩
  have hu4 := Dx.below H3 (Nat.le_refl _) hu3
  have HG4 : Hid (h4.g = G) := Dx.g.trans HG3.out
  clear HCX Dx H3 hu3 HG3
  have hC2 := BC2.out
  go_wp2_with fail
  refine (bytes_any 2 C2 _ (by omega) (by omega)).mono ?_
  rintro e wy ⟨rfl, huy⟩
  rw [← P2.out]
  have Hy := H4.up huy
  have hupy := hu4.trans huy
  obtain ⟨cb, wz, hconv, hcap, hrdz, huz, -, hltz⟩ := conv_b wy p2
  have Hz := Hy.up huz
  have hupz := hupy.trans huz
  have hcx := dappend_any Hz (s4_ok l1) (by show (4 : Nat) ≤ _; decide) [116] (by decide) (some ⟨wy.heap.size, 0, none⟩) (p2).length cb p2 hrdz (by omega) (fun y hy hfy => by
    obtain ⟨a, ha, e⟩ := hy
    injection ha with ha
    subst ha
    have h9 := (Hy.lt hfy).2
    have e' : wy.heap.size = y := e
    omega)
  rw [HG4.out, e5 l1 l2'] at hcx
  (try dsimp only at hcx)
  rw [show ((0 : Nat) : Int) = 0 from rfl] at hcx
  have HCX := Lib.hid hcx
  clear hcx hrdz hltz Hy hupy hC2
  go_wp2_with fail
  clear hconv
  refine HCX.out.mono ?_
  rintro e w5 ⟨h5, rfl, H5, Dx⟩
  have hu5 := Dx.below Hz (Nat.le_refl _) hupz
  have HG5 : Hid (h5.g = G) := Dx.g.trans HG4.out
  clear HCX Dx H4 hu4 HG4 Hz hupz huz huy
  have hcx := sync_any H5 (s5_ok l1 l2') (by show (5 : Nat) ≤ _; decide) [116] (by decide)
  rw [HG5.out, e6] at hcx
  (try dsimp only at hcx)
  rw [show ((0 : Nat) : Int) = 0 from rfl] at hcx
  have HCX := Lib.hid hcx
  clear hcx
  go_wp2_with fail
  refine HCX.out.mono ?_
  rintro e w6 ⟨h6, rfl, H6, Dx⟩
  have hu6 := Dx.below H5 (Nat.le_refl _) hu5
  have HG6 : Hid (h6.g = G) := Dx.g.trans HG5.out
  clear HCX Dx H5 hu5 HG5
  have hcx := syncDir_any H6 (s6_ok l1 l2') (by show (6 : Nat) ≤ _; decide)
  rw [HG6.out, e7] at hcx
  (try dsimp only at hcx)
  rw [show ((0 : Nat) : Int) = 0 from rfl] at hcx
  have HCX := Lib.hid hcx
  clear hcx
  go_wp2_with fail
  refine HCX.out.mono ?_
  rintro e w7 ⟨h7, rfl, H7, Dx⟩
  have hu7 := Dx.below H6 (Nat.le_refl _) hu6
  have HG7 : Hid (h7.g = G) := Dx.g.trans HG6.out
  clear HCX Dx H6 hu6 HG6
  have hcx := rename_any H7 (s7_ok l1 l2') (by show (7 : Nat) ≤ _; decide) (by show (0 : Nat) < _; decide) [116] [109] (by decide) (by decide)
  rw [HG7.out, e8] at hcx
  (try dsimp only at hcx)
  rw [show ((0 : Nat) : Int) = 0 from rfl] at hcx
  have HCX := Lib.hid hcx
  clear hcx
  go_wp2_with fail
  refine HCX.out.mono ?_
  rintro e w8 ⟨h8, rfl, H8, Dx⟩
  have hu8 := Dx.below H7 (Nat.le_refl _) hu7
  have HG8 : Hid (h8.g = G) := Dx.g.trans HG7.out
  clear HCX Dx H7 hu7 HG7
  have HB1 : Hid (∀ W, Calls Try.prog 17 #[.int .i64 1, .int .i64 (C1 : Int)] W fun e w' => e = .returned (.string (tx p1)) ∧ Up W w') := fun W => by rw [P1.out]; exact bytes_any 1 C1 W (by omega) (by omega)
  have HB2 : Hid (∀ W, Calls Try.prog 17 #[.int .i64 2, .int .i64 (C2 : Int)] W fun e w' => e = .returned (.string (tx p2)) ∧ Up W w') := fun W => by rw [P2.out]; exact bytes_any 2 C2 W (by omega) (by omega)
  cases sy with
  | true =>
    have hcx := syncDir_any H8 (s8_ok l1 l2') (by show (8 : Nat) ≤ _; decide)
    rw [HG8.out, e9] at hcx
    (try dsimp only at hcx)
    rw [show ((0 : Nat) : Int) = 0 from rfl] at hcx
    have HCX := Lib.hid hcx
    clear hcx
    go_wp2_with fail
    refine HCX.out.mono ?_
    rintro e w9 ⟨h9, rfl, H9, Dx⟩
    have hu9 := Dx.below H8 (Nat.le_refl _) hu8
    have HG9 : Hid (h9.g = G) := Dx.g.trans HG8.out
    clear HCX Dx H8 hu8 HG8
    have hcx := crash_any H9 (s9_ok l1 l2') A2 m2 c2 (l2.map Int64.toInt) (hkr.up hu9) hkc hm2 HKR.out (fun h0 a ha hf => by
      have h1 := hkl a ha h0
      have h2 := (H9.lt hf).1
      omega) (fun h0 a ha => Nat.lt_of_lt_of_le (hkl a ha h0) hu9.size) (fun t ht => by cases ht)
    rw [HG9.out, e10 _] at hcx
    have HCX := Lib.hid hcx
    clear hcx
    go_wp2_with fail
    refine HCX.out.mono ?_
    rintro e wa ⟨ha, rfl, Ha, Dx⟩
    have hua := Dx.below H9 (Nat.le_refl _) hu9
    have HGa : Hid (ha.g = G) := Dx.g.trans HG9.out
    clear HCX Dx H9 hu9 HG9
    have hcx := dread_any Ha (sX_ok l1 l2' _ _) [109] (by decide)
    rw [HGa.out, e12] at hcx
    (try dsimp only at hcx)
    rw [show ((0 : Nat) : Int) = 0 from rfl] at hcx
    have HCX := Lib.hid hcx
    clear hcx
    go_wp2_with fail
    refine HCX.out.mono ?_
    rintro e wb ⟨R, rn, rc, rfl, hown, hub⟩
    have hupb := hua.trans hub
    obtain ⟨x, hx⟩ : ∃ x, x = (if True then p2 else p1) := ⟨_, rfl⟩
    rw [← hx] at hown
    have HX := Lib.hid hx
    clear hx HCX Ha hua
    obtain ⟨o1, ho1⟩ : ∃ o1, ((tx x).toList == (tx p1).toList) = o1 := ⟨_, rfl⟩
    obtain ⟨o2, ho2⟩ : ∃ o2, ((tx x).toList == (tx p2).toList) = o2 := ⟨_, rfl⟩
    have hor : (o2 = true ∧ o1 = true) ∨ (o2 = true ∧ o1 = false) := by
      have h2 : o2 = true := by rw [← ho2, HX.out, if_pos trivial]; exact tx_beq rfl
      cases o1
      · exact .inr ⟨h2, rfl⟩
      · exact .inl ⟨h2, rfl⟩
    clear HX
    rcases hor with ⟨rfl, rfl⟩ | ⟨rfl, rfl⟩
    · have hC1 := BC1.out
      have hC2 := BC2.out
      have hS : ∀ W, Up wb W → Up wb W := fun W h => h
      go_upto_region 8 with fail
      apply Rg.region_up _ (by kernel_rfl) (by kernel_rfl) hS
      · intro QN hQN
        iterate 1 (apply Rg.RK.ok; (· intro vs w1 hS; go_simp; with_reducible rfl); (· rfl); simp only [Act.put, List.setIfInBounds_toArray, List.set_cons_zero, List.set_cons_succ, Nat.reduceAdd])
        apply Rg.RK.ok (v := .string (tx (x)))
        · intro vs w1 hS
          exact exec_str rfl rfl ((OwnB.rd hown).up hS)
        · rfl
        simp only [Act.put, List.setIfInBounds_toArray, List.set_cons_zero, List.set_cons_succ, Nat.reduceAdd]
        iterate 2 (apply Rg.RK.ok; (· intro vs w1 hS; go_simp; with_reducible rfl); (· rfl); simp only [Act.put, List.setIfInBounds_toArray, List.set_cons_zero, List.set_cons_succ, Nat.reduceAdd])
        apply Rg.RK.call (.string (tx p1)) []
        · rfl
        · intro vs w1 hK hS _ K hKK
          go_simp
          refine (HB1.out _).mono ?_
          rintro e w2 ⟨rfl, hu2⟩
          exact hKK.out _ hu2
        simp only [Act.put, List.setIfInBounds_toArray, List.set_cons_zero, List.set_cons_succ, Nat.reduceAdd]
        iterate 2 (apply Rg.RK.ok; (· intro vs w1 hS; go_simp; with_reducible rfl); (· rfl); simp only [Act.put, List.setIfInBounds_toArray, List.set_cons_zero, List.set_cons_succ, Nat.reduceAdd])
        apply Rg.RK.ok (v := .string (tx (x)))
        · intro vs w1 hS
          exact exec_str rfl rfl ((OwnB.rd hown).up hS)
        · rfl
        simp only [Act.put, List.setIfInBounds_toArray, List.set_cons_zero, List.set_cons_succ, Nat.reduceAdd]
        iterate 2 (apply Rg.RK.ok; (· intro vs w1 hS; go_simp; with_reducible rfl); (· rfl); simp only [Act.put, List.setIfInBounds_toArray, List.set_cons_zero, List.set_cons_succ, Nat.reduceAdd])
        apply Rg.RK.call (.string (tx p2)) []
        · rfl
        · intro vs w1 hK hS _ K hKK
          go_simp
          refine (HB2.out _).mono ?_
          rintro e w2 ⟨rfl, hu2⟩
          exact hKK.out _ hu2
        simp only [Act.put, List.setIfInBounds_toArray, List.set_cons_zero, List.set_cons_succ, Nat.reduceAdd]
        iterate 3 (apply Rg.RK.ok; (· intro vs w1 hS; go_simp; with_reducible rfl); (· rfl); simp only [Act.put, List.setIfInBounds_toArray, List.set_cons_zero, List.set_cons_succ, Nat.reduceAdd])
        apply Rg.RK.fin []
        intro vs w1 hK hS _
        refine hQN.out _ _ ?_
        clear hQN
        clear hC1 hC2 ho1 ho2
        go_wp2_with fail
        refine (awake4_any _).mono ?_
        rintro e wc ⟨rfl, huc⟩
        go_wp2_with fail
        go_ret
        exact ⟨rfl, (hupb.trans hS).trans huc⟩
      · kernel_rfl
    · have hC1 := BC1.out
      have hC2 := BC2.out
      have hS : ∀ W, Up wb W → Up wb W := fun W h => h
      go_upto_region 8 with fail
      apply Rg.region_up _ (by kernel_rfl) (by kernel_rfl) hS
      · intro QN hQN
        iterate 1 (apply Rg.RK.ok; (· intro vs w1 hS; go_simp; with_reducible rfl); (· rfl); simp only [Act.put, List.setIfInBounds_toArray, List.set_cons_zero, List.set_cons_succ, Nat.reduceAdd])
        apply Rg.RK.ok (v := .string (tx (x)))
        · intro vs w1 hS
          exact exec_str rfl rfl ((OwnB.rd hown).up hS)
        · rfl
        simp only [Act.put, List.setIfInBounds_toArray, List.set_cons_zero, List.set_cons_succ, Nat.reduceAdd]
        iterate 2 (apply Rg.RK.ok; (· intro vs w1 hS; go_simp; with_reducible rfl); (· rfl); simp only [Act.put, List.setIfInBounds_toArray, List.set_cons_zero, List.set_cons_succ, Nat.reduceAdd])
        apply Rg.RK.call (.string (tx p1)) []
        · rfl
        · intro vs w1 hK hS _ K hKK
          go_simp
          refine (HB1.out _).mono ?_
          rintro e w2 ⟨rfl, hu2⟩
          exact hKK.out _ hu2
        simp only [Act.put, List.setIfInBounds_toArray, List.set_cons_zero, List.set_cons_succ, Nat.reduceAdd]
        iterate 2 (apply Rg.RK.ok; (· intro vs w1 hS; go_simp; with_reducible rfl); (· rfl); simp only [Act.put, List.setIfInBounds_toArray, List.set_cons_zero, List.set_cons_succ, Nat.reduceAdd])
        apply Rg.RK.ok (v := .string (tx (x)))
        · intro vs w1 hS
          exact exec_str rfl rfl ((OwnB.rd hown).up hS)
        · rfl
        simp only [Act.put, List.setIfInBounds_toArray, List.set_cons_zero, List.set_cons_succ, Nat.reduceAdd]
        iterate 2 (apply Rg.RK.ok; (· intro vs w1 hS; go_simp; with_reducible rfl); (· rfl); simp only [Act.put, List.setIfInBounds_toArray, List.set_cons_zero, List.set_cons_succ, Nat.reduceAdd])
        apply Rg.RK.call (.string (tx p2)) []
        · rfl
        · intro vs w1 hK hS _ K hKK
          go_simp
          refine (HB2.out _).mono ?_
          rintro e w2 ⟨rfl, hu2⟩
          exact hKK.out _ hu2
        simp only [Act.put, List.setIfInBounds_toArray, List.set_cons_zero, List.set_cons_succ, Nat.reduceAdd]
        iterate 3 (apply Rg.RK.ok; (· intro vs w1 hS; go_simp; with_reducible rfl); (· rfl); simp only [Act.put, List.setIfInBounds_toArray, List.set_cons_zero, List.set_cons_succ, Nat.reduceAdd])
        apply Rg.RK.fin []
        intro vs w1 hK hS _
        refine hQN.out _ _ ?_
        clear hQN
        clear hC1 hC2 ho1 ho2
        go_wp2_with fail
        refine (awake4_any _).mono ?_
        rintro e wc ⟨rfl, huc⟩
        go_wp2_with fail
        go_ret
        exact ⟨rfl, (hupb.trans hS).trans huc⟩
      · kernel_rfl
  | false =>
    have H9 := H8
    have hu9 := hu8
    have HG9 := HG8
    clear H8 hu8 HG8
    have hcx := crash_any H9 (s8_ok l1 l2') A2 m2 c2 (l2.map Int64.toInt) (hkr.up hu9) hkc hm2 HKR.out (fun h0 a ha hf => by
      have h1 := hkl a ha h0
      have h2 := (H9.lt hf).1
      omega) (fun h0 a ha => Nat.lt_of_lt_of_le (hkl a ha h0) hu9.size) (fun t ht => by simp only [s8, sw, List.mem_singleton] at ht; subst ht; decide)
    rw [HG9.out, e11 _] at hcx
    have HCX := Lib.hid hcx
    clear hcx
    go_wp2_with fail
    refine HCX.out.mono ?_
    rintro e wa ⟨ha, rfl, Ha, Dx⟩
    have hua := Dx.below H9 (Nat.le_refl _) hu9
    have HGa : Hid (ha.g = G) := Dx.g.trans HG9.out
    clear HCX Dx H9 hu9 HG9
    have hcx := dread_any Ha (sX_ok l1 l2' _ _) [109] (by decide)
    rw [HGa.out, e12] at hcx
    (try dsimp only at hcx)
    rw [show ((0 : Nat) : Int) = 0 from rfl] at hcx
    have HCX := Lib.hid hcx
    clear hcx
    go_wp2_with fail
    refine HCX.out.mono ?_
    rintro e wb ⟨R, rn, rc, rfl, hown, hub⟩
    have hupb := hua.trans hub
    obtain ⟨x, hx⟩ : ∃ x, x = (if evI ((l2.map Int64.toInt).headD 0) = true then p2 else p1) := ⟨_, rfl⟩
    rw [← hx] at hown
    have HX := Lib.hid hx
    clear hx HCX Ha hua
    obtain ⟨o1, ho1⟩ : ∃ o1, ((tx x).toList == (tx p1).toList) = o1 := ⟨_, rfl⟩
    obtain ⟨o2, ho2⟩ : ∃ o2, ((tx x).toList == (tx p2).toList) = o2 := ⟨_, rfl⟩
    have hor : (o1 = true ∧ o2 = false) ∨ (o2 = true ∧ o1 = true) ∨ (o2 = true ∧ o1 = false) := by
      cases hn : evI ((l2.map Int64.toInt).headD 0) with
      | true =>
        have h2 : o2 = true := by rw [← ho2, HX.out, if_pos hn]; exact tx_beq rfl
        cases o1
        · exact .inr (.inr ⟨h2, rfl⟩)
        · exact .inr (.inl ⟨h2, rfl⟩)
      | false =>
        have h1 : o1 = true := by rw [← ho1, HX.out, if_neg (by rw [hn]; decide)]; exact tx_beq rfl
        cases o2
        · exact .inl ⟨h1, rfl⟩
        · exact .inr (.inl ⟨rfl, h1⟩)
    clear HX
    rcases hor with ⟨rfl, rfl⟩ | ⟨rfl, rfl⟩ | ⟨rfl, rfl⟩
    · have hC1 := BC1.out
      have hC2 := BC2.out
      have hS : ∀ W, Up wb W → Up wb W := fun W h => h
      go_upto_region 8 with fail
      apply Rg.region_up _ (by kernel_rfl) (by kernel_rfl) hS
      · intro QN hQN
        iterate 1 (apply Rg.RK.ok; (· intro vs w1 hS; go_simp; with_reducible rfl); (· rfl); simp only [Act.put, List.setIfInBounds_toArray, List.set_cons_zero, List.set_cons_succ, Nat.reduceAdd])
        apply Rg.RK.ok (v := .string (tx (x)))
        · intro vs w1 hS
          exact exec_str rfl rfl ((OwnB.rd hown).up hS)
        · rfl
        simp only [Act.put, List.setIfInBounds_toArray, List.set_cons_zero, List.set_cons_succ, Nat.reduceAdd]
        iterate 2 (apply Rg.RK.ok; (· intro vs w1 hS; go_simp; with_reducible rfl); (· rfl); simp only [Act.put, List.setIfInBounds_toArray, List.set_cons_zero, List.set_cons_succ, Nat.reduceAdd])
        apply Rg.RK.call (.string (tx p1)) []
        · rfl
        · intro vs w1 hK hS _ K hKK
          go_simp
          refine (HB1.out _).mono ?_
          rintro e w2 ⟨rfl, hu2⟩
          exact hKK.out _ hu2
        simp only [Act.put, List.setIfInBounds_toArray, List.set_cons_zero, List.set_cons_succ, Nat.reduceAdd]
        iterate 2 (apply Rg.RK.ok; (· intro vs w1 hS; go_simp; with_reducible rfl); (· rfl); simp only [Act.put, List.setIfInBounds_toArray, List.set_cons_zero, List.set_cons_succ, Nat.reduceAdd])
        apply Rg.RK.ok (v := .string (tx (x)))
        · intro vs w1 hS
          exact exec_str rfl rfl ((OwnB.rd hown).up hS)
        · rfl
        simp only [Act.put, List.setIfInBounds_toArray, List.set_cons_zero, List.set_cons_succ, Nat.reduceAdd]
        iterate 2 (apply Rg.RK.ok; (· intro vs w1 hS; go_simp; with_reducible rfl); (· rfl); simp only [Act.put, List.setIfInBounds_toArray, List.set_cons_zero, List.set_cons_succ, Nat.reduceAdd])
        apply Rg.RK.call (.string (tx p2)) []
        · rfl
        · intro vs w1 hK hS _ K hKK
          go_simp
          refine (HB2.out _).mono ?_
          rintro e w2 ⟨rfl, hu2⟩
          exact hKK.out _ hu2
        simp only [Act.put, List.setIfInBounds_toArray, List.set_cons_zero, List.set_cons_succ, Nat.reduceAdd]
        iterate 3 (apply Rg.RK.ok; (· intro vs w1 hS; go_simp; with_reducible rfl); (· rfl); simp only [Act.put, List.setIfInBounds_toArray, List.set_cons_zero, List.set_cons_succ, Nat.reduceAdd])
        apply Rg.RK.fin []
        intro vs w1 hK hS _
        refine hQN.out _ _ ?_
        clear hQN
        clear hC1 hC2 ho1 ho2
        go_wp2_with fail
        refine (awake4_any _).mono ?_
        rintro e wc ⟨rfl, huc⟩
        go_wp2_with fail
        go_ret
        exact ⟨rfl, (hupb.trans hS).trans huc⟩
      · kernel_rfl
    · have hC1 := BC1.out
      have hC2 := BC2.out
      have hS : ∀ W, Up wb W → Up wb W := fun W h => h
      go_upto_region 8 with fail
      apply Rg.region_up _ (by kernel_rfl) (by kernel_rfl) hS
      · intro QN hQN
        iterate 1 (apply Rg.RK.ok; (· intro vs w1 hS; go_simp; with_reducible rfl); (· rfl); simp only [Act.put, List.setIfInBounds_toArray, List.set_cons_zero, List.set_cons_succ, Nat.reduceAdd])
        apply Rg.RK.ok (v := .string (tx (x)))
        · intro vs w1 hS
          exact exec_str rfl rfl ((OwnB.rd hown).up hS)
        · rfl
        simp only [Act.put, List.setIfInBounds_toArray, List.set_cons_zero, List.set_cons_succ, Nat.reduceAdd]
        iterate 2 (apply Rg.RK.ok; (· intro vs w1 hS; go_simp; with_reducible rfl); (· rfl); simp only [Act.put, List.setIfInBounds_toArray, List.set_cons_zero, List.set_cons_succ, Nat.reduceAdd])
        apply Rg.RK.call (.string (tx p1)) []
        · rfl
        · intro vs w1 hK hS _ K hKK
          go_simp
          refine (HB1.out _).mono ?_
          rintro e w2 ⟨rfl, hu2⟩
          exact hKK.out _ hu2
        simp only [Act.put, List.setIfInBounds_toArray, List.set_cons_zero, List.set_cons_succ, Nat.reduceAdd]
        iterate 2 (apply Rg.RK.ok; (· intro vs w1 hS; go_simp; with_reducible rfl); (· rfl); simp only [Act.put, List.setIfInBounds_toArray, List.set_cons_zero, List.set_cons_succ, Nat.reduceAdd])
        apply Rg.RK.ok (v := .string (tx (x)))
        · intro vs w1 hS
          exact exec_str rfl rfl ((OwnB.rd hown).up hS)
        · rfl
        simp only [Act.put, List.setIfInBounds_toArray, List.set_cons_zero, List.set_cons_succ, Nat.reduceAdd]
        iterate 2 (apply Rg.RK.ok; (· intro vs w1 hS; go_simp; with_reducible rfl); (· rfl); simp only [Act.put, List.setIfInBounds_toArray, List.set_cons_zero, List.set_cons_succ, Nat.reduceAdd])
        apply Rg.RK.call (.string (tx p2)) []
        · rfl
        · intro vs w1 hK hS _ K hKK
          go_simp
          refine (HB2.out _).mono ?_
          rintro e w2 ⟨rfl, hu2⟩
          exact hKK.out _ hu2
        simp only [Act.put, List.setIfInBounds_toArray, List.set_cons_zero, List.set_cons_succ, Nat.reduceAdd]
        iterate 3 (apply Rg.RK.ok; (· intro vs w1 hS; go_simp; with_reducible rfl); (· rfl); simp only [Act.put, List.setIfInBounds_toArray, List.set_cons_zero, List.set_cons_succ, Nat.reduceAdd])
        apply Rg.RK.fin []
        intro vs w1 hK hS _
        refine hQN.out _ _ ?_
        clear hQN
        clear hC1 hC2 ho1 ho2
        go_wp2_with fail
        refine (awake4_any _).mono ?_
        rintro e wc ⟨rfl, huc⟩
        go_wp2_with fail
        go_ret
        exact ⟨rfl, (hupb.trans hS).trans huc⟩
      · kernel_rfl
    · have hC1 := BC1.out
      have hC2 := BC2.out
      have hS : ∀ W, Up wb W → Up wb W := fun W h => h
      go_upto_region 8 with fail
      apply Rg.region_up _ (by kernel_rfl) (by kernel_rfl) hS
      · intro QN hQN
        iterate 1 (apply Rg.RK.ok; (· intro vs w1 hS; go_simp; with_reducible rfl); (· rfl); simp only [Act.put, List.setIfInBounds_toArray, List.set_cons_zero, List.set_cons_succ, Nat.reduceAdd])
        apply Rg.RK.ok (v := .string (tx (x)))
        · intro vs w1 hS
          exact exec_str rfl rfl ((OwnB.rd hown).up hS)
        · rfl
        simp only [Act.put, List.setIfInBounds_toArray, List.set_cons_zero, List.set_cons_succ, Nat.reduceAdd]
        iterate 2 (apply Rg.RK.ok; (· intro vs w1 hS; go_simp; with_reducible rfl); (· rfl); simp only [Act.put, List.setIfInBounds_toArray, List.set_cons_zero, List.set_cons_succ, Nat.reduceAdd])
        apply Rg.RK.call (.string (tx p1)) []
        · rfl
        · intro vs w1 hK hS _ K hKK
          go_simp
          refine (HB1.out _).mono ?_
          rintro e w2 ⟨rfl, hu2⟩
          exact hKK.out _ hu2
        simp only [Act.put, List.setIfInBounds_toArray, List.set_cons_zero, List.set_cons_succ, Nat.reduceAdd]
        iterate 2 (apply Rg.RK.ok; (· intro vs w1 hS; go_simp; with_reducible rfl); (· rfl); simp only [Act.put, List.setIfInBounds_toArray, List.set_cons_zero, List.set_cons_succ, Nat.reduceAdd])
        apply Rg.RK.ok (v := .string (tx (x)))
        · intro vs w1 hS
          exact exec_str rfl rfl ((OwnB.rd hown).up hS)
        · rfl
        simp only [Act.put, List.setIfInBounds_toArray, List.set_cons_zero, List.set_cons_succ, Nat.reduceAdd]
        iterate 2 (apply Rg.RK.ok; (· intro vs w1 hS; go_simp; with_reducible rfl); (· rfl); simp only [Act.put, List.setIfInBounds_toArray, List.set_cons_zero, List.set_cons_succ, Nat.reduceAdd])
        apply Rg.RK.call (.string (tx p2)) []
        · rfl
        · intro vs w1 hK hS _ K hKK
          go_simp
          refine (HB2.out _).mono ?_
          rintro e w2 ⟨rfl, hu2⟩
          exact hKK.out _ hu2
        simp only [Act.put, List.setIfInBounds_toArray, List.set_cons_zero, List.set_cons_succ, Nat.reduceAdd]
        iterate 3 (apply Rg.RK.ok; (· intro vs w1 hS; go_simp; with_reducible rfl); (· rfl); simp only [Act.put, List.setIfInBounds_toArray, List.set_cons_zero, List.set_cons_succ, Nat.reduceAdd])
        apply Rg.RK.fin []
        intro vs w1 hK hS _
        refine hQN.out _ _ ?_
        clear hQN
        clear hC1 hC2 ho1 ho2
        go_wp2_with fail
        refine (awake4_any _).mono ?_
        rintro e wc ⟨rfl, huc⟩
        go_wp2_with fail
        go_ret
        exact ⟨rfl, (hupb.trans hS).trans huc⟩
      · kernel_rfl
end Go.Proofs.Ytebhhfmekmpnkaa.diskSwaps

/-
  'clepsydra/clepsydralaw4.DiskSwaps': for every input the law returns true; each argument reads behind the call as it read before. No condition.
-/
namespace Go.Proofs.Ytebhhfmekmpnkaa.diskSwaps
open Go.ChangeShapes Go.WideShapes Go.ChangeAt Go.RowKit
open Go.ChangeMaps (open_string shut_string)
set_option linter.unusedVariables false

set_option maxRecDepth 100000 in
theorem lifted (os : Os) (started : os.Started) (H : Type) (enc : TypeId × Value → H) :
    ReturnsInHanded {} Try.checked os 8 .any (Rows.diskSwapsSpec.pre6 enc Try.prog Try.f8 Rows.diskSwapsRow.domain false) (Rows.diskSwapsSpec.post enc Try.prog Try.f8 false true false false) := by
  refine returnsInHanded_of_change (C := Try.checked) prog_own started (by kernel_rfl) Try.func8
    (ChangeSpec.witness6 (enc := enc) (C := Try.checked) false ⟨#[], #[.int .i64 0, .int .i64 0, .slice none 0 0, .bool false], []⟩ 8 (by kernel_rfl) (by kernel_rfl) (by kernel_rfl) (by kernel_rfl)) ?_
  intro W base args ds gs before hval0 hW hcnd _
  have hval : ∀ (j : Nat) t v, Try.f8.params[j]? = some t → args[j]? = some v → Value.okWide Try.prog W .any base t v := hval0
  have hW' := hW
  obtain ⟨p, q, hA0, hV, rfl, hfz, hnd⟩ := hW
  have hA : DataW.TrodAll enc Try.prog W 0 (fun _ => true) true Try.f8.params.toList args.toList ds p := hA0
  rw [Try.params8] at hA hval
  obtain ⟨v0, vs0, d0, ds0, p0, q0, hargs, rfl, rfl, h0, r0⟩ := trodAll_cons hA
  obtain ⟨v1, vs1, d1, ds1, p1, q1, rfl, rfl, rfl, h1, r1⟩ := trodAll_cons r0
  obtain ⟨v2, vs2, d2, ds2, p2, q2, rfl, rfl, rfl, h2, r2⟩ := trodAll_cons r1
  obtain ⟨v3, vs3, d3, ds3, p3, q3, rfl, rfl, rfl, h3, r3⟩ := trodAll_cons r2
  obtain ⟨rfl, rfl, rfl⟩ := trodAll_nil r3
  obtain rfl : args = #[v0, v1, v2, v3] := by cases args; simp_all
  obtain ⟨rfl, rfl⟩ := trodVars_none hV
  obtain ⟨a0, rfl, rfl, rfl, w0⟩ := open_int Try.underlying3 (hval 0 3 v0 rfl rfl) h0
  have b0 := bd_i64 w0
  obtain ⟨a1, rfl, rfl, rfl, w1⟩ := open_int Try.underlying3 (hval 1 3 v1 rfl rfl) h1
  have b1 := bd_i64 w1
  obtain ⟨a2, len2, cap2, rfl⟩ := okWide_slice Try.underlying22 (hval 2 22 v2 rfl rfl)
  have k2 := h2
  have lt2 : ∀ x ∈ p2, x.block < W.heap.size := by obtain ⟨m, hm⟩ := k2; exact DataW.trod_lt m _ _ _ hm
  obtain ⟨l2, w2⟩ := is_z h2
  obtain ⟨a3, rfl, rfl, rfl⟩ := open_bool Try.underlying4 (hval 3 4 v3 rfl rfl) h3
  clear hA0 hval0
  refine (law_any a0 a1 a2 len2 cap2 l2 a3 W b0 b1 w2).mono fun e W' ⟨he, bel⟩ => ?_
  subst he
  exact ⟨_, rfl, _, _, _, [], _, [], hW', trodAll_mk1 (shut_bool Try.underlying4 _), (trodAll_cons_mk (shut_int Try.underlying3 w0) (trodAll_cons_mk (shut_int Try.underlying3 w1) (trodAll_cons_mk (Below.trod laidOut (by kernel_rfl) (of_decide_eq_true (by kernel_rfl)) k2 bel lt2) (trodAll_cons_mk (shut_bool Try.underlying4 a3) trodAll_mk0)))), rfl, bel.frame _, fun h => by cases h⟩

theorem proved : Rows.DiskSwapsSaid :=
  OpenClaim.holds_of_wide 8 Try.f8 rfl rfl rfl rfl rfl rfl rfl ⟨rfl, rfl, rfl, rfl, rfl⟩ rfl rfl rfl rfl rfl (by kernel_rfl) Try.func8 (by kernel_rfl)
    (of_decide_eq_true (by kernel_rfl)) (by unfold Func.isWrapper; first | (rw [if_pos (by decide +kernel)]; kernel_rfl) | (rw [if_neg (by decide +kernel)]; exact ⟨rfl, rfl⟩))
    (fun os started H enc _ => lifted os started H enc)
#print axioms proved
end Go.Proofs.Ytebhhfmekmpnkaa.diskSwaps
