/-
  'clepsydra/clepsydralaw4.DiskLasts': for every input the law returns true; each argument reads behind the call as it read before. No condition.
-/
import Derived.Laws.BitsAllLaws
import Derived.IntWalk
import Derived.Deep.Cut
import Derived.Deep.CutRange
import Derived.Test.YtebhhfmekmpnkaaZ3
/-
  The law DiskLasts: the walk.
-/
namespace Go.Proofs.Ytebhhfmekmpnkaa.diskLasts
open Go.RowKit Go.Maps
set_option linter.unusedVariables false
set_option linter.unusedSimpArgs false

theorem tx_takeL (l : List UInt8) (n : Nat) : (tx l).extract 0 n = tx (l.take n) := tx_of (by simp [tx_list])
theorem zvs_izs (l : List Int64) : zvs l = izs (l.map Int64.toInt) := by simp [zvs, izs]
theorem i64_rg (x : Int64) : -9223372036854775808 ≤ x.toInt ∧ x.toInt ≤ 9223372036854775807 := by
  have h1 := Int64.le_toInt x
  have h2 := Int64.toInt_lt x
  omega
theorem start_f : createD (newD 1048576) [102] = (dkG [102] [] 0 1 (.map []) [⟨1, 0, [102], []⟩], 0) := rfl
set_option maxRecDepth 100000 in
set_option maxHeartbeats 4000000 in
theorem law_any (A0 : Option Addr) (m0 c0 : Nat) (l0 : List Int64) (A1 : Option Addr) (m1 c1 : Nat) (l1 : List Int64) (A2 : Option Addr) (m2 c2 : Nat) (l2 : List Int64) (w : World) (hr0 : IsZ w A0 m0 c0 l0) (hr1 : IsZ w A1 m1 c1 l1) (hr2 : IsZ w A2 m2 c2 l2) :
    Calls Try.prog 6 #[.slice A0 m0 c0, .slice A1 m1 c1, .slice A2 m2 c2] w fun e w' => e = .returned (.bool true) ∧ Up w w' := by
  have hm0 : m0 ≤ 9223372036854775807 := by have := hr0.2; omega
  have hm1 : m1 ≤ 9223372036854775807 := by have := hr1.2; omega
  have hm2 : m2 ≤ 9223372036854775807 := by have := hr2.2; omega
  have hkr := hr2.1
  rw [zvs_izs] at hkr
  have hkrg : ∀ x ∈ l2.map Int64.toInt, -9223372036854775808 ≤ x ∧ x ≤ 9223372036854775807 := fun x hx => by
    obtain ⟨y, _, rfl⟩ := List.mem_map.1 hx
    exact i64_rg y
  have hkc := hr2.2.1
  have hkl : ∀ a, A2 = some a → 0 < m2 → a.block < w.heap.size := fun a ha hm => by
    obtain ⟨b, o, e, hb, _⟩ := hkr.2 hm
    rw [ha] at e
    injection e with e
    rw [e]; exact hb
  have E1 := Lib.hid start_f
  have HKR := Lib.hid hkrg
  go_enter Try.func6, Try.ntmps6
  go_wp2_with fail
  refine (dnew_any 1048576 w).mono ?_
  rintro e w1 ⟨h1, rfl, H1, hu1, hf1⟩
  go_wp2_with fail
  refine (create_any H1 (newD_ok (by omega)) (by simp [newD]) (by simp [newD]) (by simp [newD]) [102] (by decide)).mono ?_
  rintro e w2 ⟨h2, rfl, H2, D2⟩
  rw [E1.out] at H2 ⊢
  (try dsimp only at H2)
  (try dsimp only)
  rw [show ((0 : Nat) : Int) = 0 from rfl]
  have hu2 := D2.below H1 (Nat.le_refl _) hu1
  have HG2 := Lib.hid D2.g
  generalize hG : h1.g = G at *
  clear H1 D2 hu1 hf1
  go_wp2_with fail
  go_loopw [8, 10] (fun sv iv wr => ∃ (k : Nat) (h : Hp) (s : List UInt8), iv = .int .i64 (k : Int) ∧ sv = .string (tx s) ∧ k ≤ 20 ∧ k ≤ m0 ∧ s.length ≤ 63 * k ∧ Hid (h.g = G) ∧ DiskAt w.heap.size h (dkG [102] s 0 (1 + k) (.map []) [⟨1, 0, [102], []⟩]) wr ∧ Up w wr) (fun _ iv _ => 20 - (intOf iv).toNat)
  case atStart => exact ⟨0, h2, [], rfl, rfl, by omega, by omega, by simp, HG2, H2, hu2⟩
  case round =>
    obtain ⟨k, h, s, rfl, rfl, hk40, hkm, hsl, HG, H, hup⟩ := hrel
    clear H2 hu2
    by_cases hlt : k < m0
    · by_cases h40 : k < 20
      · obtain ⟨b, o, rfl, hbB, hcell0⟩ := (hr0).1.znum hlt
        generalize ((l0).getD k 0).toInt = x at *
        have i1 : (k : Int) < (m0 : Int) := by omega
        have i2 : (k : Int) < 20 := by omega
        obtain ⟨c15, hcc, hcc2⟩ := i64_and_le x 63 (by omega)
        replace hcc : bits .and .i64 x 63 = (c15 : Int) := hcc
        have hcx := (hup.cell (p := ⟨b, o + k, none⟩) hbB).trans hcell0
        clear hcell0
        go_wp2_with fail
        clear hcx hcc
        refine (bytes_any ((k : Int)) c15 _ (by omega) (by omega)).mono ?_
        rintro e w6 ⟨rfl, hu6⟩
        have hpl := bytesL_len ((k : Int)) c15
        generalize bytesL ((k : Int)) c15 = p at *
        have hpl2 : p.length ≤ 63 := by omega
        clear hpl
        have H6 := H.up hu6
        have hup6 := hup.trans hu6
        have hok6 : DkOk (dkG [102] s 0 (1 + k) (.map []) [⟨1, 0, [102], []⟩]) := dkG_ok (by omega) (Nat.zero_le _) (.inl rfl) (.inr rfl)
        have hcl6 : (dkG [102] s 0 (1 + k) (.map []) [⟨1, 0, [102], []⟩]).calls ≤ 1000000000 := by simp only [dkG]; omega
        have hst : appendD (dkG [102] s 0 (1 + k) (.map []) [⟨1, 0, [102], []⟩]) [102] p = _ := dkG_append p (by decide) (by omega)
        clear H hup hu6
        have hcat : tx (s) ++ tx p = tx (cc (s) p) := tx_append' _ _
        have hnz : ¬ (9223372036854775807 < (tx (s)).size + (tx p).size) := by rw [tx_size, tx_size]; omega
        obtain ⟨cb, w7, hconv, hcap, hrd7, hu7, -, hlt7⟩ := conv_b w6 p
        have H7 := H6.up hu7
        have hup7 := hup6.trans hu7
        have hca := dappend_any H7 hok6 hcl6 [102] (by decide) (some ⟨w6.heap.size, 0, none⟩) p.length cb p hrd7 (by omega) (fun y hy hfy => by
          obtain ⟨a, ha, e⟩ := hy
          injection ha with ha
          subst ha
          have h9 := (H6.lt hfy).2
          have e' : w6.heap.size = y := e
          omega)
        rw [HG.out, hst] at hca
        (try dsimp only at hca)
        have HCA := Lib.hid hca
        clear hst hca hrd7 hlt7
        go_wp2_with fail
        clear hconv
        refine HCA.out.mono ?_
        rintro e w8 ⟨h8, rfl, H8, D8⟩
        have hup8 := D8.below H7 (Nat.le_refl _) hup7
        have hg8 : h8.g = G := D8.g.trans HG.out
        have HG8 := Lib.hid hg8
        clear HCA H7 D8 hup7 hu7 hg8 H6 hup6
        go_wp2_with fail
        go_roundw
        case rel => exact ⟨k + 1, h8, s ++ p, by go_num, rfl, by omega, by omega, by rw [List.length_append]; omega, HG8, H8, hup8⟩
        case measure => simp [intOf]; omega
      · have i1 : (k : Int) < (m0 : Int) := by omega
        have i2 : ¬ (k : Int) < 20 := by omega
        have hsl2 : s.length ≤ 1260 := by omega
        have hok6 : DkOk (dkG [102] s 0 (1 + k) (.map []) [⟨1, 0, [102], []⟩]) := dkG_ok (by omega) (Nat.zero_le _) (.inl rfl) (.inr rfl)
        have hcs := sync_any H hok6 (by simp only [dkG]; omega) [102] (by decide)
        rw [HG.out, dkG_sync (by decide)] at hcs
        (try dsimp only at hcs)
        rw [show ((0 : Nat) : Int) = 0 from rfl] at hcs
        have HCS := Lib.hid hcs
        clear hcs
        go_wp2_with fail
        refine HCS.out.mono ?_
        rintro e w3 ⟨h3, rfl, H3, D3⟩
        have hu3 := D3.below H (Nat.le_refl _) hup
        have hg3 : h3.g = G := D3.g.trans HG.out
        have hok7 : DkOk (dkG [102] s s.length (1 + k + 1) (.map []) [⟨1, 0, [102], []⟩]) := dkG_ok (by omega) (Nat.le_refl _) (.inl rfl) (.inr rfl)
        have hcs := syncDir_any H3 hok7 (by simp only [dkG]; omega)
        rw [hg3, dkG_syncDir] at hcs
        (try dsimp only at hcs)
        rw [show ((0 : Nat) : Int) = 0 from rfl] at hcs
        have HCD := Lib.hid hcs
        have HG3 := Lib.hid hg3
        clear hcs HCS H hup D3 hg3 HG
        go_wp2_with fail
        refine HCD.out.mono ?_
        rintro e w4 ⟨h4, rfl, H4, D4⟩
        have hu4 := D4.below H3 (Nat.le_refl _) hu3
        have hg4 : h4.g = G := D4.g.trans HG3.out
        have HG4 := Lib.hid hg4
        clear HCD H3 D4 hu3 HG3 hg4 i1
        obtain ⟨cn, hcn⟩ : ∃ cn, cn = 1 + k + 1 + 1 := ⟨_, rfl⟩
        rw [← hcn] at H4
        have hcnb : cn ≤ 23 := by omega
        clear hcn
        go_wp2_with fail
        go_loopw [9, 12] (fun tv iv wr => ∃ (k : Nat) (h : Hp) (t : List UInt8), iv = .int .i64 (k : Int) ∧ tv = .string (tx t) ∧ k ≤ 20 ∧ k ≤ m1 ∧ t.length ≤ 63 * k ∧ Hid (h.g = G) ∧ DiskAt w.heap.size h (dkG [102] (s ++ t) s.length (cn + k) (nm1 [102]) []) wr ∧ Up w wr) (fun _ iv _ => 20 - (intOf iv).toNat)
        case atStart => exact ⟨0, h4, [], rfl, rfl, by omega, by omega, by simp, HG4, by rw [List.append_nil]; exact H4, hu4⟩
        case round =>
          obtain ⟨k, h, t, rfl, rfl, hk40, hkm, htl, HG, H, hup⟩ := hrel
          clear H4 hu4
          by_cases hlt : k < m1
          · by_cases h40 : k < 20
            · obtain ⟨b, o, rfl, hbB, hcell0⟩ := (hr1).1.znum hlt
              generalize ((l1).getD k 0).toInt = x at *
              have i1 : (k : Int) < (m1 : Int) := by omega
              have i2 : (k : Int) < 20 := by omega
              obtain ⟨c15, hcc, hcc2⟩ := i64_and_le x 63 (by omega)
              replace hcc : bits .and .i64 x 63 = (c15 : Int) := hcc
              have hcx := (hup.cell (p := ⟨b, o + k, none⟩) hbB).trans hcell0
              clear hcell0
              go_wp2_with fail
              clear hcx hcc
              refine (bytes_any (100 + (k : Int)) c15 _ (by omega) (by omega)).mono ?_
              rintro e w6 ⟨rfl, hu6⟩
              have hpl := bytesL_len (100 + (k : Int)) c15
              generalize bytesL (100 + (k : Int)) c15 = p at *
              have hpl2 : p.length ≤ 63 := by omega
              clear hpl
              have H6 := H.up hu6
              have hup6 := hup.trans hu6
              have hok6 : DkOk (dkG [102] (s ++ t) s.length (cn + k) (nm1 [102]) []) := dkG_ok (by rw [List.length_append]; omega) (by rw [List.length_append]; omega) (.inr rfl) (.inl rfl)
              have hcl6 : (dkG [102] (s ++ t) s.length (cn + k) (nm1 [102]) []).calls ≤ 1000000000 := by simp only [dkG]; omega
              have hst : appendD (dkG [102] (s ++ t) s.length (cn + k) (nm1 [102]) []) [102] p = _ := dkG_append p (by decide) (by rw [List.length_append]; omega)
              clear H hup hu6
              have hcat : tx (t) ++ tx p = tx (cc (t) p) := tx_append' _ _
              have hnz : ¬ (9223372036854775807 < (tx (t)).size + (tx p).size) := by rw [tx_size, tx_size]; omega
              obtain ⟨cb, w7, hconv, hcap, hrd7, hu7, -, hlt7⟩ := conv_b w6 p
              have H7 := H6.up hu7
              have hup7 := hup6.trans hu7
              have hca := dappend_any H7 hok6 hcl6 [102] (by decide) (some ⟨w6.heap.size, 0, none⟩) p.length cb p hrd7 (by omega) (fun y hy hfy => by
                obtain ⟨a, ha, e⟩ := hy
                injection ha with ha
                subst ha
                have h9 := (H6.lt hfy).2
                have e' : w6.heap.size = y := e
                omega)
              rw [HG.out, hst] at hca
              (try dsimp only at hca)
              have HCA := Lib.hid hca
              clear hst hca hrd7 hlt7
              go_wp2_with fail
              clear hconv
              refine HCA.out.mono ?_
              rintro e w8 ⟨h8, rfl, H8, D8⟩
              have hup8 := D8.below H7 (Nat.le_refl _) hup7
              have hg8 : h8.g = G := D8.g.trans HG.out
              have HG8 := Lib.hid hg8
              clear HCA H7 D8 hup7 hu7 hg8 H6 hup6
              go_wp2_with fail
              go_roundw
              case rel => exact ⟨k + 1, h8, t ++ p, by go_num, rfl, by omega, by omega, by rw [List.length_append]; omega, HG8, by rw [← List.append_assoc]; exact H8, hup8⟩
              case measure => simp [intOf]; omega
            · have i1 : (k : Int) < (m1 : Int) := by omega
              have i2 : ¬ (k : Int) < 20 := by omega
              have htl2 : t.length ≤ 1260 := by omega
              have hsl3 : s.length ≤ 1260 := hsl2
              obtain ⟨cm, hcm⟩ : ∃ cm, cm = cn + k := ⟨_, rfl⟩
              rw [← hcm] at H
              have hcmb : cm ≤ 43 := by omega
              clear hcm htl
              go_wp2_with fail
              clear i1
              go_loopw [9, 14] (fun tv iv wr => ∃ (j : Nat) (h : Hp) (t2 : List UInt8) (last : Nat), iv = .int .i64 (j : Int) ∧ tv = .string (tx t2) ∧ j ≤ 3 ∧ t2.length ≤ 1260 ∧ Hid (h.g = G) ∧ s.length ≤ last ∧ last ≤ s.length + t2.length ∧ DiskAt w.heap.size h (dkG [102] (s ++ t2) last cm (nm1 [102]) []) wr ∧ Up w wr) (fun _ iv _ => 3 - (intOf iv).toNat)
              case atStart => exact ⟨0, h, t, s.length, rfl, rfl, by omega, htl2, HG, Nat.le_refl _, by omega, H, hup⟩
              case round =>
                obtain ⟨j, h, t2, last, rfl, rfl, hj3, ht2, HG, hla1, hla2, H, hup⟩ := hrel
                have hok9 : DkOk (dkG [102] (s ++ t2) last cm (nm1 [102]) []) := dkG_ok (by rw [List.length_append]; omega) (by rw [List.length_append]; omega) (.inr rfl) (.inl rfl)
                by_cases hj : j < 3
                · have hji : (j : Int) < 3 := by omega
                  obtain ⟨kk, q1, q3⟩ := dkG_crash [102] (s ++ t2) last cm (by rw [List.length_append]; omega) (l2.map Int64.toInt)
                  rw [List.length_append] at q1
                  obtain ⟨t3, ht3⟩ : ∃ t3, t3 = t2.take (last + kk - s.length) := ⟨_, rfl⟩
                  have hl3 : t3.length = last + kk - s.length := by rw [ht3, List.length_take]; omega
                  have htk : (s ++ t2).take (last + kk) = s ++ t3 := by rw [List.take_append, List.take_of_length_le (by omega), ht3]
                  have hlk : last + kk = (s ++ t3).length := by rw [List.length_append]; omega
                  rw [htk, hlk] at q3
                  have hcc := crash_any H hok9 A2 m2 c2 (l2.map Int64.toInt) (hkr.up hup) hkc hm2 HKR.out (fun h0 a ha hf => by
                    have h1 := hkl a ha h0
                    have h2 := (H.lt hf).1
                    omega) (fun h0 a ha => Nat.lt_of_lt_of_le (hkl a ha h0) hup.size) (fun x hx => by cases hx)
                  rw [HG.out, q3] at hcc
                  have HCC := Lib.hid hcc
                  have hxt : (tx t2).extract 0 t3.length = tx t3 := by rw [tx_takeL, hl3, ht3]
                  have hx2 : (tx (cc s t2)).extract 0 (s.length + t3.length) = tx (s ++ t3) := by
                    rw [tx_takeL]
                    have : s.length + t3.length = last + kk := by omega
                    rw [this]
                    exact congrArg tx htk
                  have HXT := Lib.hid hxt
                  have HX2 := Lib.hid hx2
                  have hl32 : t3.length ≤ t2.length := by omega
                  clear hcc q1 q3 hl3 htk hlk ht3 hxt hx2
                  go_wp2_with fail
                  refine HCC.out.mono ?_
                  rintro e w8 ⟨h8, rfl, H8, D8⟩
                  have hup8 := D8.below H (Nat.le_refl _) hup
                  have hg8 : h8.g = G := D8.g.trans HG.out
                  have hok8 : DkOk (dkG [102] (s ++ t3) (s ++ t3).length cm (nm1 [102]) []) := dkG_ok (by rw [List.length_append]; omega) (Nat.le_refl _) (.inr rfl) (.inl rfl)
                  have hcd := dread_any H8 hok8 [102] (by decide)
                  rw [hg8, dkG_read (by decide)] at hcd
                  (try dsimp only at hcd)
                  rw [show ((0 : Nat) : Int) = 0 from rfl] at hcd
                  have HCD := Lib.hid hcd
                  have HG8 := Lib.hid hg8
                  clear HCC D8 hcd hg8 H hup hok9
                  go_wp2_with fail
                  refine HCD.out.mono ?_
                  rintro e wa ⟨R, rn, rc, rfl, howna, hua⟩
                  have hrnl : rn = s.length + t3.length := by have := (OwnB.rd howna).blen; rw [List.length_append] at this; exact this
                  have Ha := H8.up hua
                  have hupa := hup8.trans hua
                  have hts : (tx s).size = s.length := tx_size s
                  have htt : (tx t2).size = t2.length := tx_size t2
                  have htc : (tx (cc s t2)).size = s.length + t2.length := by rw [tx_size, cc_length]
                  have hx2 : (tx (cc s t2)).extract 0 rn = tx (s ++ t3) := by rw [hrnl]; exact HX2.out
                  have hle1 : ((rn : Nat) : Int) ≤ ((s.length + t2.length : Nat) : Int) := by omega
                  have dn1 : decide (rn < s.length) = false := by simp; omega
                  have dn1i : decide ((rn : Int) < (s.length : Int)) = false := by simp; omega
                  have dn2 : decide (s.length + t2.length < rn) = false := by simp; omega
                  have dn2i : decide ((s.length : Int) + (t2.length : Int) < (rn : Int)) = false := by simp; omega
                  have v1 : IntKind.i64.wrap ((s.length : Int) + (t2.length : Int)) = (s.length : Int) + (t2.length : Int) := IntWalk.i64_in _ (by omega)
                  have hdif : (rn : Int) - (s.length : Int) = (t3.length : Int) := by omega
                  have v2 : IntKind.i64.wrap ((t3.length : Nat) : Int) = ((t3.length : Nat) : Int) := IntWalk.i64_in _ (by omega)
                  have v3 : IntKind.i64.wrap ((rn : Int) - (s.length : Int)) = ((t3.length : Nat) : Int) := by rw [hdif]; exact v2
                  have hle3 : ((t3.length : Nat) : Int) ≤ ((t2.length : Nat) : Int) := by omega
                  have hl3s : t3.length ≤ (tx t2).size := by rw [htt]; exact hl32
                  have hsame : ((tx (s ++ t3)).toList == (tx (s ++ t3)).toList) = true := tx_beq rfl
                  have hsame2 : (tx (s ++ t3)).toList = (tx (s ++ t3)).toList := rfl
                  have hnz : ¬ (9223372036854775807 < s.length + t2.length) := by omega
                  have HRN := Lib.hid hrnl
                  clear hrnl
                  have hcat : tx s ++ tx t2 = tx (cc s t2) := tx_append' _ _
                  have hS : ∀ W, Up wa W → Up wa W := fun W h => h
                  clear H8 hup8 HCD
                  go_upto_region 26 with fail
                  apply Rg.region_up _ (by kernel_rfl) (by kernel_rfl) hS
                  · intro QN hQN
                    iterate 3 (apply Rg.RK.ok; (· intro vs w1 hS; go_simp; with_reducible rfl); (· rfl); simp only [Act.put, List.setIfInBounds_toArray, List.set_cons_zero, List.set_cons_succ, Nat.reduceAdd])
                    iterate 5 (apply Rg.RK.gok (t := 98); (· intro vs w1 hS; go_simp; with_reducible rfl); (· rfl); (· intro vs; rfl); simp only [Act.put, List.setIfInBounds_toArray, List.set_cons_zero, List.set_cons_succ, Nat.reduceAdd])
                    iterate 2 (apply Rg.RK.ok; (· intro vs w1 hS; go_simp; with_reducible rfl); (· rfl); simp only [Act.put, List.setIfInBounds_toArray, List.set_cons_zero, List.set_cons_succ, Nat.reduceAdd])
                    iterate 8 (apply Rg.RK.gok (t := 105); (· intro vs w1 hS; go_simp; with_reducible rfl); (· rfl); (· intro vs; rfl); simp only [Act.put, List.setIfInBounds_toArray, List.set_cons_zero, List.set_cons_succ, Nat.reduceAdd])
                    iterate 2 (apply Rg.RK.ok; (· intro vs w1 hS; go_simp; with_reducible rfl); (· rfl); simp only [Act.put, List.setIfInBounds_toArray, List.set_cons_zero, List.set_cons_succ, Nat.reduceAdd])
                    iterate 1 (apply Rg.RK.gok (t := 115); (· intro vs w1 hS; go_simp; with_reducible rfl); (· rfl); (· intro vs; rfl); simp only [Act.put, List.setIfInBounds_toArray, List.set_cons_zero, List.set_cons_succ, Nat.reduceAdd])
                    apply Rg.RK.gok (t := 115) (v := .string (tx (s ++ t3)))
                    · intro vs w1 hS
                      exact exec_str rfl rfl ((OwnB.rd howna).up hS)
                    · rfl
                    · intro vs; rfl
                    simp only [Act.put, List.setIfInBounds_toArray, List.set_cons_zero, List.set_cons_succ, Nat.reduceAdd]
                    iterate 2 (apply Rg.RK.gok (t := 115); (· intro vs w1 hS; go_simp; with_reducible rfl); (· rfl); (· intro vs; rfl); simp only [Act.put, List.setIfInBounds_toArray, List.set_cons_zero, List.set_cons_succ, Nat.reduceAdd])
                    iterate 1 (apply Rg.RK.gok (t := 115); (· intro vs w1 hS; go_simp; with_reducible rfl); (· rfl); (· intro vs; rfl); simp only [Act.put, List.setIfInBounds_toArray, List.set_cons_zero, List.set_cons_succ, Nat.reduceAdd])
                    iterate 2 (apply Rg.RK.gok (t := 115); (· intro vs w1 hS; go_simp; with_reducible rfl); (· rfl); (· intro vs; rfl); simp only [Act.put, List.setIfInBounds_toArray, List.set_cons_zero, List.set_cons_succ, Nat.reduceAdd])
                    apply Rg.RK.gok (t := 115) (v := .string (tx (s ++ t3)))
                    · intro vs w1 hS
                      go_simp
                      first | done | (intro h; omega)
                    · rfl
                    · intro vs; rfl
                    simp only [Act.put, List.setIfInBounds_toArray, List.set_cons_zero, List.set_cons_succ, Nat.reduceAdd]
                    iterate 1 (apply Rg.RK.gok (t := 115); (· intro vs w1 hS; go_simp; with_reducible rfl); (· rfl); (· intro vs; rfl); simp only [Act.put, List.setIfInBounds_toArray, List.set_cons_zero, List.set_cons_succ, Nat.reduceAdd])
                    iterate 1 (apply Rg.RK.ok; (· intro vs w1 hS; go_simp; with_reducible rfl); (· rfl); simp only [Act.put, List.setIfInBounds_toArray, List.set_cons_zero, List.set_cons_succ, Nat.reduceAdd])
                    apply Rg.RK.fin []
                    intro vs w1 hK hS _
                    refine hQN.out _ _ ?_
                    clear hQN
                    go_wp2_with fail
                    have hxt := HXT.out
                    clear hcat hx2
                    go_wp2_with fail
                    go_roundw
                    case rel =>
                      exact ⟨j + 1, h8, t3, (s ++ t3).length, by go_num, by rw [HXT.out], by omega, by omega, HG8, by rw [List.length_append]; omega, by rw [List.length_append]; omega, Ha.up hS, hupa.trans hS⟩
                    case measure => simp [intOf]; omega
                  · kernel_rfl
                · have hji : ¬ (j : Int) < 3 := by omega
                  have hcu := usedO_any H hok9
                  rw [HG.out, dkG_usedO, List.length_append] at hcu
                  have HCU := Lib.hid hcu
                  have hts : (tx s).size = s.length := tx_size s
                  have htt : (tx t2).size = t2.length := tx_size t2
                  have v1 : IntKind.i64.wrap ((s.length : Int) + (t2.length : Int)) = (s.length : Int) + (t2.length : Int) := IntWalk.i64_in _ (by omega)
                  have hbe : (((s.length + t2.length : Nat) : Int) == (s.length : Int) + (t2.length : Int)) = true := by rw [beq_iff_eq]; omega
                  clear hcu H hok9
                  go_wp2_with fail
                  refine HCU.out.mono ?_
                  rintro e wb ⟨rfl, hub⟩
                  go_wp2_with fail
                  refine (awake4_any _).mono ?_
                  rintro e wc ⟨rfl, huc⟩
                  go_wp2_with fail
                  go_ret
                  exact ⟨rfl, (hup.trans hub).trans huc⟩
          · have i1 : ¬ (k : Int) < (m1 : Int) := by omega
            have htl2 : t.length ≤ 1260 := by omega
            have hsl3 : s.length ≤ 1260 := hsl2
            obtain ⟨cm, hcm⟩ : ∃ cm, cm = cn + k := ⟨_, rfl⟩
            rw [← hcm] at H
            have hcmb : cm ≤ 43 := by omega
            clear hcm htl
            go_wp2_with fail
            clear i1
            go_loopw [9, 14] (fun tv iv wr => ∃ (j : Nat) (h : Hp) (t2 : List UInt8) (last : Nat), iv = .int .i64 (j : Int) ∧ tv = .string (tx t2) ∧ j ≤ 3 ∧ t2.length ≤ 1260 ∧ Hid (h.g = G) ∧ s.length ≤ last ∧ last ≤ s.length + t2.length ∧ DiskAt w.heap.size h (dkG [102] (s ++ t2) last cm (nm1 [102]) []) wr ∧ Up w wr) (fun _ iv _ => 3 - (intOf iv).toNat)
            case atStart => exact ⟨0, h, t, s.length, rfl, rfl, by omega, htl2, HG, Nat.le_refl _, by omega, H, hup⟩
            case round =>
              obtain ⟨j, h, t2, last, rfl, rfl, hj3, ht2, HG, hla1, hla2, H, hup⟩ := hrel
              have hok9 : DkOk (dkG [102] (s ++ t2) last cm (nm1 [102]) []) := dkG_ok (by rw [List.length_append]; omega) (by rw [List.length_append]; omega) (.inr rfl) (.inl rfl)
              by_cases hj : j < 3
              · have hji : (j : Int) < 3 := by omega
                obtain ⟨kk, q1, q3⟩ := dkG_crash [102] (s ++ t2) last cm (by rw [List.length_append]; omega) (l2.map Int64.toInt)
                rw [List.length_append] at q1
                obtain ⟨t3, ht3⟩ : ∃ t3, t3 = t2.take (last + kk - s.length) := ⟨_, rfl⟩
                have hl3 : t3.length = last + kk - s.length := by rw [ht3, List.length_take]; omega
                have htk : (s ++ t2).take (last + kk) = s ++ t3 := by rw [List.take_append, List.take_of_length_le (by omega), ht3]
                have hlk : last + kk = (s ++ t3).length := by rw [List.length_append]; omega
                rw [htk, hlk] at q3
                have hcc := crash_any H hok9 A2 m2 c2 (l2.map Int64.toInt) (hkr.up hup) hkc hm2 HKR.out (fun h0 a ha hf => by
                  have h1 := hkl a ha h0
                  have h2 := (H.lt hf).1
                  omega) (fun h0 a ha => Nat.lt_of_lt_of_le (hkl a ha h0) hup.size) (fun x hx => by cases hx)
                rw [HG.out, q3] at hcc
                have HCC := Lib.hid hcc
                have hxt : (tx t2).extract 0 t3.length = tx t3 := by rw [tx_takeL, hl3, ht3]
                have hx2 : (tx (cc s t2)).extract 0 (s.length + t3.length) = tx (s ++ t3) := by
                  rw [tx_takeL]
                  have : s.length + t3.length = last + kk := by omega
                  rw [this]
                  exact congrArg tx htk
                have HXT := Lib.hid hxt
                have HX2 := Lib.hid hx2
                have hl32 : t3.length ≤ t2.length := by omega
                clear hcc q1 q3 hl3 htk hlk ht3 hxt hx2
                go_wp2_with fail
                refine HCC.out.mono ?_
                rintro e w8 ⟨h8, rfl, H8, D8⟩
                have hup8 := D8.below H (Nat.le_refl _) hup
                have hg8 : h8.g = G := D8.g.trans HG.out
                have hok8 : DkOk (dkG [102] (s ++ t3) (s ++ t3).length cm (nm1 [102]) []) := dkG_ok (by rw [List.length_append]; omega) (Nat.le_refl _) (.inr rfl) (.inl rfl)
                have hcd := dread_any H8 hok8 [102] (by decide)
                rw [hg8, dkG_read (by decide)] at hcd
                (try dsimp only at hcd)
                rw [show ((0 : Nat) : Int) = 0 from rfl] at hcd
                have HCD := Lib.hid hcd
                have HG8 := Lib.hid hg8
                clear HCC D8 hcd hg8 H hup hok9
                go_wp2_with fail
                refine HCD.out.mono ?_
                rintro e wa ⟨R, rn, rc, rfl, howna, hua⟩
                have hrnl : rn = s.length + t3.length := by have := (OwnB.rd howna).blen; rw [List.length_append] at this; exact this
                have Ha := H8.up hua
                have hupa := hup8.trans hua
                have hts : (tx s).size = s.length := tx_size s
                have htt : (tx t2).size = t2.length := tx_size t2
                have htc : (tx (cc s t2)).size = s.length + t2.length := by rw [tx_size, cc_length]
                have hx2 : (tx (cc s t2)).extract 0 rn = tx (s ++ t3) := by rw [hrnl]; exact HX2.out
                have hle1 : ((rn : Nat) : Int) ≤ ((s.length + t2.length : Nat) : Int) := by omega
                have dn1 : decide (rn < s.length) = false := by simp; omega
                have dn1i : decide ((rn : Int) < (s.length : Int)) = false := by simp; omega
                have dn2 : decide (s.length + t2.length < rn) = false := by simp; omega
                have dn2i : decide ((s.length : Int) + (t2.length : Int) < (rn : Int)) = false := by simp; omega
                have v1 : IntKind.i64.wrap ((s.length : Int) + (t2.length : Int)) = (s.length : Int) + (t2.length : Int) := IntWalk.i64_in _ (by omega)
                have hdif : (rn : Int) - (s.length : Int) = (t3.length : Int) := by omega
                have v2 : IntKind.i64.wrap ((t3.length : Nat) : Int) = ((t3.length : Nat) : Int) := IntWalk.i64_in _ (by omega)
                have v3 : IntKind.i64.wrap ((rn : Int) - (s.length : Int)) = ((t3.length : Nat) : Int) := by rw [hdif]; exact v2
                have hle3 : ((t3.length : Nat) : Int) ≤ ((t2.length : Nat) : Int) := by omega
                have hl3s : t3.length ≤ (tx t2).size := by rw [htt]; exact hl32
                have hsame : ((tx (s ++ t3)).toList == (tx (s ++ t3)).toList) = true := tx_beq rfl
                have hsame2 : (tx (s ++ t3)).toList = (tx (s ++ t3)).toList := rfl
                have hnz : ¬ (9223372036854775807 < s.length + t2.length) := by omega
                have HRN := Lib.hid hrnl
                clear hrnl
                have hcat : tx s ++ tx t2 = tx (cc s t2) := tx_append' _ _
                have hS : ∀ W, Up wa W → Up wa W := fun W h => h
                clear H8 hup8 HCD
                go_upto_region 26 with fail
                apply Rg.region_up _ (by kernel_rfl) (by kernel_rfl) hS
                · intro QN hQN
                  iterate 3 (apply Rg.RK.ok; (· intro vs w1 hS; go_simp; with_reducible rfl); (· rfl); simp only [Act.put, List.setIfInBounds_toArray, List.set_cons_zero, List.set_cons_succ, Nat.reduceAdd])
                  iterate 5 (apply Rg.RK.gok (t := 98); (· intro vs w1 hS; go_simp; with_reducible rfl); (· rfl); (· intro vs; rfl); simp only [Act.put, List.setIfInBounds_toArray, List.set_cons_zero, List.set_cons_succ, Nat.reduceAdd])
                  iterate 2 (apply Rg.RK.ok; (· intro vs w1 hS; go_simp; with_reducible rfl); (· rfl); simp only [Act.put, List.setIfInBounds_toArray, List.set_cons_zero, List.set_cons_succ, Nat.reduceAdd])
                  iterate 8 (apply Rg.RK.gok (t := 105); (· intro vs w1 hS; go_simp; with_reducible rfl); (· rfl); (· intro vs; rfl); simp only [Act.put, List.setIfInBounds_toArray, List.set_cons_zero, List.set_cons_succ, Nat.reduceAdd])
                  iterate 2 (apply Rg.RK.ok; (· intro vs w1 hS; go_simp; with_reducible rfl); (· rfl); simp only [Act.put, List.setIfInBounds_toArray, List.set_cons_zero, List.set_cons_succ, Nat.reduceAdd])
                  iterate 1 (apply Rg.RK.gok (t := 115); (· intro vs w1 hS; go_simp; with_reducible rfl); (· rfl); (· intro vs; rfl); simp only [Act.put, List.setIfInBounds_toArray, List.set_cons_zero, List.set_cons_succ, Nat.reduceAdd])
                  apply Rg.RK.gok (t := 115) (v := .string (tx (s ++ t3)))
                  · intro vs w1 hS
                    exact exec_str rfl rfl ((OwnB.rd howna).up hS)
                  · rfl
                  · intro vs; rfl
                  simp only [Act.put, List.setIfInBounds_toArray, List.set_cons_zero, List.set_cons_succ, Nat.reduceAdd]
                  iterate 2 (apply Rg.RK.gok (t := 115); (· intro vs w1 hS; go_simp; with_reducible rfl); (· rfl); (· intro vs; rfl); simp only [Act.put, List.setIfInBounds_toArray, List.set_cons_zero, List.set_cons_succ, Nat.reduceAdd])
                  iterate 1 (apply Rg.RK.gok (t := 115); (· intro vs w1 hS; go_simp; with_reducible rfl); (· rfl); (· intro vs; rfl); simp only [Act.put, List.setIfInBounds_toArray, List.set_cons_zero, List.set_cons_succ, Nat.reduceAdd])
                  iterate 2 (apply Rg.RK.gok (t := 115); (· intro vs w1 hS; go_simp; with_reducible rfl); (· rfl); (· intro vs; rfl); simp only [Act.put, List.setIfInBounds_toArray, List.set_cons_zero, List.set_cons_succ, Nat.reduceAdd])
                  apply Rg.RK.gok (t := 115) (v := .string (tx (s ++ t3)))
                  · intro vs w1 hS
                    go_simp
                    first | done | (intro h; omega)
                  · rfl
                  · intro vs; rfl
                  simp only [Act.put, List.setIfInBounds_toArray, List.set_cons_zero, List.set_cons_succ, Nat.reduceAdd]
                  iterate 1 (apply Rg.RK.gok (t := 115); (· intro vs w1 hS; go_simp; with_reducible rfl); (· rfl); (· intro vs; rfl); simp only [Act.put, List.setIfInBounds_toArray, List.set_cons_zero, List.set_cons_succ, Nat.reduceAdd])
                  iterate 1 (apply Rg.RK.ok; (· intro vs w1 hS; go_simp; with_reducible rfl); (· rfl); simp only [Act.put, List.setIfInBounds_toArray, List.set_cons_zero, List.set_cons_succ, Nat.reduceAdd])
                  apply Rg.RK.fin []
                  intro vs w1 hK hS _
                  refine hQN.out _ _ ?_
                  clear hQN
                  go_wp2_with fail
                  have hxt := HXT.out
                  clear hcat hx2
                  go_wp2_with fail
                  go_roundw
                  case rel =>
                    exact ⟨j + 1, h8, t3, (s ++ t3).length, by go_num, by rw [HXT.out], by omega, by omega, HG8, by rw [List.length_append]; omega, by rw [List.length_append]; omega, Ha.up hS, hupa.trans hS⟩
                  case measure => simp [intOf]; omega
                · kernel_rfl
              · have hji : ¬ (j : Int) < 3 := by omega
                have hcu := usedO_any H hok9
                rw [HG.out, dkG_usedO, List.length_append] at hcu
                have HCU := Lib.hid hcu
                have hts : (tx s).size = s.length := tx_size s
                have htt : (tx t2).size = t2.length := tx_size t2
                have v1 : IntKind.i64.wrap ((s.length : Int) + (t2.length : Int)) = (s.length : Int) + (t2.length : Int) := IntWalk.i64_in _ (by omega)
                have hbe : (((s.length + t2.length : Nat) : Int) == (s.length : Int) + (t2.length : Int)) = true := by rw [beq_iff_eq]; omega
                clear hcu H hok9
                go_wp2_with fail
                refine HCU.out.mono ?_
                rintro e wb ⟨rfl, hub⟩
                go_wp2_with fail
                refine (awake4_any _).mono ?_
                rintro e wc ⟨rfl, huc⟩
                go_wp2_with fail
                go_ret
                exact ⟨rfl, (hup.trans hub).trans huc⟩
    · have i1 : ¬ (k : Int) < (m0 : Int) := by omega
      have hsl2 : s.length ≤ 1260 := by omega
      have hok6 : DkOk (dkG [102] s 0 (1 + k) (.map []) [⟨1, 0, [102], []⟩]) := dkG_ok (by omega) (Nat.zero_le _) (.inl rfl) (.inr rfl)
      have hcs := sync_any H hok6 (by simp only [dkG]; omega) [102] (by decide)
      rw [HG.out, dkG_sync (by decide)] at hcs
      (try dsimp only at hcs)
      rw [show ((0 : Nat) : Int) = 0 from rfl] at hcs
      have HCS := Lib.hid hcs
      clear hcs
      go_wp2_with fail
      refine HCS.out.mono ?_
      rintro e w3 ⟨h3, rfl, H3, D3⟩
      have hu3 := D3.below H (Nat.le_refl _) hup
      have hg3 : h3.g = G := D3.g.trans HG.out
      have hok7 : DkOk (dkG [102] s s.length (1 + k + 1) (.map []) [⟨1, 0, [102], []⟩]) := dkG_ok (by omega) (Nat.le_refl _) (.inl rfl) (.inr rfl)
      have hcs := syncDir_any H3 hok7 (by simp only [dkG]; omega)
      rw [hg3, dkG_syncDir] at hcs
      (try dsimp only at hcs)
      rw [show ((0 : Nat) : Int) = 0 from rfl] at hcs
      have HCD := Lib.hid hcs
      have HG3 := Lib.hid hg3
      clear hcs HCS H hup D3 hg3 HG
      go_wp2_with fail
      refine HCD.out.mono ?_
      rintro e w4 ⟨h4, rfl, H4, D4⟩
      have hu4 := D4.below H3 (Nat.le_refl _) hu3
      have hg4 : h4.g = G := D4.g.trans HG3.out
      have HG4 := Lib.hid hg4
      clear HCD H3 D4 hu3 HG3 hg4 i1
      obtain ⟨cn, hcn⟩ : ∃ cn, cn = 1 + k + 1 + 1 := ⟨_, rfl⟩
      rw [← hcn] at H4
      have hcnb : cn ≤ 23 := by omega
      clear hcn
      go_wp2_with fail
      go_loopw [9, 12] (fun tv iv wr => ∃ (k : Nat) (h : Hp) (t : List UInt8), iv = .int .i64 (k : Int) ∧ tv = .string (tx t) ∧ k ≤ 20 ∧ k ≤ m1 ∧ t.length ≤ 63 * k ∧ Hid (h.g = G) ∧ DiskAt w.heap.size h (dkG [102] (s ++ t) s.length (cn + k) (nm1 [102]) []) wr ∧ Up w wr) (fun _ iv _ => 20 - (intOf iv).toNat)
      case atStart => exact ⟨0, h4, [], rfl, rfl, by omega, by omega, by simp, HG4, by rw [List.append_nil]; exact H4, hu4⟩
      case round =>
        obtain ⟨k, h, t, rfl, rfl, hk40, hkm, htl, HG, H, hup⟩ := hrel
        clear H4 hu4
        by_cases hlt : k < m1
        · by_cases h40 : k < 20
          · obtain ⟨b, o, rfl, hbB, hcell0⟩ := (hr1).1.znum hlt
            generalize ((l1).getD k 0).toInt = x at *
            have i1 : (k : Int) < (m1 : Int) := by omega
            have i2 : (k : Int) < 20 := by omega
            obtain ⟨c15, hcc, hcc2⟩ := i64_and_le x 63 (by omega)
            replace hcc : bits .and .i64 x 63 = (c15 : Int) := hcc
            have hcx := (hup.cell (p := ⟨b, o + k, none⟩) hbB).trans hcell0
            clear hcell0
            go_wp2_with fail
            clear hcx hcc
            refine (bytes_any (100 + (k : Int)) c15 _ (by omega) (by omega)).mono ?_
            rintro e w6 ⟨rfl, hu6⟩
            have hpl := bytesL_len (100 + (k : Int)) c15
            generalize bytesL (100 + (k : Int)) c15 = p at *
            have hpl2 : p.length ≤ 63 := by omega
            clear hpl
            have H6 := H.up hu6
            have hup6 := hup.trans hu6
            have hok6 : DkOk (dkG [102] (s ++ t) s.length (cn + k) (nm1 [102]) []) := dkG_ok (by rw [List.length_append]; omega) (by rw [List.length_append]; omega) (.inr rfl) (.inl rfl)
            have hcl6 : (dkG [102] (s ++ t) s.length (cn + k) (nm1 [102]) []).calls ≤ 1000000000 := by simp only [dkG]; omega
            have hst : appendD (dkG [102] (s ++ t) s.length (cn + k) (nm1 [102]) []) [102] p = _ := dkG_append p (by decide) (by rw [List.length_append]; omega)
            clear H hup hu6
            have hcat : tx (t) ++ tx p = tx (cc (t) p) := tx_append' _ _
            have hnz : ¬ (9223372036854775807 < (tx (t)).size + (tx p).size) := by rw [tx_size, tx_size]; omega
            obtain ⟨cb, w7, hconv, hcap, hrd7, hu7, -, hlt7⟩ := conv_b w6 p
            have H7 := H6.up hu7
            have hup7 := hup6.trans hu7
            have hca := dappend_any H7 hok6 hcl6 [102] (by decide) (some ⟨w6.heap.size, 0, none⟩) p.length cb p hrd7 (by omega) (fun y hy hfy => by
              obtain ⟨a, ha, e⟩ := hy
              injection ha with ha
              subst ha
              have h9 := (H6.lt hfy).2
              have e' : w6.heap.size = y := e
              omega)
            rw [HG.out, hst] at hca
            (try dsimp only at hca)
            have HCA := Lib.hid hca
            clear hst hca hrd7 hlt7
            go_wp2_with fail
            clear hconv
            refine HCA.out.mono ?_
            rintro e w8 ⟨h8, rfl, H8, D8⟩
            have hup8 := D8.below H7 (Nat.le_refl _) hup7
            have hg8 : h8.g = G := D8.g.trans HG.out
            have HG8 := Lib.hid hg8
            clear HCA H7 D8 hup7 hu7 hg8 H6 hup6
            go_wp2_with fail
            go_roundw
            case rel => exact ⟨k + 1, h8, t ++ p, by go_num, rfl, by omega, by omega, by rw [List.length_append]; omega, HG8, by rw [← List.append_assoc]; exact H8, hup8⟩
            case measure => simp [intOf]; omega
          · have i1 : (k : Int) < (m1 : Int) := by omega
            have i2 : ¬ (k : Int) < 20 := by omega
            have htl2 : t.length ≤ 1260 := by omega
            have hsl3 : s.length ≤ 1260 := hsl2
            obtain ⟨cm, hcm⟩ : ∃ cm, cm = cn + k := ⟨_, rfl⟩
            rw [← hcm] at H
            have hcmb : cm ≤ 43 := by omega
            clear hcm htl
            go_wp2_with fail
            clear i1
            go_loopw [9, 14] (fun tv iv wr => ∃ (j : Nat) (h : Hp) (t2 : List UInt8) (last : Nat), iv = .int .i64 (j : Int) ∧ tv = .string (tx t2) ∧ j ≤ 3 ∧ t2.length ≤ 1260 ∧ Hid (h.g = G) ∧ s.length ≤ last ∧ last ≤ s.length + t2.length ∧ DiskAt w.heap.size h (dkG [102] (s ++ t2) last cm (nm1 [102]) []) wr ∧ Up w wr) (fun _ iv _ => 3 - (intOf iv).toNat)
            case atStart => exact ⟨0, h, t, s.length, rfl, rfl, by omega, htl2, HG, Nat.le_refl _, by omega, H, hup⟩
            case round =>
              obtain ⟨j, h, t2, last, rfl, rfl, hj3, ht2, HG, hla1, hla2, H, hup⟩ := hrel
              have hok9 : DkOk (dkG [102] (s ++ t2) last cm (nm1 [102]) []) := dkG_ok (by rw [List.length_append]; omega) (by rw [List.length_append]; omega) (.inr rfl) (.inl rfl)
              by_cases hj : j < 3
              · have hji : (j : Int) < 3 := by omega
                obtain ⟨kk, q1, q3⟩ := dkG_crash [102] (s ++ t2) last cm (by rw [List.length_append]; omega) (l2.map Int64.toInt)
                rw [List.length_append] at q1
                obtain ⟨t3, ht3⟩ : ∃ t3, t3 = t2.take (last + kk - s.length) := ⟨_, rfl⟩
                have hl3 : t3.length = last + kk - s.length := by rw [ht3, List.length_take]; omega
                have htk : (s ++ t2).take (last + kk) = s ++ t3 := by rw [List.take_append, List.take_of_length_le (by omega), ht3]
                have hlk : last + kk = (s ++ t3).length := by rw [List.length_append]; omega
                rw [htk, hlk] at q3
                have hcc := crash_any H hok9 A2 m2 c2 (l2.map Int64.toInt) (hkr.up hup) hkc hm2 HKR.out (fun h0 a ha hf => by
                  have h1 := hkl a ha h0
                  have h2 := (H.lt hf).1
                  omega) (fun h0 a ha => Nat.lt_of_lt_of_le (hkl a ha h0) hup.size) (fun x hx => by cases hx)
                rw [HG.out, q3] at hcc
                have HCC := Lib.hid hcc
                have hxt : (tx t2).extract 0 t3.length = tx t3 := by rw [tx_takeL, hl3, ht3]
                have hx2 : (tx (cc s t2)).extract 0 (s.length + t3.length) = tx (s ++ t3) := by
                  rw [tx_takeL]
                  have : s.length + t3.length = last + kk := by omega
                  rw [this]
                  exact congrArg tx htk
                have HXT := Lib.hid hxt
                have HX2 := Lib.hid hx2
                have hl32 : t3.length ≤ t2.length := by omega
                clear hcc q1 q3 hl3 htk hlk ht3 hxt hx2
                go_wp2_with fail
                refine HCC.out.mono ?_
                rintro e w8 ⟨h8, rfl, H8, D8⟩
                have hup8 := D8.below H (Nat.le_refl _) hup
                have hg8 : h8.g = G := D8.g.trans HG.out
                have hok8 : DkOk (dkG [102] (s ++ t3) (s ++ t3).length cm (nm1 [102]) []) := dkG_ok (by rw [List.length_append]; omega) (Nat.le_refl _) (.inr rfl) (.inl rfl)
                have hcd := dread_any H8 hok8 [102] (by decide)
                rw [hg8, dkG_read (by decide)] at hcd
                (try dsimp only at hcd)
                rw [show ((0 : Nat) : Int) = 0 from rfl] at hcd
                have HCD := Lib.hid hcd
                have HG8 := Lib.hid hg8
                clear HCC D8 hcd hg8 H hup hok9
                go_wp2_with fail
                refine HCD.out.mono ?_
                rintro e wa ⟨R, rn, rc, rfl, howna, hua⟩
                have hrnl : rn = s.length + t3.length := by have := (OwnB.rd howna).blen; rw [List.length_append] at this; exact this
                have Ha := H8.up hua
                have hupa := hup8.trans hua
                have hts : (tx s).size = s.length := tx_size s
                have htt : (tx t2).size = t2.length := tx_size t2
                have htc : (tx (cc s t2)).size = s.length + t2.length := by rw [tx_size, cc_length]
                have hx2 : (tx (cc s t2)).extract 0 rn = tx (s ++ t3) := by rw [hrnl]; exact HX2.out
                have hle1 : ((rn : Nat) : Int) ≤ ((s.length + t2.length : Nat) : Int) := by omega
                have dn1 : decide (rn < s.length) = false := by simp; omega
                have dn1i : decide ((rn : Int) < (s.length : Int)) = false := by simp; omega
                have dn2 : decide (s.length + t2.length < rn) = false := by simp; omega
                have dn2i : decide ((s.length : Int) + (t2.length : Int) < (rn : Int)) = false := by simp; omega
                have v1 : IntKind.i64.wrap ((s.length : Int) + (t2.length : Int)) = (s.length : Int) + (t2.length : Int) := IntWalk.i64_in _ (by omega)
                have hdif : (rn : Int) - (s.length : Int) = (t3.length : Int) := by omega
                have v2 : IntKind.i64.wrap ((t3.length : Nat) : Int) = ((t3.length : Nat) : Int) := IntWalk.i64_in _ (by omega)
                have v3 : IntKind.i64.wrap ((rn : Int) - (s.length : Int)) = ((t3.length : Nat) : Int) := by rw [hdif]; exact v2
                have hle3 : ((t3.length : Nat) : Int) ≤ ((t2.length : Nat) : Int) := by omega
                have hl3s : t3.length ≤ (tx t2).size := by rw [htt]; exact hl32
                have hsame : ((tx (s ++ t3)).toList == (tx (s ++ t3)).toList) = true := tx_beq rfl
                have hsame2 : (tx (s ++ t3)).toList = (tx (s ++ t3)).toList := rfl
                have hnz : ¬ (9223372036854775807 < s.length + t2.length) := by omega
                have HRN := Lib.hid hrnl
                clear hrnl
                have hcat : tx s ++ tx t2 = tx (cc s t2) := tx_append' _ _
                have hS : ∀ W, Up wa W → Up wa W := fun W h => h
                clear H8 hup8 HCD
                go_upto_region 26 with fail
                apply Rg.region_up _ (by kernel_rfl) (by kernel_rfl) hS
                · intro QN hQN
                  iterate 3 (apply Rg.RK.ok; (· intro vs w1 hS; go_simp; with_reducible rfl); (· rfl); simp only [Act.put, List.setIfInBounds_toArray, List.set_cons_zero, List.set_cons_succ, Nat.reduceAdd])
                  iterate 5 (apply Rg.RK.gok (t := 98); (· intro vs w1 hS; go_simp; with_reducible rfl); (· rfl); (· intro vs; rfl); simp only [Act.put, List.setIfInBounds_toArray, List.set_cons_zero, List.set_cons_succ, Nat.reduceAdd])
                  iterate 2 (apply Rg.RK.ok; (· intro vs w1 hS; go_simp; with_reducible rfl); (· rfl); simp only [Act.put, List.setIfInBounds_toArray, List.set_cons_zero, List.set_cons_succ, Nat.reduceAdd])
                  iterate 8 (apply Rg.RK.gok (t := 105); (· intro vs w1 hS; go_simp; with_reducible rfl); (· rfl); (· intro vs; rfl); simp only [Act.put, List.setIfInBounds_toArray, List.set_cons_zero, List.set_cons_succ, Nat.reduceAdd])
                  iterate 2 (apply Rg.RK.ok; (· intro vs w1 hS; go_simp; with_reducible rfl); (· rfl); simp only [Act.put, List.setIfInBounds_toArray, List.set_cons_zero, List.set_cons_succ, Nat.reduceAdd])
                  iterate 1 (apply Rg.RK.gok (t := 115); (· intro vs w1 hS; go_simp; with_reducible rfl); (· rfl); (· intro vs; rfl); simp only [Act.put, List.setIfInBounds_toArray, List.set_cons_zero, List.set_cons_succ, Nat.reduceAdd])
                  apply Rg.RK.gok (t := 115) (v := .string (tx (s ++ t3)))
                  · intro vs w1 hS
                    exact exec_str rfl rfl ((OwnB.rd howna).up hS)
                  · rfl
                  · intro vs; rfl
                  simp only [Act.put, List.setIfInBounds_toArray, List.set_cons_zero, List.set_cons_succ, Nat.reduceAdd]
                  iterate 2 (apply Rg.RK.gok (t := 115); (· intro vs w1 hS; go_simp; with_reducible rfl); (· rfl); (· intro vs; rfl); simp only [Act.put, List.setIfInBounds_toArray, List.set_cons_zero, List.set_cons_succ, Nat.reduceAdd])
                  iterate 1 (apply Rg.RK.gok (t := 115); (· intro vs w1 hS; go_simp; with_reducible rfl); (· rfl); (· intro vs; rfl); simp only [Act.put, List.setIfInBounds_toArray, List.set_cons_zero, List.set_cons_succ, Nat.reduceAdd])
                  iterate 2 (apply Rg.RK.gok (t := 115); (· intro vs w1 hS; go_simp; with_reducible rfl); (· rfl); (· intro vs; rfl); simp only [Act.put, List.setIfInBounds_toArray, List.set_cons_zero, List.set_cons_succ, Nat.reduceAdd])
                  apply Rg.RK.gok (t := 115) (v := .string (tx (s ++ t3)))
                  · intro vs w1 hS
                    go_simp
                    first | done | (intro h; omega)
                  · rfl
                  · intro vs; rfl
                  simp only [Act.put, List.setIfInBounds_toArray, List.set_cons_zero, List.set_cons_succ, Nat.reduceAdd]
                  iterate 1 (apply Rg.RK.gok (t := 115); (· intro vs w1 hS; go_simp; with_reducible rfl); (· rfl); (· intro vs; rfl); simp only [Act.put, List.setIfInBounds_toArray, List.set_cons_zero, List.set_cons_succ, Nat.reduceAdd])
                  iterate 1 (apply Rg.RK.ok; (· intro vs w1 hS; go_simp; with_reducible rfl); (· rfl); simp only [Act.put, List.setIfInBounds_toArray, List.set_cons_zero, List.set_cons_succ, Nat.reduceAdd])
                  apply Rg.RK.fin []
                  intro vs w1 hK hS _
                  refine hQN.out _ _ ?_
                  clear hQN
                  go_wp2_with fail
                  have hxt := HXT.out
                  clear hcat hx2
                  go_wp2_with fail
                  go_roundw
                  case rel =>
                    exact ⟨j + 1, h8, t3, (s ++ t3).length, by go_num, by rw [HXT.out], by omega, by omega, HG8, by rw [List.length_append]; omega, by rw [List.length_append]; omega, Ha.up hS, hupa.trans hS⟩
                  case measure => simp [intOf]; omega
                · kernel_rfl
              · have hji : ¬ (j : Int) < 3 := by omega
                have hcu := usedO_any H hok9
                rw [HG.out, dkG_usedO, List.length_append] at hcu
                have HCU := Lib.hid hcu
                have hts : (tx s).size = s.length := tx_size s
                have htt : (tx t2).size = t2.length := tx_size t2
                have v1 : IntKind.i64.wrap ((s.length : Int) + (t2.length : Int)) = (s.length : Int) + (t2.length : Int) := IntWalk.i64_in _ (by omega)
                have hbe : (((s.length + t2.length : Nat) : Int) == (s.length : Int) + (t2.length : Int)) = true := by rw [beq_iff_eq]; omega
                clear hcu H hok9
                go_wp2_with fail
                refine HCU.out.mono ?_
                rintro e wb ⟨rfl, hub⟩
                go_wp2_with fail
                refine (awake4_any _).mono ?_
                rintro e wc ⟨rfl, huc⟩
                go_wp2_with fail
                go_ret
                exact ⟨rfl, (hup.trans hub).trans huc⟩
        · have i1 : ¬ (k : Int) < (m1 : Int) := by omega
          have htl2 : t.length ≤ 1260 := by omega
          have hsl3 : s.length ≤ 1260 := hsl2
          obtain ⟨cm, hcm⟩ : ∃ cm, cm = cn + k := ⟨_, rfl⟩
          rw [← hcm] at H
          have hcmb : cm ≤ 43 := by omega
          clear hcm htl
          go_wp2_with fail
          clear i1
          go_loopw [9, 14] (fun tv iv wr => ∃ (j : Nat) (h : Hp) (t2 : List UInt8) (last : Nat), iv = .int .i64 (j : Int) ∧ tv = .string (tx t2) ∧ j ≤ 3 ∧ t2.length ≤ 1260 ∧ Hid (h.g = G) ∧ s.length ≤ last ∧ last ≤ s.length + t2.length ∧ DiskAt w.heap.size h (dkG [102] (s ++ t2) last cm (nm1 [102]) []) wr ∧ Up w wr) (fun _ iv _ => 3 - (intOf iv).toNat)
          case atStart => exact ⟨0, h, t, s.length, rfl, rfl, by omega, htl2, HG, Nat.le_refl _, by omega, H, hup⟩
          case round =>
            obtain ⟨j, h, t2, last, rfl, rfl, hj3, ht2, HG, hla1, hla2, H, hup⟩ := hrel
            have hok9 : DkOk (dkG [102] (s ++ t2) last cm (nm1 [102]) []) := dkG_ok (by rw [List.length_append]; omega) (by rw [List.length_append]; omega) (.inr rfl) (.inl rfl)
            by_cases hj : j < 3
            · have hji : (j : Int) < 3 := by omega
              obtain ⟨kk, q1, q3⟩ := dkG_crash [102] (s ++ t2) last cm (by rw [List.length_append]; omega) (l2.map Int64.toInt)
              rw [List.length_append] at q1
              obtain ⟨t3, ht3⟩ : ∃ t3, t3 = t2.take (last + kk - s.length) := ⟨_, rfl⟩
              have hl3 : t3.length = last + kk - s.length := by rw [ht3, List.length_take]; omega
              have htk : (s ++ t2).take (last + kk) = s ++ t3 := by rw [List.take_append, List.take_of_length_le (by omega), ht3]
              have hlk : last + kk = (s ++ t3).length := by rw [List.length_append]; omega
              rw [htk, hlk] at q3
              have hcc := crash_any H hok9 A2 m2 c2 (l2.map Int64.toInt) (hkr.up hup) hkc hm2 HKR.out (fun h0 a ha hf => by
                have h1 := hkl a ha h0
                have h2 := (H.lt hf).1
                omega) (fun h0 a ha => Nat.lt_of_lt_of_le (hkl a ha h0) hup.size) (fun x hx => by cases hx)
              rw [HG.out, q3] at hcc
              have HCC := Lib.hid hcc
              have hxt : (tx t2).extract 0 t3.length = tx t3 := by rw [tx_takeL, hl3, ht3]
              have hx2 : (tx (cc s t2)).extract 0 (s.length + t3.length) = tx (s ++ t3) := by
                rw [tx_takeL]
                have : s.length + t3.length = last + kk := by omega
                rw [this]
                exact congrArg tx htk
              have HXT := Lib.hid hxt
              have HX2 := Lib.hid hx2
              have hl32 : t3.length ≤ t2.length := by omega
              clear hcc q1 q3 hl3 htk hlk ht3 hxt hx2
              go_wp2_with fail
              refine HCC.out.mono ?_
              rintro e w8 ⟨h8, rfl, H8, D8⟩
              have hup8 := D8.below H (Nat.le_refl _) hup
              have hg8 : h8.g = G := D8.g.trans HG.out
              have hok8 : DkOk (dkG [102] (s ++ t3) (s ++ t3).length cm (nm1 [102]) []) := dkG_ok (by rw [List.length_append]; omega) (Nat.le_refl _) (.inr rfl) (.inl rfl)
              have hcd := dread_any H8 hok8 [102] (by decide)
              rw [hg8, dkG_read (by decide)] at hcd
              (try dsimp only at hcd)
              rw [show ((0 : Nat) : Int) = 0 from rfl] at hcd
              have HCD := Lib.hid hcd
              have HG8 := Lib.hid hg8
              clear HCC D8 hcd hg8 H hup hok9
              go_wp2_with fail
              refine HCD.out.mono ?_
              rintro e wa ⟨R, rn, rc, rfl, howna, hua⟩
              have hrnl : rn = s.length + t3.length := by have := (OwnB.rd howna).blen; rw [List.length_append] at this; exact this
              have Ha := H8.up hua
              have hupa := hup8.trans hua
              have hts : (tx s).size = s.length := tx_size s
              have htt : (tx t2).size = t2.length := tx_size t2
              have htc : (tx (cc s t2)).size = s.length + t2.length := by rw [tx_size, cc_length]
              have hx2 : (tx (cc s t2)).extract 0 rn = tx (s ++ t3) := by rw [hrnl]; exact HX2.out
              have hle1 : ((rn : Nat) : Int) ≤ ((s.length + t2.length : Nat) : Int) := by omega
              have dn1 : decide (rn < s.length) = false := by simp; omega
              have dn1i : decide ((rn : Int) < (s.length : Int)) = false := by simp; omega
              have dn2 : decide (s.length + t2.length < rn) = false := by simp; omega
              have dn2i : decide ((s.length : Int) + (t2.length : Int) < (rn : Int)) = false := by simp; omega
              have v1 : IntKind.i64.wrap ((s.length : Int) + (t2.length : Int)) = (s.length : Int) + (t2.length : Int) := IntWalk.i64_in _ (by omega)
              have hdif : (rn : Int) - (s.length : Int) = (t3.length : Int) := by omega
              have v2 : IntKind.i64.wrap ((t3.length : Nat) : Int) = ((t3.length : Nat) : Int) := IntWalk.i64_in _ (by omega)
              have v3 : IntKind.i64.wrap ((rn : Int) - (s.length : Int)) = ((t3.length : Nat) : Int) := by rw [hdif]; exact v2
              have hle3 : ((t3.length : Nat) : Int) ≤ ((t2.length : Nat) : Int) := by omega
              have hl3s : t3.length ≤ (tx t2).size := by rw [htt]; exact hl32
              have hsame : ((tx (s ++ t3)).toList == (tx (s ++ t3)).toList) = true := tx_beq rfl
              have hsame2 : (tx (s ++ t3)).toList = (tx (s ++ t3)).toList := rfl
              have hnz : ¬ (9223372036854775807 < s.length + t2.length) := by omega
              have HRN := Lib.hid hrnl
              clear hrnl
              have hcat : tx s ++ tx t2 = tx (cc s t2) := tx_append' _ _
              have hS : ∀ W, Up wa W → Up wa W := fun W h => h
              clear H8 hup8 HCD
              go_upto_region 26 with fail
              apply Rg.region_up _ (by kernel_rfl) (by kernel_rfl) hS
              · intro QN hQN
                iterate 3 (apply Rg.RK.ok; (· intro vs w1 hS; go_simp; with_reducible rfl); (· rfl); simp only [Act.put, List.setIfInBounds_toArray, List.set_cons_zero, List.set_cons_succ, Nat.reduceAdd])
                iterate 5 (apply Rg.RK.gok (t := 98); (· intro vs w1 hS; go_simp; with_reducible rfl); (· rfl); (· intro vs; rfl); simp only [Act.put, List.setIfInBounds_toArray, List.set_cons_zero, List.set_cons_succ, Nat.reduceAdd])
                iterate 2 (apply Rg.RK.ok; (· intro vs w1 hS; go_simp; with_reducible rfl); (· rfl); simp only [Act.put, List.setIfInBounds_toArray, List.set_cons_zero, List.set_cons_succ, Nat.reduceAdd])
                iterate 8 (apply Rg.RK.gok (t := 105); (· intro vs w1 hS; go_simp; with_reducible rfl); (· rfl); (· intro vs; rfl); simp only [Act.put, List.setIfInBounds_toArray, List.set_cons_zero, List.set_cons_succ, Nat.reduceAdd])
                iterate 2 (apply Rg.RK.ok; (· intro vs w1 hS; go_simp; with_reducible rfl); (· rfl); simp only [Act.put, List.setIfInBounds_toArray, List.set_cons_zero, List.set_cons_succ, Nat.reduceAdd])
                iterate 1 (apply Rg.RK.gok (t := 115); (· intro vs w1 hS; go_simp; with_reducible rfl); (· rfl); (· intro vs; rfl); simp only [Act.put, List.setIfInBounds_toArray, List.set_cons_zero, List.set_cons_succ, Nat.reduceAdd])
                apply Rg.RK.gok (t := 115) (v := .string (tx (s ++ t3)))
                · intro vs w1 hS
                  exact exec_str rfl rfl ((OwnB.rd howna).up hS)
                · rfl
                · intro vs; rfl
                simp only [Act.put, List.setIfInBounds_toArray, List.set_cons_zero, List.set_cons_succ, Nat.reduceAdd]
                iterate 2 (apply Rg.RK.gok (t := 115); (· intro vs w1 hS; go_simp; with_reducible rfl); (· rfl); (· intro vs; rfl); simp only [Act.put, List.setIfInBounds_toArray, List.set_cons_zero, List.set_cons_succ, Nat.reduceAdd])
                iterate 1 (apply Rg.RK.gok (t := 115); (· intro vs w1 hS; go_simp; with_reducible rfl); (· rfl); (· intro vs; rfl); simp only [Act.put, List.setIfInBounds_toArray, List.set_cons_zero, List.set_cons_succ, Nat.reduceAdd])
                iterate 2 (apply Rg.RK.gok (t := 115); (· intro vs w1 hS; go_simp; with_reducible rfl); (· rfl); (· intro vs; rfl); simp only [Act.put, List.setIfInBounds_toArray, List.set_cons_zero, List.set_cons_succ, Nat.reduceAdd])
                apply Rg.RK.gok (t := 115) (v := .string (tx (s ++ t3)))
                · intro vs w1 hS
                  go_simp
                  first | done | (intro h; omega)
                · rfl
                · intro vs; rfl
                simp only [Act.put, List.setIfInBounds_toArray, List.set_cons_zero, List.set_cons_succ, Nat.reduceAdd]
                iterate 1 (apply Rg.RK.gok (t := 115); (· intro vs w1 hS; go_simp; with_reducible rfl); (· rfl); (· intro vs; rfl); simp only [Act.put, List.setIfInBounds_toArray, List.set_cons_zero, List.set_cons_succ, Nat.reduceAdd])
                iterate 1 (apply Rg.RK.ok; (· intro vs w1 hS; go_simp; with_reducible rfl); (· rfl); simp only [Act.put, List.setIfInBounds_toArray, List.set_cons_zero, List.set_cons_succ, Nat.reduceAdd])
                apply Rg.RK.fin []
                intro vs w1 hK hS _
                refine hQN.out _ _ ?_
                clear hQN
                go_wp2_with fail
                have hxt := HXT.out
                clear hcat hx2
                go_wp2_with fail
                go_roundw
                case rel =>
                  exact ⟨j + 1, h8, t3, (s ++ t3).length, by go_num, by rw [HXT.out], by omega, by omega, HG8, by rw [List.length_append]; omega, by rw [List.length_append]; omega, Ha.up hS, hupa.trans hS⟩
                case measure => simp [intOf]; omega
              · kernel_rfl
            · have hji : ¬ (j : Int) < 3 := by omega
              have hcu := usedO_any H hok9
              rw [HG.out, dkG_usedO, List.length_append] at hcu
              have HCU := Lib.hid hcu
              have hts : (tx s).size = s.length := tx_size s
              have htt : (tx t2).size = t2.length := tx_size t2
              have v1 : IntKind.i64.wrap ((s.length : Int) + (t2.length : Int)) = (s.length : Int) + (t2.length : Int) := IntWalk.i64_in _ (by omega)
              have hbe : (((s.length + t2.length : Nat) : Int) == (s.length : Int) + (t2.length : Int)) = true := by rw [beq_iff_eq]; omega
              clear hcu H hok9
              go_wp2_with fail
              refine HCU.out.mono ?_
              rintro e wb ⟨rfl, hub⟩
              go_wp2_with fail
              refine (awake4_any _).mono ?_
              rintro e wc ⟨rfl, huc⟩
              go_wp2_with fail
              go_ret
              exact ⟨rfl, (hup.trans hub).trans huc⟩
end Go.Proofs.Ytebhhfmekmpnkaa.diskLasts

/-
  'clepsydra/clepsydralaw4.DiskLasts': for every input the law returns true; each argument reads behind the call as it read before. No condition.
-/
namespace Go.Proofs.Ytebhhfmekmpnkaa.diskLasts
open Go.ChangeShapes Go.WideShapes Go.ChangeAt Go.RowKit
open Go.ChangeMaps (open_string shut_string)
set_option linter.unusedVariables false

set_option maxRecDepth 100000 in
theorem lifted (os : Os) (started : os.Started) (H : Type) (enc : TypeId × Value → H) :
    ReturnsInHanded {} Try.checked os 6 .any (Rows.diskLastsSpec.pre6 enc Try.prog Try.f6 Rows.diskLastsRow.domain false) (Rows.diskLastsSpec.post enc Try.prog Try.f6 false true false false) := by
  refine returnsInHanded_of_change (C := Try.checked) prog_own started (by kernel_rfl) Try.func6
    (ChangeSpec.witness6 (enc := enc) (C := Try.checked) false ⟨#[], #[.slice none 0 0, .slice none 0 0, .slice none 0 0], []⟩ 8 (by kernel_rfl) (by kernel_rfl) (by kernel_rfl) (by kernel_rfl)) ?_
  intro W base args ds gs before hval0 hW hcnd _
  have hval : ∀ (j : Nat) t v, Try.f6.params[j]? = some t → args[j]? = some v → Value.okWide Try.prog W .any base t v := hval0
  have hW' := hW
  obtain ⟨p, q, hA0, hV, rfl, hfz, hnd⟩ := hW
  have hA : DataW.TrodAll enc Try.prog W 0 (fun _ => true) true Try.f6.params.toList args.toList ds p := hA0
  rw [Try.params6] at hA hval
  obtain ⟨v0, vs0, d0, ds0, p0, q0, hargs, rfl, rfl, h0, r0⟩ := trodAll_cons hA
  obtain ⟨v1, vs1, d1, ds1, p1, q1, rfl, rfl, rfl, h1, r1⟩ := trodAll_cons r0
  obtain ⟨v2, vs2, d2, ds2, p2, q2, rfl, rfl, rfl, h2, r2⟩ := trodAll_cons r1
  obtain ⟨rfl, rfl, rfl⟩ := trodAll_nil r2
  obtain rfl : args = #[v0, v1, v2] := by cases args; simp_all
  obtain ⟨rfl, rfl⟩ := trodVars_none hV
  obtain ⟨a0, len0, cap0, rfl⟩ := okWide_slice Try.underlying22 (hval 0 22 v0 rfl rfl)
  have k0 := h0
  have lt0 : ∀ x ∈ p0, x.block < W.heap.size := by obtain ⟨m, hm⟩ := k0; exact DataW.trod_lt m _ _ _ hm
  obtain ⟨l0, w0⟩ := is_z h0
  obtain ⟨a1, len1, cap1, rfl⟩ := okWide_slice Try.underlying22 (hval 1 22 v1 rfl rfl)
  have k1 := h1
  have lt1 : ∀ x ∈ p1, x.block < W.heap.size := by obtain ⟨m, hm⟩ := k1; exact DataW.trod_lt m _ _ _ hm
  obtain ⟨l1, w1⟩ := is_z h1
  obtain ⟨a2, len2, cap2, rfl⟩ := okWide_slice Try.underlying22 (hval 2 22 v2 rfl rfl)
  have k2 := h2
  have lt2 : ∀ x ∈ p2, x.block < W.heap.size := by obtain ⟨m, hm⟩ := k2; exact DataW.trod_lt m _ _ _ hm
  obtain ⟨l2, w2⟩ := is_z h2
  clear hA0 hval0
  refine (law_any a0 len0 cap0 l0 a1 len1 cap1 l1 a2 len2 cap2 l2 W w0 w1 w2).mono fun e W' ⟨he, bel⟩ => ?_
  subst he
  exact ⟨_, rfl, _, _, _, [], _, [], hW', trodAll_mk1 (shut_bool Try.underlying4 _), (trodAll_cons_mk (Below.trod laidOut (by kernel_rfl) (of_decide_eq_true (by kernel_rfl)) k0 bel lt0) (trodAll_cons_mk (Below.trod laidOut (by kernel_rfl) (of_decide_eq_true (by kernel_rfl)) k1 bel lt1) (trodAll_cons_mk (Below.trod laidOut (by kernel_rfl) (of_decide_eq_true (by kernel_rfl)) k2 bel lt2) trodAll_mk0))), rfl, bel.frame _, fun h => by cases h⟩

theorem proved : Rows.DiskLastsSaid :=
  OpenClaim.holds_of_wide 6 Try.f6 rfl rfl rfl rfl rfl rfl rfl ⟨rfl, rfl, rfl, rfl, rfl⟩ rfl rfl rfl rfl rfl (by kernel_rfl) Try.func6 (by kernel_rfl)
    (of_decide_eq_true (by kernel_rfl)) (by unfold Func.isWrapper; first | (rw [if_pos (by decide +kernel)]; kernel_rfl) | (rw [if_neg (by decide +kernel)]; exact ⟨rfl, rfl⟩))
    (fun os started H enc _ => lifted os started H enc)
#print axioms proved
end Go.Proofs.Ytebhhfmekmpnkaa.diskLasts
