/-
  'clepsydra/clepsydralaw4.DiskStops': for every input the law returns true; each argument reads behind the call as it read before. No condition.
-/
import Derived.Laws.BitsAllLaws
import Derived.IntWalk
import Derived.Test.YtebhhfmekmpnkaaZ3
/-
  The law DiskStops: the walk.
-/
namespace Go.Proofs.Ytebhhfmekmpnkaa.diskStops
open Go.RowKit Go.Maps
set_option linter.unusedVariables false
set_option linter.unusedSimpArgs false

set_option maxRecDepth 100000 in
set_option maxHeartbeats 4000000 in
theorem law_any (n0 f0 : Int) (A : Option Addr) (m c : Nat) (l : List Int64) (w : World) (x0 : -9223372036854775808 ≤ n0 ∧ n0 ≤ 9223372036854775807) (x1 : -9223372036854775808 ≤ f0 ∧ f0 ≤ 9223372036854775807) (hr : IsZ w A m c l) :
    Calls Try.prog 3 #[.int .i64 n0, .int .i64 f0, .slice A m c] w fun e w' => e = .returned (.bool true) ∧ Up w w' := by
  have hm : m ≤ 9223372036854775807 := by have := hr.2; omega
  obtain ⟨n, hn, hn2⟩ := i64_and_le n0 31 (by omega)
  obtain ⟨f, hf, hf2⟩ := i64_and_le f0 31 (by omega)
  replace hn : bits .and .i64 n0 31 = (n : Int) := hn
  replace hf : bits .and .i64 f0 31 = (f : Int) := hf
  obtain ⟨e0, e1, e2⟩ := stD_start n f
  obtain ⟨da, hda⟩ : ∃ d, d = newD 1048576 := ⟨_, rfl⟩
  rw [← hda] at e0 e1 e2
  obtain ⟨db, hdb⟩ : ∃ d, d = (createD da [102]).1 := ⟨_, rfl⟩
  rw [← hdb] at e0 e2
  obtain ⟨dc, hdc⟩ : ∃ d, d = (syncDirD db).1 := ⟨_, rfl⟩
  rw [← hdc] at e0
  have oka : DkOk da := by rw [hda]; exact newD_ok (by omega)
  have na : da.files.length = 0 ∧ da.turns.length = 0 ∧ da.calls = 0 := by rw [hda]; exact ⟨rfl, rfl, rfl⟩
  have okb : DkOk db := by rw [hdb]; exact createD_ok oka [102] (by omega) (by omega)
  have nb : db.calls = 1 := by rw [hdb, hda]; rfl
  have HDA := Lib.hid hda
  have HDB := Lib.hid hdb
  have HDC := Lib.hid hdc
  have E0 := Lib.hid e0
  have E1 := Lib.hid e1
  have E2 := Lib.hid e2
  have NA := Lib.hid na
  have NB := Lib.hid nb
  clear hda hdb hdc e0 e1 e2 na nb
  go_enter Try.func3, Try.ntmps3
  go_wp2_with fail
  refine (dnew_any 1048576 w).mono ?_
  rintro e w1 ⟨h1, rfl, H1, hu1, hf1⟩
  rw [← HDA.out] at H1
  go_wp2_with fail
  refine (create_any H1 oka (by have := NA.out; omega) (by have := NA.out; omega) (by have := NA.out; omega) [102] (by decide)).mono ?_
  rintro e w2 ⟨h2, rfl, H2, D2⟩
  rw [E1.out]
  rw [← HDB.out] at H2
  have hu2 := D2.below H1 (Nat.le_refl _) hu1
  have hcb := syncDir_any H2 okb (by have := NB.out; omega)
  rw [D2.g] at hcb
  have HCB := Lib.hid hcb
  have HG2 := Lib.hid D2.g
  clear hcb H1 D2 hu1 hf1
  go_wp2_with fail
  refine HCB.out.mono ?_
  rintro e w3 ⟨h3, rfl, H3, D3⟩
  rw [E2.out]
  rw [← HDC.out] at H3
  have hu3 := D3.below H2 (Nat.le_refl _) hu2
  have hg3 : h3.g = h1.g := D3.g.trans HG2.out
  have hcs := stop_any H3 (n : Int)
  rw [hg3] at hcs
  have HCS := Lib.hid hcs
  have HG3 := Lib.hid hg3
  clear HCB hcs H2 D3 HG2 hu2 hg3
  go_wp2_with fail
  refine HCS.out.mono ?_
  rintro e w4 ⟨rfl, H4, D4⟩
  have hu4 := D4.below H3 (Nat.le_refl _) hu3
  have hcf := fail_any H4 (f : Int)
  rw [HG3.out] at hcf
  have HCF := Lib.hid hcf
  clear HCS hcf H3 D4 hu3
  go_wp2_with fail
  refine HCF.out.mono ?_
  rintro e w5 ⟨rfl, H5, D5⟩
  have hu5 := D5.below H4 (Nat.le_refl _) hu4
  have hd5 : { stopD dc (n : Int) with fail := (f : Int).toNat } = stD n f 0 [] := by rw [← E0.out]; simp [stopD]
  rw [hd5] at H5
  have hb5 : w.heap.size ≤ w.heap.size := Nat.le_refl _
  generalize hG : h1.g = G at *
  clear HCF H4 D5 hu4 hd5 hn hf
  go_wp2_with fail
  go_loopw [8, 9] (fun sv iv wr => ∃ (k : Nat) (h : Hp) (s : List UInt8), iv = .int .i64 ((k : Int) + 1) ∧ sv = .string (tx s) ∧ k ≤ 40 ∧ k ≤ m ∧ s.length ≤ 15 * k ∧ Hid (h.g = G) ∧ DiskAt w.heap.size h (stD n f k s) wr ∧ Up w wr) (fun _ iv _ => 41 - (intOf iv).toNat)
  case atStart => exact ⟨0, h3, [], rfl, rfl, by omega, by omega, by simp, HG3, H5, hu5⟩
  case round =>
    obtain ⟨k, h, s, rfl, rfl, hk40, hkm, hsl, HG, H, hup⟩ := hrel
    clear H5 hu5
    by_cases hlt : k < m
    · by_cases h40 : k < 40
      · obtain ⟨b, o, rfl, hbB, hcell0⟩ := hr.1.znum hlt
        generalize (l.getD k 0).toInt = x at *
        have i1 : (k : Int) + 1 ≤ (m : Int) := by omega
        have i2 : (k : Int) + 1 ≤ 40 := by omega
        have i3 : (k : Int) < (m : Int) := by omega
        have hki : (k : Int) + 1 - 1 = (k : Int) := by omega
        obtain ⟨c15, hcc, hcc2⟩ := i64_and_le x 15 (by omega)
        replace hcc : bits .and .i64 x 15 = (c15 : Int) := hcc
        have hcx := (hup.cell (p := ⟨b, o + k, none⟩) hbB).trans hcell0
        clear hcell0
        go_wp2_with fail
        clear hcx hcc
        refine (bytes_any ((k : Int) + 1) c15 _ (by omega) (by omega)).mono ?_
        rintro e w6 ⟨rfl, hu6⟩
        have hpl := bytesL_len ((k : Int) + 1) c15
        generalize bytesL ((k : Int) + 1) c15 = p at *
        have hpl2 : p.length ≤ 15 := by omega
        clear hpl
        have H6 := H.up hu6
        have hup6 := hup.trans hu6
        have hok6 : DkOk (stD n f k s) := dk1_ok (by omega) (Nat.zero_le _) (by omega) (by omega) (by omega)
        have hcl6 : (stD n f k s).calls ≤ 1000000000 := by show 2 + k ≤ _; omega
        clear H hup hu6
        by_cases w1c : n < k + 1
        · have hwn : wantN n f (k + 1) = 50 := by unfold wantN; rw [if_pos w1c]
          have w1i : (n : Int) < (k : Int) + 1 := by omega
          rw [show stD n f k s = stD n f k s from rfl] at H6
          obtain ⟨cb, w7, hconv, hcap, hrd7, hu7, -, hlt7⟩ := conv_b w6 p
          have H7 := H6.up hu7
          have hup7 := hup6.trans hu7
          have hst := stD_step n f k s p (by omega)
          rw [hwn, if_neg (by decide)] at hst
          have hca := dappend_any H7 hok6 hcl6 [102] (by decide) (some ⟨w6.heap.size, 0, none⟩) p.length cb p hrd7 (by omega) (fun y hy hfy => by
            obtain ⟨a, ha, e⟩ := hy
            injection ha with ha
            subst ha
            have h9 := (H6.lt hfy).2
            have e' : w6.heap.size = y := e
            omega)
          rw [HG.out, hst] at hca
          (try dsimp only at hca)
          have HCA := Lib.hid hca
          have HWN := Lib.hid hwn
          clear hst hca hrd7 hwn hlt7
          go_wp2_with fail
          clear hconv
          refine HCA.out.mono ?_
          rintro e w8 ⟨h8, rfl, H8, D8⟩
          have hup8 := D8.below H7 (Nat.le_refl _) hup7
          have hg8 : h8.g = G := D8.g.trans HG.out
          have hcd := dead_any H8
          rw [hg8] at hcd
          have HCD := Lib.hid hcd
          have HG8 := Lib.hid hg8
          clear HCA H7 D8 hup7 hu7 hcd hg8 H6 hup6
          go_wp2_with fail
          refine HCD.out.mono ?_
          rintro e w9 ⟨rfl, rfl⟩
          have hdv : (stD n f (k + 1) (s)).dead = decide (n ≤ k + 1) := rfl
          rw [hdv]
          clear HCD hdv
          have hnk : n ≤ k + 1 := by omega
          rw [decide_eq_true hnk]
          have hnki : (n : Int) ≤ (k : Int) + 1 := by omega
          clear hnk
          go_wp2_with fail
          go_roundw
          case rel => exact ⟨k + 1, h8, s, by go_num, rfl, by omega, by omega, by omega, HG8, H8, hup8⟩
          case measure => simp [intOf]; omega
        · have w1i : ¬ (n : Int) < (k : Int) + 1 := by omega
          by_cases w2c : k + 1 = f
          · have hwn : wantN n f (k + 1) = 15 := by unfold wantN; rw [if_neg w1c, if_pos w2c]
            have w2i : ((k : Int) + 1 == (f : Int)) = true := by rw [beq_iff_eq]; omega
            have W2 := Lib.hid w2c
            clear w2c
            obtain ⟨cb, w7, hconv, hcap, hrd7, hu7, -, hlt7⟩ := conv_b w6 p
            have H7 := H6.up hu7
            have hup7 := hup6.trans hu7
            have hst := stD_step n f k s p (by omega)
            rw [hwn, if_neg (by decide)] at hst
            have hca := dappend_any H7 hok6 hcl6 [102] (by decide) (some ⟨w6.heap.size, 0, none⟩) p.length cb p hrd7 (by omega) (fun y hy hfy => by
              obtain ⟨a, ha, e⟩ := hy
              injection ha with ha
              subst ha
              have h9 := (H6.lt hfy).2
              have e' : w6.heap.size = y := e
              omega)
            rw [HG.out, hst] at hca
            (try dsimp only at hca)
            have HCA := Lib.hid hca
            have HWN := Lib.hid hwn
            clear hst hca hrd7 hwn hlt7
            go_wp2_with fail
            clear hconv
            refine HCA.out.mono ?_
            rintro e w8 ⟨h8, rfl, H8, D8⟩
            have hup8 := D8.below H7 (Nat.le_refl _) hup7
            have hg8 : h8.g = G := D8.g.trans HG.out
            have hcd := dead_any H8
            rw [hg8] at hcd
            have HCD := Lib.hid hcd
            have HG8 := Lib.hid hg8
            clear HCA H7 D8 hup7 hu7 hcd hg8 H6 hup6
            go_wp2_with fail
            refine HCD.out.mono ?_
            rintro e w9 ⟨rfl, rfl⟩
            have hdv : (stD n f (k + 1) (s)).dead = decide (n ≤ k + 1) := rfl
            rw [hdv]
            clear HCD hdv
            by_cases hnk : n ≤ k + 1
            · rw [decide_eq_true hnk]
              have hnki : (n : Int) ≤ (k : Int) + 1 := by omega
              clear hnk
              go_wp2_with fail
              go_roundw
              case rel => exact ⟨k + 1, h8, s, by go_num, rfl, by omega, by omega, by omega, HG8, H8, hup8⟩
              case measure => simp [intOf]; omega
            · rw [decide_eq_false hnk]
              have hnki : ¬ (n : Int) ≤ (k : Int) + 1 := by omega
              clear hnk
              go_wp2_with fail
              go_roundw
              case rel => exact ⟨k + 1, h8, s, by go_num, rfl, by omega, by omega, by omega, HG8, H8, hup8⟩
              case measure => simp [intOf]; omega
          · have hwn : wantN n f (k + 1) = 0 := by unfold wantN; rw [if_neg w1c, if_neg w2c]
            have w2i : ((k : Int) + 1 == (f : Int)) = false := by rw [beq_eq_false_iff_ne]; omega
            have hcat : tx s ++ tx p = tx (cc s p) := tx_append' _ _
            have hnz : ¬ (9223372036854775807 < (tx s).size + (tx p).size) := by rw [tx_size, tx_size]; omega
            obtain ⟨cb, w7, hconv, hcap, hrd7, hu7, -, hlt7⟩ := conv_b w6 p
            have H7 := H6.up hu7
            have hup7 := hup6.trans hu7
            have hst := stD_step n f k s p (by omega)
            rw [hwn, if_pos rfl] at hst
            have hca := dappend_any H7 hok6 hcl6 [102] (by decide) (some ⟨w6.heap.size, 0, none⟩) p.length cb p hrd7 (by omega) (fun y hy hfy => by
              obtain ⟨a, ha, e⟩ := hy
              injection ha with ha
              subst ha
              have h9 := (H6.lt hfy).2
              have e' : w6.heap.size = y := e
              omega)
            rw [HG.out, hst] at hca
            (try dsimp only at hca)
            have HCA := Lib.hid hca
            have HWN := Lib.hid hwn
            clear hst hca hrd7 hwn hlt7
            go_wp2_with fail
            clear hconv
            refine HCA.out.mono ?_
            rintro e w8 ⟨h8, rfl, H8, D8⟩
            have hup8 := D8.below H7 (Nat.le_refl _) hup7
            have hg8 : h8.g = G := D8.g.trans HG.out
            have hcd := dead_any H8
            rw [hg8] at hcd
            have HCD := Lib.hid hcd
            have HG8 := Lib.hid hg8
            clear HCA H7 D8 hup7 hu7 hcd hg8 H6 hup6
            go_wp2_with fail
            refine HCD.out.mono ?_
            rintro e w9 ⟨rfl, rfl⟩
            have hdv : (stD n f (k + 1) (s ++ p)).dead = decide (n ≤ k + 1) := rfl
            rw [hdv]
            clear HCD hdv
            by_cases hnk : n ≤ k + 1
            · rw [decide_eq_true hnk]
              have hnki : (n : Int) ≤ (k : Int) + 1 := by omega
              clear hnk
              go_wp2_with fail
              go_roundw
              case rel => exact ⟨k + 1, h8, s ++ p, by go_num, rfl, by omega, by omega, by rw [List.length_append]; omega, HG8, H8, hup8⟩
              case measure => simp [intOf]; omega
            · rw [decide_eq_false hnk]
              have hnki : ¬ (n : Int) ≤ (k : Int) + 1 := by omega
              clear hnk
              go_wp2_with fail
              go_roundw
              case rel => exact ⟨k + 1, h8, s ++ p, by go_num, rfl, by omega, by omega, by rw [List.length_append]; omega, HG8, H8, hup8⟩
              case measure => simp [intOf]; omega
      · have i1 : (k : Int) + 1 ≤ (m : Int) := by omega
        have i2 : ¬ (k : Int) + 1 ≤ 40 := by omega
        have i3 : ¬ (m : Int) < 40 := by omega
        have i4 : (2 : Int) + 40 = ((2 + k : Nat) : Int) := by omega
        have i5 : (((2 + k : Nat) : Int) == 2 + 40) = true := by rw [beq_iff_eq]; omega
        have i6 : ((2 : Int) + (k : Int) == 2 + 40) = true := by rw [beq_iff_eq]; omega
        have i7 : ((2 : Int) + (k : Int) == 42) = true := by rw [beq_iff_eq]; omega
        clear i4
        have hok6 : DkOk (stD n f k s) := dk1_ok (by omega) (Nat.zero_le _) (by omega) (by omega) (by omega)
        have hcrash : crashD (stD n f k s) [] = dk1 1048576 [102] s s.length (2 + k) false 0 0 := by
          obtain ⟨kk, q1, q2, q3⟩ := dk1_crash 1048576 [102] s 0 (2 + k) (decide (n ≤ k)) (n - k) (f - min k n) (Nat.zero_le _) []
          have q4 := q2 rfl
          have e : 0 + kk = s.length := by omega
          rw [e, List.take_length] at q3
          exact q3
        have HCRA := Lib.hid hcrash
        have hca := calls_any H
        rw [HG.out] at hca
        have hcv0 : (stD n f k s).calls = 2 + k := rfl
        rw [hcv0] at hca
        have HCA := Lib.hid hca
        have hcc := crash_any H hok6 none 0 0 [] Rd.empty (Nat.le_refl _) (by omega) (fun x hx => by cases hx) (fun a ha => by cases ha) (fun a ha => by cases ha) (fun t ht => by cases ht)
        rw [HG.out, HCRA.out] at hcc
        have HCC := Lib.hid hcc
        clear hca hcc hcv0 hcrash
        go_wp2_with fail
        refine HCA.out.mono ?_
        rintro e w8 ⟨rfl, rfl⟩
        clear HCA
        go_wp2_with fail
        refine HCC.out.mono ?_
        rintro e w9 ⟨h9, rfl, H9, D9⟩
        have hup9 := D9.below H (Nat.le_refl _) hup
        have hg9 : h9.g = G := D9.g.trans HG.out
        have hok9 : DkOk (dk1 1048576 [102] s s.length (2 + k) false 0 0) := dk1_ok (by omega) (Nat.le_refl _) (by omega) (by omega) (by omega)
        have hcd := dread_any H9 hok9 [102] (by decide)
        rw [hg9, dk1_read _ _ _ _ _ _ _ (by decide)] at hcd
        have HCD := Lib.hid hcd
        have HG9 := Lib.hid hg9
        clear HCC D9 hcd hg9 H hup
        go_wp2_with fail
        refine HCD.out.mono ?_
        rintro e wa ⟨R, rn, rc, rfl, howna, hua⟩
        have Ha := H9.up hua
        have hupa := hup9.trans hua
        have hcv : (convert 31 9 (.slice R rn rc)).run Try.prog wa = .ok (.string (tx s)) wa := run_str rc howna.rd
        have hsame : ((tx s).toList == (tx s).toList) = true := tx_beq rfl
        have hce := dead_any Ha
        rw [HG9.out] at hce
        have hdd : (dk1 1048576 [102] s s.length (2 + k) false 0 0).dead = false := rfl
        rw [hdd] at hce
        have HCE := Lib.hid hce
        clear HCD H9 hup9 howna hua hce hdd
        go_wp2_with fail
        clear hcv hsame
        refine HCE.out.mono ?_
        rintro e wb ⟨rfl, rfl⟩
        clear HCE
        go_wp2_with fail
        refine (awake4_any _).mono ?_
        rintro e wc ⟨rfl, huc⟩
        go_wp2_with fail
        go_ret
        exact ⟨rfl, hupa.trans huc⟩
    · have i1 : ¬ (k : Int) + 1 ≤ (m : Int) := by omega
      have hkm2 : k = m := by omega
      have i3 : ¬ (40 : Int) < (m : Int) := by omega
      have i4 : (m : Int) ≤ 40 := by omega
      have i6 : ((2 : Int) + (k : Int) == 2 + (m : Int)) = true := by rw [beq_iff_eq]; omega
      clear hkm2
      have hok6 : DkOk (stD n f k s) := dk1_ok (by omega) (Nat.zero_le _) (by omega) (by omega) (by omega)
      have hcrash : crashD (stD n f k s) [] = dk1 1048576 [102] s s.length (2 + k) false 0 0 := by
        obtain ⟨kk, q1, q2, q3⟩ := dk1_crash 1048576 [102] s 0 (2 + k) (decide (n ≤ k)) (n - k) (f - min k n) (Nat.zero_le _) []
        have q4 := q2 rfl
        have e : 0 + kk = s.length := by omega
        rw [e, List.take_length] at q3
        exact q3
      have HCRA := Lib.hid hcrash
      have hca := calls_any H
      rw [HG.out] at hca
      have hcv0 : (stD n f k s).calls = 2 + k := rfl
      rw [hcv0] at hca
      have HCA := Lib.hid hca
      have hcc := crash_any H hok6 none 0 0 [] Rd.empty (Nat.le_refl _) (by omega) (fun x hx => by cases hx) (fun a ha => by cases ha) (fun a ha => by cases ha) (fun t ht => by cases ht)
      rw [HG.out, HCRA.out] at hcc
      have HCC := Lib.hid hcc
      clear hca hcc hcv0 hcrash
      go_wp2_with fail
      refine HCA.out.mono ?_
      rintro e w8 ⟨rfl, rfl⟩
      clear HCA
      go_wp2_with fail
      refine HCC.out.mono ?_
      rintro e w9 ⟨h9, rfl, H9, D9⟩
      have hup9 := D9.below H (Nat.le_refl _) hup
      have hg9 : h9.g = G := D9.g.trans HG.out
      have hok9 : DkOk (dk1 1048576 [102] s s.length (2 + k) false 0 0) := dk1_ok (by omega) (Nat.le_refl _) (by omega) (by omega) (by omega)
      have hcd := dread_any H9 hok9 [102] (by decide)
      rw [hg9, dk1_read _ _ _ _ _ _ _ (by decide)] at hcd
      have HCD := Lib.hid hcd
      have HG9 := Lib.hid hg9
      clear HCC D9 hcd hg9 H hup
      go_wp2_with fail
      refine HCD.out.mono ?_
      rintro e wa ⟨R, rn, rc, rfl, howna, hua⟩
      have Ha := H9.up hua
      have hupa := hup9.trans hua
      have hcv : (convert 31 9 (.slice R rn rc)).run Try.prog wa = .ok (.string (tx s)) wa := run_str rc howna.rd
      have hsame : ((tx s).toList == (tx s).toList) = true := tx_beq rfl
      have hce := dead_any Ha
      rw [HG9.out] at hce
      have hdd : (dk1 1048576 [102] s s.length (2 + k) false 0 0).dead = false := rfl
      rw [hdd] at hce
      have HCE := Lib.hid hce
      clear HCD H9 hup9 howna hua hce hdd
      go_wp2_with fail
      clear hcv hsame
      refine HCE.out.mono ?_
      rintro e wb ⟨rfl, rfl⟩
      clear HCE
      go_wp2_with fail
      refine (awake4_any _).mono ?_
      rintro e wc ⟨rfl, huc⟩
      go_wp2_with fail
      go_ret
      exact ⟨rfl, hupa.trans huc⟩
end Go.Proofs.Ytebhhfmekmpnkaa.diskStops

/-
  'clepsydra/clepsydralaw4.DiskStops': for every input the law returns true; each argument reads behind the call as it read before. No condition.
-/
namespace Go.Proofs.Ytebhhfmekmpnkaa.diskStops
open Go.ChangeShapes Go.WideShapes Go.ChangeAt Go.RowKit
open Go.ChangeMaps (open_string shut_string)
set_option linter.unusedVariables false

set_option maxRecDepth 100000 in
theorem lifted (os : Os) (started : os.Started) (H : Type) (enc : TypeId × Value → H) :
    ReturnsInHanded {} Try.checked os 3 .any (Rows.diskStopsSpec.pre6 enc Try.prog Try.f3 Rows.diskStopsRow.domain false) (Rows.diskStopsSpec.post enc Try.prog Try.f3 false true false false) := by
  refine returnsInHanded_of_change (C := Try.checked) prog_own started (by kernel_rfl) Try.func3
    (ChangeSpec.witness6 (enc := enc) (C := Try.checked) false ⟨#[], #[.int .i64 0, .int .i64 0, .slice none 0 0], []⟩ 8 (by kernel_rfl) (by kernel_rfl) (by kernel_rfl) (by kernel_rfl)) ?_
  intro W base args ds gs before hval0 hW hcnd _
  have hval : ∀ (j : Nat) t v, Try.f3.params[j]? = some t → args[j]? = some v → Value.okWide Try.prog W .any base t v := hval0
  have hW' := hW
  obtain ⟨p, q, hA0, hV, rfl, hfz, hnd⟩ := hW
  have hA : DataW.TrodAll enc Try.prog W 0 (fun _ => true) true Try.f3.params.toList args.toList ds p := hA0
  rw [Try.params3] at hA hval
  obtain ⟨v0, vs0, d0, ds0, p0, q0, hargs, rfl, rfl, h0, r0⟩ := trodAll_cons hA
  obtain ⟨v1, vs1, d1, ds1, p1, q1, rfl, rfl, rfl, h1, r1⟩ := trodAll_cons r0
  obtain ⟨v2, vs2, d2, ds2, p2, q2, rfl, rfl, rfl, h2, r2⟩ := trodAll_cons r1
  obtain ⟨rfl, rfl, rfl⟩ := trodAll_nil r2
  obtain rfl : args = #[v0, v1, v2] := by cases args; simp_all
  obtain ⟨rfl, rfl⟩ := trodVars_none hV
  obtain ⟨a0, rfl, rfl, rfl, w0⟩ := open_int Try.underlying3 (hval 0 3 v0 rfl rfl) h0
  have b0 := bd_i64 w0
  obtain ⟨a1, rfl, rfl, rfl, w1⟩ := open_int Try.underlying3 (hval 1 3 v1 rfl rfl) h1
  have b1 := bd_i64 w1
  obtain ⟨a2, len2, cap2, rfl⟩ := okWide_slice Try.underlying22 (hval 2 22 v2 rfl rfl)
  have k2 := h2
  have lt2 : ∀ x ∈ p2, x.block < W.heap.size := by obtain ⟨m, hm⟩ := k2; exact DataW.trod_lt m _ _ _ hm
  obtain ⟨l2, w2⟩ := is_z h2
  clear hA0 hval0
  refine (law_any a0 a1 a2 len2 cap2 l2 W b0 b1 w2).mono fun e W' ⟨he, bel⟩ => ?_
  subst he
  exact ⟨_, rfl, _, _, _, [], _, [], hW', trodAll_mk1 (shut_bool Try.underlying4 _), (trodAll_cons_mk (shut_int Try.underlying3 w0) (trodAll_cons_mk (shut_int Try.underlying3 w1) (trodAll_cons_mk (Below.trod laidOut (by kernel_rfl) (of_decide_eq_true (by kernel_rfl)) k2 bel lt2) trodAll_mk0))), rfl, bel.frame _, fun h => by cases h⟩

theorem proved : Rows.DiskStopsSaid :=
  OpenClaim.holds_of_wide 3 Try.f3 rfl rfl rfl rfl rfl rfl rfl ⟨rfl, rfl, rfl, rfl, rfl⟩ rfl rfl rfl rfl rfl (by kernel_rfl) Try.func3 (by kernel_rfl)
    (of_decide_eq_true (by kernel_rfl)) (by unfold Func.isWrapper; first | (rw [if_pos (by decide +kernel)]; kernel_rfl) | (rw [if_neg (by decide +kernel)]; exact ⟨rfl, rfl⟩))
    (fun os started H enc _ => lifted os started H enc)
#print axioms proved
end Go.Proofs.Ytebhhfmekmpnkaa.diskStops
