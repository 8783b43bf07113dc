/-
  The walk of the document's Edit (of what may be).
-/
import Derived.Test.YtokcaoaclheiiaaEditW10
namespace Go.Proofs.Ytokcaoaclheiiaa
open Go.RowKit
set_option linter.unusedVariables false
set_option linter.unusedSimpArgs false

set_option maxRecDepth 100000 in
set_option maxHeartbeats 1600000 in
theorem redit_any (D : Option Addr) (dn dc : Nat) (ds : List Int) (A : Option Addr) (an ac : Nat) (add : List Fl) (lg : Int) (f ce at_ le : Nat) (w : World)
    (hd : Rd w w.heap.size 1 D dn (nmv ds)) (hdn : dn ≤ 9223372036854775807) (ha : Rd w w.heap.size 2 A an (fvs add)) (han : an ≤ 9223372036854775807) (hm : mayE ds add lg f ce at_ le = true) :
    Calls Try.prog 17 #[.agg #[.slice D dn dc, .slice A an ac, .int .i64 lg, .int .u64 (f : Int), .int .u64 (ce : Int), .int .u64 (at_ : Int), .int .u64 (le : Int)]] w fun e w' => e = .returned (.string (tx (frameB 6 (editB ds add lg f ce at_ le)))) ∧ Up w w' := by
  have hm2 := hm
  simp only [mayE, Bool.and_eq_true, decide_eq_true_eq] at hm2
  obtain ⟨m1, m2, m3, m4, m5, m6, m7⟩ := hm2
  have m6' : ∀ x ∈ ds, numOk x = true := List.all_eq_true.1 m6
  have m7' : ∀ x ∈ add, fileOk x = true := List.all_eq_true.1 m7
  simp only [List.all_cons, List.all_nil, Bool.and_true, Bool.and_eq_true, verOk, decide_eq_true_eq] at m5
  obtain ⟨m51, m52, m53, m54⟩ := m5
  have hdl : dn = ds.length := by have := hd.1; rw [nmv_len] at this; omega
  have hal : an = add.length := ha.flen
  have HDL := Lib.hid hdl
  have HAL := Lib.hid hal
  have HM6 := Lib.hid m6'
  have HM7 := Lib.hid m7'
  rw [← hdl] at m1
  rw [← hal] at m2
  clear hm hdl hal m6 m7 m6' m7'
  obtain ⟨w1, hw1⟩ : ∃ w1, w1 = w.alloc (.cells #[.slice D dn dc, .slice A an ac, .int .i64 lg, .int .u64 (f : Int), .int .u64 (ce : Int), .int .u64 (at_ : Int), .int .u64 (le : Int)] 32) := ⟨_, rfl⟩
  have hup : Up w w1 := by rw [hw1]; exact (Up.refl w).alloc _
  have hb : w1.heap[w.heap.size]? = some (.cells #[.slice D dn dc, .slice A an ac, .int .i64 lg, .int .u64 (f : Int), .int .u64 (ce : Int), .int .u64 (at_ : Int), .int .u64 (le : Int)] 32 (0, 0)) := by rw [hw1]; exact heap_alloc_new w _
  have HW := Lib.hid hw1
  clear hw1
  go_enter Try.func17, Try.ntmps17
  go_wp2_with fail
  rw [← HW.out]
  clear HW
  have hge : w.heap.size ≤ w.heap.size := Nat.le_refl _
  generalize hgE : w.heap.size = ge at hb ⊢
  go_loopw [3, 4] (fun q i wr => ∃ (k : Nat) (Q : Option Addr) (qc : Nat), i = .int .i64 (k : Int) ∧ q = .slice Q k qc ∧ k ≤ dn ∧ Up w1 wr ∧ OwnQ wr w1.heap.size Q k qc (dq (ds.take k))) (fun _ i _ => dn - (intOf i).toNat)
  case atStart => exact ⟨0, none, 0, rfl, rfl, by omega, Up.refl _, World.ownsRow_nil _ _ _ _⟩
  case round =>
    obtain ⟨k, Q, qc, rfl, rfl, hk, hu, hq⟩ := hrel
    have hb2 := (hu.block _ (Array.getElem?_eq_some_iff.1 hb).1).trans hb
    have t0 := blk_cell hb2 0
    by_cases hlt : k < dn
    · have hkl : k < ds.length := by have := HDL.out; omega
      obtain ⟨b, o, rfl, hbb, hc⟩ := hd.2 (by omega)
      have hck : wr.cell? ⟨b, o + k, none⟩ = some (.int .i64 ds[k]) := ((hup.trans hu).cell (p := ⟨b, o + k, none⟩) hbb).trans (hc k _ (by simp [nmv, hkl]))
      obtain ⟨x, hx⟩ : ∃ x, x = ds[k] := ⟨_, rfl⟩
      have hxo : numOk x = true := by rw [hx]; exact HM6.out _ (List.getElem_mem hkl)
      rw [← hx] at hck
      obtain ⟨z1, z2⟩ := numOk_wrap hxo
      have htk : dq (ds.take (k + 1)) = dq (ds.take k) ++ [UInt64.ofNat x.toNat] := by
        rw [List.take_succ_eq_append_getElem hkl, ← hx]; simp [dq]
      generalize x.toNat = xn at *
      have hqv : Value.int .u64 (xn : Int) = qv (UInt64.ofNat xn) := by
        rw [qv_ofNat, Nat.mod_eq_of_lt (by omega)]
      have HT := Lib.hid htk
      have HQV := Lib.hid hqv
      have hki : (k : Int) < (dn : Int) := by omega
      clear hc hx hxo htk hqv
      go_wp2_with (at_builtin; refine wpList_append_rd _ numsT (news := qvs [UInt64.ofNat xn]) (World.ownsRow.alloc hq _) (Rd.boxq _ _ HQV.out) (qvs_one _) (by omega) (by omega) (by simp; have := hu.size; omega) rfl rfl rfl rfl ?_; intro v3 w3 hown3 hg3 hat3; obtain ⟨Q3, qc3, rfl⟩ := own_form hown3)
      have hu3 : Up w1 w3 := (hu.alloc _).grown hg3 (fun g hg => (hq.lt g hg).1)
      clear hck hat3 hg3 t0
      go_roundw
      case rel =>
        refine ⟨k + 1, Q3, qc3, by go_num, rfl, by omega, hu3, ?_⟩
        show World.ownsRow _ _ _ _ _ _ _
        rw [HT.out, qvs_append]
        exact hown3
      case measure => simp [intOf]; omega
    · have hkd : k = dn := by omega
      subst hkd
      have hqd : OwnQ wr w1.heap.size Q k qc (dq ds) := by
        have h := hq
        rw [HDL.out, List.take_length] at h
        rw [HDL.out]
        exact h
      have hqr := hqd.rd
      have hS : ∀ W, Up wr W → Up wr W ∧ W.cell? ⟨ge, 1, none⟩ = some (.slice A an ac) := fun W h =>
        ⟨h, blk_cell ((h.block _ (Array.getElem?_eq_some_iff.1 hb2).1).trans hb2) 1⟩
      have zan : IntKind.u64.wrap (an : Int) = (an : Int) := by simp [IntKind.wrap, IntKind.bits, IntKind.signed]; omega
      have hlb := listB_ten (dq ds) (by rw [dq_len, ← HDL.out]; omega)
      rw [dq_len, ← HDL.out] at hlb
      have hnb := numB_ten (n := an) (by omega)
      have hup9 := hup.trans hu
      have hki : ¬ (k : Int) < (k : Int) := by omega
      have ha9 := ha.up hup9
      clear hq hqd hd hb hup hu ha
      go_wp2_with fail
      clear t0
      apply Rg.region_up _ (by kernel_rfl) (by kernel_rfl) hS
      · intro QN hQN
        (apply Rg.RK.ok; (· intro vs w1 hS; go_simp; with_reducible rfl); (· rfl); simp only [Act.put, List.setIfInBounds_toArray, List.set_cons_zero, List.set_cons_succ, Nat.reduceAdd])
        apply Rg.RK.call (.string (tx (listB (dq ds)))) []
        · rfl
        · intro vs w1 hK hS _ K hKK
          go_simp
          refine (rlist_any Q k qc (dq ds) w1 (hqr.up hS.1) (by omega)).mono ?_
          rintro e w2 ⟨s1, rfl, hs1, hu1⟩
          rw [tx_of hs1.out]
          exact hKK.out _ hu1
        simp only [Act.put, List.setIfInBounds_toArray, List.set_cons_zero, List.set_cons_succ, Nat.reduceAdd]
        iterate 4 (apply Rg.RK.ok; (· intro vs w1 hS; go_simp; with_reducible rfl); (· rfl); simp only [Act.put, List.setIfInBounds_toArray, List.set_cons_zero, List.set_cons_succ, Nat.reduceAdd])
        apply Rg.RK.call (.string (tx (numB an))) []
        · rfl
        · intro vs w1 hK hS _ K hKK
          go_simp
          refine (rnum_any an w1 (by omega)).mono ?_
          rintro e w2 ⟨s1, rfl, hs1, hu1⟩
          rw [tx_of hs1.out]
          exact hKK.out _ hu1
        simp only [Act.put, List.setIfInBounds_toArray, List.set_cons_zero, List.set_cons_succ, Nat.reduceAdd]
        (apply Rg.RK.ok; (· intro vs w1 hS; go_simp; rw [if_neg (by simp [tx_size, cc_length]; omega), tx_append]); (· rfl); simp only [Act.put, List.setIfInBounds_toArray, List.set_cons_zero, List.set_cons_succ, Nat.reduceAdd])
        (apply Rg.RK.ok; (· intro vs w1 hS; go_simp; with_reducible rfl); (· rfl); simp only [Act.put, List.setIfInBounds_toArray, List.set_cons_zero, List.set_cons_succ, Nat.reduceAdd])
        apply Rg.RK.fin []
        intro vs w8 hK hS8 _
        refine hQN.out _ _ ?_
        clear hQN
        have hu8 := keeps_up hK
        have hb10 := (hu8.block _ (Array.getElem?_eq_some_iff.1 hb2).1).trans hb2
        have hup10 := hup9.trans hu8
        have ha10 := ha9.up hu8
        have hcc : cc (listB (dq ds)) (numB an) = listB (dq ds) ++ numB add.length := by rw [HAL.out]; rfl
        have hcl : (cc (listB (dq ds)) (numB an)).length ≤ 10 * k + 20 := by rw [cc_length]; omega
        have HCC := Lib.hid hcc
        clear hS8 hK hqr hb2 hup9 hu8 hlb ha9 hcc hnb
        generalize cc (listB (dq ds)) (numB an) = T0 at *
        go_wp2_with fail
        go_loopw [5, 6] (fun q i wr => ∃ (j : Nat) (T : List UInt8), i = .int .i64 (j : Int) ∧ q = .string (tx T) ∧ j ≤ an ∧ T.length ≤ 10 * k + 20 + 20 * j ∧ Up w8 wr ∧ Hid (T = listB (dq ds) ++ numB add.length ++ filesB (add.take j))) (fun _ i _ => an - (intOf i).toNat)
        case atStart =>
          refine ⟨0, T0, rfl, rfl, by omega, by omega, Up.refl _, ?_⟩
          show _ = _
          rw [HCC.out]; simp [filesB]
        case round =>
          obtain ⟨j, T, rfl, rfl, hj, hTl, hu, hT⟩ := hrel
          have hb11 := (hu.block _ (Array.getElem?_eq_some_iff.1 hb10).1).trans hb10
          have t1 := blk_cell hb11 1
          clear hcl
          by_cases hlt2 : j < an
          · have hjl : j < add.length := by have := HAL.out; omega
            obtain ⟨b, o, x, rfl, hbb, hx, c0, c1⟩ := (ha10.up hu).file_at hlt2
            rw [List.getElem?_eq_getElem hjl] at hx
            injection hx with hx
            have hxo : fileOk x = true := by rw [← hx]; exact HM7.out _ (List.getElem_mem hjl)
            have htk : filesB (add.take (j + 1)) = filesB (add.take j) ++ (numB x.1.toNat ++ numB x.2.toNat) := by
              rw [List.take_succ_eq_append_getElem hjl, hx]; simp [filesB]
            obtain ⟨x1, x2⟩ := x
            (try dsimp only at c0 c1 htk)
            simp [fileOk, numOk] at hxo
            have z1 := lev_wrap (x := x1) (by omega) (by omega)
            have z2 := lev_wrap (x := x2) (by omega) (by omega)
            have z3 : x1.toNat ≤ 3 := by omega
            have z4 : x2.toNat ≤ 1073741824 := by omega
            have HT := Lib.hid htk
            clear hx hxo htk
            generalize x1.toNat = y1 at *
            generalize x2.toNat = y2 at *
            have n1 := numB_ten (n := y1) (by omega)
            have n2 := numB_ten (n := y2) (by omega)
            have hji : (j : Int) < (an : Int) := by omega
            have hjb : decide ((j : Int) < (an : Int)) = true := by simp; omega
            have hS : ∀ W, Up wr W → Up wr W ∧ W.cell? ⟨ge, 1, none⟩ = some (.slice (some ⟨b, o, none⟩) an ac) ∧ W.cell? ⟨b, o + j * 2, none⟩ = some (.int .i64 x1) ∧ W.cell? ⟨b, o + j * 2 + 1, none⟩ = some (.int .i64 x2) := fun W h =>
              ⟨h, blk_cell ((h.block _ (Array.getElem?_eq_some_iff.1 hb11).1).trans hb11) 1, (h.cell (p := ⟨b, o + j * 2, none⟩) hbb).trans c0, (h.cell (p := ⟨b, o + j * 2 + 1, none⟩) hbb).trans c1⟩
            go_wp2_with fail
            clear c0 c1 t1
            apply Rg.region_up _ (by kernel_rfl) (by kernel_rfl) hS
            · intro QN hQN
              iterate 8 (apply Rg.RK.ok; (· intro vs w1 hS; go_simp; with_reducible rfl); (· rfl); simp only [Act.put, List.setIfInBounds_toArray, List.set_cons_zero, List.set_cons_succ, Nat.reduceAdd])
              apply Rg.RK.call (.string (tx (numB y1))) []
              · rfl
              · intro vs w1 hK hS _ K hKK
                go_simp
                refine (rnum_any y1 w1 (by omega)).mono ?_
                rintro e w2 ⟨s1, rfl, hs1, hu1⟩
                rw [tx_of hs1.out]
                exact hKK.out _ hu1
              simp only [Act.put, List.setIfInBounds_toArray, List.set_cons_zero, List.set_cons_succ, Nat.reduceAdd]
              (apply Rg.RK.ok; (· intro vs w1 hS; go_simp; rw [if_neg (by simp [tx_size, cc_length]; omega), tx_append]); (· rfl); simp only [Act.put, List.setIfInBounds_toArray, List.set_cons_zero, List.set_cons_succ, Nat.reduceAdd])
              iterate 7 (apply Rg.RK.ok; (· intro vs w1 hS; go_simp; with_reducible rfl); (· rfl); simp only [Act.put, List.setIfInBounds_toArray, List.set_cons_zero, List.set_cons_succ, Nat.reduceAdd])
              apply Rg.RK.call (.string (tx (numB y2))) []
              · rfl
              · intro vs w1 hK hS _ K hKK
                go_simp
                refine (rnum_any y2 w1 (by omega)).mono ?_
                rintro e w2 ⟨s1, rfl, hs1, hu1⟩
                rw [tx_of hs1.out]
                exact hKK.out _ hu1
              simp only [Act.put, List.setIfInBounds_toArray, List.set_cons_zero, List.set_cons_succ, Nat.reduceAdd]
              (apply Rg.RK.ok; (· intro vs w1 hS; go_simp; rw [if_neg (by simp [tx_size, cc_length]; omega), tx_append]); (· rfl); simp only [Act.put, List.setIfInBounds_toArray, List.set_cons_zero, List.set_cons_succ, Nat.reduceAdd])
              (apply Rg.RK.ok; (· intro vs w1 hS; go_simp; with_reducible rfl); (· rfl); simp only [Act.put, List.setIfInBounds_toArray, List.set_cons_zero, List.set_cons_succ, Nat.reduceAdd])
              apply Rg.RK.fin []
              intro vs w9 hK hS9 _
              refine hQN.out _ _ ?_
              clear hQN
              have hu9 := keeps_up hK
              have hcl : (cc (cc T (numB y1)) (numB y2)).length ≤ 10 * k + 20 + 20 * (j + 1) := by rw [cc_length, cc_length]; omega
              have hcT : cc (cc T (numB y1)) (numB y2) = listB (dq ds) ++ numB add.length ++ filesB (add.take (j + 1)) := by
                rw [HT.out, hT.out]
                show _ ++ _ ++ _ = _
                simp only [List.append_assoc]
              have HCT := Lib.hid hcT
              clear hS9 hK hcT
              generalize cc (cc T (numB y1)) (numB y2) = T2 at *
              go_wp2_with fail
              go_roundw
              case rel => exact ⟨j + 1, T2, by go_num, rfl, by omega, hcl, hu.trans hu9, HCT⟩
              case measure => simp [intOf]; omega
            · kernel_rfl
          · have hjn : j = an := by omega
            have hTe : T = listB (dq ds) ++ numB add.length ++ filesB add := by
              have h := hT.out
              rwa [hjn, HAL.out, List.take_length] at h
            have HTE := Lib.hid hTe
            have zlg := lev_wrap m3 m4
            have zl2 : lg.toNat ≤ 1073741824 := by omega
            obtain ⟨lgN, hlgN⟩ : ∃ lgN, lgN = lg.toNat := ⟨_, rfl⟩
            rw [← hlgN] at zlg zl2
            have HLG := Lib.hid hlgN
            have e1 := numB_ten (n := lgN) (by omega)
            have e2 := numB_ten (n := f) (by omega)
            have e3 := numB_ten (n := ce) (by omega)
            have e4 := numB_ten (n := at_) (by omega)
            have e5 := numB_ten (n := le) (by omega)
            have hS : ∀ W, Up wr W → W.cell? ⟨ge, 2, none⟩ = some (.int .i64 lg) ∧ W.cell? ⟨ge, 3, none⟩ = some (.int .u64 (f : Int)) ∧ W.cell? ⟨ge, 4, none⟩ = some (.int .u64 (ce : Int)) ∧ W.cell? ⟨ge, 5, none⟩ = some (.int .u64 (at_ : Int)) ∧ W.cell? ⟨ge, 6, none⟩ = some (.int .u64 (le : Int)) := fun W h => by
              have hbW := (h.block _ (Array.getElem?_eq_some_iff.1 hb11).1).trans hb11
              exact ⟨blk_cell hbW 2, blk_cell hbW 3, blk_cell hbW 4, blk_cell hbW 5, blk_cell hbW 6⟩
            have hji : ¬ (j : Int) < (an : Int) := by omega
            have hjb : decide ((j : Int) < (an : Int)) = false := by simp; omega
            clear hT hTe hlgN ha10 hjn
            go_wp2_with fail
            clear t1
            apply Rg.region_up _ (by kernel_rfl) (by kernel_rfl) hS
            · intro QN hQN
              iterate 4 (apply Rg.RK.ok; (· intro vs w1 hS; go_simp; with_reducible rfl); (· rfl); simp only [Act.put, List.setIfInBounds_toArray, List.set_cons_zero, List.set_cons_succ, Nat.reduceAdd])
              apply Rg.RK.call (.string (tx (numB lgN))) []
              · rfl
              · intro vs w1 hK hS _ K hKK
                go_simp
                refine (rnum_any lgN w1 (by omega)).mono ?_
                rintro e w2 ⟨s1, rfl, hs1, hu1⟩
                rw [tx_of hs1.out]
                exact hKK.out _ hu1
              simp only [Act.put, List.setIfInBounds_toArray, List.set_cons_zero, List.set_cons_succ, Nat.reduceAdd]
              (apply Rg.RK.ok; (· intro vs w1 hS; go_simp; rw [if_neg (by simp [tx_size, cc_length]; omega), tx_append]); (· rfl); simp only [Act.put, List.setIfInBounds_toArray, List.set_cons_zero, List.set_cons_succ, Nat.reduceAdd])
              iterate 2 (apply Rg.RK.ok; (· intro vs w1 hS; go_simp; with_reducible rfl); (· rfl); simp only [Act.put, List.setIfInBounds_toArray, List.set_cons_zero, List.set_cons_succ, Nat.reduceAdd])
              apply Rg.RK.call (.string (tx (numB f))) []
              · rfl
              · intro vs w1 hK hS _ K hKK
                go_simp
                refine (rnum_any f w1 (by omega)).mono ?_
                rintro e w2 ⟨s1, rfl, hs1, hu1⟩
                rw [tx_of hs1.out]
                exact hKK.out _ hu1
              simp only [Act.put, List.setIfInBounds_toArray, List.set_cons_zero, List.set_cons_succ, Nat.reduceAdd]
              (apply Rg.RK.ok; (· intro vs w1 hS; go_simp; rw [if_neg (by simp [tx_size, cc_length]; omega), tx_append]); (· rfl); simp only [Act.put, List.setIfInBounds_toArray, List.set_cons_zero, List.set_cons_succ, Nat.reduceAdd])
              iterate 2 (apply Rg.RK.ok; (· intro vs w1 hS; go_simp; with_reducible rfl); (· rfl); simp only [Act.put, List.setIfInBounds_toArray, List.set_cons_zero, List.set_cons_succ, Nat.reduceAdd])
              apply Rg.RK.call (.string (tx (numB ce))) []
              · rfl
              · intro vs w1 hK hS _ K hKK
                go_simp
                refine (rnum_any ce w1 (by omega)).mono ?_
                rintro e w2 ⟨s1, rfl, hs1, hu1⟩
                rw [tx_of hs1.out]
                exact hKK.out _ hu1
              simp only [Act.put, List.setIfInBounds_toArray, List.set_cons_zero, List.set_cons_succ, Nat.reduceAdd]
              (apply Rg.RK.ok; (· intro vs w1 hS; go_simp; rw [if_neg (by simp [tx_size, cc_length]; omega), tx_append]); (· rfl); simp only [Act.put, List.setIfInBounds_toArray, List.set_cons_zero, List.set_cons_succ, Nat.reduceAdd])
              iterate 2 (apply Rg.RK.ok; (· intro vs w1 hS; go_simp; with_reducible rfl); (· rfl); simp only [Act.put, List.setIfInBounds_toArray, List.set_cons_zero, List.set_cons_succ, Nat.reduceAdd])
              apply Rg.RK.call (.string (tx (numB at_))) []
              · rfl
              · intro vs w1 hK hS _ K hKK
                go_simp
                refine (rnum_any at_ w1 (by omega)).mono ?_
                rintro e w2 ⟨s1, rfl, hs1, hu1⟩
                rw [tx_of hs1.out]
                exact hKK.out _ hu1
              simp only [Act.put, List.setIfInBounds_toArray, List.set_cons_zero, List.set_cons_succ, Nat.reduceAdd]
              (apply Rg.RK.ok; (· intro vs w1 hS; go_simp; rw [if_neg (by simp [tx_size, cc_length]; omega), tx_append]); (· rfl); simp only [Act.put, List.setIfInBounds_toArray, List.set_cons_zero, List.set_cons_succ, Nat.reduceAdd])
              iterate 2 (apply Rg.RK.ok; (· intro vs w1 hS; go_simp; with_reducible rfl); (· rfl); simp only [Act.put, List.setIfInBounds_toArray, List.set_cons_zero, List.set_cons_succ, Nat.reduceAdd])
              apply Rg.RK.call (.string (tx (numB le))) []
              · rfl
              · intro vs w1 hK hS _ K hKK
                go_simp
                refine (rnum_any le w1 (by omega)).mono ?_
                rintro e w2 ⟨s1, rfl, hs1, hu1⟩
                rw [tx_of hs1.out]
                exact hKK.out _ hu1
              simp only [Act.put, List.setIfInBounds_toArray, List.set_cons_zero, List.set_cons_succ, Nat.reduceAdd]
              (apply Rg.RK.ok; (· intro vs w1 hS; go_simp; rw [if_neg (by simp [tx_size, cc_length]; omega), tx_append]); (· rfl); simp only [Act.put, List.setIfInBounds_toArray, List.set_cons_zero, List.set_cons_succ, Nat.reduceAdd])
              (apply Rg.RK.ok; (· intro vs w1 hS; go_simp; with_reducible rfl); (· rfl); simp only [Act.put, List.setIfInBounds_toArray, List.set_cons_zero, List.set_cons_succ, Nat.reduceAdd])
              apply Rg.RK.fin []
              intro vs w9 hK hS9 _
              refine hQN.out _ _ ?_
              clear hQN
              have hu9 := keeps_up hK
              have hcl : (cc (cc (cc (cc (cc T (numB lgN)) (numB f)) (numB ce)) (numB at_)) (numB le)).length ≤ 60000 := by
                rw [cc_length, cc_length, cc_length, cc_length, cc_length]; omega
              have hcT : cc (cc (cc (cc (cc T (numB lgN)) (numB f)) (numB ce)) (numB at_)) (numB le) = editB ds add lg f ce at_ le := by
                rw [HTE.out, HLG.out]
                show _ ++ _ ++ _ ++ _ ++ _ ++ _ = _
                simp only [editB, numsL, List.flatMap_cons, List.flatMap_nil, List.append_nil, List.append_assoc]
              rw [hcT] at hcl ⊢
              clear hS9 hK hcT
              go_wp2_with fail
              refine (rframe_any 6 (editB ds add lg f ce at_ le) w9 (by omega) hcl).mono ?_
              rintro e w10 ⟨rfl, hu10⟩
              go_wp2_with fail
              go_ret
              exact ⟨rfl, ((hup10.trans hu).trans hu9).trans hu10⟩
            · kernel_rfl
      · kernel_rfl
end Go.Proofs.Ytokcaoaclheiiaa
