/-
  The walk of edit.Put.
-/
import Derived.Test.YtokcaoaclheiiaaEditW8
import Derived.Test.YtokcaoaclheiiaaBaseQ
import Derived.Test.YtokcaoaclheiiaaNumW4
import Derived.Test.YtokcaoaclheiiaaFrameW5
namespace Go.Proofs.Ytokcaoaclheiiaa
open Go.RowKit
set_option linter.unusedVariables false
set_option linter.unusedSimpArgs false

def dq (ds : List Int) : List UInt64 := ds.map fun n => UInt64.ofNat n.toNat
def filesB (l : List Fl) : List UInt8 := l.flatMap fun f => numB f.1.toNat ++ numB f.2.toNat
def numsL (l : List Nat) : List UInt8 := l.flatMap numB
/-- an edit in bytes, without its frame -/
def editB (ds : List Int) (add : List Fl) (lg : Int) (f ce at_ le : Nat) : List UInt8 := listB (dq ds) ++ numB add.length ++ filesB add ++ numsL [lg.toNat, f, ce, at_, le]
theorem dq_len (ds : List Int) : (dq ds).length = ds.length := by simp [dq]
theorem numsL_len : ∀ (l : List Nat), (∀ x ∈ l, x < 18446744073709551616) → (numsL l).length ≤ 10 * l.length
  | [], _ => by simp [numsL]
  | x :: l, h => by
    have h1 := numB_ten (h x List.mem_cons_self)
    have h2 := numsL_len l fun y hy => h y (List.mem_cons_of_mem _ hy)
    simp only [numsL, List.flatMap_cons, List.length_append, List.length_cons] at *
    omega
theorem filesB_len : ∀ (l : List Fl), (∀ f ∈ l, fileOk f = true) → (filesB l).length ≤ 20 * l.length
  | [], _ => by simp [filesB]
  | f :: l, h => by
    have h0 := h f List.mem_cons_self
    have h2 := filesB_len l fun y hy => h y (List.mem_cons_of_mem _ hy)
    simp [fileOk, numOk] at h0
    have h3 := numB_ten (n := f.1.toNat) (by omega)
    have h4 := numB_ten (n := f.2.toNat) (by omega)
    simp only [filesB, List.flatMap_cons, List.length_append, List.length_cons] at *
    omega
theorem listB_ten (q : List UInt64) (h : q.length < 18446744073709551616) : (listB q).length ≤ 10 * q.length + 10 := by
  have h1 : (numsB q).length ≤ 10 * q.length := by
    clear h
    induction q with
    | nil => simp [numsB]
    | cons x q ih => have := numB_ten x.toNat_lt; simp only [numsB, List.flatMap_cons, List.length_append, List.length_cons] at *; omega
  unfold listB
  rw [List.length_append]
  have := numB_ten h
  omega
theorem numOk_wrap {x : Int} (h : numOk x = true) : IntKind.u64.wrap x = ((x.toNat : Nat) : Int) ∧ x.toNat ≤ 1073741824 := by
  simp [numOk] at h
  refine ⟨?_, by omega⟩
  simp [IntKind.wrap, IntKind.bits, IntKind.signed]
  omega
theorem lev_wrap {x : Int} (h : 0 ≤ x) (h2 : x ≤ 1073741824) : IntKind.u64.wrap x = ((x.toNat : Nat) : Int) := by
  simp [IntKind.wrap, IntKind.bits, IntKind.signed]
  omega

set_option maxRecDepth 100000 in
set_option maxHeartbeats 1600000 in
theorem eput_any (B : Option Addr) (n c : Nat) (bs : List UInt8) (D : Option Addr) (dn dc : Nat) (ds : List Int) (A : Option Addr) (an ac : Nat) (add : List Fl) (lg : Int) (f ce at_ le : Nat) (w : World)
    (hb : Rd w w.heap.size 1 B n (bvs bs)) (hn : n ≤ 549755813888) (hd : Rd w w.heap.size 1 D dn (nmv ds)) (hdn : dn ≤ 9223372036854775807) (ha : Rd w w.heap.size 2 A an (fvs add)) (han : an ≤ 9223372036854775807) :
    Calls Try.prog 21 #[.slice B n c, .agg #[.slice D dn dc, .slice A an ac, .int .i64 lg, .int .u64 (f : Int), .int .u64 (ce : Int), .int .u64 (at_ : Int), .int .u64 (le : Int)]] w
      fun e w' => (mayE ds add lg f ce at_ le = false ∧ e = .returned (.tuple #[.slice none 0 0, .int .i64 1]) ∧ Up w w') ∨
        (mayE ds add lg f ce at_ le = true ∧ ∃ A' n' c', e = .returned (.tuple #[.slice A' n' c', .int .i64 0]) ∧ OwnB w' w.heap.size A' n' c' (bs ++ frameB 6 (editB ds add lg f ce at_ le)) ∧ Up w w') := by
  obtain ⟨w1, hw1⟩ : ∃ w1, w1 = w.alloc (.cells #[.slice D dn dc, .slice A an ac, .int .i64 lg, .int .u64 (f : Int), .int .u64 (ce : Int), .int .u64 (at_ : Int), .int .u64 (le : Int)] 32) := ⟨_, rfl⟩
  have hup1 : Up w w1 := by rw [hw1]; exact (Up.refl w).alloc _
  have hb1 : w1.heap[w.heap.size]? = some (.cells #[.slice D dn dc, .slice A an ac, .int .i64 lg, .int .u64 (f : Int), .int .u64 (ce : Int), .int .u64 (at_ : Int), .int .u64 (le : Int)] 32 (0, 0)) := by rw [hw1]; exact heap_alloc_new w _
  have HW := Lib.hid hw1
  clear hw1
  go_enter Try.func21, Try.ntmps21
  go_wp2_with fail
  rw [← HW.out]
  clear HW
  have hge : w.heap.size ≤ w.heap.size := Nat.le_refl _
  generalize hgE : w.heap.size = ge at hb1 ⊢
  refine (mayE_any D dn dc ds A an ac add lg f ce at_ le w1 (hd.up hup1) hdn (ha.up hup1) han).mono ?_
  rintro e w2 ⟨rfl, hu2⟩
  have hb2 := (hu2.block _ (Array.getElem?_eq_some_iff.1 hb1).1).trans hb1
  have hup2 := hup1.trans hu2
  clear hb1 hup1 hu2
  cases hm : mayE ds add lg f ce at_ le
  · go_wp2_with fail
    go_ret2
    exact .inl ⟨hm, rfl, hup2⟩
  · have hm2 := hm
    simp only [mayE, Bool.and_eq_true, decide_eq_true_eq] at hm2
    obtain ⟨m1, m2, m3, m4, m5, m6, m7⟩ := hm2
    have m6' : ∀ x ∈ ds, numOk x = true := List.all_eq_true.1 m6
    have m7' : ∀ x ∈ add, fileOk x = true := List.all_eq_true.1 m7
    simp only [List.all_cons, List.all_nil, Bool.and_true, Bool.and_eq_true, verOk, decide_eq_true_eq] at m5
    have hdl : dn = ds.length := by have := hd.1; rw [nmv_len] at this; omega
    have hal : an = add.length := ha.flen
    have HDL := Lib.hid hdl
    have HAL := Lib.hid hal
    have HM := Lib.hid hm
    have HM6 := Lib.hid m6'
    have HM7 := Lib.hid m7'
    rw [← hdl] at m1
    rw [← hal] at m2
    clear hm hdl hal m6 m7 m6' m7'
    have t0 := blk_cell hb2 0
    go_wp2_with fail
    clear t0
    go_loopw [6, 20] (fun q i wr => ∃ (k : Nat) (Q : Option Addr) (qc : Nat), i = .int .i64 (k : Int) ∧ q = .slice Q k qc ∧ k ≤ dn ∧ Up w2 wr ∧ OwnQ wr w2.heap.size Q k qc (dq (ds.take k))) (fun _ i _ => dn - (intOf i).toNat)
    case atStart => exact ⟨0, none, 0, rfl, rfl, by omega, Up.refl _, World.ownsRow_nil _ _ _ _⟩
    case round =>
      obtain ⟨k, Q, qc, rfl, rfl, hk, hu, hq⟩ := hrel
      by_cases hlt : k < dn
      · have hkl : k < ds.length := by have := HDL.out; omega
        obtain ⟨b, o, rfl, hbb, hc⟩ := hd.2 (by omega)
        have hck : wr.cell? ⟨b, o + k, none⟩ = some (.int .i64 ds[k]) := ((hup2.trans hu).cell (p := ⟨b, o + k, none⟩) hbb).trans (hc k _ (by simp [nmv, hkl]))
        obtain ⟨x, hx⟩ : ∃ x, x = ds[k] := ⟨_, rfl⟩
        have hxo : numOk x = true := by rw [hx]; exact HM6.out _ (List.getElem_mem hkl)
        rw [← hx] at hck
        obtain ⟨z1, z2⟩ := numOk_wrap hxo
        have htk : dq (ds.take (k + 1)) = dq (ds.take k) ++ [UInt64.ofNat x.toNat] := by
          rw [List.take_succ_eq_append_getElem hkl, ← hx]; simp [dq]
        generalize x.toNat = xn at *
        have hqv : Value.int .u64 (xn : Int) = qv (UInt64.ofNat xn) := by
          rw [qv_ofNat, Nat.mod_eq_of_lt (by omega)]
        have HT := Lib.hid htk
        have HQV := Lib.hid hqv
        have hu12 := hup2.trans hu
        clear hc hx hxo htk hqv
        go_wp2_with (at_builtin; refine wpList_append_rd _ numsT (news := qvs [UInt64.ofNat xn]) (World.ownsRow.alloc hq _) (Rd.boxq _ _ HQV.out) (qvs_one _) (by omega) (by omega) (by simp; have := hu.size; omega) rfl rfl rfl rfl ?_; intro v3 w3 hown3 hg3 hat3; obtain ⟨Q3, qc3, rfl⟩ := own_form hown3)
        have hu3 : Up w2 w3 := (hu.alloc _).grown hg3 (fun g hg => (hq.lt g hg).1)
        clear hck hat3 hg3
        go_roundw
        case rel =>
          refine ⟨k + 1, Q3, qc3, by go_num, rfl, by omega, hu3, ?_⟩
          show World.ownsRow _ _ _ _ _ _ _
          rw [HT.out, qvs_append]
          exact hown3
        case measure => simp [intOf]; omega
      · have hkd : k = dn := by omega
        subst hkd
        have hqd : OwnQ wr w2.heap.size Q k qc (dq ds) := by
          have h := hq
          rw [HDL.out, List.take_length] at h
          rw [HDL.out]
          exact h
        clear hq
        have hqr := hqd.rd
        have hS : ∀ W, Up wr W → Up wr W ∧ W.cell? ⟨ge, 1, none⟩ = some (.slice A an ac) := fun W h =>
          ⟨h, blk_cell (((hu.trans h).block _ (Array.getElem?_eq_some_iff.1 hb2).1).trans hb2) 1⟩
        have zan : IntKind.u64.wrap (an : Int) = (an : Int) := by simp [IntKind.wrap, IntKind.bits, IntKind.signed]; omega
        have hlb := listB_ten (dq ds) (by rw [dq_len, ← HDL.out]; omega)
        rw [dq_len, ← HDL.out] at hlb
        have hb9 := (hu.block _ (Array.getElem?_eq_some_iff.1 hb2).1).trans hb2
        have hup9 := hup2.trans hu
        clear hqd hd hb2 hup2 hu
        go_wp2_with fail
        apply Rg.region_up _ (by kernel_rfl) (by kernel_rfl) hS
        · intro QN hQN
          (apply Rg.RK.ok; (· intro vs w1 hS; go_simp; with_reducible rfl); (· rfl); simp only [Act.put, List.setIfInBounds_toArray, List.set_cons_zero, List.set_cons_succ, Nat.reduceAdd])
          apply Rg.RK.opn (Sl 1 (bvs (listB (dq ds)))) Rg.ob [] []
          · exact fun v W1 W2 h hs => h.sta hs
          · rfl
          · intro vs w1 hK hS hf K hKK
            go_simp
            have hcall := list_any none 0 0 [] Q k qc (dq ds) w1 Rd.empty (hqr.up hS.1) (by omega)
            refine hcall.mono ?_
            rintro e w2 ⟨A1, n1, c1, rfl, ho1, hu2⟩
            (try rw [List.nil_append] at ho1)
            exact hKK.out _ _ (Sl.own ho1) (Rg.Keeps.of_up hu2) (own_row ho1)
          simp only [Act.put, List.setIfInBounds_toArray, List.set_cons_zero, List.set_cons_succ, Nat.reduceAdd]
          iterate 4 (apply Rg.RK.ok; (· intro vs w1 hS; go_simp; with_reducible rfl); (· rfl); simp only [Act.put, List.setIfInBounds_toArray, List.set_cons_zero, List.set_cons_succ, Nat.reduceAdd])
          apply Rg.RK.opn (Sl 1 (bvs (listB (dq ds) ++ numB an))) Rg.ob [1] []
          · exact fun v W1 W2 h hs => h.sta hs
          · rfl
          · intro vs w1 hK hS hf K hKK
            obtain ⟨hsl, -⟩ := hf
            obtain ⟨A1, n1, c1, hv, hnc, hrd⟩ := hsl
            have HBL := Lib.hid hrd.blen
            (try dsimp only at hKK ⊢)
            rw [hv] at hKK ⊢
            go_simp
            have hcall := put_any A1 n1 c1 (listB (dq ds)) an w1 hrd (by have := HBL.out; omega) (by omega)
            refine hcall.mono ?_
            rintro e w2 ⟨A2, n2, c2, rfl, ho1, hu2⟩
            exact hKK.out _ _ (Sl.own ho1) (Rg.Keeps.of_up hu2) (own_row ho1)
          simp only [Act.put, List.setIfInBounds_toArray, List.set_cons_zero, List.set_cons_succ, Nat.reduceAdd]
          apply Rg.RK.opD (fun vs W => vs 7 = vs 6) (fun _ _ => False) [] [] [6] (fun vs vs' h => by rw [h 7 (by simp), h 6 (by simp)]; exact ⟨rfl, rfl⟩)
          · exact fun _ _ _ h _ => h
          · rfl
          · intro vs w1 hK hS _ K hKK
            go_simp
            refine hKK.out _ _ ?_ (Rg.Keeps.refl _ _) (fun g hg => hg.elim)
            rw [Rg.upd_same, Rg.upd_ne _ _ (by decide)]
          simp only [Act.put, List.setIfInBounds_toArray, List.set_cons_zero, List.set_cons_succ, Nat.reduceAdd]
          apply Rg.RK.fin [6, 7]
          intro vs w8 hK hS hf
          obtain ⟨h6, h7, -⟩ := hf
          obtain ⟨B1, bn, bc, hv6, hbc, hrB⟩ := h6
          have hv7 : vs 7 = .slice B1 bn bc := Eq.trans h7 hv6
          refine hQN.out _ _ ?_
          clear hQN
          (try dsimp only)
          rw [hv6, hv7]
          generalize vs 1 = v1
          have hu8 := keeps_up hK
          have hb10 := (hu8.block _ (Array.getElem?_eq_some_iff.1 hb9).1).trans hb9
          have hup10 := hup9.trans hu8
          have hbn : bn ≤ 10 * k + 20 := by
            have h1 := hrB.blen
            have h2 := numB_ten (n := an) (by omega)
            rw [List.length_append] at h1
            omega
          clear hS hK h7 hv6 hv7 hqr hb9 hup9 hu8 hlb vs
          have hb0 : listB (dq ds) ++ numB an = listB (dq ds) ++ numB add.length := by rw [HAL.out]
          rw [hb0] at hrB
          have HB0 := Lib.hid (Eq.refl (listB (dq ds) ++ numB add.length))
          generalize hb00 : listB (dq ds) ++ numB add.length = b0 at hrB HB0
          have HB00 := Lib.hid hb00
          clear hb0 hb00 HB0
          have t1 := blk_cell hb10 1
          go_wp2_with fail
          clear t1
          go_loopw [9, 40] (fun q i wr => ∃ (j : Nat) (Q : Option Addr) (qn qc : Nat), i = .int .i64 (j : Int) ∧ q = .slice Q qn qc ∧ j ≤ an ∧ qn ≤ 10 * k + 20 + 20 * j ∧ Up w8 wr ∧ Rd wr wr.heap.size 1 Q qn (bvs (b0 ++ filesB (add.take j)))) (fun _ i _ => an - (intOf i).toNat)
          case atStart => exact ⟨0, B1, bn, bc, rfl, rfl, by omega, by omega, Up.refl _, by simpa [filesB] using hrB⟩
          case round =>
            obtain ⟨j, Q, qn, qc, rfl, rfl, hj, hqn, hu, hq⟩ := hrel
            by_cases hlt2 : j < an
            · have hjl : j < add.length := by have := HAL.out; omega
              obtain ⟨b, o, x, rfl, hbb, hx, c0, c1⟩ := ((ha.up hup10).up hu).file_at hlt2
              rw [List.getElem?_eq_getElem hjl] at hx
              injection hx with hx
              have hxo : fileOk x = true := by rw [← hx]; exact HM7.out _ (List.getElem_mem hjl)
              have htk : filesB (add.take (j + 1)) = filesB (add.take j) ++ (numB x.1.toNat ++ numB x.2.toNat) := by
                rw [List.take_succ_eq_append_getElem hjl, hx]; simp [filesB]
              obtain ⟨x1, x2⟩ := x
              (try dsimp only at c0 c1 htk)
              simp [fileOk, numOk] at hxo
              have z1 := lev_wrap (x := x1) (by omega) (by omega)
              have z2 := lev_wrap (x := x2) (by omega) (by omega)
              have z3 : x1.toNat ≤ 3 := by omega
              have z4 : x2.toNat ≤ 1073741824 := by omega
              have HT := Lib.hid htk
              clear hx hxo htk
              generalize x1.toNat = y1 at *
              generalize x2.toNat = y2 at *
              have hub : Up wr (wr.alloc (.cells #[.int .i64 x1, .int .i64 x2] 41)) := (Up.refl wr).alloc _
              have hfb : (wr.alloc (.cells #[.int .i64 x1, .int .i64 x2] 41)).heap[wr.heap.size]? = some (.cells #[.int .i64 x1, .int .i64 x2] 41 (0, 0)) := heap_alloc_new _ _
              go_wp2_with fail
              clear c0 c1
              have hq2 := hq.up hub
              have hu2 := hu.trans hub
              generalize wr.alloc (.cells #[.int .i64 x1, .int .i64 x2] 41) = w9 at *
              generalize wr.heap.size = gf at hfb ⊢
              have hS : ∀ W, Up w9 W → Up w9 W ∧ W.cell? ⟨gf, 0, none⟩ = some (.int .i64 x1) ∧ W.cell? ⟨gf, 1, none⟩ = some (.int .i64 x2) := fun W h => by
                have hf := (h.block _ (Array.getElem?_eq_some_iff.1 hfb).1).trans hfb
                exact ⟨h, blk_cell hf 0, blk_cell hf 1⟩
              clear hub hq hu hfb
              apply Rg.region_up _ (by kernel_rfl) (by kernel_rfl) hS
              · intro QN hQN
                iterate 4 (apply Rg.RK.ok; (· intro vs w1 hS; go_simp; with_reducible rfl); (· rfl); simp only [Act.put, List.setIfInBounds_toArray, List.set_cons_zero, List.set_cons_succ, Nat.reduceAdd])
                apply Rg.RK.opn (Sl 1 (bvs (b0 ++ filesB (add.take j) ++ numB y1))) Rg.ob [] []
                · exact fun v W1 W2 h hs => h.sta hs
                · rfl
                · intro vs w1 hK hS hf K hKK
                  go_simp
                  have hcall := put_any Q qn qc (b0 ++ filesB (add.take j)) y1 w1 (hq2.up hS.1) (by omega) (by omega)
                  refine hcall.mono ?_
                  rintro e w2 ⟨A1, n1, c1, rfl, ho1, hu2⟩
                  (try rw [List.nil_append] at ho1)
                  exact hKK.out _ _ (Sl.own ho1) (Rg.Keeps.of_up hu2) (own_row ho1)
                simp only [Act.put, List.setIfInBounds_toArray, List.set_cons_zero, List.set_cons_succ, Nat.reduceAdd]
                iterate 3 (apply Rg.RK.ok; (· intro vs w1 hS; go_simp; with_reducible rfl); (· rfl); simp only [Act.put, List.setIfInBounds_toArray, List.set_cons_zero, List.set_cons_succ, Nat.reduceAdd])
                apply Rg.RK.opn (Sl 1 (bvs (b0 ++ filesB (add.take j) ++ numB y1 ++ numB y2))) Rg.ob [4] []
                · exact fun v W1 W2 h hs => h.sta hs
                · rfl
                · intro vs w1 hK hS hf K hKK
                  obtain ⟨hsl, -⟩ := hf
                  obtain ⟨A1, n1, c1, hv, hnc, hrd⟩ := hsl
                  have HBL := Lib.hid hrd.blen
                  (try dsimp only at hKK ⊢)
                  rw [hv] at hKK ⊢
                  go_simp
                  have hcall := put_any A1 n1 c1 (b0 ++ filesB (add.take j) ++ numB y1) y2 w1 hrd (by have h1 := HBL.out; have h2 := hq2.blen; have h3 := numB_ten (n := y1) (by omega); rw [List.length_append] at h1; omega) (by omega)
                  refine hcall.mono ?_
                  rintro e w2 ⟨A2, n2, c2, rfl, ho1, hu2⟩
                  exact hKK.out _ _ (Sl.own ho1) (Rg.Keeps.of_up hu2) (own_row ho1)
                simp only [Act.put, List.setIfInBounds_toArray, List.set_cons_zero, List.set_cons_succ, Nat.reduceAdd]
                apply Rg.RK.opD (fun vs W => vs 9 = vs 8) (fun _ _ => False) [] [] [8] (fun vs vs' h => by rw [h 9 (by simp), h 8 (by simp)]; exact ⟨rfl, rfl⟩)
                · exact fun _ _ _ h _ => h
                · rfl
                · intro vs w1 hK hS _ K hKK
                  go_simp
                  refine hKK.out _ _ ?_ (Rg.Keeps.refl _ _) (fun g hg => hg.elim)
                  rw [Rg.upd_same, Rg.upd_ne _ _ (by decide)]
                simp only [Act.put, List.setIfInBounds_toArray, List.set_cons_zero, List.set_cons_succ, Nat.reduceAdd]
                apply Rg.RK.fin [8, 9]
                intro vs w10 hK hS hf
                obtain ⟨h8, h9, -⟩ := hf
                obtain ⟨Q3, qn3, qc3, hv8, hqc3, hrQ⟩ := h8
                have hv9 : vs 9 = .slice Q3 qn3 qc3 := Eq.trans h9 hv8
                refine hQN.out _ _ ?_
                clear hQN
                (try dsimp only)
                rw [hv8, hv9]
                generalize vs 4 = v4
                have hu3 := keeps_up hK
                have hqn3 : qn3 ≤ 10 * k + 20 + 20 * (j + 1) := by
                  have h1 := hrQ.blen
                  have h2 := hq2.blen
                  have h3 := numB_ten (n := y1) (by omega)
                  have h4 := numB_ten (n := y2) (by omega)
                  rw [List.length_append, List.length_append] at h1
                  omega
                clear hS hK h9 hv8 hv9
                go_wp2_with fail
                go_roundw
                case rel =>
                  refine ⟨j + 1, Q3, qn3, qc3, by go_num, rfl, by omega, hqn3, hu2.trans hu3, ?_⟩
                  rw [HT.out, ← List.append_assoc, ← List.append_assoc]
                  exact hrQ
                case measure => simp [intOf]; omega
              · kernel_rfl
            · have hjn : j = an := by omega
              subst hjn
              have hqa : Rd wr wr.heap.size 1 Q qn (bvs (b0 ++ filesB add)) := by
                have h := hq
                rw [HAL.out, List.take_length] at h
                exact h
              have zlg := lev_wrap m3 m4
              have zl2 : lg.toNat ≤ 1073741824 := by omega
              obtain ⟨lgN, hlgN⟩ : ∃ lgN, lgN = lg.toNat := ⟨_, rfl⟩
              rw [← hlgN] at zlg zl2
              have HLG := Lib.hid hlgN
              have hb11 := (hu.block _ (Array.getElem?_eq_some_iff.1 hb10).1).trans hb10
              have t2 := blk_cell hb11 2
              have t3 := blk_cell hb11 3
              have t4 := blk_cell hb11 4
              have t5 := blk_cell hb11 5
              have t6 := blk_cell hb11 6
              have hlit : Rd (wr.alloc (.cells #[.int .u64 (lgN : Int), .int .u64 (f : Int), .int .u64 (ce : Int), .int .u64 (at_ : Int), .int .u64 (le : Int)] 22)) (wr.alloc (.cells #[.int .u64 (lgN : Int), .int .u64 (f : Int), .int .u64 (ce : Int), .int .u64 (at_ : Int), .int .u64 (le : Int)] 22)).heap.size 1 (some ⟨wr.heap.size, 0, none⟩) 5 (uqs [lgN, f, ce, at_, le]) := Rd.made wr #[.int .u64 (lgN : Int), .int .u64 (f : Int), .int .u64 (ce : Int), .int .u64 (at_ : Int), .int .u64 (le : Int)] 22 rfl
              have hub : Up wr (wr.alloc (.cells #[.int .u64 (lgN : Int), .int .u64 (f : Int), .int .u64 (ce : Int), .int .u64 (at_ : Int), .int .u64 (le : Int)] 22)) := (Up.refl wr).alloc _
              have hqb := hqa.up hub
              have hup12 := (hup10.trans hu).trans hub
              clear hq hqa hb10 hlgN hS hup10 hu hrB
              go_wp2_with fail
              clear t2 t3 t4 t5 t6 hb11 hub
              generalize wr.alloc (.cells #[.int .u64 (lgN : Int), .int .u64 (f : Int), .int .u64 (ce : Int), .int .u64 (at_ : Int), .int .u64 (le : Int)] 22) = w9 at *
              generalize wr.heap.size = gl at hlit ⊢
              have hnb : ∀ x ∈ [lgN, f, ce, at_, le], x ≤ 281474976710656 := by
                intro x hx
                simp only [List.mem_cons, List.not_mem_nil, or_false] at hx
                obtain ⟨a1, a2, a3, a4⟩ := m5
                rcases hx with rfl | rfl | rfl | rfl | rfl <;> omega
              have HNB := Lib.hid hnb
              obtain ⟨nums, hnums⟩ : ∃ nums, nums = [lgN, f, ce, at_, le] := ⟨_, rfl⟩
              have hnl : nums.length = 5 := by rw [hnums]; rfl
              rw [← hnums] at hlit HNB
              have HNM := Lib.hid hnums
              have HNL := Lib.hid hnl
              clear hnb hnums hnl m5
              go_loopw [9, 67] (fun q i wr => ∃ (t : Nat) (Q : Option Addr) (qn qc : Nat), i = .int .i64 (t : Int) ∧ q = .slice Q qn qc ∧ t ≤ 5 ∧ qn ≤ 10 * k + 20 + 20 * j + 10 * t ∧ Up w9 wr ∧ Rd wr wr.heap.size 1 Q qn (bvs (b0 ++ filesB add ++ numsL (nums.take t)))) (fun _ i _ => 5 - (intOf i).toNat)
              case atStart => exact ⟨0, Q, qn, qc, rfl, rfl, by omega, by omega, Up.refl _, by simpa [numsL] using hqb⟩
              case round =>
                clear hqb hqn
                obtain ⟨t, Q, qn, qc, rfl, rfl, ht, hqn, hu, hq⟩ := hrel
                by_cases hlt3 : t < 5
                · have htl : t < nums.length := by have := HNL.out; omega
                  obtain ⟨b, o, e, hbb, hc⟩ := (hlit.up hu).2 (by omega)
                  injection e with e
                  injection e with e1 e2
                  subst e1; subst e2
                  have hck := hc t (.int .u64 (nums[t] : Int)) (by simp [uqs, htl])
                  rw [Nat.zero_add] at hck
                  have hxb : nums[t] ≤ 281474976710656 := HNB.out _ (List.getElem_mem htl)
                  have htk : numsL (nums.take (t + 1)) = numsL (nums.take t) ++ numB nums[t] := by
                    rw [List.take_succ_eq_append_getElem htl]; unfold numsL; rw [List.flatMap_append, List.flatMap_singleton]
                  generalize nums[t] = x at *
                  have HT := Lib.hid htk
                  clear hc htk
                  go_wp2_with fail
                  clear hck
                  have hcall := put_any Q qn qc (b0 ++ filesB add ++ numsL (nums.take t)) x wr hq (by omega) (by omega)
                  refine hcall.mono ?_
                  rintro e w10 ⟨Q3, qn3, qc3, rfl, ho, hu3⟩
                  have hrQ := ho.rd
                  have hqn3 : qn3 ≤ 10 * k + 20 + 20 * j + 10 * (t + 1) := by
                    have h1 := hrQ.blen
                    have h2 := hq.blen
                    have h3 := numB_ten (n := x) (by omega)
                    rw [List.length_append] at h1
                    omega
                  clear ho hcall
                  go_wp2_with fail
                  go_roundw
                  case rel =>
                    refine ⟨t + 1, Q3, qn3, qc3, by go_num, rfl, by omega, hqn3, hu.trans hu3, ?_⟩
                    rw [HT.out, ← List.append_assoc]
                    exact hrQ
                  case measure => simp [intOf]; omega
                · have ht5 : t = 5 := by omega
                  subst ht5
                  have hqe : Rd wr wr.heap.size 1 Q qn (bvs (editB ds add lg f ce at_ le)) := by
                    have h := hq
                    have e : nums.take 5 = nums := List.take_of_length_le (by have := HNL.out; omega)
                    rw [e, HNM.out, HLG.out, ← HB00.out] at h
                    exact h
                  clear hq
                  have hput0 : putE 6 (editB ds add lg f ce at_ le).length = 0 := by
                    have h1 := hqe.blen
                    unfold putE
                    rw [if_neg (by omega), if_neg (by omega)]
                  have hputL : putL bs 6 (editB ds add lg f ce at_ le) = bs ++ frameB 6 (editB ds add lg f ce at_ le) := by unfold putL; rw [if_pos hput0]
                  have HP0 := Lib.hid hput0
                  have HPL := Lib.hid hputL
                  have hup13 := hup12.trans hu
                  clear hput0 hputL
                  go_wp2_with fail
                  have hcall := fput_any B n c bs 6 Q qn qc (editB ds add lg f ce at_ le) wr (hb.up hup13) hqe hn (by omega)
                  refine hcall.mono ?_
                  rintro e w10 ⟨Q3, qn3, qc3, rfl, ho, hu3⟩
                  rw [HP0.out]
                  rw [HPL.out] at ho
                  go_wp2_with fail
                  go_ret2
                  exact .inr ⟨HM.out, Q3, qn3, qc3, rfl, own_base ho (by have := hup13.size; omega), hup13.trans hu3⟩
        · kernel_rfl
end Go.Proofs.Ytokcaoaclheiiaa
