/-
  'clepsydra/clepsydralaw4.DiskNames': for every input the law returns true; each argument reads behind the call as it read before. No condition.
-/
import Derived.IntWalk
import Derived.Test.YtebhhfmekmpnkaaZ4
/-
  The law DiskNames: the walk.
-/
namespace Go.Proofs.Ytebhhfmekmpnkaa.diskNames
open Go.RowKit Go.Maps
set_option linter.unusedVariables false
set_option linter.unusedSimpArgs false

theorem zvs_izs (l : List Int64) : zvs l = izs (l.map Int64.toInt) := by simp [zvs, izs]
theorem i64_rg (x : Int64) : -9223372036854775808 ≤ x.toInt ∧ x.toInt ≤ 9223372036854775807 := by
  have h1 := Int64.le_toInt x
  have h2 := Int64.toInt_lt x
  omega
theorem namesT : SlT Try.prog 39 9 1 16 := SlT.mk' Try.underlying39 (z := .string ByteArray.empty) (by kernel_rfl) rfl (by decide)
theorem svs_one (L : List (List UInt8)) : ∀ u ∈ svs L, u.oneCell' = true := fun u hu => by
  obtain ⟨k, _, rfl⟩ := List.mem_map.1 hu
  rfl
theorem nmD_cat (k : Nat) : ({ data := #[110] } : ByteArray) ++ tx [dgt ((k + 10) / 10), dgt ((k + 10) % 10)] = tx (nmD k) := by
  have e : ({ data := #[110] } : ByteArray) = tx [110] := rfl
  rw [e, tx_append']; rfl
theorem nm_ok {k : Nat} {d : Dk} (h : NmS k d) (hk : k ≤ 16) : d.calls ≤ 1000000000 ∧ d.files.length < 1000000 ∧ d.turns.length < 1000000 := by
  rw [h.calls, h.files, h.turns]
  simp
  omega
/-- a name that may not be is refused ahead of all -/
theorem bad_call {d : Dk} {s : List UInt8} (h : nameB s = false) : callN [s] d = (d, 10) := by
  unfold callN
  rw [if_neg (by simp [h])]
theorem bad_call2 {d : Dk} {a b : List UInt8} (h : nameB a = false ∨ nameB b = false) : callN [a, b] d = (d, 10) := by
  unfold callN
  rw [if_neg (by rcases h with h | h <;> simp [h])]
theorem bad_create {d : Dk} {s : List UInt8} (h : nameB s = false) : createD d s = (d, 10) := by unfold createD; rw [bad_call h]; rfl
theorem bad_append {d : Dk} {s b : List UInt8} (h : nameB s = false) : appendD d s b = (d, 10) := by unfold appendD; rw [bad_call h]; rfl
theorem bad_sync {d : Dk} {s : List UInt8} (h : nameB s = false) : syncD d s = (d, 10) := by unfold syncD; rw [bad_call h]; rfl
theorem bad_remove {d : Dk} {s : List UInt8} (h : nameB s = false) : removeD d s = (d, 10) := by unfold removeD; rw [bad_call h]; rfl
theorem bad_rename {d : Dk} {a b : List UInt8} (h : nameB a = false ∨ nameB b = false) : renameD d a b = (d, 10) := by unfold renameD; rw [bad_call2 h]; rfl
theorem bad_read {d : Dk} {s : List UInt8} (h : nameB s = false) : readD d s = ([], 10) := by unfold readD; rw [h]; rfl
/-- a row of names that lies apart from the disk -/
structure Nw (B : Nat) (Q : Option Addr) (j c : Nat) (L : List (List UInt8)) (h : Hp) (w : World) : Prop where
  own : w.ownsRow B 9 1 (.slice Q j c) j (svs L)
  apart : ∀ k, inA Q k → ¬ foot h k
theorem Nw.up {B : Nat} {Q : Option Addr} {j c : Nat} {L : List (List UInt8)} {h : Hp} {w w' : World} (x : Nw B Q j c L h w) (hu : Up w w') : Nw B Q j c L h w' := ⟨own_up x.own hu, x.apart⟩
theorem Nw.to {B : Nat} {Q : Option Addr} {j c : Nat} {L : List (List UInt8)} {h h' : Hp} {w w' : World} (x : Nw B Q j c L h w) (D : DkTo h w h' w') : Nw B Q j c L h' w' :=
  ⟨own_keepsX x.own D.kept x.apart, fun k hk hf => by
    rcases D.foot k hf with h1 | h1
    · exact x.apart k hk h1
    · have := (inA_own x.own hk).2; omega⟩
theorem Nw.len {B : Nat} {Q : Option Addr} {j c : Nat} {L : List (List UInt8)} {h : Hp} {w : World} (x : Nw B Q j c L h w) : j = L.length := by have h := x.own.1; simp [svs] at h; omega
set_option maxRecDepth 100000 in
set_option maxHeartbeats 16000000 in
theorem law_any (s : ByteArray) (n : Int) (A : Option Addr) (kn kc : Nat) (kl : List Int64) (w : World) (hs : s.size ≤ maxLen) (b1 : -9223372036854775808 ≤ n ∧ n ≤ 9223372036854775807) (h2 : IsZ w A kn kc kl) :
    Calls Try.prog 9 #[.string s, .int .i64 n, .slice A kn kc] w fun e w' => e = .returned (.bool true) ∧ Up w w' := by
  obtain ⟨l, rfl⟩ : ∃ l, s = tx l := ⟨s.data.toList, tx_of rfl⟩
  have hls : (tx l).size = l.length := tx_size l
  rw [hls] at hs
  have hsl : l.length ≤ 9223372036854775807 := hs
  obtain ⟨hkz, hkc, hkcc⟩ := h2
  have hkn : kn ≤ 9223372036854775807 := by omega
  have hklen := hkz.zlen
  have hkr := hkz
  rw [zvs_izs] at hkr
  have hkrg : ∀ x ∈ kl.map Int64.toInt, -9223372036854775808 ≤ x ∧ x ≤ 9223372036854775807 := fun x hx => by
    obtain ⟨y, _, rfl⟩ := List.mem_map.1 hx
    exact i64_rg y
  have hkb : 0 < kn → ∀ a, A = some a → a.block < w.heap.size := fun hm a ha => by
    obtain ⟨b, o, e, hb, _⟩ := hkz.2 hm
    rw [ha] at e
    injection e with e
    rw [e]; exact hb
  obtain ⟨keep, hkeep⟩ : ∃ keep, keep = kl.map Int64.toInt := ⟨_, rfl⟩
  rw [← hkeep] at hkr hkrg
  have hkget : ∀ i, keep.getD i 0 = (kl.getD i 0).toInt := fun i => by
    rw [hkeep, List.getD_eq_getElem?_getD, List.getD_eq_getElem?_getD, List.getElem?_map]
    cases kl[i]? <;> rfl
  have hkout : ∀ i, kn ≤ i → evI (keep.getD i 0) = true := fun i hi => by
    have h1 : keep.getD i 0 = 0 := by
      rw [hkget i, List.getD_eq_getElem?_getD, List.getElem?_eq_none (by omega)]; rfl
    rw [h1]; decide
  have HKR := Lib.hid hkrg
  have HKG := Lib.hid hkget
  have HKO := Lib.hid hkout
  have HKB := Lib.hid hkb
  have HKL := Lib.hid hklen
  clear hkrg hkget hkout hkb hklen hkeep
  obtain ⟨N0, hN0, hN1⟩ := i64_and_le n 15 (by omega)
  replace hN0 : bits .and .i64 n 15 = (N0 : Int) := hN0
  obtain ⟨N, hN⟩ : ∃ N, N = N0 + 1 := ⟨_, rfl⟩
  have hNw : IntKind.i64.wrap ((N0 : Int) + 1) = (N : Int) := by rw [IntWalk.i64_in _ (by omega)]; omega
  have hNv : (N0 : Int) + 1 = (N : Int) := by omega
  have hNb : N ≤ 16 := by omega
  clear hN hN1
  go_enter Try.func9, Try.ntmps9
  go_wp2_with fail
  refine (dnew_any 1000 w).mono ?_
  rintro e w1 ⟨h1, rfl, H1, hu1, hf1⟩
  by_cases hl1 : 100 < l.length
  · have i1 : (100 : Int) < ((tx l).size : Int) := by rw [hls]; omega
    have i2 : (100 : Int) < (l.length : Int) := by omega
    go_wp2_with fail
    refine (awake4_any w1).mono ?_
    rintro e w2 ⟨rfl, hu2⟩
    go_wp2_with fail
    go_ret
    exact ⟨rfl, hu1.trans hu2⟩
  have i1 : ¬ (100 : Int) < ((tx l).size : Int) := by rw [hls]; omega
  have i2 : ¬ (100 : Int) < (l.length : Int) := by omega
  have HG1 := Lib.hid (rfl : h1.g = h1.g)
  generalize hG : h1.g = G at *
  have HG2 : Hid (h1.g = G) := Lib.hid hG
  have nil0 : Nw w.heap.size none 0 0 [] h1 w1 := ⟨World.ownsRow_nil _ _ _ _, fun k hk => by obtain ⟨a, ha, _⟩ := hk; cases ha⟩
  have HNM0 : Hid (NmS 0 (newD 1000)) := NmS.zero
  have HOK0 : Hid (DkOk (newD 1000)) := newD_ok (by omega)
  clear hG HG1 hf1
  go_wp2_with fail
  go_loopw [8, 9] (fun qv iv wr => ∃ (k : Nat) (h : Hp) (d : Dk) (Q : Option Addr) (j qc : Nat), iv = .int .i64 (k : Int) ∧ qv = .slice Q j qc ∧ k ≤ N ∧ Hid (h.g = G) ∧ Hid (NmS k d) ∧ Hid (DkOk d) ∧ DiskAt w.heap.size h d wr ∧ Up w wr ∧ Nw w.heap.size Q j qc ((kpt k keep).map nmD) h wr) (fun _ iv _ => N - (intOf iv).toNat)
  case atStart => exact ⟨0, h1, newD 1000, none, 0, 0, rfl, rfl, by omega, HG2, HNM0, HOK0, H1, hu1, nil0⟩
  case round =>
    obtain ⟨k, h, d, Q, j, qc, rfl, rfl, hk, HG, HNM, HOK, H, hup, hQ⟩ := hrel
    clear H1 hu1 nil0 HG2 HNM0 HOK0
    have hj16 : j ≤ 16 := by
      have e := hQ.len
      rw [List.length_map] at e
      have e2 : (kpt k keep).length ≤ k := by unfold kpt; have := List.length_filter_le (fun i => evI (keep.getD i 0)) (List.range k); rw [List.length_range] at this; exact this
      omega
    by_cases hlt : k < N
    · have i3 : (k : Int) < (N : Int) := by omega
      have HDG := Lib.hid (digits_any k wr (by omega))
      have hcat := nmD_cat k
      have hzz : ¬ (9223372036854775807 < (1 : Nat) + (tx [dgt ((k + 10) / 10), dgt ((k + 10) % 10)]).size) := by rw [tx_size]; simp
      have hst := HNM.out.step (show k < 16 by omega)
      obtain ⟨c1, c2, c3⟩ := nm_ok HNM.out (by omega)
      have HST := Lib.hid hst
      have HOK3 : Hid (DkOk (createD d (nmD k)).1) := createD_ok HOK.out _ c2 c3
      have HCR := Lib.hid (fun W (h4 : DiskAt w.heap.size h d W) => create_any h4 HOK.out c1 c2 c3 (nmD k) (by simp [nmD]))
      obtain ⟨nm, hnm⟩ : ∃ nm, nm = nmD k := ⟨_, rfl⟩
      rw [← hnm] at HCR hcat HST HOK3
      have HN9 := Lib.hid hnm
      generalize tx [dgt ((k + 10) / 10), dgt ((k + 10) % 10)] = dg at *
      clear hst c1 c2 c3 hnm
      go_wp2_with fail
      refine HDG.out.mono ?_
      rintro e w2 ⟨rfl, hu2⟩
      have H2 := H.up hu2
      have hup2 := hup.trans hu2
      have hQ2 := hQ.up hu2
      clear H hup hQ hu2 HDG
      go_wp2_with fail
      have hcr := HCR.out w2 H2
      rw [HG.out, HST.out.1] at hcr
      rw [show ((0 : Nat) : Int) = 0 from rfl] at hcr
      refine hcr.mono ?_
      rintro e w3 ⟨h3, rfl, H3, D3⟩
      have hQ3 := hQ2.to D3
      have hup3 := D3.below H2 (Nat.le_refl _) hup2
      have HG3 : Hid (h3.g = G) := Lib.hid (D3.g.trans HG.out)
      have HNM3 : Hid (NmS (k + 1) (createD d nm).1) := HST.out.2
      clear hcr HCR H2 hup2 hQ2 D3 HG HNM HOK HST hcat hzz
      generalize (createD d nm).1 = d3 at *
      by_cases hkk : kn ≤ k
      · have i4 : (kn : Int) ≤ (k : Int) := by omega
        have hev : kpt (k + 1) keep = kpt k keep ++ [k] := by rw [kpt_succ, if_pos (HKO.out k hkk)]
        have HEV := Lib.hid hev
        clear hev
        go_wp2_with (at_builtin; refine wpList_append_rd _ namesT (news := svs [nm]) (World.ownsRow.alloc hQ3.own _) (Rd.box _ _ _) (svs_one _) (by omega) (by omega) (by simp; have := hup3.size; omega) rfl rfl rfl rfl ?_; intro v5 w5 hown5 hg5 hat5; obtain ⟨R5, rc5, rfl⟩ := own_form hown5)
        have hua : Up w3 (w3.alloc (.cells #[.string (tx nm)] 9)) := (Up.refl w3).alloc _
        have hoa := World.ownsRow.alloc hQ3.own (.cells #[.string (tx nm)] 9)
        have hKo := keeps_grown hoa hg5 (X := Rg.ob (.slice Q j qc)) (fun g hg => hg)
        have H5 := (H3.up hua).keepsX hKo (fun k hk hb => hQ3.apart k (ob_inA hb) hk)
        have hup5 : Up w w5 := (hup3.alloc _).grown hg5 (fun g hg => (World.ownsRow.lt hQ3.own g hg).1)
        have hQ5 : Nw w.heap.size R5 (j + 1) rc5 ((kpt (k + 1) keep).map nmD) h3 w5 := by
          refine ⟨?_, fun z hz hf => ?_⟩
          · rw [HEV.out, List.map_append, show [k].map nmD = [nm] by rw [HN9.out]; rfl]
            have e : svs ((kpt k keep).map nmD ++ [nm]) = svs ((kpt k keep).map nmD) ++ svs [nm] := by simp [svs]
            rw [e]; exact hown5
          · rcases at_inA hat5 z hz with h1 | h1
            · exact hQ3.apart z h1 hf
            · have h2 := (H3.lt hf).2
              simp at h1
              omega
        clear hown5 hg5 hat5 hua hoa hKo H3 hup3 hQ3 HEV
        go_roundw
        case rel => exact ⟨k + 1, h3, d3, R5, j + 1, rc5, by go_num, rfl, by omega, HG3, HNM3, HOK3, H5, hup5, hQ5⟩
        case measure => simp [intOf]; omega
      · have i4 : ¬ (kn : Int) ≤ (k : Int) := by omega
        obtain ⟨b, o, hA, hbB, hcell0⟩ := hkz.znum (k := k) (by omega)
        subst hA
        have hcell := (hup3.cell (p := ⟨b, o + k, none⟩) hbB).trans hcell0
        have i5 : (k : Int) < (kn : Int) := by omega
        have i6 : k < kn := by omega
        have hevk : evI (keep.getD k 0) = (bits .and .i64 (kl.getD k 0).toInt 1 == 0) := by rw [HKG.out k]; rfl
        generalize (kl.getD k 0).toInt = kv at *
        by_cases hev0 : (bits .and .i64 kv 1 == 0) = true
        · have hev : kpt (k + 1) keep = kpt k keep ++ [k] := by rw [kpt_succ, if_pos (hevk.trans hev0)]
          have HEV := Lib.hid hev
          clear hev hevk
          go_wp2_with (at_builtin; refine wpList_append_rd _ namesT (news := svs [nm]) (World.ownsRow.alloc hQ3.own _) (Rd.box _ _ _) (svs_one _) (by omega) (by omega) (by simp; have := hup3.size; omega) rfl rfl rfl rfl ?_; intro v5 w5 hown5 hg5 hat5; obtain ⟨R5, rc5, rfl⟩ := own_form hown5)
          have hua : Up w3 (w3.alloc (.cells #[.string (tx nm)] 9)) := (Up.refl w3).alloc _
          have hoa := World.ownsRow.alloc hQ3.own (.cells #[.string (tx nm)] 9)
          have hKo := keeps_grown hoa hg5 (X := Rg.ob (.slice Q j qc)) (fun g hg => hg)
          have H5 := (H3.up hua).keepsX hKo (fun k hk hb => hQ3.apart k (ob_inA hb) hk)
          have hup5 : Up w w5 := (hup3.alloc _).grown hg5 (fun g hg => (World.ownsRow.lt hQ3.own g hg).1)
          have hQ5 : Nw w.heap.size R5 (j + 1) rc5 ((kpt (k + 1) keep).map nmD) h3 w5 := by
            refine ⟨?_, fun z hz hf => ?_⟩
            · rw [HEV.out, List.map_append, show [k].map nmD = [nm] by rw [HN9.out]; rfl]
              have e : svs ((kpt k keep).map nmD ++ [nm]) = svs ((kpt k keep).map nmD) ++ svs [nm] := by simp [svs]
              rw [e]; exact hown5
            · rcases at_inA hat5 z hz with h1 | h1
              · exact hQ3.apart z h1 hf
              · have h2 := (H3.lt hf).2
                simp at h1
                omega
          clear hown5 hg5 hat5 hua hoa hKo H3 hup3 hQ3 HEV
          go_roundw
          case rel => exact ⟨k + 1, h3, d3, R5, j + 1, rc5, by go_num, rfl, by omega, HG3, HNM3, HOK3, H5, hup5, hQ5⟩
          case measure => simp [intOf]; omega
        · rw [Bool.not_eq_true] at hev0
          have hev : kpt (k + 1) keep = kpt k keep := by rw [kpt_succ, if_neg (by rw [hevk, hev0]; simp), List.append_nil]
          rw [← hev] at hQ3
          clear hev hevk
          go_wp2_with fail
          go_roundw
          case rel => exact ⟨k + 1, h3, d3, Q, j, qc, by go_num, rfl, by omega, HG3, HNM3, HOK3, H3, hup3, hQ3⟩
          case measure => simp [intOf]; omega
    · have i3 : ¬ (k : Int) < (N : Int) := by omega
      obtain rfl : k = N := by omega
      have hca := calls_any H
      rw [HG.out, HNM.out.calls] at hca
      have HCA := Lib.hid hca
      have HRK := Lib.hid (rok4_any l)
      clear hca i1 i2
      go_wp2_with fail
      refine HCA.out.mono ?_
      rintro e w2 ⟨rfl, rfl⟩
      go_wp2_with fail
      refine (HRK.out _ hsl).mono ?_
      rintro e w3 ⟨rfl, rfl⟩
      cases hnb : nameB l with
      | true =>
        have hcra := crash_any H HOK.out A kn kc keep (hkr.up hup) hkc hkn HKR.out (fun hm a ha hf => by have h1 := ((H).lt hf).1; have h2 := HKB.out hm a ha; omega) (fun hm a ha => Nat.lt_of_lt_of_le (HKB.out hm a ha) (hup).size) (fun t ht => by
          rw [HNM.out.turns] at ht
          obtain ⟨i, _, rfl⟩ := List.mem_map.1 ht
          simp [tnD, nmD])
        rw [(HG).out] at hcra
        have HCRA := Lib.hid hcra
        have HNI : Hid (NmI (crashD d keep).names ((kpt k keep).map nmD)) := HNM.out.crash keep
        have HOK9 : Hid (DkOk (crashD d keep)) := crashD_ok HOK.out keep (by rw [HNM.out.lasted, HNM.out.turns]; simp [Maps.size]; omega)
        have HDE : Hid ((crashD d keep).dead = false) := rfl
        clear hcra
        go_wp2_with fail
        refine HCRA.out.mono ?_
        rintro e w5 ⟨h5, rfl, H5, D5⟩
        have hq5 := (hQ).to D5
        have hu5 := D5.below H (Nat.le_refl _) hup
        have hg5 : h5.g = G := D5.g.trans (HG).out
        clear HCRA D5
        generalize crashD d keep = d5 at *
        have hli := dlist_any H5 HOK9.out HDE.out
        rw [hg5] at hli
        have HLI := Lib.hid hli
        clear hli
        go_wp2_with fail
        refine HLI.out.mono ?_
        rintro e w6 ⟨A6, c6, ss, rfl, hp6, ho6, hu6⟩
        have hso := HNI.out.list (by omega) hp6
        rw [hso] at ho6
        have hq6 := hq5.up hu6
        have hup6 := hu5.trans hu6
        have hjl : ss.length = j := by
          have e1 := congrArg List.length hso
          rw [List.length_mergeSort] at e1
          rw [e1, hq6.len]
        rw [hjl] at ho6 ⊢
        have hr6 := Rd.own ho6
        have hr7 := Rd.own hq6.own
        have hwl := hq6.len
        clear hso hp6 ho6 hq5 hq6 hu5 hu6 H5 HLI HNI HOK9 HDE hg5 hjl
        generalize (kpt k keep).map nmD = WL at *
        have HWL := Lib.hid hwl
        clear hwl
        go_wp2_with fail
        go_loopw [15] (fun iv wr => ∃ t : Nat, iv = .int .i64 (t : Int) ∧ t ≤ j ∧ Up w6 wr) (fun iv _ => j - (intOf iv).toNat)
        case atStart => exact ⟨0, rfl, by omega, Up.refl _⟩
        case round =>
          obtain ⟨t, rfl, ht, hut⟩ := hrel
          by_cases htl : t < j
          · have i9 : (t : Int) < (j : Int) := by omega
            have htW : t < WL.length := by have := HWL.out; omega
            obtain ⟨b1, o1, rfl, hb1, hc1⟩ := (hr6.stay (Nat.le_refl _) hut).2 (by omega)
            obtain ⟨b2, o2, rfl, hb2, hc2⟩ := (hr7.stay (Nat.le_refl _) hut).2 (by omega)
            have hd1 := hc1 t (.string (tx WL[t])) (by simp [svs, htW])
            have hd2 := hc2 t (.string (tx WL[t])) (by simp [svs, htW])
            have hsz := hut.size
            generalize WL[t] = nmt at *
            have hS9 : ∀ W9, Up wr W9 → (W9.cell? ⟨b1, o1 + t, none⟩ = some (.string (tx nmt)) ∧ W9.cell? ⟨b2, o2 + t, none⟩ = some (.string (tx nmt))) ∧ Up wr W9 := fun W9 h9 =>
              ⟨⟨(h9.cell (p := ⟨b1, o1 + t, none⟩) (Nat.lt_of_lt_of_le hb1 hsz)).trans hd1, (h9.cell (p := ⟨b2, o2 + t, none⟩) (Nat.lt_of_lt_of_le hb2 hsz)).trans hd2⟩, h9⟩
            have hne9 : ((tx nmt).toList != (tx nmt).toList) = false := by simp
            clear hc1 hc2 hd1 hd2
            go_wp2_with fail
            apply Rg.region_up _ (by kernel_rfl) (by kernel_rfl) hS9
            · intro QN hQN
              iterate 9 (apply Rg.RK.ok; (· intro vs w1 hS; go_simp; with_reducible rfl); (· rfl); simp only [Act.put, List.setIfInBounds_toArray, List.set_cons_zero, List.set_cons_succ, Nat.reduceAdd])
              apply Rg.RK.fin []
              intro vs w1 hK hS _
              refine hQN.out _ _ ?_
              clear hQN
              have hut2 := hut.trans hS.2
              clear hK hS
              go_wp2_with fail
              go_roundw
              case rel => exact ⟨t + 1, by go_num, by omega, hut2⟩
              case measure => simp [intOf]; omega
            · kernel_rfl
          · have i9 : ¬ (t : Int) < (j : Int) := by omega
            go_wp2_with fail
            refine (awake4_any _).mono ?_
            rintro e w9 ⟨rfl, hu9⟩
            go_wp2_with fail
            go_ret
            exact ⟨rfl, (hup6.trans hut).trans hu9⟩
      | false =>
        obtain ⟨c1, c2, c3⟩ := nm_ok HNM.out (by omega)
        have hrd := dread_any H HOK.out l hsl
        rw [HG.out, bad_read hnb] at hrd
        (try dsimp only at hrd)
        rw [show ((10 : Nat) : Int) = 10 from rfl] at hrd
        have HRD := Lib.hid hrd
        have HCALL := Lib.hid HNM.out.calls
        clear hrd
        go_wp2_with fail
        refine HRD.out.mono ?_
        rintro e w2 ⟨R2, n2, r2, rfl, -, hu2⟩
        have H2 := H.up hu2
        have hup2 := hup.trans hu2
        have hQ2 := hQ.up hu2
        clear HRD H hup hQ hu2
        have hc := create_any H2 HOK.out c1 c2 c3 l hsl
        rw [(HG).out, bad_create hnb] at hc
        (try dsimp only at hc)
        rw [show ((10 : Nat) : Int) = 10 from rfl] at hc
        have HC := Lib.hid hc
        clear hc
        go_wp2_with fail
        refine HC.out.mono ?_
        rintro e w3 ⟨h3, rfl, H3, Dn⟩
        have hQ3 := (hQ2).to Dn
        have hup3 := Dn.below H2 (Nat.le_refl _) hup2
        have HG3 : Hid ((h3).g = G) := Lib.hid (Dn.g.trans (HG).out)
        clear HC Dn H2 hup2 hQ2 HG
        have hc := dappend_any H3 HOK.out c1 l hsl none 0 0 [] Rd.empty (by omega) (fun k hk => by obtain ⟨a, ha, _⟩ := hk; cases ha)
        rw [(HG3).out, bad_append hnb] at hc
        (try dsimp only at hc)
        rw [show ((10 : Nat) : Int) = 10 from rfl] at hc
        have HC := Lib.hid hc
        clear hc
        go_wp2_with fail
        refine HC.out.mono ?_
        rintro e w4 ⟨h4, rfl, H4, Dn⟩
        have hQ4 := (hQ3).to Dn
        have hup4 := Dn.below H3 (Nat.le_refl _) hup3
        have HG4 : Hid ((h4).g = G) := Lib.hid (Dn.g.trans (HG3).out)
        clear HC Dn H3 hup3 hQ3 HG3
        have hc := sync_any H4 HOK.out c1 l hsl
        rw [(HG4).out, bad_sync hnb] at hc
        (try dsimp only at hc)
        rw [show ((10 : Nat) : Int) = 10 from rfl] at hc
        have HC := Lib.hid hc
        clear hc
        go_wp2_with fail
        refine HC.out.mono ?_
        rintro e w5 ⟨h5, rfl, H5, Dn⟩
        have hQ5 := (hQ4).to Dn
        have hup5 := Dn.below H4 (Nat.le_refl _) hup4
        have HG5 : Hid ((h5).g = G) := Lib.hid (Dn.g.trans (HG4).out)
        clear HC Dn H4 hup4 hQ4 HG4
        have hc := remove_any H5 HOK.out c1 c3 l hsl
        rw [(HG5).out, bad_remove hnb] at hc
        (try dsimp only at hc)
        rw [show ((10 : Nat) : Int) = 10 from rfl] at hc
        have HC := Lib.hid hc
        clear hc
        go_wp2_with fail
        refine HC.out.mono ?_
        rintro e w6 ⟨h6, rfl, H6, Dn⟩
        have hQ6 := (hQ5).to Dn
        have hup6 := Dn.below H5 (Nat.le_refl _) hup5
        have HG6 : Hid ((h6).g = G) := Lib.hid (Dn.g.trans (HG5).out)
        clear HC Dn H5 hup5 hQ5 HG5
        have hc := rename_any H6 HOK.out c1 c3 l [97] hsl (by decide)
        rw [(HG6).out, bad_rename (.inl hnb)] at hc
        (try dsimp only at hc)
        rw [show ((10 : Nat) : Int) = 10 from rfl] at hc
        have HC := Lib.hid hc
        clear hc
        go_wp2_with fail
        refine HC.out.mono ?_
        rintro e w7 ⟨h7, rfl, H7, Dn⟩
        have hQ7 := (hQ6).to Dn
        have hup7 := Dn.below H6 (Nat.le_refl _) hup6
        have HG7 : Hid ((h7).g = G) := Lib.hid (Dn.g.trans (HG6).out)
        clear HC Dn H6 hup6 hQ6 HG6
        have hc := rename_any H7 HOK.out c1 c3 [110, 49, 48] l (by decide) hsl
        rw [(HG7).out, bad_rename (.inr hnb)] at hc
        (try dsimp only at hc)
        rw [show ((10 : Nat) : Int) = 10 from rfl] at hc
        have HC := Lib.hid hc
        clear hc
        go_wp2_with fail
        refine HC.out.mono ?_
        rintro e w8 ⟨h8, rfl, H8, Dn⟩
        have hQ8 := (hQ7).to Dn
        have hup8 := Dn.below H7 (Nat.le_refl _) hup7
        have HG8 : Hid ((h8).g = G) := Lib.hid (Dn.g.trans (HG7).out)
        clear HC Dn H7 hup7 hQ7 HG7
        have hca := calls_any H8
        rw [HG8.out, HNM.out.calls] at hca
        have HCA := Lib.hid hca
        clear hca c1 c2 c3
        go_wp2_with fail
        refine HCA.out.mono ?_
        rintro e w9 ⟨rfl, rfl⟩
        have hcra := crash_any H8 HOK.out A kn kc keep (hkr.up hup8) hkc hkn HKR.out (fun hm a ha hf => by have h1 := ((H8).lt hf).1; have h2 := HKB.out hm a ha; omega) (fun hm a ha => Nat.lt_of_lt_of_le (HKB.out hm a ha) (hup8).size) (fun t ht => by
          rw [HNM.out.turns] at ht
          obtain ⟨i, _, rfl⟩ := List.mem_map.1 ht
          simp [tnD, nmD])
        rw [(HG8).out] at hcra
        have HCRA := Lib.hid hcra
        have HNI : Hid (NmI (crashD d keep).names ((kpt k keep).map nmD)) := HNM.out.crash keep
        have HOK9 : Hid (DkOk (crashD d keep)) := crashD_ok HOK.out keep (by rw [HNM.out.lasted, HNM.out.turns]; simp [Maps.size]; omega)
        have HDE : Hid ((crashD d keep).dead = false) := rfl
        clear hcra
        go_wp2_with fail
        refine HCRA.out.mono ?_
        rintro e w5 ⟨h5, rfl, H5, D5⟩
        have hq5 := (hQ8).to D5
        have hu5 := D5.below H8 (Nat.le_refl _) hup8
        have hg5 : h5.g = G := D5.g.trans (HG8).out
        clear HCRA D5
        generalize crashD d keep = d5 at *
        have hli := dlist_any H5 HOK9.out HDE.out
        rw [hg5] at hli
        have HLI := Lib.hid hli
        clear hli
        go_wp2_with fail
        refine HLI.out.mono ?_
        rintro e w6 ⟨A6, c6, ss, rfl, hp6, ho6, hu6⟩
        have hso := HNI.out.list (by omega) hp6
        rw [hso] at ho6
        have hq6 := hq5.up hu6
        have hup6 := hu5.trans hu6
        have hjl : ss.length = j := by
          have e1 := congrArg List.length hso
          rw [List.length_mergeSort] at e1
          rw [e1, hq6.len]
        rw [hjl] at ho6 ⊢
        have hr6 := Rd.own ho6
        have hr7 := Rd.own hq6.own
        have hwl := hq6.len
        clear hso hp6 ho6 hq5 hq6 hu5 hu6 H5 HLI HNI HOK9 HDE hg5 hjl
        generalize (kpt k keep).map nmD = WL at *
        have HWL := Lib.hid hwl
        clear hwl
        go_wp2_with fail
        go_loopw [15] (fun iv wr => ∃ t : Nat, iv = .int .i64 (t : Int) ∧ t ≤ j ∧ Up w6 wr) (fun iv _ => j - (intOf iv).toNat)
        case atStart => exact ⟨0, rfl, by omega, Up.refl _⟩
        case round =>
          obtain ⟨t, rfl, ht, hut⟩ := hrel
          by_cases htl : t < j
          · have i9 : (t : Int) < (j : Int) := by omega
            have htW : t < WL.length := by have := HWL.out; omega
            obtain ⟨b1, o1, rfl, hb1, hc1⟩ := (hr6.stay (Nat.le_refl _) hut).2 (by omega)
            obtain ⟨b2, o2, rfl, hb2, hc2⟩ := (hr7.stay (Nat.le_refl _) hut).2 (by omega)
            have hd1 := hc1 t (.string (tx WL[t])) (by simp [svs, htW])
            have hd2 := hc2 t (.string (tx WL[t])) (by simp [svs, htW])
            have hsz := hut.size
            generalize WL[t] = nmt at *
            have hS9 : ∀ W9, Up wr W9 → (W9.cell? ⟨b1, o1 + t, none⟩ = some (.string (tx nmt)) ∧ W9.cell? ⟨b2, o2 + t, none⟩ = some (.string (tx nmt))) ∧ Up wr W9 := fun W9 h9 =>
              ⟨⟨(h9.cell (p := ⟨b1, o1 + t, none⟩) (Nat.lt_of_lt_of_le hb1 hsz)).trans hd1, (h9.cell (p := ⟨b2, o2 + t, none⟩) (Nat.lt_of_lt_of_le hb2 hsz)).trans hd2⟩, h9⟩
            have hne9 : ((tx nmt).toList != (tx nmt).toList) = false := by simp
            clear hc1 hc2 hd1 hd2
            go_wp2_with fail
            apply Rg.region_up _ (by kernel_rfl) (by kernel_rfl) hS9
            · intro QN hQN
              iterate 9 (apply Rg.RK.ok; (· intro vs w1 hS; go_simp; with_reducible rfl); (· rfl); simp only [Act.put, List.setIfInBounds_toArray, List.set_cons_zero, List.set_cons_succ, Nat.reduceAdd])
              apply Rg.RK.fin []
              intro vs w1 hK hS _
              refine hQN.out _ _ ?_
              clear hQN
              have hut2 := hut.trans hS.2
              clear hK hS
              go_wp2_with fail
              go_roundw
              case rel => exact ⟨t + 1, by go_num, by omega, hut2⟩
              case measure => simp [intOf]; omega
            · kernel_rfl
          · have i9 : ¬ (t : Int) < (j : Int) := by omega
            go_wp2_with fail
            refine (awake4_any _).mono ?_
            rintro e w9 ⟨rfl, hu9⟩
            go_wp2_with fail
            go_ret
            exact ⟨rfl, (hup6.trans hut).trans hu9⟩
end Go.Proofs.Ytebhhfmekmpnkaa.diskNames

/-
  'clepsydra/clepsydralaw4.DiskNames': for every input the law returns true; each argument reads behind the call as it read before. No condition.
-/
namespace Go.Proofs.Ytebhhfmekmpnkaa.diskNames
open Go.ChangeShapes Go.WideShapes Go.ChangeAt Go.RowKit
open Go.ChangeMaps (open_string shut_string)
set_option linter.unusedVariables false

set_option maxRecDepth 100000 in
theorem lifted (os : Os) (started : os.Started) (H : Type) (enc : TypeId × Value → H) :
    ReturnsInHanded {} Try.checked os 9 .any (Rows.diskNamesSpec.pre6 enc Try.prog Try.f9 Rows.diskNamesRow.domain false) (Rows.diskNamesSpec.post enc Try.prog Try.f9 false true false false) := by
  refine returnsInHanded_of_change (C := Try.checked) prog_own started (by kernel_rfl) Try.func9
    (ChangeSpec.witness6 (enc := enc) (C := Try.checked) false ⟨#[], #[.string ByteArray.empty, .int .i64 0, .slice none 0 0], []⟩ 8 (by kernel_rfl) (by kernel_rfl) (by kernel_rfl) (by kernel_rfl)) ?_
  intro W base args ds gs before hval0 hW hcnd _
  have hval : ∀ (j : Nat) t v, Try.f9.params[j]? = some t → args[j]? = some v → Value.okWide Try.prog W .any base t v := hval0
  have hW' := hW
  obtain ⟨p, q, hA0, hV, rfl, hfz, hnd⟩ := hW
  have hA : DataW.TrodAll enc Try.prog W 0 (fun _ => true) true Try.f9.params.toList args.toList ds p := hA0
  rw [Try.params9] at hA hval
  obtain ⟨v0, vs0, d0, ds0, p0, q0, hargs, rfl, rfl, h0, r0⟩ := trodAll_cons hA
  obtain ⟨v1, vs1, d1, ds1, p1, q1, rfl, rfl, rfl, h1, r1⟩ := trodAll_cons r0
  obtain ⟨v2, vs2, d2, ds2, p2, q2, rfl, rfl, rfl, h2, r2⟩ := trodAll_cons r1
  obtain ⟨rfl, rfl, rfl⟩ := trodAll_nil r2
  obtain rfl : args = #[v0, v1, v2] := by cases args; simp_all
  obtain ⟨rfl, rfl⟩ := trodVars_none hV
  obtain ⟨a0, rfl, rfl, rfl, w0⟩ := open_string Try.underlying9 (hval 0 9 v0 rfl rfl) h0
  obtain ⟨a1, rfl, rfl, rfl, w1⟩ := open_int Try.underlying3 (hval 1 3 v1 rfl rfl) h1
  have b1 := bd_i64 w1
  obtain ⟨a2, len2, cap2, rfl⟩ := okWide_slice Try.underlying22 (hval 2 22 v2 rfl rfl)
  have k2 := h2
  have lt2 : ∀ x ∈ p2, x.block < W.heap.size := by obtain ⟨m, hm⟩ := k2; exact DataW.trod_lt m _ _ _ hm
  obtain ⟨l2, w2⟩ := is_z h2
  clear hA0 hval0
  refine (law_any a0 a1 a2 len2 cap2 l2 W w0 b1 w2).mono fun e W' ⟨he, bel⟩ => ?_
  subst he
  exact ⟨_, rfl, _, _, _, [], _, [], hW', trodAll_mk1 (shut_bool Try.underlying4 _), (trodAll_cons_mk (shut_string Try.underlying9 w0) (trodAll_cons_mk (shut_int Try.underlying3 w1) (trodAll_cons_mk (Below.trod laidOut (by kernel_rfl) (of_decide_eq_true (by kernel_rfl)) k2 bel lt2) trodAll_mk0))), rfl, bel.frame _, fun h => by cases h⟩

theorem proved : Rows.DiskNamesSaid :=
  OpenClaim.holds_of_wide 9 Try.f9 rfl rfl rfl rfl rfl rfl rfl ⟨rfl, rfl, rfl, rfl, rfl⟩ rfl rfl rfl rfl rfl (by kernel_rfl) Try.func9 (by kernel_rfl)
    (of_decide_eq_true (by kernel_rfl)) (by unfold Func.isWrapper; first | (rw [if_pos (by decide +kernel)]; kernel_rfl) | (rw [if_neg (by decide +kernel)]; exact ⟨rfl, rfl⟩))
    (fun os started H enc _ => lifted os started H enc)
#print axioms proved
end Go.Proofs.Ytebhhfmekmpnkaa.diskNames
