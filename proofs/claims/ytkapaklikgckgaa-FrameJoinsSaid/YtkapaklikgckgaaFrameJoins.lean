/-
  The law FrameJoins: the walk.
-/
import Derived.Test.YtkapaklikgckgaaFrameLaw2
import Derived.Test.YtkapaklikgckgaaConv
import Derived.Test.YtkapaklikgckgaaNumLaw
import Derived.IntWalk
namespace Go.Proofs.Ytkapaklikgckgaa.frameJoins
open Go.RowKit
set_option linter.unusedVariables false
set_option linter.unusedSimpArgs false

theorem frsB_many : ∀ (i : Nat) (L : List (List UInt8)), L.length ≤ (frsB i L).length
  | _, [] => by simp
  | i, l :: r => by rw [frsB, List.length_append, frameB_len, List.length_cons]; have := frsB_many (i + 1) r; omega
theorem frsB_from (L : List (List UInt8)) {k : Nat} (hk : k ≤ L.length) : (frsB 0 L).drop (endAt L k) = frsB k (L.drop k) := by
  have hsplit : frsB 0 L = frsB 0 (L.take k) ++ frsB k (L.drop k) := by
    conv => lhs; rw [← List.take_append_drop k L]
    rw [frsB_append, List.length_take, Nat.min_eq_left hk, Nat.zero_add]
  rw [hsplit]
  exact List.drop_left
theorem split_from (L : List (List UInt8)) (k : Nat) (hL : ∀ x ∈ L, x.length ≤ 60000) (hk : k ≤ L.length) :
    splitL ((frsB 0 L).drop (endAt L k)) = (kindsL k (L.length - k), L.drop k, endAt L L.length - endAt L k, 0) := by
  have hfull : endAt L L.length = (frsB 0 L).length := by unfold endAt; rw [List.take_length]
  have hlen : (frsB k (L.drop k)).length = endAt L L.length - endAt L k := by rw [← frsB_from L hk, List.length_drop, hfull]
  have hmany := frsB_many k (L.drop k)
  rw [List.length_drop] at hmany
  rw [frsB_from L hk]
  have hgo := splitG_frs (frsB k (L.drop k)) (L.drop k) k ((frsB k (L.drop k)).length + 1 - (L.length - k)) [] [] [] [] (by simp) (fun x hx => hL x (List.mem_of_mem_drop hx))
  rw [List.length_drop, List.length_nil, Nat.zero_add, List.nil_append, List.nil_append, show (frsB k (L.drop k)).length + 1 - (L.length - k) + (L.length - k) = (frsB k (L.drop k)).length + 1 by omega] at hgo
  unfold splitL
  rw [hgo]
  obtain ⟨f, hf⟩ : ∃ f, (frsB k (L.drop k)).length + 1 - (L.length - k) = f + 1 := ⟨(frsB k (L.drop k)).length - (L.length - k), by omega⟩
  rw [hf]
  unfold splitG
  rw [if_neg (by omega), hlen]
/-- a cell of a row of the call's own, in whatever grows out of that world -/
theorem own_cells {w : World} {base n c : Nat} {e : TypeId} {A : Option Addr} {xs : List Value} (h : w.ownsRow base e 1 (.slice A n c) n xs) (hn : 0 < n) : ∃ g, A = some ⟨g, 0, none⟩ ∧ ∀ (i : Nat) (u : Value), xs[i]? = some u → ∀ W, Up w W → W.cell? ⟨g, i, none⟩ = some u := by
  obtain ⟨g, rfl, _, hg⟩ := own_some h hn
  refine ⟨g, rfl, fun j u hj W hW => ?_⟩
  have hrd := Rd.own h
  obtain ⟨b, o, e, hb, hc⟩ := hrd.2 hn
  injection e with e
  injection e with e1 e2
  subst e1; subst e2
  have h1 := hc j u hj
  rw [Nat.zero_add] at h1
  exact (hW.cell (p := ⟨g, j, none⟩) hg).trans h1

set_option maxRecDepth 100000 in
set_option maxHeartbeats 800000 in
theorem law_any (A : Option Addr) (n c : Nat) (ps : List Pt) (at_ : Int) (w : World) (hr : IsR w A n c ps) (b1 : -9223372036854775808 ≤ at_ ∧ at_ ≤ 9223372036854775807) :
    Calls Try.prog 5 #[.slice A n c, .int .i64 at_] w fun e w' => e = .returned (.bool true) ∧ Up w w' := by
  have hn : n ≤ 9223372036854775807 := by have := hr.2.2; omega
  obtain ⟨C, hC, hC2⟩ := i64_and_le at_ 255 (by omega)
  replace hC : bits .and .i64 at_ 255 = (C : Int) := hC
  cases hok : madeOk (ptls ps) 10
  · have HMD := Lib.hid (made_no A n c ps 10 w hr hn (by omega) hok)
    clear hok hr
    go_enter Try.func5, Try.ntmps5
    go_wp2_with fail
    refine HMD.out.mono ?_
    rintro e w1 ⟨rfl, hu1⟩
    go_wp2_with (go_at_call 9; with_reducible refine (awake3_any _).mono ?_; rintro e w4 ⟨rfl, hu4⟩)
    go_ret
    exact ⟨rfl, hu1.trans hu4⟩
  · obtain ⟨L, hLp, hx, hm, hb, HMD⟩ := made_yes A n c ps 10 w hr hn (by omega) hok
    have hnl := hr.len
    have AT : Hid (∀ j, j < L.length → ∃ (b o : Nat) (p : Pt), A = some ⟨b, o, none⟩ ∧ L[j]? = some p.l ∧ p.n ≤ p.c ∧ p.n = p.l.length ∧ p.c ≤ 9223372036854775807 ∧ j < n ∧ ∀ W, Up w W → W.cell? ⟨b, o + j, none⟩ = some (.slice p.A p.n p.c) ∧ Rd W W.heap.size 1 p.A p.n (bvs p.l)) := fun j hj => by
      have hjl : j < (ptls ps).length := by rw [hLp, List.length_take] at hj; omega
      obtain ⟨b, o, p, e1, -, e2, e3, e4, e5, e6⟩ := hr.at_ (k := j) (by omega)
      refine ⟨b, o, p, e1, ?_, e3, e4, e5, by omega, e6⟩
      rw [hLp, List.getElem?_take, if_pos (by omega)]; exact e2
    have HNL : Hid (L.length ≤ n) := by show _ ≤ _; rw [hLp, List.length_take]; omega
    have HSF := Lib.hid (fun k (hk : k ≤ L.length) => split_from L k (fun x h => by have := hx x h; omega) hk)
    have hfull : (frsB 0 L).length = endAt L L.length := by unfold endAt; rw [List.take_length]
    have HF := Lib.hid hfull
    clear hok hr hfull hLp hnl
    obtain ⟨S, hS⟩ : ∃ S, S = endAt L L.length := ⟨_, rfl⟩
    rw [← hS] at hb
    have HS := Lib.hid hS
    clear hS
    obtain ⟨M, hM⟩ : ∃ M, M = L.length := ⟨_, rfl⟩
    rw [← hM] at hm HMD
    have HM := Lib.hid hM
    clear hM
    obtain ⟨K, hK, hKM⟩ : ∃ K : Nat, (C : Int) % ((M : Int) + 1) = (K : Int) ∧ K ≤ M := ⟨C % (M + 1), (by rw [Int.natCast_emod]; rfl), by have := Nat.mod_lt C (show 0 < M + 1 by omega); omega⟩
    have hM0 : ¬ ((M : Int) + 1 = 0) := by omega
    go_enter Try.func5, Try.ntmps5
    go_wp2_with fail
    refine HMD.out.mono ?_
    rintro e w1 ⟨R, rc, rfl, hown, hu1⟩
    obtain ⟨g, rfl, hE⟩ := ends_at hown rfl
    have HEN := Lib.hid hE
    clear hown hE
    go_wp2_with fail
    go_loopw [8, 9] (fun bv i wr => ∃ (j : Nat) (B : Option Addr) (bn bc : Nat), i = .int .i64 (j : Int) ∧ bv = .slice B bn bc ∧ j ≤ M ∧ bn ≤ bc ∧ bn ≤ 312 * j ∧ Hid (bn = endAt L j) ∧ Rd wr wr.heap.size 1 B bn (bvs (frsB 0 (L.take j))) ∧ Up w1 wr) (fun _ i _ => M - (intOf i).toNat)
    case atStart => exact ⟨0, none, 0, 0, rfl, rfl, by omega, by omega, by omega, by show _ = _; simp [endAt, frsB], Rd.empty, Up.refl _⟩
    case round =>
      obtain ⟨j, B, bn, bc, rfl, rfl, hj, hbc, hb12, hbn, hrd, hu⟩ := hrel
      by_cases hlt : j < M
      · obtain ⟨b, o, p, rfl, hpl, hpc, hpn, hpc2, hjn, hW⟩ := AT.out j (by have := HM.out; omega)
        obtain ⟨hcell, hrp⟩ := hW wr (hu1.trans hu)
        have hjl : j < L.length := by have := HM.out; omega
        have hpl' : L[j] = p.l := by rw [List.getElem?_eq_getElem hjl] at hpl; injection hpl
        have hs1 := frsB_snoc L hjl
        have hs2 := endAt_snoc L hjl
        have hp3 : p.l.length ≤ 300 := by rw [← hpl']; exact hx _ (List.getElem_mem _)
        rw [hpl'] at hs1 hs2
        have hkb := kindOf_bd j
        have hkind : (j : Int) * 9 % 100 + 1 = (kindOf j : Int) := by unfold kindOf; omega
        have hpe : putE (kindOf j : Int) p.l.length = 0 := by unfold putE; rw [if_neg (by omega), if_neg (by omega)]
        have hput : putL (frsB 0 (L.take j)) (kindOf j : Int) p.l = frsB 0 (L.take (j + 1)) := by unfold putL; rw [if_pos hpe, hs1]
        have hbn2 := hbn.out
        have hplen : (frsB 0 (L.take (j + 1))).length = endAt L (j + 1) := rfl
        have hc1 := HEN.out (j + 1) (by omega)
        have hlt2 : (j : Int) + 1 < (M : Int) + 1 := by omega
        have H1 := Lib.hid hpe
        have H2 := Lib.hid hput
        have H3 := Lib.hid hplen
        have H4 := Lib.hid hs2
        have hpn2 : p.n ≤ 300 := by omega
        have hbn3 : endAt L (j + 1) = bn + (p.n + 12) := by rw [hs2, ← hbn2, hpn]
        have H5 := Lib.hid hbn3
        have hjI : (j : Int) < (n : Int) := by omega
        have hpn3 : (p.n : Int) ≤ 300 := by omega
        have HPN := Lib.hid hpn
        clear hpl hpl' hs1 hs2 hpe hput hplen hbn2 hbn3 hpn
        go_wp2_with fail
        refine (put_any B bn bc _ (kindOf j : Int) p.A p.n p.c p.l wr hrd hrp (by omega) (by omega)).mono ?_
        rintro e w2 ⟨A2, n2, c2, rfl, ho2, hu2⟩
        rw [H1.out]
        rw [H2.out] at ho2
        have hn2 : n2 = endAt L (j + 1) := by rw [ho2.len]; exact H3.out
        have hn2' : (endAt L (j + 1) : Int) = (n2 : Int) := by rw [hn2]
        have hu12 := hu.trans hu2
        have hc2 := hc1 w2 hu12
        have hn2b : n2 ≤ 312 * (j + 1) := by rw [hn2, H5.out]; omega
        rw [hn2'] at hc2
        have HN2 := Lib.hid hn2
        have hr2 := ho2.rd
        have hcap2 := ho2.cap
        clear hn2 hn2' ho2 hcell hrp hc1
        go_wp2_with fail
        go_roundw
        case rel => exact ⟨j + 1, A2, n2, c2, by go_num, rfl, by omega, hcap2, hn2b, HN2, hr2, hu12⟩
        case measure => simp [intOf]; omega
      · have hjM : j = M := by omega
        have hlt2 : ¬ (j : Int) + 1 < (M : Int) + 1 := by omega
        subst hjM
        have hcK := HEN.out K hKM wr hu
        have hES : endAt L K ≤ S := by rw [HS.out, ← HM.out]; exact endAt_mono (by have := HM.out; omega) (by have := HM.out; omega)
        have hbnS : bn = S := by rw [hbn.out, HS.out, HM.out]
        subst hbnS
        rw [List.take_of_length_le (show L.length ≤ j by have := HM.out; omega)] at hrd
        have hsf := HSF.out K (by have := HM.out; omega)
        rw [← HS.out, ← HM.out] at hsf
        obtain ⟨E, hEE⟩ : ∃ E, E = endAt L K := ⟨_, rfl⟩
        rw [← hEE] at hcK hsf hES
        have HEE := Lib.hid hEE
        clear hEE
        have hd := hrd.bfrom (k := E) (cap := bc) hES hbc
        have CUT9 : ∀ W : World, (Instr.slice 22 (.slice B bn bc) (some (.int .i64 (E : Int))) none none).run Try.prog W = .ok (.slice (cutA B bc E 1) (bn - E) (bc - E)) W := fun W => by
          have h := cut_from_b W B bn bc .i64 (E : Int) (by omega) (by omega)
          rw [Int.toNat_natCast] at h
          exact h
        obtain ⟨D, hD⟩ : ∃ D, D = bn - E := ⟨_, rfl⟩
        rw [← hD] at hd CUT9 hsf
        have hbcE : D ≤ bc - E := by omega
        generalize cutA B bc E 1 = A9 at *
        generalize bc - E = c9 at *
        obtain ⟨G, hG⟩ : ∃ G, G = j - K := ⟨_, rfl⟩
        rw [← hG] at hsf
        have HSF2 := Lib.hid hsf
        clear hsf HSF
        have hDi : (bn : Int) - (E : Int) = (D : Int) := by omega
        have hGi : (j : Int) - (K : Int) = (G : Int) := by omega
        have hEn : (E : Int) ≤ (bn : Int) := by omega
        have hKj : (K : Int) < (j : Int) + 1 := by omega
        have hKj2 : K < j + 1 := by omega
        have HD := Lib.hid hD
        have HG := Lib.hid hG
        have hDz : D ≤ 4000 := by omega
        clear hD hG
        have hsame : ((tx (frsB 0 L)).toList == (tx (frsB 0 L)).toList) = true := tx_beq rfl
        generalize hT : frsB 0 L = T at *
        clear hT
        go_wp2_with fail
        refine (split_any A9 D c9 _ wr hd (by omega) hbcE).mono ?_
        intro e w2 h6
        rw [HSF2.out] at h6
        obtain ⟨K6, kn, kc, R6, rn, rc6, ps6, rfl, hK6, hR6, hP6, hu6⟩ := h6
        have hkn : kn = G := by
          have := hK6.1
          unfold nvi at this
          rw [List.length_map, kindsL_len, Nat.mul_one] at this
          exact this.symm
        have hpl6 : ps6.length = G := by
          have := congrArg List.length hP6.1
          rw [List.length_map, List.length_drop, ← HM.out, ← HG.out] at this
          exact this
        have hrn : rn = G := by
          have := hR6.1
          rw [List.length_map, hpl6, Nat.mul_one] at this
          exact this.symm
        subst hkn
        subst hrn
        have hrd2 := hrd.up hu6
        have hcv := run_str bc hrd2
        replace hcv : (convert 22 9 (.slice B bn bc)).run Try.prog w2 = .ok (.string (tx T)) w2 := hcv
        have hcK2 := HEN.out K hKM w2 (hu.trans hu6)
        rw [← HEE.out] at hcK2
        clear hd CUT9 hrd hcK HSF2
        go_wp2_with fail
        have hu02 := (hu1.trans hu).trans hu6
        clear hcv hcK2 hsame hrd2 hDi hEn
        go_loopw [17] (fun i wr => ∃ x : Nat, i = .int .i64 (x : Int) ∧ x ≤ rn ∧ Up w2 wr) (fun i _ => rn - (intOf i).toNat)
        case atStart => exact ⟨0, rfl, by omega, Up.refl _⟩
        case round =>
          obtain ⟨x, rfl, hx3, hu3⟩ := hrel
          by_cases hlx : x < rn
          · have hKx : K + x < L.length := by have := HM.out; have := HG.out; omega
            obtain ⟨b, o, p, rfl, hpl, hpc, hpn, hpc2, hjn, hW⟩ := AT.out (K + x) hKx
            obtain ⟨gR, rfl, hcR⟩ := own_cells hR6 (by omega)
            obtain ⟨gK, rfl, hcKi⟩ := own_cells hK6 (by omega)
            have hx6 : x < ps6.length := by omega
            have hc5 := hcR x ps6[x].v (by rw [List.getElem?_map, List.getElem?_eq_getElem hx6]; rfl)
            have ho5 := hP6.2 ps6[x] (List.getElem_mem _)
            have hl5 : ps6[x].l = p.l := by
              have h := congrArg (fun l => l[x]?) hP6.1
              simp only [List.getElem?_map, List.getElem?_eq_getElem hx6, Option.map_some, List.getElem?_drop, hpl] at h
              injection h
            have hc7 := hcKi x (.int .i64 (kindOf (K + x) : Int)) (by unfold nvi kindsL; rw [List.map_map, List.getElem?_map, List.getElem?_range hlx]; rfl)
            rw [hl5] at ho5
            generalize ps6[x] = p5 at *
            obtain ⟨A5, n5, c5, l5⟩ := p5
            obtain ⟨A7, n7, c7, l7⟩ := p
            have hrd5 := ho5.rd
            simp only [] at hrd5 hW hc5 hl5
            have hS2 : ∀ W, Up wr W → Up wr W ∧ W.cell? ⟨gR, x, none⟩ = some (.slice A5 n5 c5) ∧ W.cell? ⟨b, o + (K + x), none⟩ = some (.slice A7 n7 c7) ∧ W.cell? ⟨gK, x, none⟩ = some (.int .i64 (kindOf (K + x) : Int)) := fun W h =>
              ⟨h, hc5 W (hu3.trans h), (hW W (hu02.trans (hu3.trans h))).1, hc7 W (hu3.trans h)⟩
            have hrA : ∀ W, Up wr W → Rd W W.heap.size 1 A5 n5 (bvs l7) := fun W h => hrd5.up (hu3.trans h)
            have hrB : ∀ W, Up wr W → Rd W W.heap.size 1 A7 n7 (bvs l7) := fun W h => (hW W (hu02.trans (hu3.trans h))).2
            have q1 : (K : Int) + x < (n : Int) := by omega
            have q2 : K + x < n := hjn
            have q3 : (0 : Int) ≤ (K : Int) + x := by omega
            have q4 : (x : Int) < (rn : Int) := by omega
            have q5 : decide ((x : Int) < (rn : Int)) = true := by simp; omega
            have v1 : IntKind.i64.wrap ((K : Int) + x) = (K : Int) + x := IntWalk.i64_in _ (by omega)
            have v2 : IntKind.i64.wrap (((K : Int) + x) * 9) = ((K : Int) + x) * 9 := IntWalk.i64_in _ (by omega)
            have hkd : ((K : Int) + x) * 9 % 100 + 1 = (kindOf (K + x) : Int) := by unfold kindOf; omega
            have v3 : IntKind.i64.wrap (((K : Int) + x) * 9 % 100 + 1) = (kindOf (K + x) : Int) := by rw [← hkd]; exact IntWalk.i64_in _ (by omega)
            have v4 : (((K : Int) + x) * 9).tmod 100 = ((K : Int) + x) * 9 % 100 := Int.tmod_eq_emod_of_nonneg (by omega)
            have v0 : ((K : Int) + x).toNat = K + x := by omega
            have hs7 : ((tx l7).toList == (tx l7).toList) = true := tx_beq rfl
            generalize kindOf (K + x) = kd at *
            clear hc5 hc7 hcR hcKi hW ho5 hpl hl5 hrd5 hkd hR6 hK6 hP6 hpl6 hpn hpc hpc2 AT
            go_wp2_with fail
            apply Rg.region_up _ (by kernel_rfl) (by kernel_rfl) hS2
            · intro QN hQN
              iterate 4 (apply Rg.RK.ok; (· intro vs w1 hS; go_simp; with_reducible rfl); (· rfl); simp only [Act.put, List.setIfInBounds_toArray, List.set_cons_zero, List.set_cons_succ, Nat.reduceAdd])
              apply Rg.RK.ok (v := .string (tx (l7)))
              · intro vs w1 hS
                exact exec_str rfl rfl (hrA _ hS.1)
              · rfl
              simp only [Act.put, List.setIfInBounds_toArray, List.set_cons_zero, List.set_cons_succ, Nat.reduceAdd]
              iterate 6 (apply Rg.RK.ok; (· intro vs w1 hS; go_simp; with_reducible rfl); (· rfl); simp only [Act.put, List.setIfInBounds_toArray, List.set_cons_zero, List.set_cons_succ, Nat.reduceAdd])
              apply Rg.RK.ok (v := .string (tx (l7)))
              · intro vs w1 hS
                exact exec_str rfl rfl (hrB _ hS.1)
              · rfl
              simp only [Act.put, List.setIfInBounds_toArray, List.set_cons_zero, List.set_cons_succ, Nat.reduceAdd]
              iterate 2 (apply Rg.RK.ok; (· intro vs w1 hS; go_simp; with_reducible rfl); (· rfl); simp only [Act.put, List.setIfInBounds_toArray, List.set_cons_zero, List.set_cons_succ, Nat.reduceAdd])
              iterate 11 (apply Rg.RK.gok (t := 125); (· intro vs w1 hS; go_simp; with_reducible rfl); (· rfl); (· intro vs; rfl); simp only [Act.put, List.setIfInBounds_toArray, List.set_cons_zero, List.set_cons_succ, Nat.reduceAdd])
              iterate 1 (apply Rg.RK.ok; (· intro vs w1 hS; go_simp; with_reducible rfl); (· rfl); simp only [Act.put, List.setIfInBounds_toArray, List.set_cons_zero, List.set_cons_succ, Nat.reduceAdd])
              apply Rg.RK.fin []
              intro vs w1 hK hS _
              refine hQN.out _ _ ?_
              clear hQN
              go_wp2_with fail
              go_roundw
              case rel => exact ⟨x + 1, by go_num, by omega, hu3.trans (keeps_up hK)⟩
              case measure => simp [intOf]; omega
            · kernel_rfl
          · have hxr : x = rn := by omega
            go_wp2_with (go_at_call 9; with_reducible refine (awake3_any _).mono ?_; rintro e w7 ⟨rfl, hu7⟩)
            go_ret
            exact ⟨rfl, (hu02.trans hu3).trans hu7⟩
end Go.Proofs.Ytkapaklikgckgaa.frameJoins
