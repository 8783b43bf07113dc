/-
  'clepsydra/clepsydralaw14.LogBatches': for every input the law returns true; each argument reads behind the call as it read before. No condition.
-/
import Derived.IntWalk
import Derived.Test.YtnjmekjaingniaaZ5
/-
  The law LogBatches: the walk.
-/
namespace Go.Proofs.Ytnjmekjaingniaa.logBatches
open Go.RowKit
set_option linter.unusedVariables false
set_option linter.unusedSimpArgs false

theorem xor_byte (x y : Int) : ∃ z : UInt8, bits .xor .u8 x y = (z.toNat : Int) := by
  have h : ∃ q : Int, bits .xor .u8 x y = IntKind.u8.wrap q := ⟨_, rfl⟩
  obtain ⟨q, hq⟩ := h
  refine ⟨UInt8.ofNat (q % 256).toNat, ?_⟩
  rw [hq, IntKind.wrap_u8]
  have h0 : 0 ≤ q % 256 := by omega
  have h1 : q % 256 < 256 := by omega
  simp
  omega
theorem keeps_fresh {w wq w2 : World} {gx : Nat} (hu : Up w wq) (hg : w.heap.size ≤ gx) (hK : Rg.Keeps (fun g => g = gx) wq w2) : Up w w2 :=
  ⟨hK.os.trans hu.os, hK.tape.trans hu.tape, hK.output.trans hu.output, Nat.le_trans hu.size hK.size, fun k hk => (hK.block k (Nat.lt_of_lt_of_le hk hu.size) (by show ¬ k = gx; omega)).trans (hu.block k hk)⟩
set_option maxRecDepth 100000 in
set_option maxHeartbeats 8000000 in
theorem law_any (A : Option Addr) (n c : Nat) (rs : List Rw) (B : Option Addr) (bn bc : Nat) (bs : List UInt8) (at0 by0 cut : Int) (U : Option Addr) (un uc : Nat) (us : List UInt8) (w : World) (hr : IsRI w A n c rs) (h1 : IsB w B bn bc bs) (b2 : -9223372036854775808 ≤ at0 ∧ at0 ≤ 9223372036854775807)
    (b3 : 0 ≤ by0 ∧ by0 ≤ 255) (b4 : -9223372036854775808 ≤ cut ∧ cut ≤ 9223372036854775807) (h5 : IsB w U un uc us) :
    Calls Try.prog 5 #[.slice A n c, .slice B bn bc, .int .i64 at0, .int .u8 by0, .int .i64 cut, .slice U un uc] w fun e w' => e = .returned (.bool true) ∧ Up w w' := by
  obtain ⟨hb, hbc, -⟩ := h1
  obtain ⟨hU, huc, -⟩ := h5
  go_enter Try.func5, Try.ntmps5
  go_wp2_with fail
  refine (few14_any A n c rs w hr.1 (by have := hr.2.2; omega) hr.bd).mono ?_
  rintro e w1 ⟨b, rfl, hfew, hu1⟩
  cases b with
  | false =>
    go_wp2_with fail
    refine (awake14_any w1).mono ?_
    rintro e w2 ⟨rfl, hu2⟩
    go_wp2_with fail
    go_ret
    exact ⟨rfl, hu1.trans hu2⟩
  | true =>
    by_cases c1 : 3000 < bn
    · have c1i : (3000 : Int) < (bn : Int) := by omega
      go_wp2_with fail
      refine (awake14_any w1).mono ?_
      rintro e w2 ⟨rfl, hu2⟩
      go_wp2_with fail
      go_ret
      exact ⟨rfl, hu1.trans hu2⟩
    have c1i : ¬ (3000 : Int) < (bn : Int) := by omega
    by_cases c2 : 100 < un
    · have c2i : (100 : Int) < (un : Int) := by omega
      go_wp2_with fail
      refine (awake14_any w1).mono ?_
      rintro e w2 ⟨rfl, hu2⟩
      go_wp2_with fail
      go_ret
      exact ⟨rfl, hu1.trans hu2⟩
    have c2i : ¬ (100 : Int) < (un : Int) := by omega
    have HFEW := Lib.hid (hfew rfl)
    have hn15 : n ≤ 15 := HFEW.out.1
    clear hfew
    go_wp2_with fail
    clear c1i c2i
    go_loopw [13] (fun i wr => ∃ k : Nat, i = .int .i64 (k : Int) ∧ k ≤ n ∧ Up w1 wr) (fun i _ => n - (intOf i).toNat)
    case atStart => exact ⟨0, rfl, by omega, Up.refl _⟩
    case round =>
      obtain ⟨k, rfl, hk, hu⟩ := hrel
      by_cases hkn : k < n
      · have i1 : (k : Int) < (n : Int) := by omega
        have hupr := hu1.trans hu
        obtain ⟨b, o, r, rfl, hbb, hrk, hc0⟩ := hr.1.row_at hkn
        have hc1 : wr.cell? ⟨b, o + k, none⟩ = some (.slice r.A r.n r.c) := (hupr.cell (p := ⟨b, o + k, none⟩) hbb).trans hc0
        have hri := (hr.ok r (List.mem_of_getElem? hrk)).1.up hupr
        have hrb := hr.bd r (List.mem_of_getElem? hrk)
        obtain ⟨rA, rn, rc, rl⟩ := r
        (try dsimp only at hc1 hri hrb)
        clear hc0 hrk
        go_wp2_with fail
        refine (batch_any rA rn rc rl wr hri hrb).mono ?_
        rintro e w4 ⟨X, xn, xc, rfl, hX, hu4⟩
        have hc4 : w4.cell? ⟨b, o + k, none⟩ = some (.slice rA rn rc) := (hu4.cell (p := ⟨b, o + k, none⟩) (World.block_lt_of_cell? wr ⟨b, o + k, none⟩ hc1)).trans hc1
        have hri4 := hri.up hu4
        go_wp2_with fail
        refine (rbmay14_any rA rn rc rl w4 hri4 hrb).mono ?_
        rintro e w5 ⟨rfl, hu5⟩
        obtain ⟨be, hbe⟩ : ∃ be, be = batE rl := ⟨_, rfl⟩
        rw [← hbe]
        have hc5 : w5.cell? ⟨b, o + k, none⟩ = some (.slice rA rn rc) := (hu5.cell (p := ⟨b, o + k, none⟩) (World.block_lt_of_cell? w4 ⟨b, o + k, none⟩ hc4)).trans hc4
        have hri5 := hri4.up hu5
        have hX5 := hX.rd.up hu5
        have hu15 := hu.trans (hu4.trans hu5)
        have hS := fun W (h : Up w5 W) => And.intro h ((h.cell (p := ⟨b, o + k, none⟩) (World.block_lt_of_cell? w5 ⟨b, o + k, none⟩ hc5)).trans hc5)
        have d0 : ((be : Int) != (be : Int)) = false := by simp
        have HBE := Lib.hid hbe
        clear hc1 hc4 hri hri4 hX hbe
        by_cases hb0 : be = 0
        · have d1 : ((be : Int) == 0) = true := by rw [beq_iff_eq]; omega
          have d2 : ((be : Int) != 0) = false := by rw [bne_eq_false_iff_eq]; omega
          have he0 : batE rl = 0 := by rw [← HBE.out]; exact hb0
          have hbat := fun W (h : Up w5 W) => rbatch_any rA rn rc rl W (hri5.up h) he0
          have HBAT := Lib.hid hbat
          generalize batB rl = Fb at *
          have hbeq : ((tx Fb).toList == (tx Fb).toList) = true := tx_beq rfl
          have hbne : ((tx Fb).toList != (tx Fb).toList) = false := by simp
          clear hbat he0 hb0 hc5
          go_wp2_with fail
          apply Rg.region_up _ (by kernel_rfl) (by kernel_rfl) hS
          · intro QN hQN
            iterate 4 (apply Rg.RK.ok; (· intro vs w1 hS; go_simp; with_reducible rfl); (· rfl); simp only [Act.put, List.setIfInBounds_toArray, List.set_cons_zero, List.set_cons_succ, Nat.reduceAdd])
            iterate 3 (apply Rg.RK.gok (t := 64); (· intro vs w1 hS; go_simp; with_reducible rfl); (· rfl); (· intro vs; rfl); simp only [Act.put, List.setIfInBounds_toArray, List.set_cons_zero, List.set_cons_succ, Nat.reduceAdd])
            iterate 1 (apply Rg.RK.gok (t := 67); (· intro vs w1 hS; go_simp; with_reducible rfl); (· rfl); (· intro vs; rfl); simp only [Act.put, List.setIfInBounds_toArray, List.set_cons_zero, List.set_cons_succ, Nat.reduceAdd])
            apply Rg.RK.gok (t := 67) (v := .string (tx (Fb)))
            · intro vs w1 hS
              exact exec_str rfl rfl (hX5.up hS.1)
            · rfl
            · intro vs; rfl
            simp only [Act.put, List.setIfInBounds_toArray, List.set_cons_zero, List.set_cons_succ, Nat.reduceAdd]
            iterate 4 (apply Rg.RK.gok (t := 67); (· intro vs w1 hS; go_simp; with_reducible rfl); (· rfl); (· intro vs; rfl); simp only [Act.put, List.setIfInBounds_toArray, List.set_cons_zero, List.set_cons_succ, Nat.reduceAdd])
            apply Rg.RK.gcall (t := 67) (.string (tx Fb)) []
            · rfl
            · intro vs; rfl
            · intro vs w1 hK hS _ K hKK
              go_simp
              refine (HBAT.out _ hS.1).mono ?_
              rintro e w2 ⟨rfl, hu2⟩
              exact hKK.out _ hu2
            simp only [Act.put, List.setIfInBounds_toArray, List.set_cons_zero, List.set_cons_succ, Nat.reduceAdd]
            iterate 1 (apply Rg.RK.gok (t := 67); (· intro vs w1 hS; go_simp; with_reducible rfl); (· rfl); (· intro vs; rfl); simp only [Act.put, List.setIfInBounds_toArray, List.set_cons_zero, List.set_cons_succ, Nat.reduceAdd])
            iterate 1 (apply Rg.RK.gok (t := 64); (· intro vs w1 hS; go_simp; with_reducible rfl); (· rfl); (· intro vs; rfl); simp only [Act.put, List.setIfInBounds_toArray, List.set_cons_zero, List.set_cons_succ, Nat.reduceAdd])
            iterate 2 (apply Rg.RK.ok; (· intro vs w1 hS; go_simp; with_reducible rfl); (· rfl); simp only [Act.put, List.setIfInBounds_toArray, List.set_cons_zero, List.set_cons_succ, Nat.reduceAdd])
            iterate 3 (apply Rg.RK.gok (t := 78); (· intro vs w1 hS; go_simp; with_reducible rfl); (· rfl); (· intro vs; rfl); simp only [Act.put, List.setIfInBounds_toArray, List.set_cons_zero, List.set_cons_succ, Nat.reduceAdd])
            iterate 3 (apply Rg.RK.gno (t := 81) (y := false); (· rfl); (· intro vs; rfl); (· rfl); simp only [Act.put, List.setIfInBounds_toArray, List.set_cons_zero, List.set_cons_succ, Nat.reduceAdd])
            iterate 1 (apply Rg.RK.gok (t := 78); (· intro vs w1 hS; go_simp; with_reducible rfl); (· rfl); (· intro vs; rfl); simp only [Act.put, List.setIfInBounds_toArray, List.set_cons_zero, List.set_cons_succ, Nat.reduceAdd])
            iterate 1 (apply Rg.RK.ok; (· intro vs w1 hS; go_simp; with_reducible rfl); (· rfl); simp only [Act.put, List.setIfInBounds_toArray, List.set_cons_zero, List.set_cons_succ, Nat.reduceAdd])
            apply Rg.RK.fin []
            intro vs w1 hK hS _
            refine hQN.out _ _ ?_
            clear hQN
            have hu6 := hu15.trans (keeps_up hK)
            clear hS hK
            go_wp2_with fail
            go_roundw
            case rel => exact ⟨k + 1, by go_num, by omega, hu6⟩
            case measure => simp [intOf] <;> omega
          · kernel_rfl
        · have d1 : ((be : Int) == 0) = false := by rw [beq_eq_false_iff_ne]; omega
          have d2 : ((be : Int) != 0) = true := by rw [bne_iff_ne]; omega
          have hbl : batB rl = [] := by unfold batB; rw [if_neg (by rw [← HBE.out]; exact hb0)]
          rw [hbl] at hX5
          have hxn : xn = 0 := hX5.blen
          subst hxn
          clear hbl hb0 hc5
          go_wp2_with fail
          apply Rg.region_up _ (by kernel_rfl) (by kernel_rfl) hS
          · intro QN hQN
            iterate 4 (apply Rg.RK.ok; (· intro vs w1 hS; go_simp; with_reducible rfl); (· rfl); simp only [Act.put, List.setIfInBounds_toArray, List.set_cons_zero, List.set_cons_succ, Nat.reduceAdd])
            iterate 3 (apply Rg.RK.gok (t := 64); (· intro vs w1 hS; go_simp; with_reducible rfl); (· rfl); (· intro vs; rfl); simp only [Act.put, List.setIfInBounds_toArray, List.set_cons_zero, List.set_cons_succ, Nat.reduceAdd])
            iterate 8 (apply Rg.RK.gno (t := 67) (y := false); (· rfl); (· intro vs; rfl); (· rfl); simp only [Act.put, List.setIfInBounds_toArray, List.set_cons_zero, List.set_cons_succ, Nat.reduceAdd])
            iterate 1 (apply Rg.RK.gok (t := 64); (· intro vs w1 hS; go_simp; with_reducible rfl); (· rfl); (· intro vs; rfl); simp only [Act.put, List.setIfInBounds_toArray, List.set_cons_zero, List.set_cons_succ, Nat.reduceAdd])
            iterate 2 (apply Rg.RK.ok; (· intro vs w1 hS; go_simp; with_reducible rfl); (· rfl); simp only [Act.put, List.setIfInBounds_toArray, List.set_cons_zero, List.set_cons_succ, Nat.reduceAdd])
            iterate 3 (apply Rg.RK.gok (t := 78); (· intro vs w1 hS; go_simp; with_reducible rfl); (· rfl); (· intro vs; rfl); simp only [Act.put, List.setIfInBounds_toArray, List.set_cons_zero, List.set_cons_succ, Nat.reduceAdd])
            iterate 3 (apply Rg.RK.gok (t := 81); (· intro vs w1 hS; go_simp; with_reducible rfl); (· rfl); (· intro vs; rfl); simp only [Act.put, List.setIfInBounds_toArray, List.set_cons_zero, List.set_cons_succ, Nat.reduceAdd])
            iterate 1 (apply Rg.RK.gok (t := 78); (· intro vs w1 hS; go_simp; with_reducible rfl); (· rfl); (· intro vs; rfl); simp only [Act.put, List.setIfInBounds_toArray, List.set_cons_zero, List.set_cons_succ, Nat.reduceAdd])
            iterate 1 (apply Rg.RK.ok; (· intro vs w1 hS; go_simp; with_reducible rfl); (· rfl); simp only [Act.put, List.setIfInBounds_toArray, List.set_cons_zero, List.set_cons_succ, Nat.reduceAdd])
            apply Rg.RK.fin []
            intro vs w1 hK hS _
            refine hQN.out _ _ ?_
            clear hQN
            have hu6 := hu15.trans (keeps_up hK)
            clear hS hK
            go_wp2_with fail
            go_roundw
            case rel => exact ⟨k + 1, by go_num, by omega, hu6⟩
            case measure => simp [intOf] <;> omega
          · kernel_rfl
      · have i1 : ¬ (k : Int) < (n : Int) := by omega
        have hu1 := hu1.trans hu
        have hfew := fun (_ : true = true) => HFEW.out
        clear hu HFEW hkn hk
        generalize wr = w1 at *
        obtain ⟨hn15, hr150⟩ := hfew rfl
        have hok1 := (IsRI.ok hr).up hu1
        have hrd1 := hr.1.up hu1
        have hl := hrd1.rlen
        obtain ⟨f1, f2, f3, f40, f5⟩ := text_facts hok1 (by omega) hr150
        have f4 := Lib.hid f40
        clear hl f40 hfew
        go_wp2_with fail
        refine (text14_any A n c rs w1 hrd1 hok1 hn15 hr150).mono ?_
        rintro e w2 ⟨G, m, gc, E, ec, rfl, hG, hE, hu2⟩
        have hup2 := hu1.trans hu2
        have f2 := f2.up hu2
        have hmg := hG.len
        clear hr150 hok1 hrd1 hr hu1
        generalize goodR rs = gs at *
        obtain ⟨g, hg⟩ : ∃ g, g = rwl gs := ⟨_, rfl⟩
        have hgl : g.length = m := by rw [hg, rwl_len, hmg]
        rw [← hg] at f4 f5 hE ⊢
        obtain ⟨bE, rfl, hbE, hcE⟩ := ends_cell hE (by rw [hgl])
        obtain ⟨S, hS⟩ : ∃ S, S = logB g := ⟨_, rfl⟩
        rw [← hS] at f5 ⊢
        obtain ⟨N, hN⟩ : ∃ N, N = S.length := ⟨_, rfl⟩
        have hz : (tx S).size = N := by rw [tx_size, hN]
        have hN2 : N ≤ 900180 := by omega
        have hm15 : m ≤ 15 := by omega
        have HG := Lib.hid hg
        have HGL := Lib.hid hgl
        have HS := Lib.hid hS
        have HN := Lib.hid hN
        have HMG := Lib.hid hmg
        have HC := Lib.hid hcE
        clear hg hgl hS hN hmg hcE f5 hE
        have hall := repl_all g f4.out
        rw [← HS.out, ← HN.out] at hall
        obtain ⟨c3, w3, hconv, hcap3, hrd3, hu3, -, -⟩ := conv_b w2 S
        rw [← HN.out] at hconv hcap3 hrd3
        have HALL := Lib.hid hall
        clear hall
        go_wp2_with fail
        clear hconv
        refine (replay14_any _ N c3 S w3 hrd3 (by omega) hcap3).mono ?_
        intro e6 w4 h6
        rw [HALL.out] at h6
        obtain ⟨R, m6, rc6, rs6, rfl, hR6, hO6, hl6, hu4⟩ := h6
        (try dsimp only at hl6)
        have hu24 := hu3.trans hu4
        have hrl : rwl rs6 = rwl gs := by rw [hl6, HG.out]
        have hsame := same14_any R m6 rc6 rs6 G m gc gs w4 hR6.rd hO6.ok (hG.rd.up hu24) (f2.up hu24) hrl (fun r hr => by
          have h8 : r.l ∈ rwl gs := by rw [← hrl]; exact List.mem_map.2 ⟨r, hr, rfl⟩
          obtain ⟨r2, h9, h10⟩ := List.mem_map.1 h8
          have h11 := f3 r2 h9
          rw [h10] at h11
          omega) (by
          have h8 := hR6.len
          have h9 := congrArg List.length hrl
          rw [rwl_len, rwl_len] at h9
          have := HMG.out
          omega)
        have HSAME := Lib.hid hsame
        clear hsame hrl hl6 hR6 hO6 hrd3 hcap3 HALL
        have hne9 : ((N : Int) != (N : Int)) = false := by simp
        go_wp2_with fail
        refine HSAME.out.mono ?_
        rintro e7 w3 ⟨rfl, hu7⟩
        have hup3 := (hup2.trans hu24).trans hu7
        clear HSAME hu24 hu3 hu4 hu7 hup2 hG f2 hne9
        obtain ⟨c5, w5, hconv, hcap, hbeg, hu5⟩ := conv_begc w3 S
        rw [← HN.out] at hconv hcap
        generalize hge5 : w3.heap.size = g5 at hconv hbeg
        have hg5w : w3.heap.size ≤ g5 := Nat.le_of_eq hge5
        clear hge5
        by_cases hN0 : N = 0
        · have j0 : ¬ (0 : Int) < (N : Int) := by omega
          obtain ⟨T2, hT2⟩ : ∃ T, T = S := ⟨_, rfl⟩
          have hbeg2 : BegC g5 T2 c5 w5 := by rw [hT2]; exact hbeg
          have hlen2 : T2.length = N := by rw [hT2, ← HN.out]
          have HLN := Lib.hid hlen2
          clear hT2 hbeg hlen2 hN0
          obtain ⟨D1, hD, hD2⟩ := i64_and_le cut 65535 (by omega)
          replace hD : bits .and .i64 cut 65535 = (D1 : Int) := hD
          obtain ⟨P, hP, hPm⟩ : ∃ P : Nat, (D1 : Int) % ((N : Int) + 1) = (P : Int) ∧ P ≤ N := ⟨D1 % (N + 1), (by rw [Int.natCast_emod]; rfl), by have := Nat.mod_lt D1 (show 0 < N + 1 by omega); omega⟩
          have hP2 : (D1 : Int).tmod ((N : Int) + 1) = (P : Int) := by rw [Int.tmod_eq_emod_of_nonneg (by omega)]; exact hP
          have hP0 : ¬ ((N : Int) + 1 = 0) := by omega
          obtain ⟨Q, hQ⟩ : ∃ Q, Q = N - P := ⟨_, rfl⟩
          have hQi : (N : Int) - (P : Int) = (Q : Int) := by omega
          have hQc : (Q : Int) ≤ (c5 : Int) := by omega
          have hQ0 : (0 : Int) ≤ (Q : Int) := by omega
          have hUr := (hU.up hup3).up (hu5)
          have hkP : Q ≤ T2.length := by rw [HLN.out]; omega
          have hkU : Q + un ≤ 140737488355328 := by omega
          have HQ := Lib.hid hQ
          clear hQ
          go_wp2_with (first | (at_builtin; refine wpList_append_begc (w0 := w3) (k := Q) hbeg2 hkP hUr hkU hg5w (hu5) rfl rfl rfl rfl ?_; intro A9 c9 w9 hrd9 hcap9 hup9))
          clear hD hP hP2 hP0 hQi hQc hQ0 hkP hkU hUr
          generalize T2.take Q ++ us = T3 at *
          have hD3 : Q + un ≤ 1000000 := by have := HQ.out; omega
          generalize Q + un = D3 at *
          have hupz := hup3.trans hup9
          go_loopw [1, 24] (fun bv i wr => ∃ (x : Nat) (X : Option Addr) (xn xc : Nat) (xl : List UInt8), i = .int .i64 (x : Int) ∧ bv = .slice X xn xc ∧ x ≤ 2 ∧ xn ≤ 1000000 ∧ xn ≤ xc ∧ Rd wr wr.heap.size 1 X xn (bvs xl) ∧ Up w9 wr) (fun _ i _ => 2 - (intOf i).toNat)
          case atStart => exact ⟨0, B, bn, bc, bs, rfl, rfl, by omega, by omega, hbc, hb.up hupz, Up.refl _⟩
          case round =>
            obtain ⟨x, X, xn, xc, xl, rfl, rfl, hx2, hxn, hxc, hrdx, hu7⟩ := hrel
            have hcases : x = 0 ∨ x = 1 ∨ x = 2 := by omega
            rcases hcases with rfl | rfl | rfl
            · have hrx := hrdx
              have hxl : (xl).length ≤ 1000000 := by have := hrx.blen; omega
              have hrep := replay14_any (X) (xn) (xc) (xl) wr hrx (by omega) (by omega)
              have hrrep := fun W => rreplay14_any (xl) W (by omega)
              have HRREP := Lib.hid hrrep
              clear hrrep
              go_wp2_with fail
              refine hrep.mono ?_
              clear hrep
              intro e w11 h11
              cases hRE : replL (xl) with
              | none =>
                rw [hRE] at h11 HRREP
                obtain ⟨rfl, hu11⟩ := h11
                have hrx11 := hrx.up hu11
                have hcv : (convert 26 9 (.slice (X) (xn) (xc))).run Try.prog w11 = .ok (.string (tx (xl))) _ := run_str (xc) hrx11
                clear hRE hxl
                go_wp2_with fail
                clear hcv
                refine (HRREP.out w11).mono ?_
                rintro e w12 ⟨rfl, hu12⟩
                clear HRREP
                go_wp2_with fail
                refine (same14_any none 0 0 [] none 0 0 [] w12 Rd.empty (RwOk.nil _) Rd.empty (RwOk.nil _) rfl (fun r hr => by cases hr) (by omega)).mono ?_
                rintro e w13 ⟨rfl, hu13⟩
                have hu1113 := hu11.trans (hu12.trans hu13)
                have hr13 := hrx.up hu1113
                have hu713 := hu7.trans hu1113
                go_wp2_with fail
                go_roundw
                case rel => exact ⟨1, X, xn, xc, xl, by go_num, rfl, by omega, by omega, by omega, hr13, hu713⟩
                case measure => simp [intOf]
              | some rr =>
                obtain ⟨rg, rn⟩ := rr
                obtain ⟨q1, q2, q3⟩ := replL_bd hRE
                rw [hRE] at h11 HRREP
                obtain ⟨R, m6, rc6, rs6, rfl, hR6, hO6, hl6, hu11⟩ := h11
                (try dsimp only at hl6 q1 q2 q3)
                have hrx11 := hrx.up hu11
                have hcv : (convert 26 9 (.slice (X) (xn) (xc))).run Try.prog w11 = .ok (.string (tx (xl))) _ := run_str (xc) hrx11
                have HL6 := Lib.hid hl6
                have Q3 := Lib.hid q3
                clear hRE hl6 q3
                go_wp2_with fail
                clear hcv
                refine (HRREP.out w11).mono ?_
                rintro e w12 ⟨R7, m7, rc7, rs7, rfl, hR7, hO7, hl7, hu12⟩
                (try dsimp only at hl7)
                clear HRREP
                have hrl : rwl rs6 = rwl rs7 := HL6.out.trans hl7.symm
                have hsame := same14_any R m6 rc6 rs6 R7 m7 rc7 rs7 w12 (hR6.rd.up hu12) (hO6.ok.up hu12) hR7.rd hO7.ok hrl (fun r hr => by
                  have h8 : r.l ∈ rg := by rw [← HL6.out]; exact List.mem_map.2 ⟨r, hr, rfl⟩
                  have := Q3.out r.l h8
                  omega) (by
                  have h8 := hR6.len
                  have h9 := congrArg List.length HL6.out
                  rw [rwl_len] at h9
                  omega)
                have HSAME := Lib.hid hsame
                clear hsame hrl hl7 hR6 hO6 hR7 hO7 q1 q2
                go_wp2_with fail
                refine HSAME.out.mono ?_
                rintro e w13 ⟨rfl, hu13⟩
                have hu1113 := hu11.trans (hu12.trans hu13)
                have hr13 := hrx.up hu1113
                have hu713 := hu7.trans hu1113
                clear HSAME
                go_wp2_with fail
                go_roundw
                case rel => exact ⟨1, X, xn, xc, xl, by go_num, rfl, by omega, by omega, by omega, hr13, hu713⟩
                case measure => simp [intOf]
            · have hrx := hrd9.up hu7
              have hxl : (T3).length ≤ 1000000 := by have := hrx.blen; omega
              have hrep := replay14_any (A9) (D3) (c9) (T3) wr hrx (by omega) (by omega)
              have hrrep := fun W => rreplay14_any (T3) W (by omega)
              have HRREP := Lib.hid hrrep
              clear hrrep
              go_wp2_with fail
              refine hrep.mono ?_
              clear hrep
              intro e w11 h11
              cases hRE : replL (T3) with
              | none =>
                rw [hRE] at h11 HRREP
                obtain ⟨rfl, hu11⟩ := h11
                have hrx11 := hrx.up hu11
                have hcv : (convert 26 9 (.slice (A9) (D3) (c9))).run Try.prog w11 = .ok (.string (tx (T3))) _ := run_str (c9) hrx11
                clear hRE hxl
                go_wp2_with fail
                clear hcv
                refine (HRREP.out w11).mono ?_
                rintro e w12 ⟨rfl, hu12⟩
                clear HRREP
                go_wp2_with fail
                refine (same14_any none 0 0 [] none 0 0 [] w12 Rd.empty (RwOk.nil _) Rd.empty (RwOk.nil _) rfl (fun r hr => by cases hr) (by omega)).mono ?_
                rintro e w13 ⟨rfl, hu13⟩
                have hu1113 := hu11.trans (hu12.trans hu13)
                have hr13 := hrx.up hu1113
                have hu713 := hu7.trans hu1113
                go_wp2_with fail
                go_roundw
                case rel => exact ⟨2, A9, D3, c9, T3, by go_num, rfl, by omega, by omega, by omega, hr13, hu713⟩
                case measure => simp [intOf]
              | some rr =>
                obtain ⟨rg, rn⟩ := rr
                obtain ⟨q1, q2, q3⟩ := replL_bd hRE
                rw [hRE] at h11 HRREP
                obtain ⟨R, m6, rc6, rs6, rfl, hR6, hO6, hl6, hu11⟩ := h11
                (try dsimp only at hl6 q1 q2 q3)
                have hrx11 := hrx.up hu11
                have hcv : (convert 26 9 (.slice (A9) (D3) (c9))).run Try.prog w11 = .ok (.string (tx (T3))) _ := run_str (c9) hrx11
                have HL6 := Lib.hid hl6
                have Q3 := Lib.hid q3
                clear hRE hl6 q3
                go_wp2_with fail
                clear hcv
                refine (HRREP.out w11).mono ?_
                rintro e w12 ⟨R7, m7, rc7, rs7, rfl, hR7, hO7, hl7, hu12⟩
                (try dsimp only at hl7)
                clear HRREP
                have hrl : rwl rs6 = rwl rs7 := HL6.out.trans hl7.symm
                have hsame := same14_any R m6 rc6 rs6 R7 m7 rc7 rs7 w12 (hR6.rd.up hu12) (hO6.ok.up hu12) hR7.rd hO7.ok hrl (fun r hr => by
                  have h8 : r.l ∈ rg := by rw [← HL6.out]; exact List.mem_map.2 ⟨r, hr, rfl⟩
                  have := Q3.out r.l h8
                  omega) (by
                  have h8 := hR6.len
                  have h9 := congrArg List.length HL6.out
                  rw [rwl_len] at h9
                  omega)
                have HSAME := Lib.hid hsame
                clear hsame hrl hl7 hR6 hO6 hR7 hO7 q1 q2
                go_wp2_with fail
                refine HSAME.out.mono ?_
                rintro e w13 ⟨rfl, hu13⟩
                have hu1113 := hu11.trans (hu12.trans hu13)
                have hr13 := hrx.up hu1113
                have hu713 := hu7.trans hu1113
                clear HSAME
                go_wp2_with fail
                go_roundw
                case rel => exact ⟨2, A9, D3, c9, T3, by go_num, rfl, by omega, by omega, by omega, hr13, hu713⟩
                case measure => simp [intOf]
            · go_wp2_with fail
              refine (awake14_any wr).mono ?_
              rintro e w10 ⟨rfl, hu10⟩
              go_wp2_with fail
              go_ret
              exact ⟨rfl, (hupz.trans hu7).trans hu10⟩
        · have j0 : (0 : Int) < (N : Int) := by omega
          obtain ⟨C1, hC, hC2⟩ := i64_and_le at0 16777215 (by omega)
          replace hC : bits .and .i64 at0 16777215 = (C1 : Int) := hC
          obtain ⟨I, hI, hIm⟩ : ∃ I : Nat, (C1 : Int) % (N : Int) = (I : Int) ∧ I < N := ⟨C1 % N, by rw [Int.natCast_emod], Nat.mod_lt C1 (by omega)⟩
          have hI2 : (C1 : Int).tmod (N : Int) = (I : Int) := by rw [Int.tmod_eq_emod_of_nonneg (by omega)]; exact hI
          have hm0 : ¬ ((N : Int) = 0) := by omega
          have hIi : (I : Int) < (N : Int) := by omega
          have hIT : I < S.length := by rw [← HN.out]; omega
          obtain ⟨y, hy⟩ := xor_byte ((S.getD I 0).toNat : Int) by0
          have hc8 : w5.cell? ⟨g5, I, none⟩ = some (.int .u8 ((S.getD I 0).toNat : Int)) := hbeg.beg.cell hIT
          have hf8 := hbeg.beg.free hIT
          have hbeg2 := hbeg.set hIT y
          have hlen2 : (S.set I y).length = N := by rw [List.length_set, ← HN.out]
          have hK8 : Rg.Keeps (fun x => x = g5) w5 (w5.setCell ⟨g5, I, none⟩ (bv y)) := setc_keeps w5 w5 g5 I _ (Rg.Keeps.refl _ _)
          have hu8 : Up w3 (w5.setCell ⟨g5, I, none⟩ (bv y)) := keeps_fresh hu5 hg5w hK8
          have hbv : bv y = .int .u8 (y.toNat : Int) := rfl
          rw [hbv] at hbeg2 hu8
          have HLN := Lib.hid hlen2
          have HU8 := Lib.hid hu8
          have HBEG := Lib.hid hbeg2
          generalize S.getD I 0 = t0 at *
          generalize S.set I y = T2 at *
          clear hbeg hK8 hlen2 hbv hu8 hbeg2 hN0
          obtain ⟨D1, hD, hD2⟩ := i64_and_le cut 65535 (by omega)
          replace hD : bits .and .i64 cut 65535 = (D1 : Int) := hD
          obtain ⟨P, hP, hPm⟩ : ∃ P : Nat, (D1 : Int) % ((N : Int) + 1) = (P : Int) ∧ P ≤ N := ⟨D1 % (N + 1), (by rw [Int.natCast_emod]; rfl), by have := Nat.mod_lt D1 (show 0 < N + 1 by omega); omega⟩
          have hP2 : (D1 : Int).tmod ((N : Int) + 1) = (P : Int) := by rw [Int.tmod_eq_emod_of_nonneg (by omega)]; exact hP
          have hP0 : ¬ ((N : Int) + 1 = 0) := by omega
          obtain ⟨Q, hQ⟩ : ∃ Q, Q = N - P := ⟨_, rfl⟩
          have hQi : (N : Int) - (P : Int) = (Q : Int) := by omega
          have hQc : (Q : Int) ≤ (c5 : Int) := by omega
          have hQ0 : (0 : Int) ≤ (Q : Int) := by omega
          have hUr := (hU.up hup3).up (HU8.out)
          have hkP : Q ≤ T2.length := by rw [HLN.out]; omega
          have hkU : Q + un ≤ 140737488355328 := by omega
          have HQ := Lib.hid hQ
          clear hQ
          go_wp2_with (first | (at_builtin; refine wpList_append_begc (w0 := w3) (k := Q) HBEG.out hkP hUr hkU hg5w (HU8.out) rfl rfl rfl rfl ?_; intro A9 c9 w9 hrd9 hcap9 hup9))
          clear hD hP hP2 hP0 hQi hQc hQ0 hkP hkU hUr
          generalize T2.take Q ++ us = T3 at *
          have hD3 : Q + un ≤ 1000000 := by have := HQ.out; omega
          generalize Q + un = D3 at *
          have hupz := hup3.trans hup9
          go_loopw [1, 24] (fun bv i wr => ∃ (x : Nat) (X : Option Addr) (xn xc : Nat) (xl : List UInt8), i = .int .i64 (x : Int) ∧ bv = .slice X xn xc ∧ x ≤ 2 ∧ xn ≤ 1000000 ∧ xn ≤ xc ∧ Rd wr wr.heap.size 1 X xn (bvs xl) ∧ Up w9 wr) (fun _ i _ => 2 - (intOf i).toNat)
          case atStart => exact ⟨0, B, bn, bc, bs, rfl, rfl, by omega, by omega, hbc, hb.up hupz, Up.refl _⟩
          case round =>
            obtain ⟨x, X, xn, xc, xl, rfl, rfl, hx2, hxn, hxc, hrdx, hu7⟩ := hrel
            have hcases : x = 0 ∨ x = 1 ∨ x = 2 := by omega
            rcases hcases with rfl | rfl | rfl
            · have hrx := hrdx
              have hxl : (xl).length ≤ 1000000 := by have := hrx.blen; omega
              have hrep := replay14_any (X) (xn) (xc) (xl) wr hrx (by omega) (by omega)
              have hrrep := fun W => rreplay14_any (xl) W (by omega)
              have HRREP := Lib.hid hrrep
              clear hrrep
              go_wp2_with fail
              refine hrep.mono ?_
              clear hrep
              intro e w11 h11
              cases hRE : replL (xl) with
              | none =>
                rw [hRE] at h11 HRREP
                obtain ⟨rfl, hu11⟩ := h11
                have hrx11 := hrx.up hu11
                have hcv : (convert 26 9 (.slice (X) (xn) (xc))).run Try.prog w11 = .ok (.string (tx (xl))) _ := run_str (xc) hrx11
                clear hRE hxl
                go_wp2_with fail
                clear hcv
                refine (HRREP.out w11).mono ?_
                rintro e w12 ⟨rfl, hu12⟩
                clear HRREP
                go_wp2_with fail
                refine (same14_any none 0 0 [] none 0 0 [] w12 Rd.empty (RwOk.nil _) Rd.empty (RwOk.nil _) rfl (fun r hr => by cases hr) (by omega)).mono ?_
                rintro e w13 ⟨rfl, hu13⟩
                have hu1113 := hu11.trans (hu12.trans hu13)
                have hr13 := hrx.up hu1113
                have hu713 := hu7.trans hu1113
                go_wp2_with fail
                go_roundw
                case rel => exact ⟨1, X, xn, xc, xl, by go_num, rfl, by omega, by omega, by omega, hr13, hu713⟩
                case measure => simp [intOf]
              | some rr =>
                obtain ⟨rg, rn⟩ := rr
                obtain ⟨q1, q2, q3⟩ := replL_bd hRE
                rw [hRE] at h11 HRREP
                obtain ⟨R, m6, rc6, rs6, rfl, hR6, hO6, hl6, hu11⟩ := h11
                (try dsimp only at hl6 q1 q2 q3)
                have hrx11 := hrx.up hu11
                have hcv : (convert 26 9 (.slice (X) (xn) (xc))).run Try.prog w11 = .ok (.string (tx (xl))) _ := run_str (xc) hrx11
                have HL6 := Lib.hid hl6
                have Q3 := Lib.hid q3
                clear hRE hl6 q3
                go_wp2_with fail
                clear hcv
                refine (HRREP.out w11).mono ?_
                rintro e w12 ⟨R7, m7, rc7, rs7, rfl, hR7, hO7, hl7, hu12⟩
                (try dsimp only at hl7)
                clear HRREP
                have hrl : rwl rs6 = rwl rs7 := HL6.out.trans hl7.symm
                have hsame := same14_any R m6 rc6 rs6 R7 m7 rc7 rs7 w12 (hR6.rd.up hu12) (hO6.ok.up hu12) hR7.rd hO7.ok hrl (fun r hr => by
                  have h8 : r.l ∈ rg := by rw [← HL6.out]; exact List.mem_map.2 ⟨r, hr, rfl⟩
                  have := Q3.out r.l h8
                  omega) (by
                  have h8 := hR6.len
                  have h9 := congrArg List.length HL6.out
                  rw [rwl_len] at h9
                  omega)
                have HSAME := Lib.hid hsame
                clear hsame hrl hl7 hR6 hO6 hR7 hO7 q1 q2
                go_wp2_with fail
                refine HSAME.out.mono ?_
                rintro e w13 ⟨rfl, hu13⟩
                have hu1113 := hu11.trans (hu12.trans hu13)
                have hr13 := hrx.up hu1113
                have hu713 := hu7.trans hu1113
                clear HSAME
                go_wp2_with fail
                go_roundw
                case rel => exact ⟨1, X, xn, xc, xl, by go_num, rfl, by omega, by omega, by omega, hr13, hu713⟩
                case measure => simp [intOf]
            · have hrx := hrd9.up hu7
              have hxl : (T3).length ≤ 1000000 := by have := hrx.blen; omega
              have hrep := replay14_any (A9) (D3) (c9) (T3) wr hrx (by omega) (by omega)
              have hrrep := fun W => rreplay14_any (T3) W (by omega)
              have HRREP := Lib.hid hrrep
              clear hrrep
              go_wp2_with fail
              refine hrep.mono ?_
              clear hrep
              intro e w11 h11
              cases hRE : replL (T3) with
              | none =>
                rw [hRE] at h11 HRREP
                obtain ⟨rfl, hu11⟩ := h11
                have hrx11 := hrx.up hu11
                have hcv : (convert 26 9 (.slice (A9) (D3) (c9))).run Try.prog w11 = .ok (.string (tx (T3))) _ := run_str (c9) hrx11
                clear hRE hxl
                go_wp2_with fail
                clear hcv
                refine (HRREP.out w11).mono ?_
                rintro e w12 ⟨rfl, hu12⟩
                clear HRREP
                go_wp2_with fail
                refine (same14_any none 0 0 [] none 0 0 [] w12 Rd.empty (RwOk.nil _) Rd.empty (RwOk.nil _) rfl (fun r hr => by cases hr) (by omega)).mono ?_
                rintro e w13 ⟨rfl, hu13⟩
                have hu1113 := hu11.trans (hu12.trans hu13)
                have hr13 := hrx.up hu1113
                have hu713 := hu7.trans hu1113
                go_wp2_with fail
                go_roundw
                case rel => exact ⟨2, A9, D3, c9, T3, by go_num, rfl, by omega, by omega, by omega, hr13, hu713⟩
                case measure => simp [intOf]
              | some rr =>
                obtain ⟨rg, rn⟩ := rr
                obtain ⟨q1, q2, q3⟩ := replL_bd hRE
                rw [hRE] at h11 HRREP
                obtain ⟨R, m6, rc6, rs6, rfl, hR6, hO6, hl6, hu11⟩ := h11
                (try dsimp only at hl6 q1 q2 q3)
                have hrx11 := hrx.up hu11
                have hcv : (convert 26 9 (.slice (A9) (D3) (c9))).run Try.prog w11 = .ok (.string (tx (T3))) _ := run_str (c9) hrx11
                have HL6 := Lib.hid hl6
                have Q3 := Lib.hid q3
                clear hRE hl6 q3
                go_wp2_with fail
                clear hcv
                refine (HRREP.out w11).mono ?_
                rintro e w12 ⟨R7, m7, rc7, rs7, rfl, hR7, hO7, hl7, hu12⟩
                (try dsimp only at hl7)
                clear HRREP
                have hrl : rwl rs6 = rwl rs7 := HL6.out.trans hl7.symm
                have hsame := same14_any R m6 rc6 rs6 R7 m7 rc7 rs7 w12 (hR6.rd.up hu12) (hO6.ok.up hu12) hR7.rd hO7.ok hrl (fun r hr => by
                  have h8 : r.l ∈ rg := by rw [← HL6.out]; exact List.mem_map.2 ⟨r, hr, rfl⟩
                  have := Q3.out r.l h8
                  omega) (by
                  have h8 := hR6.len
                  have h9 := congrArg List.length HL6.out
                  rw [rwl_len] at h9
                  omega)
                have HSAME := Lib.hid hsame
                clear hsame hrl hl7 hR6 hO6 hR7 hO7 q1 q2
                go_wp2_with fail
                refine HSAME.out.mono ?_
                rintro e w13 ⟨rfl, hu13⟩
                have hu1113 := hu11.trans (hu12.trans hu13)
                have hr13 := hrx.up hu1113
                have hu713 := hu7.trans hu1113
                clear HSAME
                go_wp2_with fail
                go_roundw
                case rel => exact ⟨2, A9, D3, c9, T3, by go_num, rfl, by omega, by omega, by omega, hr13, hu713⟩
                case measure => simp [intOf]
            · go_wp2_with fail
              refine (awake14_any wr).mono ?_
              rintro e w10 ⟨rfl, hu10⟩
              go_wp2_with fail
              go_ret
              exact ⟨rfl, (hupz.trans hu7).trans hu10⟩
end Go.Proofs.Ytnjmekjaingniaa.logBatches

/-
  'clepsydra/clepsydralaw14.LogBatches': for every input the law returns true; each argument reads behind the call as it read before. No condition.
-/
namespace Go.Proofs.Ytnjmekjaingniaa.logBatches
open Go.ChangeShapes Go.WideShapes Go.ChangeAt Go.RowKit
open Go.ChangeMaps (open_string shut_string)
set_option linter.unusedVariables false

set_option maxRecDepth 100000 in
theorem lifted (os : Os) (started : os.Started) (H : Type) (enc : TypeId × Value → H) :
    ReturnsInHanded {} Try.checked os 5 .any (Rows.logBatchesSpec.pre6 enc Try.prog Try.f5 Rows.logBatchesRow.domain false) (Rows.logBatchesSpec.post enc Try.prog Try.f5 false true false false) := by
  refine returnsInHanded_of_change (C := Try.checked) prog_own started (by kernel_rfl) Try.func5
    (ChangeSpec.witness6 (enc := enc) (C := Try.checked) false ⟨#[], #[.slice none 0 0, .slice none 0 0, .int .i64 0, .int .u8 0, .int .i64 0, .slice none 0 0], []⟩ 8 (by kernel_rfl) (by kernel_rfl) (by kernel_rfl) (by kernel_rfl)) ?_
  intro W base args ds gs before hval0 hW hcnd _
  have hval : ∀ (j : Nat) t v, Try.f5.params[j]? = some t → args[j]? = some v → Value.okWide Try.prog W .any base t v := hval0
  have hW' := hW
  obtain ⟨p, q, hA0, hV, rfl, hfz, hnd⟩ := hW
  have hA : DataW.TrodAll enc Try.prog W 0 (fun _ => true) true Try.f5.params.toList args.toList ds p := hA0
  rw [Try.params5] at hA hval
  obtain ⟨v0, vs0, d0, ds0, p0, q0, hargs, rfl, rfl, h0, r0⟩ := trodAll_cons hA
  obtain ⟨v1, vs1, d1, ds1, p1, q1, rfl, rfl, rfl, h1, r1⟩ := trodAll_cons r0
  obtain ⟨v2, vs2, d2, ds2, p2, q2, rfl, rfl, rfl, h2, r2⟩ := trodAll_cons r1
  obtain ⟨v3, vs3, d3, ds3, p3, q3, rfl, rfl, rfl, h3, r3⟩ := trodAll_cons r2
  obtain ⟨v4, vs4, d4, ds4, p4, q4, rfl, rfl, rfl, h4, r4⟩ := trodAll_cons r3
  obtain ⟨v5, vs5, d5, ds5, p5, q5, rfl, rfl, rfl, h5, r5⟩ := trodAll_cons r4
  obtain ⟨rfl, rfl, rfl⟩ := trodAll_nil r5
  obtain rfl : args = #[v0, v1, v2, v3, v4, v5] := by cases args; simp_all
  obtain ⟨rfl, rfl⟩ := trodVars_none hV
  obtain ⟨a0, len0, cap0, rfl⟩ := okWide_slice Try.underlying33 (hval 0 33 v0 rfl rfl)
  have k0 := h0
  have lt0 : ∀ x ∈ p0, x.block < W.heap.size := by obtain ⟨m, hm⟩ := k0; exact DataW.trod_lt m _ _ _ hm
  obtain ⟨l0, w0⟩ := is_ri h0
  obtain ⟨a1, len1, cap1, rfl⟩ := okWide_slice Try.underlying26 (hval 1 26 v1 rfl rfl)
  have k1 := h1
  have lt1 : ∀ x ∈ p1, x.block < W.heap.size := by obtain ⟨m, hm⟩ := k1; exact DataW.trod_lt m _ _ _ hm
  obtain ⟨l1, w1⟩ := is_b h1
  obtain ⟨a2, rfl, rfl, rfl, w2⟩ := open_int Try.underlying3 (hval 2 3 v2 rfl rfl) h2
  have b2 := bd_i64 w2
  obtain ⟨a3, rfl, rfl, rfl, w3⟩ := open_int Try.underlying5 (hval 3 5 v3 rfl rfl) h3
  have b3 := bd_u8 w3
  obtain ⟨a4, rfl, rfl, rfl, w4⟩ := open_int Try.underlying3 (hval 4 3 v4 rfl rfl) h4
  have b4 := bd_i64 w4
  obtain ⟨a5, len5, cap5, rfl⟩ := okWide_slice Try.underlying26 (hval 5 26 v5 rfl rfl)
  have k5 := h5
  have lt5 : ∀ x ∈ p5, x.block < W.heap.size := by obtain ⟨m, hm⟩ := k5; exact DataW.trod_lt m _ _ _ hm
  obtain ⟨l5, w5⟩ := is_b h5
  clear hA0 hval0
  refine (law_any a0 len0 cap0 l0 a1 len1 cap1 l1 a2 a3 a4 a5 len5 cap5 l5 W w0 w1 b2 b3 b4 w5).mono fun e W' ⟨he, bel⟩ => ?_
  subst he
  exact ⟨_, rfl, _, _, _, [], _, [], hW', trodAll_mk1 (shut_bool Try.underlying4 _), (trodAll_cons_mk (Below.trod laidOut (by kernel_rfl) (of_decide_eq_true (by kernel_rfl)) k0 bel lt0) (trodAll_cons_mk (Below.trod laidOut (by kernel_rfl) (of_decide_eq_true (by kernel_rfl)) k1 bel lt1) (trodAll_cons_mk (shut_int Try.underlying3 w2) (trodAll_cons_mk (shut_int Try.underlying5 w3) (trodAll_cons_mk (shut_int Try.underlying3 w4) (trodAll_cons_mk (Below.trod laidOut (by kernel_rfl) (of_decide_eq_true (by kernel_rfl)) k5 bel lt5) trodAll_mk0)))))), rfl, bel.frame _, fun h => by cases h⟩

theorem proved : Rows.LogBatchesSaid :=
  OpenClaim.holds_of_wide 5 Try.f5 rfl rfl rfl rfl rfl rfl rfl ⟨rfl, rfl, rfl, rfl, rfl⟩ rfl rfl rfl rfl rfl (by kernel_rfl) Try.func5 (by kernel_rfl)
    (of_decide_eq_true (by kernel_rfl)) (by unfold Func.isWrapper; first | (rw [if_pos (by decide +kernel)]; kernel_rfl) | (rw [if_neg (by decide +kernel)]; exact ⟨rfl, rfl⟩))
    (fun os started H enc _ => lifted os started H enc)
#print axioms proved
end Go.Proofs.Ytnjmekjaingniaa.logBatches
