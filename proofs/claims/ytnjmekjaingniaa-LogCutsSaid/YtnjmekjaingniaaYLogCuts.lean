/-
  'clepsydra/clepsydralaw14.LogCuts': for every input the law returns true; each argument reads behind the call as it read before. No condition.
-/
import Derived.IntWalk
import Derived.Test.YtnjmekjaingniaaZ5
/-
  The law LogCuts: the walk.
-/
namespace Go.Proofs.Ytnjmekjaingniaa.logCuts
open Go.RowKit
set_option linter.unusedVariables false
set_option linter.unusedSimpArgs false

set_option maxRecDepth 100000 in
set_option maxHeartbeats 4000000 in
theorem law_any (A : Option Addr) (n c : Nat) (rs : List Rw) (cut : Int) (w : World) (hr : IsRI w A n c rs) (b1 : -9223372036854775808 ≤ cut ∧ cut ≤ 9223372036854775807) :
    Calls Try.prog 6 #[.slice A n c, .int .i64 cut] w fun e w' => e = .returned (.bool true) ∧ Up w w' := by
  go_enter Try.func6, Try.ntmps6
  go_wp2_with fail
  refine (few14_any A n c rs w hr.1 (by have := hr.2.2; omega) hr.bd).mono ?_
  rintro e w1 ⟨b, rfl, hfew, hu1⟩
  cases b with
  | false =>
    go_wp2_with fail
    refine (awake14_any w1).mono ?_
    rintro e w2 ⟨rfl, hu2⟩
    go_wp2_with fail
    go_ret
    exact ⟨rfl, hu1.trans hu2⟩
  | true =>
    obtain ⟨hn15, hr150⟩ := hfew rfl
    have hok1 := (IsRI.ok hr).up hu1
    have hrd1 := hr.1.up hu1
    have hl := hrd1.rlen
    obtain ⟨f1, f2, f3, f40, f5⟩ := text_facts hok1 (by omega) hr150
    have f4 := Lib.hid f40
    clear hl f40 hfew
    go_wp2_with fail
    refine (text14_any A n c rs w1 hrd1 hok1 hn15 hr150).mono ?_
    rintro e w2 ⟨G, m, gc, E, ec, rfl, hG, hE, hu2⟩
    have hup2 := hu1.trans hu2
    have f2 := f2.up hu2
    have hmg := hG.len
    clear hr150 hok1 hrd1 hr hu1
    generalize goodR rs = gs at *
    obtain ⟨g, hg⟩ : ∃ g, g = rwl gs := ⟨_, rfl⟩
    have hgl : g.length = m := by rw [hg, rwl_len, hmg]
    rw [← hg] at f4 f5 hE ⊢
    obtain ⟨bE, rfl, hbE, hcE⟩ := ends_cell hE (by rw [hgl])
    obtain ⟨S, hS⟩ : ∃ S, S = logB g := ⟨_, rfl⟩
    rw [← hS] at f5 ⊢
    obtain ⟨N, hN⟩ : ∃ N, N = S.length := ⟨_, rfl⟩
    have hz : (tx S).size = N := by rw [tx_size, hN]
    have hN2 : N ≤ 900180 := by omega
    have hm15 : m ≤ 15 := by omega
    obtain ⟨C1, hC, hC2⟩ := i64_and_le cut 16777215 (by omega)
    replace hC : bits .and .i64 cut 16777215 = (C1 : Int) := hC
    have hM0 : ¬ ((N : Int) + 1 = 0) := by omega
    obtain ⟨K, hK, hKN⟩ : ∃ K : Nat, (C1 : Int).tmod ((N : Int) + 1) = (K : Int) ∧ K ≤ N := ⟨C1 % (N + 1), (by rw [Int.tmod_eq_emod_of_nonneg (by omega), Int.natCast_emod]; rfl), by have := Nat.mod_lt C1 (show 0 < N + 1 by omega); omega⟩
    have HG := Lib.hid hg
    have HGL := Lib.hid hgl
    have HS := Lib.hid hS
    have HN := Lib.hid hN
    have HMG := Lib.hid hmg
    have HC := Lib.hid hcE
    clear hg hgl hS hN hmg hcE f5 hE
    go_wp2_with fail
    clear hC hM0 hK
    go_loopw [9] (fun jv wr => ∃ j : Nat, jv = .int .i64 (j : Int) ∧ j ≤ m ∧ Hid (endL g j ≤ K) ∧ Up w2 wr) (fun jv _ => m - (intOf jv).toNat)
    case atStart => exact ⟨0, rfl, Nat.zero_le _, by rw [endL_zero]; exact Nat.zero_le _, Up.refl _⟩
    case round =>
      obtain ⟨j, rfl, hj, hjK, hu⟩ := hrel
      have j9 : IntKind.i64.wrap ((j : Int) + 1) = (j : Int) + 1 := IntWalk.i64_in _ (by omega)
      have hcx : ∀ i, i < m + 1 → wr.cell? ⟨bE, i, none⟩ = some (.int .i64 (endL g i : Int)) := fun i hi => (hu.cell (p := ⟨bE, i, none⟩) hbE).trans (HC.out i hi)
      by_cases hjm : j < m
      · have i1 : (j : Int) + 1 < (m : Int) + 1 := by omega
        have i2 : j + 1 < m + 1 := by omega
        have hc1 : wr.cell? ⟨bE, j + 1, none⟩ = some (.int .i64 (endL g (j + 1) : Int)) := hcx (j + 1) i2
        by_cases hle : endL g (j + 1) ≤ K
        · have hle2 : ((endL g (j + 1) : Nat) : Int) ≤ (K : Int) := by omega
          have HLE := Lib.hid hle
          clear hle hcx
          go_wp2_with fail
          go_roundw
          case rel => exact ⟨j + 1, by go_num, by omega, HLE, hu⟩
          case measure => simp [intOf]; omega
        · have hle2 : ¬ ((endL g (j + 1) : Nat) : Int) ≤ (K : Int) := by omega
          have hlast : j < m → K < endL g (j + 1) := fun _ => by omega
          have HL := Lib.hid hlast
          have hcj := hcx j (by omega)
          have h9 : True := trivial
          clear hle hlast hcx
          have hrep := repl_cut g j K f4.out (by have := HGL.out; omega) hjK.out (fun h => HL.out (by have := HGL.out; omega)) (by rw [← HS.out, ← HN.out]; exact hKN)
          rw [← HS.out] at hrep
          obtain ⟨en, hen⟩ : ∃ q, q = endL g j := ⟨_, rfl⟩
          rw [← hen] at hrep hcj
          obtain ⟨c5, w5, hconv, hcap, hrd5, hu5, -, -⟩ := conv_b wr S
          rw [← HN.out] at hconv hcap hrd5
          have hK5 : (K : Int) ≤ c5 := by omega
          have HREP := Lib.hid hrep
          have hrk := hrd5.bto (k := K) hKN
          clear hrep hen hrd5
          go_wp2_with fail
          clear hconv
          refine (replay14_any _ K c5 (S.take K) w5 hrk (by omega) (by omega)).mono ?_
          intro e6 w6 h6
          rw [HREP.out] at h6
          obtain ⟨R, m6, rc6, rs6, rfl, hR6, hO6, hl6, hu6⟩ := h6
          (try dsimp only at hl6)
          have hu56 := hu5.trans hu6
          have hc6 : w6.cell? ⟨bE, j, none⟩ = some (.int .i64 (en : Int)) := (hu56.cell (p := ⟨bE, j, none⟩) (World.block_lt_of_cell? wr ⟨bE, j, none⟩ hcj)).trans hcj
          have hup6 := (hup2.trans hu).trans hu56
          have hG6 := hG.rd.up (hu.trans hu56)
          have fo6 := f2.up (hu.trans hu56)
          have hgc := own_cap hG
          have hjg : (j : Int) ≤ (gc : Int) := by omega
          have hrl6 : rwl rs6 = rwl (gs.take j) := by rw [hl6, HG.out, rwl_take]
          have hsame := same14_any R m6 rc6 rs6 G j gc (gs.take j) w6 hR6.rd hO6.ok (hG6.tor hj) (fo6.take j) hrl6 (fun r hr => by
            have h8 : r.l ∈ rwl (gs.take j) := by rw [← hrl6]; exact List.mem_map.2 ⟨r, hr, rfl⟩
            obtain ⟨r2, h9, h10⟩ := List.mem_map.1 h8
            have h11 := f3 r2 (List.mem_of_mem_take h9)
            rw [h10] at h11
            omega) (by
            have h8 := hR6.len
            have h9 := congrArg List.length hrl6
            rw [rwl_len, rwl_len, List.length_take] at h9
            omega)
          have HSAME := Lib.hid hsame
          clear hsame hrl6 hl6 hR6 hO6 hrk HREP hG6 fo6 hcj
          go_wp2_with fail
          refine HSAME.out.mono ?_
          rintro e7 w7 ⟨rfl, hu7⟩
          go_wp2_with fail
          refine (awake14_any w7).mono ?_
          rintro e8 w8 ⟨rfl, hu8⟩
          go_wp2_with fail
          go_ret
          exact ⟨rfl, (hup6.trans hu7).trans hu8⟩
      · have i1 : ¬ (j : Int) + 1 < (m : Int) + 1 := by omega
        have hlast : j < m → K < endL g (j + 1) := fun h => absurd h hjm
        have HL := Lib.hid hlast
        have hcj := hcx j (by omega)
        clear hlast hcx
        have hrep := repl_cut g j K f4.out (by have := HGL.out; omega) hjK.out (fun h => HL.out (by have := HGL.out; omega)) (by rw [← HS.out, ← HN.out]; exact hKN)
        rw [← HS.out] at hrep
        obtain ⟨en, hen⟩ : ∃ q, q = endL g j := ⟨_, rfl⟩
        rw [← hen] at hrep hcj
        obtain ⟨c5, w5, hconv, hcap, hrd5, hu5, -, -⟩ := conv_b wr S
        rw [← HN.out] at hconv hcap hrd5
        have hK5 : (K : Int) ≤ c5 := by omega
        have HREP := Lib.hid hrep
        have hrk := hrd5.bto (k := K) hKN
        clear hrep hen hrd5
        go_wp2_with fail
        clear hconv
        refine (replay14_any _ K c5 (S.take K) w5 hrk (by omega) (by omega)).mono ?_
        intro e6 w6 h6
        rw [HREP.out] at h6
        obtain ⟨R, m6, rc6, rs6, rfl, hR6, hO6, hl6, hu6⟩ := h6
        (try dsimp only at hl6)
        have hu56 := hu5.trans hu6
        have hc6 : w6.cell? ⟨bE, j, none⟩ = some (.int .i64 (en : Int)) := (hu56.cell (p := ⟨bE, j, none⟩) (World.block_lt_of_cell? wr ⟨bE, j, none⟩ hcj)).trans hcj
        have hup6 := (hup2.trans hu).trans hu56
        have hG6 := hG.rd.up (hu.trans hu56)
        have fo6 := f2.up (hu.trans hu56)
        have hgc := own_cap hG
        have hjg : (j : Int) ≤ (gc : Int) := by omega
        have hrl6 : rwl rs6 = rwl (gs.take j) := by rw [hl6, HG.out, rwl_take]
        have hsame := same14_any R m6 rc6 rs6 G j gc (gs.take j) w6 hR6.rd hO6.ok (hG6.tor hj) (fo6.take j) hrl6 (fun r hr => by
          have h8 : r.l ∈ rwl (gs.take j) := by rw [← hrl6]; exact List.mem_map.2 ⟨r, hr, rfl⟩
          obtain ⟨r2, h9, h10⟩ := List.mem_map.1 h8
          have h11 := f3 r2 (List.mem_of_mem_take h9)
          rw [h10] at h11
          omega) (by
          have h8 := hR6.len
          have h9 := congrArg List.length hrl6
          rw [rwl_len, rwl_len, List.length_take] at h9
          omega)
        have HSAME := Lib.hid hsame
        clear hsame hrl6 hl6 hR6 hO6 hrk HREP hG6 fo6 hcj
        go_wp2_with fail
        refine HSAME.out.mono ?_
        rintro e7 w7 ⟨rfl, hu7⟩
        go_wp2_with fail
        refine (awake14_any w7).mono ?_
        rintro e8 w8 ⟨rfl, hu8⟩
        go_wp2_with fail
        go_ret
        exact ⟨rfl, (hup6.trans hu7).trans hu8⟩
end Go.Proofs.Ytnjmekjaingniaa.logCuts

/-
  'clepsydra/clepsydralaw14.LogCuts': for every input the law returns true; each argument reads behind the call as it read before. No condition.
-/
namespace Go.Proofs.Ytnjmekjaingniaa.logCuts
open Go.ChangeShapes Go.WideShapes Go.ChangeAt Go.RowKit
open Go.ChangeMaps (open_string shut_string)
set_option linter.unusedVariables false

set_option maxRecDepth 100000 in
theorem lifted (os : Os) (started : os.Started) (H : Type) (enc : TypeId × Value → H) :
    ReturnsInHanded {} Try.checked os 6 .any (Rows.logCutsSpec.pre6 enc Try.prog Try.f6 Rows.logCutsRow.domain false) (Rows.logCutsSpec.post enc Try.prog Try.f6 false true false false) := by
  refine returnsInHanded_of_change (C := Try.checked) prog_own started (by kernel_rfl) Try.func6
    (ChangeSpec.witness6 (enc := enc) (C := Try.checked) false ⟨#[], #[.slice none 0 0, .int .i64 0], []⟩ 8 (by kernel_rfl) (by kernel_rfl) (by kernel_rfl) (by kernel_rfl)) ?_
  intro W base args ds gs before hval0 hW hcnd _
  have hval : ∀ (j : Nat) t v, Try.f6.params[j]? = some t → args[j]? = some v → Value.okWide Try.prog W .any base t v := hval0
  have hW' := hW
  obtain ⟨p, q, hA0, hV, rfl, hfz, hnd⟩ := hW
  have hA : DataW.TrodAll enc Try.prog W 0 (fun _ => true) true Try.f6.params.toList args.toList ds p := hA0
  rw [Try.params6] at hA hval
  obtain ⟨v0, vs0, d0, ds0, p0, q0, hargs, rfl, rfl, h0, r0⟩ := trodAll_cons hA
  obtain ⟨v1, vs1, d1, ds1, p1, q1, rfl, rfl, rfl, h1, r1⟩ := trodAll_cons r0
  obtain ⟨rfl, rfl, rfl⟩ := trodAll_nil r1
  obtain rfl : args = #[v0, v1] := by cases args; simp_all
  obtain ⟨rfl, rfl⟩ := trodVars_none hV
  obtain ⟨a0, len0, cap0, rfl⟩ := okWide_slice Try.underlying33 (hval 0 33 v0 rfl rfl)
  have k0 := h0
  have lt0 : ∀ x ∈ p0, x.block < W.heap.size := by obtain ⟨m, hm⟩ := k0; exact DataW.trod_lt m _ _ _ hm
  obtain ⟨l0, w0⟩ := is_ri h0
  obtain ⟨a1, rfl, rfl, rfl, w1⟩ := open_int Try.underlying3 (hval 1 3 v1 rfl rfl) h1
  have b1 := bd_i64 w1
  clear hA0 hval0
  refine (law_any a0 len0 cap0 l0 a1 W w0 b1).mono fun e W' ⟨he, bel⟩ => ?_
  subst he
  exact ⟨_, rfl, _, _, _, [], _, [], hW', trodAll_mk1 (shut_bool Try.underlying4 _), (trodAll_cons_mk (Below.trod laidOut (by kernel_rfl) (of_decide_eq_true (by kernel_rfl)) k0 bel lt0) (trodAll_cons_mk (shut_int Try.underlying3 w1) trodAll_mk0)), rfl, bel.frame _, fun h => by cases h⟩

theorem proved : Rows.LogCutsSaid :=
  OpenClaim.holds_of_wide 6 Try.f6 rfl rfl rfl rfl rfl rfl rfl ⟨rfl, rfl, rfl, rfl, rfl⟩ rfl rfl rfl rfl rfl (by kernel_rfl) Try.func6 (by kernel_rfl)
    (of_decide_eq_true (by kernel_rfl)) (by unfold Func.isWrapper; first | (rw [if_pos (by decide +kernel)]; kernel_rfl) | (rw [if_neg (by decide +kernel)]; exact ⟨rfl, rfl⟩))
    (fun os started H enc _ => lifted os started H enc)
#print axioms proved
end Go.Proofs.Ytnjmekjaingniaa.logCuts
