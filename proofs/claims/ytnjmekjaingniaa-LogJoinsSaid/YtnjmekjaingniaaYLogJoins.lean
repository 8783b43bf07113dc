/-
  'clepsydra/clepsydralaw14.LogJoins': for every input the law returns true; each argument reads behind the call as it read before. No condition.
-/
import Derived.IntWalk
import Derived.Test.YtnjmekjaingniaaZ5
/-
  The law LogJoins: the walk.
-/
namespace Go.Proofs.Ytnjmekjaingniaa.logJoins
open Go.RowKit
set_option linter.unusedVariables false
set_option linter.unusedSimpArgs false

set_option maxRecDepth 100000 in
set_option maxHeartbeats 4000000 in
theorem law_any (A : Option Addr) (n c : Nat) (rs : List Rw) (at_ : Int) (w : World) (hr : IsRI w A n c rs) (b1 : -9223372036854775808 ≤ at_ ∧ at_ ≤ 9223372036854775807) :
    Calls Try.prog 4 #[.slice A n c, .int .i64 at_] w fun e w' => e = .returned (.bool true) ∧ Up w w' := by
  go_enter Try.func4, Try.ntmps4
  go_wp2_with fail
  refine (few14_any A n c rs w hr.1 (by have := hr.2.2; omega) hr.bd).mono ?_
  rintro e w1 ⟨b, rfl, hfew, hu1⟩
  cases b with
  | false =>
    go_wp2_with fail
    refine (awake14_any w1).mono ?_
    rintro e w2 ⟨rfl, hu2⟩
    go_wp2_with fail
    go_ret
    exact ⟨rfl, hu1.trans hu2⟩
  | true =>
    obtain ⟨hn15, hr150⟩ := hfew rfl
    have hok1 := (IsRI.ok hr).up hu1
    have hrd1 := hr.1.up hu1
    have hl := hrd1.rlen
    obtain ⟨f1, f2, f3, f40, f5⟩ := text_facts hok1 (by omega) hr150
    have f4 := Lib.hid f40
    clear hl f40 hfew
    go_wp2_with fail
    refine (text14_any A n c rs w1 hrd1 hok1 hn15 hr150).mono ?_
    rintro e w2 ⟨G, m, gc, E, ec, rfl, hG, hE, hu2⟩
    have hup2 := hu1.trans hu2
    have f2 := f2.up hu2
    have hmg := hG.len
    clear hr150 hok1 hrd1 hr hu1
    generalize goodR rs = gs at *
    obtain ⟨g, hg⟩ : ∃ g, g = rwl gs := ⟨_, rfl⟩
    have hgl : g.length = m := by rw [hg, rwl_len, hmg]
    rw [← hg] at f4 f5 hE ⊢
    obtain ⟨bE, rfl, hbE, hcE⟩ := ends_cell hE (by rw [hgl])
    obtain ⟨S, hS⟩ : ∃ S, S = logB g := ⟨_, rfl⟩
    rw [← hS] at f5 ⊢
    obtain ⟨N, hN⟩ : ∃ N, N = S.length := ⟨_, rfl⟩
    have hz : (tx S).size = N := by rw [tx_size, hN]
    have hN2 : N ≤ 900180 := by omega
    have hm15 : m ≤ 15 := by omega
    have HG := Lib.hid hg
    have HGL := Lib.hid hgl
    have HS := Lib.hid hS
    have HN := Lib.hid hN
    have HMG := Lib.hid hmg
    have HC := Lib.hid hcE
    clear hg hgl hS hN hmg hcE f5 hE
    obtain ⟨C1, hC, hC2⟩ := i64_and_le at_ 255 (by omega)
    replace hC : bits .and .i64 at_ 255 = (C1 : Int) := hC
    have hM0 : ¬ ((m : Int) + 1 = 0) := by omega
    obtain ⟨j, hK, hj⟩ : ∃ K : Nat, (C1 : Int).tmod ((m : Int) + 1) = (K : Int) ∧ K ≤ m := ⟨C1 % (m + 1), (by rw [Int.tmod_eq_emod_of_nonneg (by omega), Int.natCast_emod]; rfl), by have := Nat.mod_lt C1 (show 0 < m + 1 by omega); omega⟩
    have hjI : (j : Int) < (m : Int) + 1 := by omega
    have hjN : j < m + 1 := by omega
    obtain ⟨en, hen⟩ : ∃ q, q = endL g j := ⟨_, rfl⟩
    have hc2 := HC.out j (by omega)
    have henN : en ≤ N := by rw [hen, HN.out, HS.out]; exact endL_le g j
    have hx := repl_all (g.take j) (fun q hq => f4.out q (List.mem_of_mem_take hq))
    have hy := repl_all (g.drop j) (fun q hq => f4.out q (List.mem_of_mem_drop hq))
    obtain ⟨ht1, ht2⟩ := logB_take g j
    rw [← ht1, ← hen, ← HS.out] at hx
    rw [← ht2, ← hen, ← HS.out] at hy
    rw [List.length_take, ← HN.out, Nat.min_eq_left henN] at hx
    obtain ⟨M, hMN⟩ : ∃ M, M = N - en := ⟨_, rfl⟩
    rw [List.length_drop, ← HN.out, ← hMN] at hy
    have hsub : (N : Int) - (en : Int) = (M : Int) := by omega
    have hM2 : M ≤ N := by omega
    rw [← hen] at hc2
    have hext1 : (tx S).extract 0 en = tx (S.take en) := tx_takeX S en
    have hext2 : (tx S).extract en N = tx (S.drop en) := tx_dropX S en N HN.out
    have henI : (en : Int) ≤ (N : Int) := by omega
    have hlt1 : (S.take en).length = en := by rw [List.length_take, ← HN.out]; omega
    have hlt2 : (S.drop en).length = M := by rw [List.length_drop, ← HN.out, ← hMN]
    obtain ⟨c3, w3, hconv, hcap3, hrd3, hu3, -, -⟩ := conv_b w2 (S.take en)
    rw [hlt1] at hconv hcap3 hrd3
    have HX := Lib.hid hx
    have HY := Lib.hid hy
    have HL2 := Lib.hid hlt2
    have HEN := Lib.hid hen
    clear hx hy hlt1 hlt2 hen ht1 ht2 hMN
    go_wp2_with fail
    clear hconv
    refine (replay14_any _ _ c3 (S.take en) w3 hrd3 (by omega) hcap3).mono ?_
    intro e6 w4 h6
    rw [HX.out] at h6
    obtain ⟨R, m6, rc6, rs6, rfl, hR6, hO6, hl6, hu4⟩ := h6
    (try dsimp only at hl6)
    have hc4 : w4.cell? ⟨bE, j, none⟩ = some (.int .i64 (en : Int)) := ((hu3.trans hu4).cell (p := ⟨bE, j, none⟩) hbE).trans hc2
    obtain ⟨c5, w5, hconv, hcap5, hrd5, hu5, -, -⟩ := conv_b w4 (S.drop en)
    rw [HL2.out] at hconv hcap5 hrd5
    have HL6 := Lib.hid hl6
    clear hl6
    go_wp2_with fail
    clear hconv
    refine (replay14_any _ _ c5 (S.drop en) w5 hrd5 (by omega) hcap5).mono ?_
    intro e7 w6 h7
    rw [HY.out] at h7
    obtain ⟨R7, m7, rc7, rs7, rfl, hR7, hO7, hl7, hu6⟩ := h7
    (try dsimp only at hl7)
    have hu56 := hu5.trans hu6
    have hc6 : w6.cell? ⟨bE, j, none⟩ = some (.int .i64 (en : Int)) := (hu56.cell (p := ⟨bE, j, none⟩) (World.block_lt_of_cell? w4 ⟨bE, j, none⟩ hc4)).trans hc4
    have HL7 := Lib.hid hl7
    have hR6b : OwnRI w6 w3.heap.size R m6 rc6 rs6 := hR6.up hu56
    have hm6 : m6 ≤ 15 := by
      have h8 := hR6.len
      have h9 := congrArg List.length HL6.out
      rw [rwl_len, List.length_take, HGL.out] at h9
      omega
    have hm7 : m7 ≤ 15 := by
      have h8 := hR7.len
      have h9 := congrArg List.length HL7.out
      rw [rwl_len, List.length_drop, HGL.out] at h9
      omega
    have hsz6 : w3.heap.size ≤ w6.heap.size := (hu4.trans hu56).size
    clear hl7 hc2 hc4
    go_wp2_with (at_builtin; refine wpList_append_want _ rowsIT (news := rwv rs7) hR6b hR7.rd (rwv_one _) (by omega) (by omega) hsz6 (by rfl) rfl rfl rfl ?_; intro v8 w8 hown8 hg8 hat8; obtain ⟨V8, vc8, rfl⟩ := own_form hown8)
    have hown9 : OwnRI w8 w3.heap.size V8 (m6 + m7) vc8 (rs6 ++ rs7) := by unfold OwnRI; rw [rwv_append]; exact hown8
    have hup26 : Up w2 w6 := hu3.trans (hu4.trans hu56)
    have hup28 : Up w2 w8 := hup26.grown hg8 (fun g hg => by have := (World.ownsRow.lt hR6b g hg).1; have := hu3.size; omega)
    have hO6b : RwOwn w8 w3.heap.size rs6 := fun r hr => own_far hR6b ((hO6.up hu56) r hr) (by decide) hg8
    have hO7b : RwOwn w8 w5.heap.size rs7 := fun r hr => own_far hR6b (hO7 r hr) (by decide) hg8
    have hrl : rwl (rs6 ++ rs7) = rwl gs := by rw [rwl_append, HL6.out, HL7.out, List.take_append_drop, HG.out]
    have hsame := same14_any V8 (m6 + m7) vc8 (rs6 ++ rs7) G m gc gs w8 hown9.rd (hO6b.ok.append hO7b.ok) (hG.rd.up hup28) (f2.up hup28) hrl (fun r hr => by
      have h8 : r.l ∈ rwl gs := by rw [← hrl]; exact List.mem_map.2 ⟨r, hr, rfl⟩
      obtain ⟨r2, h9, h10⟩ := List.mem_map.1 h8
      have h11 := f3 r2 h9
      rw [h10] at h11
      omega) (by omega)
    refine hsame.mono ?_
    rintro e9 w9 ⟨rfl, hu9⟩
    clear hsame hrl hO6b hO7b hown9 hown8 hg8 hat8 hR6b hR7 hR6 hO6 hO7
    go_wp2_with fail
    refine (awake14_any w9).mono ?_
    rintro e8 w10 ⟨rfl, hu10⟩
    go_wp2_with fail
    go_ret
    exact ⟨rfl, ((hup2.trans hup28).trans hu9).trans hu10⟩
end Go.Proofs.Ytnjmekjaingniaa.logJoins

/-
  'clepsydra/clepsydralaw14.LogJoins': for every input the law returns true; each argument reads behind the call as it read before. No condition.
-/
namespace Go.Proofs.Ytnjmekjaingniaa.logJoins
open Go.ChangeShapes Go.WideShapes Go.ChangeAt Go.RowKit
open Go.ChangeMaps (open_string shut_string)
set_option linter.unusedVariables false

set_option maxRecDepth 100000 in
theorem lifted (os : Os) (started : os.Started) (H : Type) (enc : TypeId × Value → H) :
    ReturnsInHanded {} Try.checked os 4 .any (Rows.logJoinsSpec.pre6 enc Try.prog Try.f4 Rows.logJoinsRow.domain false) (Rows.logJoinsSpec.post enc Try.prog Try.f4 false true false false) := by
  refine returnsInHanded_of_change (C := Try.checked) prog_own started (by kernel_rfl) Try.func4
    (ChangeSpec.witness6 (enc := enc) (C := Try.checked) false ⟨#[], #[.slice none 0 0, .int .i64 0], []⟩ 8 (by kernel_rfl) (by kernel_rfl) (by kernel_rfl) (by kernel_rfl)) ?_
  intro W base args ds gs before hval0 hW hcnd _
  have hval : ∀ (j : Nat) t v, Try.f4.params[j]? = some t → args[j]? = some v → Value.okWide Try.prog W .any base t v := hval0
  have hW' := hW
  obtain ⟨p, q, hA0, hV, rfl, hfz, hnd⟩ := hW
  have hA : DataW.TrodAll enc Try.prog W 0 (fun _ => true) true Try.f4.params.toList args.toList ds p := hA0
  rw [Try.params4] at hA hval
  obtain ⟨v0, vs0, d0, ds0, p0, q0, hargs, rfl, rfl, h0, r0⟩ := trodAll_cons hA
  obtain ⟨v1, vs1, d1, ds1, p1, q1, rfl, rfl, rfl, h1, r1⟩ := trodAll_cons r0
  obtain ⟨rfl, rfl, rfl⟩ := trodAll_nil r1
  obtain rfl : args = #[v0, v1] := by cases args; simp_all
  obtain ⟨rfl, rfl⟩ := trodVars_none hV
  obtain ⟨a0, len0, cap0, rfl⟩ := okWide_slice Try.underlying33 (hval 0 33 v0 rfl rfl)
  have k0 := h0
  have lt0 : ∀ x ∈ p0, x.block < W.heap.size := by obtain ⟨m, hm⟩ := k0; exact DataW.trod_lt m _ _ _ hm
  obtain ⟨l0, w0⟩ := is_ri h0
  obtain ⟨a1, rfl, rfl, rfl, w1⟩ := open_int Try.underlying3 (hval 1 3 v1 rfl rfl) h1
  have b1 := bd_i64 w1
  clear hA0 hval0
  refine (law_any a0 len0 cap0 l0 a1 W w0 b1).mono fun e W' ⟨he, bel⟩ => ?_
  subst he
  exact ⟨_, rfl, _, _, _, [], _, [], hW', trodAll_mk1 (shut_bool Try.underlying4 _), (trodAll_cons_mk (Below.trod laidOut (by kernel_rfl) (of_decide_eq_true (by kernel_rfl)) k0 bel lt0) (trodAll_cons_mk (shut_int Try.underlying3 w1) trodAll_mk0)), rfl, bel.frame _, fun h => by cases h⟩

theorem proved : Rows.LogJoinsSaid :=
  OpenClaim.holds_of_wide 4 Try.f4 rfl rfl rfl rfl rfl rfl rfl ⟨rfl, rfl, rfl, rfl, rfl⟩ rfl rfl rfl rfl rfl (by kernel_rfl) Try.func4 (by kernel_rfl)
    (of_decide_eq_true (by kernel_rfl)) (by unfold Func.isWrapper; first | (rw [if_pos (by decide +kernel)]; kernel_rfl) | (rw [if_neg (by decide +kernel)]; exact ⟨rfl, rfl⟩))
    (fun os started H enc _ => lifted os started H enc)
#print axioms proved
end Go.Proofs.Ytnjmekjaingniaa.logJoins
