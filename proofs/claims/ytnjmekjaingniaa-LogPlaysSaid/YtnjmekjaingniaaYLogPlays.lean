/-
  'clepsydra/clepsydralaw14.LogPlays': for every input the law returns true; each argument reads behind the call as it read before. No condition.
-/
import Derived.IntWalk
import Derived.Test.YtnjmekjaingniaaZ5
/-
  The law LogPlays: the walk.
-/
namespace Go.Proofs.Ytnjmekjaingniaa.logPlays
open Go.RowKit Go.Maps
set_option linter.unusedVariables false
set_option linter.unusedSimpArgs false

set_option maxRecDepth 100000 in
set_option maxHeartbeats 8000000 in
theorem law_any (A : Option Addr) (n c : Nat) (rs : List Rw) (sync keep fail : Int) (w : World) (hr : IsRI w A n c rs) (b1 : -9223372036854775808 ≤ sync ∧ sync ≤ 9223372036854775807) (b2 : -9223372036854775808 ≤ keep ∧ keep ≤ 9223372036854775807)
    (b3 : -9223372036854775808 ≤ fail ∧ fail ≤ 9223372036854775807) :
    Calls Try.prog 9 #[.slice A n c, .int .i64 sync, .int .i64 keep, .int .i64 fail] w fun e w' => e = .returned (.bool true) ∧ Up w w' := by
  go_enter Try.func9, Try.ntmps9
  go_wp2_with fail
  refine (few14_any A n c rs w hr.1 (by have := hr.2.2; omega) hr.bd).mono ?_
  rintro e w1 ⟨b, rfl, hfew, hu1⟩
  cases b with
  | false =>
    go_wp2_with fail
    refine (awake14_any w1).mono ?_
    rintro e w2 ⟨rfl, hu2⟩
    go_wp2_with fail
    go_ret
    exact ⟨rfl, hu1.trans hu2⟩
  | true =>
    obtain ⟨hn15, hr150⟩ := hfew rfl
    have hok := IsRI.ok hr
    have hrl : ∀ r ∈ rs, r.l.length ≤ 150 := fun r hr => by have := (hok r hr).1.ilen; have := hr150 r hr; omega
    have HRL := Lib.hid hrl
    have hrd := hr.1
    obtain ⟨F0, hF, hF2⟩ := i64_and_le fail 31 (by omega)
    replace hF : bits .and .i64 fail 31 = (F0 : Int) := hF
    have hE1 : createD (newD 1048576) nm7 = (dkF 1048576 nm7 [] 0 1 (.map []) [⟨1, 0, nm7, []⟩] 0, 0) := dkF_new (q := 1048576) (by decide)
    have hE2 : syncDirD (dkF 1048576 nm7 [] 0 1 (.map []) [⟨1, 0, nm7, []⟩] 0) = (d7 [] 0 2 0, 0) := rfl
    have hoA : DkOk (dkF 1048576 nm7 [] 0 1 (.map []) [⟨1, 0, nm7, []⟩] 0) := dkF_ok (by simp) (by simp) (.inl rfl) (.inr rfl) (by omega) (by omega)
    have hnA : (dkF 1048576 nm7 [] 0 1 (.map []) [⟨1, 0, nm7, []⟩] 0).calls = 1 := rfl
    generalize dkF 1048576 nm7 [] 0 1 (.map []) [⟨1, 0, nm7, []⟩] 0 = dA at *
    have E1 := Lib.hid hE1
    have E2 := Lib.hid hE2
    have NA := Lib.hid hnA
    clear hfew hr150 hrl hE1 hE2 hnA hr
    go_wp2_with fail
    refine (dnew_any 1048576 w1).mono ?_
    rintro e w2 ⟨h2, rfl, H2, hu2, hf2⟩
    go_wp2_with fail
    refine (lnew_any H2 (newD_ok (by omega)) (by simp [newD]) (by simp [newD]) (by simp [newD]) nm7 (by decide)).mono ?_
    rintro e w3 ⟨h3, H3, D3, hq⟩
    rw [E1.out] at H3 hq
    (try dsimp only at H3 hq)
    obtain ⟨gl, rfl, L3, hf3, hg3⟩ : ∃ gl, e = .returned (.tuple #[.pointer (some ⟨gl, 0, none⟩), .int .i64 0]) ∧ LogAt gl h2.g nm7 0 0 false w3 ∧ ¬ foot h3 gl ∧ w2.heap.size ≤ gl := hq.elim (fun h => h.2) (fun h => absurd rfl h.1)
    have hsd := syncDir_any H3 hoA (by have := NA.out; omega)
    rw [D3.g, E2.out] at hsd
    (try dsimp only at hsd)
    have HSD := Lib.hid hsd
    have hu3 := D3.below H2 (Nat.le_refl _) hu2
    clear hq hsd
    go_wp2_with fail
    refine HSD.out.mono ?_
    rintro e w4 ⟨h4, rfl, H4, D4⟩
    have hu4 := D4.below H3 (Nat.le_refl _) hu3
    have hg4 : h4.g = h2.g := D4.g.trans D3.g
    have L4 : LogAt gl h2.g nm7 0 0 false w4 := L3.keeps D4.kept hf3
    have hf4 : ¬ foot h4 gl := fun hf => by
      rcases D4.foot gl hf with h9 | h9
      · exact hf3 h9
      · have := L3.lt; omega
    rw [← hg4] at L4
    have I4 : PI w1 gl h2.g rs [] 0 2 0 h4 w4 := ⟨hu4, H4, L4, hf4, Nat.le_trans hu2.size hg3, hg4, (fun r hr => by cases hr), Nat.zero_le _, Nat.le_refl _, (fun r hr => by cases hr), by omega, HRL.out⟩
    generalize h2.g = G at *
    have hrd1 := hrd.up hu1
    have hok1 := hok.up hu1
    have nil0 : ∀ w0, OwnRI w0 w1.heap.size none 0 0 [] := fun w0 => OwnRI.nil _ _
    have NIL := Lib.hid nil0
    clear H4 D4 HSD H3 D3 L3 H2 L4 hu4 hu3 hu2 hf2 hf3 hf4 hg3 hg4 nil0 hrd hok
    go_wp2_with fail
    go_loopw [12, 13, 14, 15] (fun dv yv zv i wr => ∃ (k m : Nat) (D : Option Addr) (dc : Nat) (ds : List Rw) (sy cc : Nat) (sz : Nat) (h : Hp), i = .int .i64 (k : Int) ∧ dv = .slice D m dc ∧ yv = .int .i64 (sy : Int) ∧ zv = .int .i64 (sz : Int) ∧ k ≤ n ∧ m ≤ k ∧ sz ≤ 72450 ∧ cc ≤ 2 + 2 * k ∧ Hid (sz = (logB (rwl ds)).length ∧ m = ds.length) ∧ OwnRI wr w1.heap.size D m dc ds ∧ PI w1 gl G rs ds sy cc 0 h wr) (fun _ _ _ i _ => n - (intOf i).toNat)
    case atStart => exact ⟨0, 0, none, 0, [], 0, 2, 0, h4, rfl, rfl, rfl, rfl, by omega, by omega, by omega, by omega, ⟨rfl, rfl⟩, NIL.out _, I4⟩
    case round =>
      obtain ⟨k, m, D, dc, ds, sy, cc, sz, h, rfl, rfl, rfl, rfl, hk, hm, hsz, hcc, hsm, hD, I⟩ := hrel
      clear I4
      by_cases hkn : k < n
      · have i1 : (k : Int) < (n : Int) := by omega
        obtain ⟨b, o, r, rfl, hbb, hrk, hc0⟩ := hrd1.row_at hkn
        have hmem := List.mem_of_getElem? hrk
        have hcr : ∀ W, Up w1 W → W.cell? ⟨b, o + k, none⟩ = some (.slice r.A r.n r.c) := fun W hW => (hW.cell (p := ⟨b, o + k, none⟩) hbb).trans hc0
        have hri : ∀ W, Up w1 W → Rd W W.heap.size 5 r.A r.n (itcs r.l) := fun W hW => (hok1 r hmem).1.up hW
        have hrn : r.n ≤ 150 := by have := (hok1 r hmem).1.ilen; have := HRL.out r hmem; omega
        have HCR := Lib.hid hcr
        have HRI := Lib.hid hri
        have HMEM := Lib.hid hmem
        have hdl : ds.length < 15 := by have := hsm.out.2; omega
        have HDL := Lib.hid hdl
        clear hcr hri hmem hc0 hrk hdl
        by_cases hfk : F0 = k
        · have f1 : ((F0 : Int) == (k : Int)) = true := by rw [beq_iff_eq]; omega
          go_wp2_with fail
          refine (pi_fail I 1).mono ?_
          rintro e w5 ⟨rfl, I5, T5⟩
          have hD5 := I.row hD T5.kept
          clear I hD T5
          have c5 := HCR.out w5 I5.up
          go_wp2_with fail
          refine (rbmay14_any r.A r.n r.c r.l w5 (HRI.out _ I5.up) (by omega)).mono ?_
          rintro e w6 ⟨rfl, hu6⟩
          have I6 := I5.toUp hu6
          have hD6 := OwnRI.up hD5 hu6
          clear I5 hD5 c5
          obtain ⟨be, hbe⟩ : ∃ be, be = batE r.l := ⟨_, rfl⟩
          rw [← hbe]
          have HBE := Lib.hid hbe
          have hpp := pi_put I6 (by omega) HDL.out (by omega) HMEM.out (HRI.out _ I6.up)
          have HPP := Lib.hid hpp
          have c6 := HCR.out w6 I6.up
          clear hbe hpp
          by_cases hb0 : be = 0
          · have d1 : ((be : Int) == 0) = true := by rw [beq_iff_eq]; omega
            go_wp2_with fail
            clear c6
            refine HPP.out.mono ?_
            rintro e w7 ⟨h7, T7, h8⟩
            have hD7 := I6.row hD6 T7.kept
            clear HPP I6 hD6 T7
            have hn9 : batE r.l = 0 := by rw [← HBE.out]; exact hb0
            obtain ⟨rfl, I7⟩ : e = .returned (.int .i64 15) ∧ PI w1 gl G rs ds sy (cc + 1) 0 h7 w7 := by
              rcases h8 with h8 | h8 | h8
              · exact absurd hn9 h8.1
              · exact h8.2.2
              · exact absurd h8.2.1 (by decide)
            clear h8 hn9 hb0 d1
            go_wp2_with fail
            refine (pi_fail I7 0).mono ?_
            rintro e w8 ⟨rfl, I8, T8⟩
            have hD8 := I7.row hD7 T8.kept
            clear I7 hD7 T8 HBE
            have hls := lsize_any I8.L
            have hlc := lcount_any I8.L
            rw [← hsm.out.1] at hls
            rw [← hsm.out.2] at hlc
            have x1 : ((sz : Int) != (sz : Int)) = false := by simp
            have x2 : ((m : Int) != (m : Int)) = false := by simp
            have HLC := Lib.hid hlc
            clear hlc
            (try go_wp2_with fail)
            refine hls.mono ?_
            clear hls
            rintro e wz ⟨rfl, hwz⟩
            rw [hwz]
            clear hwz
            go_wp2_with fail
            refine HLC.out.mono ?_
            clear HLC
            rintro e wz ⟨rfl, hwz⟩
            rw [hwz]
            clear hwz
            obtain ⟨sb, hsb, hsb2⟩ := i64_and_le (sync / 2 ^ k) 1 (by omega)
            replace hsb : bits .and .i64 (sync / 2 ^ k) 1 = (sb : Int) := hsb
            by_cases hs1 : sb = 1
            · have y1 : ((sb : Int) == 1) = true := by rw [beq_iff_eq]; omega
              have hps := pi_sync I8 (by omega)
              have HPS := Lib.hid hps
              clear hps hs1
              go_wp2_with fail
              refine HPS.out.mono ?_
              rintro e wy ⟨hy, rfl, Ty, Iy⟩
              have hDy := PI.row I8 hD8 Ty.kept
              rw [← hsm.out.2] at Iy
              clear HPS Ty hD8 I8 y1 hsb
              go_wp2_with fail
              go_roundw
              case rel => exact ⟨k + 1, m, D, dc, ds, m, cc + 1 + 1, sz, hy, by go_num, rfl, rfl, rfl, by omega, by omega, by omega, by omega, hsm, hDy, Iy⟩
              case measure => simp [intOf] <;> omega
            · have y1 : ((sb : Int) == 1) = false := by rw [beq_eq_false_iff_ne]; omega
              clear hs1
              go_wp2_with fail
              go_roundw
              case rel => exact ⟨k + 1, m, D, dc, ds, sy, cc + 1, sz, h7, by go_num, rfl, rfl, rfl, by omega, by omega, by omega, by omega, hsm, hD8, I8⟩
              case measure => simp [intOf] <;> omega
          · have d1 : ((be : Int) == 0) = false := by rw [beq_eq_false_iff_ne]; omega
            go_wp2_with fail
            clear c6
            refine HPP.out.mono ?_
            rintro e w7 ⟨h7, T7, h8⟩
            have hD7 := I6.row hD6 T7.kept
            clear HPP I6 hD6 T7
            have hn9 : ¬ batE r.l = 0 := by rw [← HBE.out]; exact hb0
            obtain ⟨rfl, I7⟩ : e = .returned (.int .i64 (be : Int)) ∧ PI w1 gl G rs ds sy cc 1 h7 w7 := by
              rcases h8 with h8 | h8 | h8
              · rw [HBE.out]; exact h8.2
              · exact absurd h8.1 hn9
              · exact absurd h8.1 hn9
            have d2 : ((be : Int) != (be : Int)) = false := by simp
            clear h8 hn9 hb0
            go_wp2_with fail
            refine (pi_fail I7 0).mono ?_
            rintro e w8 ⟨rfl, I8, T8⟩
            have hD8 := I7.row hD7 T8.kept
            clear I7 hD7 T8 HBE
            have hls := lsize_any I8.L
            have hlc := lcount_any I8.L
            rw [← hsm.out.1] at hls
            rw [← hsm.out.2] at hlc
            have x1 : ((sz : Int) != (sz : Int)) = false := by simp
            have x2 : ((m : Int) != (m : Int)) = false := by simp
            have HLC := Lib.hid hlc
            clear hlc
            (try go_wp2_with fail)
            refine hls.mono ?_
            clear hls
            rintro e wz ⟨rfl, hwz⟩
            rw [hwz]
            clear hwz
            go_wp2_with fail
            refine HLC.out.mono ?_
            clear HLC
            rintro e wz ⟨rfl, hwz⟩
            rw [hwz]
            clear hwz
            obtain ⟨sb, hsb, hsb2⟩ := i64_and_le (sync / 2 ^ k) 1 (by omega)
            replace hsb : bits .and .i64 (sync / 2 ^ k) 1 = (sb : Int) := hsb
            by_cases hs1 : sb = 1
            · have y1 : ((sb : Int) == 1) = true := by rw [beq_iff_eq]; omega
              have hps := pi_sync I8 (by omega)
              have HPS := Lib.hid hps
              clear hps hs1
              go_wp2_with fail
              refine HPS.out.mono ?_
              rintro e wy ⟨hy, rfl, Ty, Iy⟩
              have hDy := PI.row I8 hD8 Ty.kept
              rw [← hsm.out.2] at Iy
              clear HPS Ty hD8 I8 y1 hsb
              go_wp2_with fail
              go_roundw
              case rel => exact ⟨k + 1, m, D, dc, ds, m, cc + 1, sz, hy, by go_num, rfl, rfl, rfl, by omega, by omega, by omega, by omega, hsm, hDy, Iy⟩
              case measure => simp [intOf] <;> omega
            · have y1 : ((sb : Int) == 1) = false := by rw [beq_eq_false_iff_ne]; omega
              clear hs1
              go_wp2_with fail
              go_roundw
              case rel => exact ⟨k + 1, m, D, dc, ds, sy, cc, sz, h7, by go_num, rfl, rfl, rfl, by omega, by omega, by omega, by omega, hsm, hD8, I8⟩
              case measure => simp [intOf] <;> omega
        · have f1 : ((F0 : Int) == (k : Int)) = false := by rw [beq_eq_false_iff_ne]; omega
          have I5 := I
          have hD5 := hD
          clear I hD
          have c5 := HCR.out wr I5.up
          go_wp2_with fail
          refine (rbmay14_any r.A r.n r.c r.l wr (HRI.out _ I5.up) (by omega)).mono ?_
          rintro e w6 ⟨rfl, hu6⟩
          have I6 := I5.toUp hu6
          have hD6 := OwnRI.up hD5 hu6
          clear I5 hD5 c5
          obtain ⟨be, hbe⟩ : ∃ be, be = batE r.l := ⟨_, rfl⟩
          rw [← hbe]
          have HBE := Lib.hid hbe
          have hpp := pi_put I6 (by omega) HDL.out (by omega) HMEM.out (HRI.out _ I6.up)
          have HPP := Lib.hid hpp
          have c6 := HCR.out w6 I6.up
          clear hbe hpp
          by_cases hb0 : be = 0
          · have d1 : ((be : Int) == 0) = true := by rw [beq_iff_eq]; omega
            go_wp2_with fail
            clear c6
            refine HPP.out.mono ?_
            rintro e w7 ⟨h7, T7, h8⟩
            have hD7 := I6.row hD6 T7.kept
            clear HPP I6 hD6 T7
            have hn9 : batE r.l = 0 := by rw [← HBE.out]; exact hb0
            obtain ⟨rfl, I7⟩ : e = .returned (.int .i64 0) ∧ PI w1 gl G rs (ds ++ [r]) sy (cc + 1) 0 h7 w7 := by
              rcases h8 with h8 | h8 | h8
              · exact absurd hn9 h8.1
              · exact absurd h8.2.1 (by decide)
              · exact h8.2.2
            obtain rfl : be = 0 := hb0
            have HN9 := Lib.hid hn9
            clear h8 hn9
            go_wp2_with fail
            refine (pi_fail I7 0).mono ?_
            rintro e w8 ⟨rfl, I8, T8⟩
            have hD8 := I7.row hD7 T8.kept
            clear I7 hD7 T8 HBE
            have c8 := HCR.out w8 I8.up
            have hw48 := I8.up.size
            go_wp2_with (at_builtin; refine wpList_append_rd _ rowsIT (news := [Value.slice r.A r.n r.c]) (World.ownsRow.alloc hD8 _) (Rd.box _ _ _) (by intro u hu; simp at hu; subst hu; rfl) (by omega) (by omega) (by simp; omega) rfl rfl rfl rfl ?_; intro v9 w9 hown9 hg9 hat9; obtain ⟨D9, dc9, rfl⟩ := own_form hown9; have I9 := (I8.toUp ((Up.refl w8).alloc (.cells #[.slice r.A r.n r.c] 22))).grown (World.ownsRow.alloc hD8 _) (Nat.le_refl _) hg9; have c9 := HCR.out w9 I9.up)
            have hD9 : OwnRI w9 w1.heap.size D9 (m + 1) dc9 (ds ++ [r]) := OwnRI.snoc hown9
            obtain ⟨bl, hbl⟩ : ∃ q, q = (batB r.l).length := ⟨_, rfl⟩
            obtain ⟨sz9, hsz9⟩ : ∃ q, q = sz + bl := ⟨_, rfl⟩
            have hsm9 : sz9 = (logB (rwl (ds ++ [r]))).length ∧ m + 1 = (ds ++ [r]).length := by
              refine ⟨?_, by rw [List.length_append, ← hsm.out.2]; rfl⟩
              rw [rwl_snoc, logB_append, logB_one, List.length_append, ← hsm.out.1, ← hbl]
              exact hsz9
            have hl9 := I9.len
            rw [← hsm9.1] at hl9
            have HSM9 := Lib.hid hsm9
            clear hsm9 hown9 hat9 hD8 I8 c8
            generalize hm9 : m + 1 = m9 at *
            have hm99 : m9 ≤ k + 1 := by omega
            have hw9 : IntKind.i64.wrap ((sz : Int) + (bl : Int)) = (sz9 : Int) := by rw [IntKind.wrap_i64]; omega
            have hbat := rbatch_any r.A r.n r.c r.l w9 (HRI.out _ I9.up) HN9.out
            have hts : (tx (batB r.l)).size = bl := by rw [tx_size, hbl]
            have HBAT := Lib.hid hbat
            generalize ds ++ [r] = ds9 at *
            clear hm9 hbl hsz9 hbat hsm hg9 HDL
            (try go_wp2_with fail)
            clear c9
            refine HBAT.out.mono ?_
            rintro e w10 ⟨rfl, hu10⟩
            have I10 := I9.toUp hu10
            have hD10 := OwnRI.up hD9 hu10
            clear I9 hD9 HBAT
            go_wp2_with fail
            clear hts hw9
            have hls := lsize_any I10.L
            have hlc := lcount_any I10.L
            rw [← HSM9.out.1] at hls
            rw [← HSM9.out.2] at hlc
            have x1 : ((sz9 : Int) != (sz9 : Int)) = false := by simp
            have x2 : ((m9 : Int) != (m9 : Int)) = false := by simp
            have HLC := Lib.hid hlc
            clear hlc
            (try go_wp2_with fail)
            refine hls.mono ?_
            clear hls
            rintro e wz ⟨rfl, hwz⟩
            rw [hwz]
            clear hwz
            go_wp2_with fail
            refine HLC.out.mono ?_
            clear HLC
            rintro e wz ⟨rfl, hwz⟩
            rw [hwz]
            clear hwz
            obtain ⟨sb, hsb, hsb2⟩ := i64_and_le (sync / 2 ^ k) 1 (by omega)
            replace hsb : bits .and .i64 (sync / 2 ^ k) 1 = (sb : Int) := hsb
            by_cases hs1 : sb = 1
            · have y1 : ((sb : Int) == 1) = true := by rw [beq_iff_eq]; omega
              have hps := pi_sync I10 (by omega)
              have HPS := Lib.hid hps
              clear hps hs1
              go_wp2_with fail
              refine HPS.out.mono ?_
              rintro e wy ⟨hy, rfl, Ty, Iy⟩
              have hDy := PI.row I10 hD10 Ty.kept
              rw [← HSM9.out.2] at Iy
              clear HPS Ty hD10 I10 y1 hsb
              go_wp2_with fail
              go_roundw
              case rel => exact ⟨k + 1, m9, D9, dc9, ds9, m9, cc + 1 + 1, sz9, hy, by go_num, rfl, rfl, rfl, by omega, by omega, by omega, by omega, HSM9, hDy, Iy⟩
              case measure => simp [intOf] <;> omega
            · have y1 : ((sb : Int) == 1) = false := by rw [beq_eq_false_iff_ne]; omega
              clear hs1
              go_wp2_with fail
              go_roundw
              case rel => exact ⟨k + 1, m9, D9, dc9, ds9, sy, cc + 1, sz9, h7, by go_num, rfl, rfl, rfl, by omega, by omega, by omega, by omega, HSM9, hD10, I10⟩
              case measure => simp [intOf] <;> omega
          · have d1 : ((be : Int) == 0) = false := by rw [beq_eq_false_iff_ne]; omega
            go_wp2_with fail
            clear c6
            refine HPP.out.mono ?_
            rintro e w7 ⟨h7, T7, h8⟩
            have hD7 := I6.row hD6 T7.kept
            clear HPP I6 hD6 T7
            have hn9 : ¬ batE r.l = 0 := by rw [← HBE.out]; exact hb0
            obtain ⟨rfl, I7⟩ : e = .returned (.int .i64 (be : Int)) ∧ PI w1 gl G rs ds sy cc 0 h7 w7 := by
              rcases h8 with h8 | h8 | h8
              · rw [HBE.out]; exact h8.2
              · exact absurd h8.1 hn9
              · exact absurd h8.1 hn9
            have d2 : ((be : Int) != (be : Int)) = false := by simp
            clear h8 hn9 hb0
            go_wp2_with fail
            refine (pi_fail I7 0).mono ?_
            rintro e w8 ⟨rfl, I8, T8⟩
            have hD8 := I7.row hD7 T8.kept
            clear I7 hD7 T8 HBE
            have hls := lsize_any I8.L
            have hlc := lcount_any I8.L
            rw [← hsm.out.1] at hls
            rw [← hsm.out.2] at hlc
            have x1 : ((sz : Int) != (sz : Int)) = false := by simp
            have x2 : ((m : Int) != (m : Int)) = false := by simp
            have HLC := Lib.hid hlc
            clear hlc
            (try go_wp2_with fail)
            refine hls.mono ?_
            clear hls
            rintro e wz ⟨rfl, hwz⟩
            rw [hwz]
            clear hwz
            go_wp2_with fail
            refine HLC.out.mono ?_
            clear HLC
            rintro e wz ⟨rfl, hwz⟩
            rw [hwz]
            clear hwz
            obtain ⟨sb, hsb, hsb2⟩ := i64_and_le (sync / 2 ^ k) 1 (by omega)
            replace hsb : bits .and .i64 (sync / 2 ^ k) 1 = (sb : Int) := hsb
            by_cases hs1 : sb = 1
            · have y1 : ((sb : Int) == 1) = true := by rw [beq_iff_eq]; omega
              have hps := pi_sync I8 (by omega)
              have HPS := Lib.hid hps
              clear hps hs1
              go_wp2_with fail
              refine HPS.out.mono ?_
              rintro e wy ⟨hy, rfl, Ty, Iy⟩
              have hDy := PI.row I8 hD8 Ty.kept
              rw [← hsm.out.2] at Iy
              clear HPS Ty hD8 I8 y1 hsb
              go_wp2_with fail
              go_roundw
              case rel => exact ⟨k + 1, m, D, dc, ds, m, cc + 1, sz, hy, by go_num, rfl, rfl, rfl, by omega, by omega, by omega, by omega, hsm, hDy, Iy⟩
              case measure => simp [intOf] <;> omega
            · have y1 : ((sb : Int) == 1) = false := by rw [beq_eq_false_iff_ne]; omega
              clear hs1
              go_wp2_with fail
              go_roundw
              case rel => exact ⟨k + 1, m, D, dc, ds, sy, cc, sz, h7, by go_num, rfl, rfl, rfl, by omega, by omega, by omega, by omega, hsm, hD8, I8⟩
              case measure => simp [intOf] <;> omega
      · have i1 : ¬ (k : Int) < (n : Int) := by omega
        have hkE : k = n := by omega
        obtain ⟨hsz1, hsm2⟩ := hsm.out
        obtain ⟨g, hg⟩ : ∃ g, g = rwl ds := ⟨_, rfl⟩
        have hgl : g.length = m := by rw [hg, rwl_len, hsm2]
        have hb0g : ∀ q ∈ g, batE q = 0 := fun q hq => by
          rw [hg] at hq
          obtain ⟨r, hr, rfl⟩ := List.mem_map.1 hq
          exact I.b0 r hr
        have hq150 : ∀ q ∈ g, q.length ≤ 150 := fun q hq => by
          rw [hg] at hq
          obtain ⟨r, hr, rfl⟩ := List.mem_map.1 hq
          exact HRL.out r (I.sub r hr)
        have hsy := I.sy
        rw [← hsm2] at hsy
        have hlenS : (logB (rwl ds)).length ≤ 72450 := I.len
        obtain ⟨kk, hkk, hcr⟩ := dkF_crash (q := 1048576) (s := nm7) (c := cc) (fl := 0) (endL_le (rwl ds) sy) [keep]
        obtain ⟨K, hK⟩ : ∃ K, K = endL (rwl ds) sy + kk := ⟨_, rfl⟩
        rw [← hK] at hkk hcr
        obtain ⟨T, hT⟩ : ∃ T, T = (logB (rwl ds)).take K := ⟨_, rfl⟩
        have hTl : T.length = K := by rw [hT, List.length_take]; omega
        rw [← hT] at hcr
        have hcr2 : crashD (d7 (logB (rwl ds)) (endL (rwl ds) sy) cc 0) [keep] = d7 T K cc 0 := hcr
        rw [← hg] at hkk hK hT hlenS
        obtain ⟨j, hj1, hj2, hj3⟩ := endL_find g K hkk
        have hrep := repl_cut g j K hb0g hj1 hj2 hj3 hkk
        rw [← hT] at hrep
        have hsj := endL_synced (sy := sy) hj3 (by omega) (by omega)
        have hj4 : j ≤ m := by omega
        obtain ⟨en, hen⟩ : ∃ q, q = endL g j := ⟨_, rfl⟩
        rw [← hen] at hrep hj2
        have hua : Up wr (wr.alloc (.cells #[.int .i64 keep] 3)) := (Up.refl wr).alloc _
        have hrb : Rd (wr.alloc (.cells #[.int .i64 keep] 3)) (wr.alloc (.cells #[.int .i64 keep] 3)).heap.size 1 (some ⟨wr.heap.size, 0, none⟩) 1 (izs [keep]) := Rd.box wr (.int .i64 keep) 3
        have Ia := I.toUp hua
        have hDa := OwnRI.up hD hua
        have hcd := crash_any Ia.H (Ia.ok (by omega)) (some ⟨wr.heap.size, 0, none⟩) 1 1 [keep] hrb (by omega) (by omega) (fun x hx => by rw [List.mem_singleton] at hx; subst hx; exact b2) (fun _ a ha hf => by
          injection ha with ha
          subst ha
          exact Nat.lt_irrefl _ (I.H.lt hf).2) (fun _ a ha => by
          injection ha with ha
          subst ha
          rw [World.size_alloc]
          exact Nat.lt_succ_self _) (fun t ht => by have h9 : t ∈ ([] : List Tn) := ht; cases h9)
        rw [Ia.hg, hcr2] at hcd
        have HCD := Lib.hid hcd
        have HG := Lib.hid hg
        have HGL := Lib.hid hgl
        have HB0 := Lib.hid hb0g
        have HQ := Lib.hid hq150
        have HTL := Lib.hid hTl
        have HREP := Lib.hid hrep
        have HEN := Lib.hid hen
        have hokA : DkOk (d7 T K cc 0) := d7_ok (by omega) (by omega) (by omega)
        have hcc2 : cc ≤ 40 := by omega
        have hK7 : K ≤ 72450 := by omega
        clear hsz1 hsm2 hg hgl hb0g hq150 hlenS hcr hcr2 hT hK hkk hj3 hTl hrep hen hcd hrb I hD hj1
        go_wp2_with fail
        refine HCD.out.mono ?_
        rintro e wA ⟨hA, rfl, HA, DA⟩
        have hupA := DA.below Ia.H (Nat.le_refl _) Ia.up
        have hgA : hA.g = G := DA.g.trans Ia.hg
        have hDA := Ia.row hDa (LgTo.dk (gl := gl) DA).kept
        have hra := dread_any HA hokA nm7 (by decide)
        have hre : readD (d7 T K cc 0) nm7 = (T, 0) := dkF_read (by decide)
        rw [hgA, hre] at hra
        (try dsimp only at hra)
        have HRA := Lib.hid hra
        have HGA := Lib.hid hgA
        have HRE := Lib.hid hre
        have Isub := Lib.hid Ia.sub
        clear HCD DA Ia hDa hua hra hgA hre
        go_wp2_with fail
        refine HRA.out.mono ?_
        rintro e wB ⟨B9, bn, bc, rfl, hB, huB⟩
        have hbn : bn = K := by rw [← HTL.out]; exact hB.rd.blen
        subst hbn
        have HB := HA.up huB
        have hfl := fun (y : Nat) (hy : foot hA y) => (HB.lt hy).2
        have HFL := Lib.hid hfl
        have hlo := lopen_any HB hokA nm7 (by decide)
        rw [HGA.out] at hlo
        have HLO := Lib.hid hlo
        have hupB := hupA.trans huB
        have hDB := OwnRI.up hDA huB
        clear hlo HRA HA hDA hB hfl
        go_wp2_with fail
        refine HLO.out.mono ?_
        rintro e wC ⟨huC, hq⟩
        rw [HRE.out] at hq
        (try dsimp only at hq)
        have HC := HB.up huC
        have hupC := hupB.trans huC
        have hDC := OwnRI.up hDB huC
        clear HLO HB hDB huB
        rcases hq with ⟨h0, -⟩ | ⟨-, h0, -⟩ | ⟨-, g2, en2, hre2, gl2, R, m2, rc2, rs2, rfl, L2, hgl2, hR2, hO2, hl2⟩
        · exact absurd rfl h0
        · rw [HREP.out] at h0; cases h0
        rw [HREP.out] at hre2
        injection hre2 with hre2
        injection hre2 with hg2 he2
        subst hg2; subst he2
        have hm2 : m2 = j := by have h8 := hR2.len; rw [← rwl_len, hl2, List.length_take] at h8; have := HGL.out; omega
        subst hm2
        have hlt : (g.take m2).length = m2 := by rw [List.length_take]; have := HGL.out; omega
        rw [hlt, HTL.out] at L2
        rw [HTL.out]
        have hf2 : ¬ foot hA gl2 := fun hf => by have := HFL.out gl2 hf; omega
        have hdc := own_cap hDC
        have n1 : ¬ (m2 : Int) < (sy : Int) := by omega
        have n2 : ¬ (m : Int) < (m2 : Int) := by omega
        have n5 : decide (m2 < sy) = false := decide_eq_false (by omega)
        have n6 : decide (m < m2) = false := decide_eq_false (by omega)
        have n3 : (m2 : Int) ≤ (dc : Int) := by omega
        have n4 : m2 ≤ dc := by omega
        have hrl : rwl rs2 = rwl (ds.take m2) := by rw [hl2, HG.out, rwl_take]
        have hokC : RwOk wC (ds.take m2) := fun r hr => hok1.up hupC r (Isub.out r (List.mem_of_mem_take hr))
        have hsame := same14_any R m2 rc2 rs2 D m2 dc (ds.take m2) wC hR2.rd hO2.ok (hDC.rd.tor hj4) hokC hrl (fun r hr => by
          have h8 : r.l ∈ g.take m2 := by rw [← hl2]; exact List.mem_map.2 ⟨r, hr, rfl⟩
          have := HQ.out r.l (List.mem_of_mem_take h8)
          omega) (by omega)
        have HSAME := Lib.hid hsame
        have HL2 := Lib.hid hl2
        clear hsame hrl hokC hlt hl2 hdc
        have hgw : w1.heap.size ≤ gl2 := Nat.le_trans hupB.size hgl2
        by_cases hte : en < bn
        · have t1 : decide (en < bn) = true := by simp [hte]
          rw [t1] at L2 ⊢
          clear t1
          go_wp2_with fail
          refine HSAME.out.mono ?_
          rintro e wD ⟨rfl, huD⟩
          have HD := HC.up huD
          have L3 := L2.up huD
          have hupD := hupC.trans huD
          have hR3 := hR2.rd.up huD
          have hO3 := hO2.ok.up huD
          clear HSAME HC L2 hDC hR2 hO2 n1 n2 n3 n4 n5 n6
          go_wp2_with fail
          (try rw [show ((0 : Nat) : Int) = 0 from rfl])
          go_loopw [22, 23] (fun ev tv wr2 => ∃ t q : Nat, tv = .int .i64 (t : Int) ∧ ev = .int .i64 (q : Int) ∧ t ≤ m2 ∧ q ≤ 72450 ∧ Hid (q = endL g t) ∧ Up wD wr2) (fun _ tv _ => m2 - (intOf tv).toNat)
          case atStart => exact ⟨0, 0, rfl, rfl, Nat.zero_le _, Nat.zero_le _, (endL_zero g).symm, Up.refl _⟩
          case round =>
            obtain ⟨t, q, rfl, rfl, ht, hq9, hqe, hur⟩ := hrel
            generalize wr = wq at *
            by_cases htm : t < m2
            · have i2 : (t : Int) < (m2 : Int) := by omega
              obtain ⟨b8, o8, r8, rfl, hb8, hr8, hc8⟩ := hR3.row_at htm
              have hc9 : wq.cell? ⟨b8, o8 + t, none⟩ = some (.slice r8.A r8.n r8.c) := (hur.cell (p := ⟨b8, o8 + t, none⟩) hb8).trans hc8
              have htg : t < g.length := by rw [HGL.out]; omega
              have hrg : r8.l = g[t] := by
                have h1 := congrArg (fun q => q[t]?) HL2.out
                simp only [rwl, List.getElem?_map, hr8, Option.map_some, List.getElem?_take, htm, if_true, List.getElem?_eq_getElem htg] at h1
                injection h1
              have he0 : batE r8.l = 0 := by rw [hrg]; exact HB0.out _ (List.getElem_mem htg)
              have hri := (hO3 r8 (List.mem_of_getElem? hr8)).1.up hur
              have hbat := rbatch_any r8.A r8.n r8.c r8.l wq hri he0
              have hsn := endL_snoc g htg
              rw [← hrg, ← hqe.out] at hsn
              have hb4 := batB_few (HQ.out _ (List.getElem_mem htg))
              rw [← hrg] at hb4
              obtain ⟨bl, hbl⟩ : ∃ x, x = (batB r8.l).length := ⟨_, rfl⟩
              rw [← hbl] at hsn hb4
              have hts : (tx (batB r8.l)).size = bl := by rw [tx_size, hbl]
              obtain ⟨q9, hq99⟩ : ∃ x, x = q + bl := ⟨_, rfl⟩
              have hw9 : IntKind.i64.wrap ((q : Int) + (bl : Int)) = (q9 : Int) := by rw [IntKind.wrap_i64]; omega
              have hle9 : q9 ≤ 72450 := by
                have h1 := endL_le_mono g (t + 1) (m2 - (t + 1))
                rw [show t + 1 + (m2 - (t + 1)) = m2 by omega, hsn, ← HEN.out] at h1
                omega
              have HQ9 : Hid (q9 = endL g (t + 1)) := by show _ = _; rw [hsn]; exact hq99
              have HBAT := Lib.hid hbat
              clear hbat hsn hbl hq99 hrg he0 hri htg hc8 hr8
              go_wp2_with fail
              refine HBAT.out.mono ?_
              rintro e wE ⟨rfl, huE⟩
              have huE2 := hur.trans huE
              clear HBAT hc9
              go_wp2_with fail
              go_roundw
              case rel => exact ⟨t + 1, q9, by go_num, rfl, by omega, hle9, HQ9, huE2⟩
              case measure => simp [intOf] <;> omega
            · have i2 : ¬ (t : Int) < (m2 : Int) := by omega
              obtain rfl : t = m2 := by omega
              obtain rfl : q = en := by rw [hqe.out, HEN.out]
              have HE := HD.up hur
              have L4 := L3.up hur
              have hupE := hupD.trans hur
              have hua : Up wq (wq.alloc (.cells #[.int .i64 9, .int .i64 1, .int .u64 0, .int .u64 9, .int .i64 0] 25)) := (Up.refl wq).alloc _
              have hri := Rd.ilit_at wq [itY] #[.int .i64 9, .int .i64 1, .int .u64 0, .int .u64 9, .int .i64 0] 25 rfl itY_c.symm
              have HF := HE.up hua
              have L5 := L4.up hua
              have hupF := hupE.trans hua
              clear HD L3 HE L4 hupE hupD hR3 hO3 hur hqe htm
              have z1 : ((q : Int) != (bn : Int)) = true := by rw [bne_iff_ne]; omega
              have z2 : ((q : Int) == (bn : Int)) = false := by rw [beq_eq_false_iff_ne]; omega
              clear hte
              go_wp2_with fail
              generalize wq.alloc (.cells #[.int .i64 9, .int .i64 1, .int .u64 0, .int .u64 9, .int .i64 0] 25) = wF at *
              refine (lput_torn L5 _ 1 1).mono ?_
              rintro e wG ⟨rfl, hwG⟩
              rw [hwG]
              clear hwG
              go_wp2_with fail
              refine (lsync_torn L5).mono ?_
              rintro e wG ⟨rfl, hwG⟩
              rw [hwG]
              clear hwG
              have hra := dread_any HF hokA nm7 (by decide)
              rw [HGA.out, HRE.out] at hra
              (try dsimp only at hra)
              have HRA := Lib.hid hra
              clear hra
              go_wp2_with fail
              refine HRA.out.mono ?_
              rintro e wG ⟨R7, n7, c7, rfl, hR7, huG⟩
              have hn7 : n7 = bn := by rw [← HTL.out]; exact hR7.rd.blen
              subst hn7
              have z3 : ((n7 : Int) == (n7 : Int)) = true := by simp
              clear HRA hR7
              go_wp2_with fail
              refine (awake14_any wG).mono ?_
              rintro e wH ⟨rfl, huH⟩
              go_wp2_with fail
              go_ret
              exact ⟨rfl, hu1.trans ((hupF.trans huG).trans huH)⟩
        · have t1 : decide (en < bn) = false := by simp [hte]
          rw [t1] at L2 ⊢
          clear t1
          go_wp2_with fail
          refine HSAME.out.mono ?_
          rintro e wD ⟨rfl, huD⟩
          have HD := HC.up huD
          have L3 := L2.up huD
          have hupD := hupC.trans huD
          have hR3 := hR2.rd.up huD
          have hO3 := hO2.ok.up huD
          clear HSAME HC L2 hDC hR2 hO2 n1 n2 n3 n4 n5 n6
          go_wp2_with fail
          (try rw [show ((0 : Nat) : Int) = 0 from rfl])
          go_loopw [22, 23] (fun ev tv wr2 => ∃ t q : Nat, tv = .int .i64 (t : Int) ∧ ev = .int .i64 (q : Int) ∧ t ≤ m2 ∧ q ≤ 72450 ∧ Hid (q = endL g t) ∧ Up wD wr2) (fun _ tv _ => m2 - (intOf tv).toNat)
          case atStart => exact ⟨0, 0, rfl, rfl, Nat.zero_le _, Nat.zero_le _, (endL_zero g).symm, Up.refl _⟩
          case round =>
            obtain ⟨t, q, rfl, rfl, ht, hq9, hqe, hur⟩ := hrel
            generalize wr = wq at *
            by_cases htm : t < m2
            · have i2 : (t : Int) < (m2 : Int) := by omega
              obtain ⟨b8, o8, r8, rfl, hb8, hr8, hc8⟩ := hR3.row_at htm
              have hc9 : wq.cell? ⟨b8, o8 + t, none⟩ = some (.slice r8.A r8.n r8.c) := (hur.cell (p := ⟨b8, o8 + t, none⟩) hb8).trans hc8
              have htg : t < g.length := by rw [HGL.out]; omega
              have hrg : r8.l = g[t] := by
                have h1 := congrArg (fun q => q[t]?) HL2.out
                simp only [rwl, List.getElem?_map, hr8, Option.map_some, List.getElem?_take, htm, if_true, List.getElem?_eq_getElem htg] at h1
                injection h1
              have he0 : batE r8.l = 0 := by rw [hrg]; exact HB0.out _ (List.getElem_mem htg)
              have hri := (hO3 r8 (List.mem_of_getElem? hr8)).1.up hur
              have hbat := rbatch_any r8.A r8.n r8.c r8.l wq hri he0
              have hsn := endL_snoc g htg
              rw [← hrg, ← hqe.out] at hsn
              have hb4 := batB_few (HQ.out _ (List.getElem_mem htg))
              rw [← hrg] at hb4
              obtain ⟨bl, hbl⟩ : ∃ x, x = (batB r8.l).length := ⟨_, rfl⟩
              rw [← hbl] at hsn hb4
              have hts : (tx (batB r8.l)).size = bl := by rw [tx_size, hbl]
              obtain ⟨q9, hq99⟩ : ∃ x, x = q + bl := ⟨_, rfl⟩
              have hw9 : IntKind.i64.wrap ((q : Int) + (bl : Int)) = (q9 : Int) := by rw [IntKind.wrap_i64]; omega
              have hle9 : q9 ≤ 72450 := by
                have h1 := endL_le_mono g (t + 1) (m2 - (t + 1))
                rw [show t + 1 + (m2 - (t + 1)) = m2 by omega, hsn, ← HEN.out] at h1
                omega
              have HQ9 : Hid (q9 = endL g (t + 1)) := by show _ = _; rw [hsn]; exact hq99
              have HBAT := Lib.hid hbat
              clear hbat hsn hbl hq99 hrg he0 hri htg hc8 hr8
              go_wp2_with fail
              refine HBAT.out.mono ?_
              rintro e wE ⟨rfl, huE⟩
              have huE2 := hur.trans huE
              clear HBAT hc9
              go_wp2_with fail
              go_roundw
              case rel => exact ⟨t + 1, q9, by go_num, rfl, by omega, hle9, HQ9, huE2⟩
              case measure => simp [intOf] <;> omega
            · have i2 : ¬ (t : Int) < (m2 : Int) := by omega
              obtain rfl : t = m2 := by omega
              obtain rfl : q = en := by rw [hqe.out, HEN.out]
              have HE := HD.up hur
              have L4 := L3.up hur
              have hupE := hupD.trans hur
              have hua : Up wq (wq.alloc (.cells #[.int .i64 9, .int .i64 1, .int .u64 0, .int .u64 9, .int .i64 0] 25)) := (Up.refl wq).alloc _
              have hri := Rd.ilit_at wq [itY] #[.int .i64 9, .int .i64 1, .int .u64 0, .int .u64 9, .int .i64 0] 25 rfl itY_c.symm
              have HF := HE.up hua
              have L5 := L4.up hua
              have hupF := hupE.trans hua
              clear HD L3 HE L4 hupE hupD hR3 hO3 hur hqe htm
              have hqb : q = bn := by omega
              have z1 : ((q : Int) != (bn : Int)) = false := by rw [bne_eq_false_iff_eq]; omega
              have z2 : ((q : Int) == (bn : Int)) = true := by rw [beq_iff_eq]; omega
              have hbY := batB_few (q := [itY]) (by decide)
              have hps : putS (d7 T bn cc 0) nm7 q t [itY] = (0, d7 (T ++ batB [itY]) bn (cc + 1) 0, q + (batB [itY]).length, t + 1) := by
                rw [d7_put (by have := HTL.out; omega) (by omega), if_neg (by rw [itY_E]; decide), if_neg (by decide)]
              have hpt := lput_any HF L5 hf2 hokA (by show cc ≤ _; omega) (by decide) (by omega) (by omega) (some ⟨wq.heap.size, 0, none⟩) 1 1 [itY] hri (by omega)
              rw [hps] at hpt
              have hokG : DkOk (d7 (T ++ batB [itY]) bn (cc + 1) 0) := d7_ok (by have := HTL.out; rw [List.length_append]; omega) (by have := HTL.out; rw [List.length_append]; omega) (by omega)
              have hsyn : syncD (d7 (T ++ batB [itY]) bn (cc + 1) 0) nm7 = (d7 (T ++ batB [itY]) (T ++ batB [itY]).length (cc + 1 + 1) 0, 0) := dkF_sync (by decide)
              have hokH : DkOk (d7 (T ++ batB [itY]) (T ++ batB [itY]).length (cc + 1 + 1) 0) := d7_ok (by have := HTL.out; rw [List.length_append]; omega) (Nat.le_refl _) (by omega)
              have HPT := Lib.hid hpt
              have HSY := Lib.hid hsyn
              have hcG : (d7 (T ++ batB [itY]) bn (cc + 1) 0).calls ≤ 1000000000 := by show cc + 1 ≤ _; omega
              generalize d7 (T ++ batB [itY]) (T ++ batB [itY]).length (cc + 1 + 1) 0 = dH at *
              generalize d7 (T ++ batB [itY]) bn (cc + 1) 0 = dG at *
              generalize q + (batB [itY]).length = szG at *
              have hlF := L5.lt
              clear hte hqb hbY hps hpt hsyn
              go_wp2_with fail
              generalize wq.alloc (.cells #[.int .i64 9, .int .i64 1, .int .u64 0, .int .u64 9, .int .i64 0] 25) = wF at *
              refine HPT.out.mono ?_
              rintro e wG ⟨hG, rfl, HG', LG, TG⟩
              (try dsimp only at HG' LG)
              have hupG := TG.below HF (Nat.le_refl _) hgw hupF
              have hfG : ¬ foot hG gl2 := TG.nf hlF hf2
              have hgG : hA.g = hG.g := TG.g.symm
              rw [hgG] at LG
              have hsn := lsync_any HG' LG hfG hokG hcG (by decide)
              have hgG2 : hG.g = G := hgG.symm.trans HGA.out
              have HGG := Lib.hid hgG2
              have HSN := Lib.hid hsn
              have hlG := LG.lt
              clear HPT TG hgG hgG2 hsn hri HF L5 hua
              go_wp2_with fail
              refine HSN.out.mono ?_
              rintro e wH ⟨hH, he, HH, LH, TH⟩
              rw [HSY.out] at he HH
              (try dsimp only at he HH)
              subst he
              have hupH := TH.below HG' (Nat.le_refl _) hgw hupG
              have hgH : hH.g = G := TH.g.trans HGG.out
              have hra := dread_any HH hokH nm7 (by decide)
              rw [hgH] at hra
              have HRA := Lib.hid hra
              clear HSN HG' LG TH hra LH hgH
              go_wp2_with fail
              refine HRA.out.mono ?_
              rintro e wI ⟨R7, n7, c7, rfl, hR7, huI⟩
              clear HRA hR7
              go_wp2_with fail
              refine (awake14_any wI).mono ?_
              rintro e wJ ⟨rfl, huJ⟩
              go_wp2_with fail
              go_ret
              exact ⟨rfl, hu1.trans ((hupH.trans huI).trans huJ)⟩
end Go.Proofs.Ytnjmekjaingniaa.logPlays

/-
  'clepsydra/clepsydralaw14.LogPlays': for every input the law returns true; each argument reads behind the call as it read before. No condition.
-/
namespace Go.Proofs.Ytnjmekjaingniaa.logPlays
open Go.ChangeShapes Go.WideShapes Go.ChangeAt Go.RowKit
open Go.ChangeMaps (open_string shut_string)
set_option linter.unusedVariables false

set_option maxRecDepth 100000 in
theorem lifted (os : Os) (started : os.Started) (H : Type) (enc : TypeId × Value → H) :
    ReturnsInHanded {} Try.checked os 9 .any (Rows.logPlaysSpec.pre6 enc Try.prog Try.f9 Rows.logPlaysRow.domain false) (Rows.logPlaysSpec.post enc Try.prog Try.f9 false true false false) := by
  refine returnsInHanded_of_change (C := Try.checked) prog_own started (by kernel_rfl) Try.func9
    (ChangeSpec.witness6 (enc := enc) (C := Try.checked) false ⟨#[], #[.slice none 0 0, .int .i64 0, .int .i64 0, .int .i64 0], []⟩ 8 (by kernel_rfl) (by kernel_rfl) (by kernel_rfl) (by kernel_rfl)) ?_
  intro W base args ds gs before hval0 hW hcnd _
  have hval : ∀ (j : Nat) t v, Try.f9.params[j]? = some t → args[j]? = some v → Value.okWide Try.prog W .any base t v := hval0
  have hW' := hW
  obtain ⟨p, q, hA0, hV, rfl, hfz, hnd⟩ := hW
  have hA : DataW.TrodAll enc Try.prog W 0 (fun _ => true) true Try.f9.params.toList args.toList ds p := hA0
  rw [Try.params9] at hA hval
  obtain ⟨v0, vs0, d0, ds0, p0, q0, hargs, rfl, rfl, h0, r0⟩ := trodAll_cons hA
  obtain ⟨v1, vs1, d1, ds1, p1, q1, rfl, rfl, rfl, h1, r1⟩ := trodAll_cons r0
  obtain ⟨v2, vs2, d2, ds2, p2, q2, rfl, rfl, rfl, h2, r2⟩ := trodAll_cons r1
  obtain ⟨v3, vs3, d3, ds3, p3, q3, rfl, rfl, rfl, h3, r3⟩ := trodAll_cons r2
  obtain ⟨rfl, rfl, rfl⟩ := trodAll_nil r3
  obtain rfl : args = #[v0, v1, v2, v3] := by cases args; simp_all
  obtain ⟨rfl, rfl⟩ := trodVars_none hV
  obtain ⟨a0, len0, cap0, rfl⟩ := okWide_slice Try.underlying33 (hval 0 33 v0 rfl rfl)
  have k0 := h0
  have lt0 : ∀ x ∈ p0, x.block < W.heap.size := by obtain ⟨m, hm⟩ := k0; exact DataW.trod_lt m _ _ _ hm
  obtain ⟨l0, w0⟩ := is_ri h0
  obtain ⟨a1, rfl, rfl, rfl, w1⟩ := open_int Try.underlying3 (hval 1 3 v1 rfl rfl) h1
  have b1 := bd_i64 w1
  obtain ⟨a2, rfl, rfl, rfl, w2⟩ := open_int Try.underlying3 (hval 2 3 v2 rfl rfl) h2
  have b2 := bd_i64 w2
  obtain ⟨a3, rfl, rfl, rfl, w3⟩ := open_int Try.underlying3 (hval 3 3 v3 rfl rfl) h3
  have b3 := bd_i64 w3
  clear hA0 hval0
  refine (law_any a0 len0 cap0 l0 a1 a2 a3 W w0 b1 b2 b3).mono fun e W' ⟨he, bel⟩ => ?_
  subst he
  exact ⟨_, rfl, _, _, _, [], _, [], hW', trodAll_mk1 (shut_bool Try.underlying4 _), (trodAll_cons_mk (Below.trod laidOut (by kernel_rfl) (of_decide_eq_true (by kernel_rfl)) k0 bel lt0) (trodAll_cons_mk (shut_int Try.underlying3 w1) (trodAll_cons_mk (shut_int Try.underlying3 w2) (trodAll_cons_mk (shut_int Try.underlying3 w3) trodAll_mk0)))), rfl, bel.frame _, fun h => by cases h⟩

theorem proved : Rows.LogPlaysSaid :=
  OpenClaim.holds_of_wide 9 Try.f9 rfl rfl rfl rfl rfl rfl rfl ⟨rfl, rfl, rfl, rfl, rfl⟩ rfl rfl rfl rfl rfl (by kernel_rfl) Try.func9 (by kernel_rfl)
    (of_decide_eq_true (by kernel_rfl)) (by unfold Func.isWrapper; first | (rw [if_pos (by decide +kernel)]; kernel_rfl) | (rw [if_neg (by decide +kernel)]; exact ⟨rfl, rfl⟩))
    (fun os started H enc _ => lifted os started H enc)
#print axioms proved
end Go.Proofs.Ytnjmekjaingniaa.logPlays
