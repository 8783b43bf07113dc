/-
  'clepsydra/clepsydralaw14.LogOpens': for every input the law returns true; each argument reads behind the call as it read before. No condition.
-/
import Derived.Test.YtnjmekjaingniaaZ5
/-
  The law LogOpens: the walk.
-/
namespace Go.Proofs.Ytnjmekjaingniaa.logOpens
open Go.RowKit
set_option linter.unusedVariables false
set_option linter.unusedSimpArgs false

theorem LOpenPost.any {h : Hp} {d : Dk} {nm : List UInt8} {w w' : World} {e : Ending} (H : LOpenPost h d nm w e w') : Up w w' ∧ ∃ p A n c tb E, e = .returned (.tuple #[.pointer p, .slice A n c, .bool tb, .int .i64 (E : Int)]) ∧ ((readD d nm).2 ≠ 0 → E = (readD d nm).2) := by
  obtain ⟨hu, h1 | h1 | h1⟩ := H
  · exact ⟨hu, none, none, 0, 0, false, _, h1.2, fun _ => rfl⟩
  · exact ⟨hu, none, none, 0, 0, false, 9, h1.2.2, fun h => absurd h1.1 h⟩
  · obtain ⟨h0, g, en, -, gl, R, m, rc, rs, he, -⟩ := h1
    exact ⟨hu, _, R, m, rc, _, 0, he, fun h => absurd h0 h⟩
set_option maxRecDepth 100000 in
set_option maxHeartbeats 4000000 in
theorem law_any (s : ByteArray) (B : Option Addr) (bn bc : Nat) (bs : List UInt8) (w : World) (hs : s.size ≤ maxLen) (hr : IsB w B bn bc bs) :
    Calls Try.prog 8 #[.string s, .slice B bn bc] w fun e w' => e = .returned (.bool true) ∧ Up w w' := by
  obtain ⟨l, rfl⟩ : ∃ l, s = tx l := ⟨s.data.toList, tx_of rfl⟩
  have hls : (tx l).size = l.length := tx_size l
  rw [hls] at hs
  have hl9 : l.length ≤ 9223372036854775807 := by simpa only [maxLen] using hs
  obtain ⟨ln, hln⟩ : ∃ q, q = l.length := ⟨_, rfl⟩
  rw [← hln] at hls
  have HLN := Lib.hid hln
  clear hln hs
  obtain ⟨hb, hbc, -⟩ := hr
  go_enter Try.func8, Try.ntmps8
  go_wp2_with fail
  refine (dnew_any 1048576 w).mono ?_
  rintro e w1 ⟨h1, rfl, H1, hu1, hf1⟩
  by_cases c1 : 60 < ln
  · have c1i : (60 : Int) < (ln : Int) := by omega
    go_wp2_with fail
    refine (awake14_any w1).mono ?_
    rintro e w2 ⟨rfl, hu2⟩
    go_wp2_with fail
    go_ret
    exact ⟨rfl, hu1.trans hu2⟩
  have c1i : ¬ (60 : Int) < (ln : Int) := by omega
  by_cases c2 : 3000 < bn
  · have c2i : (3000 : Int) < (bn : Int) := by omega
    go_wp2_with fail
    refine (awake14_any w1).mono ?_
    rintro e w2 ⟨rfl, hu2⟩
    go_wp2_with fail
    go_ret
    exact ⟨rfl, hu1.trans hu2⟩
  have c2i : ¬ (3000 : Int) < (bn : Int) := by omega
  have hbl : bs.length = bn := hb.blen.symm
  have hE1 : createD (newD 1048576) nmL = (dkF 1048576 nmL [] 0 1 (.map []) [⟨1, 0, nmL, []⟩] 0, 0) := dkF_new (q := 1048576) (by decide)
  have hE2 : appendD (dkF 1048576 nmL [] 0 1 (.map []) [⟨1, 0, nmL, []⟩] 0) nmL bs = (dkF 1048576 nmL bs 0 2 (.map []) [⟨1, 0, nmL, []⟩] 0, 0) := dkF_append bs (by decide) (by simp; omega) (by simp; omega)
  have hE3 : createD (dkF 1048576 nmL bs 0 2 (.map []) [⟨1, 0, nmL, []⟩] 0) nmL = (dkF 1048576 nmL bs 0 3 (.map []) [⟨1, 0, nmL, []⟩] 0, 12) := dkF_exists (by decide)
  have hE4 : readD (dkF 1048576 nmL bs 0 3 (.map []) [⟨1, 0, nmL, []⟩] 0) nmL = (bs, 0) := dkF_read (by decide)
  have hoA : DkOk (dkF 1048576 nmL [] 0 1 (.map []) [⟨1, 0, nmL, []⟩] 0) := dkF_ok (by simp) (by simp) (.inl rfl) (.inr rfl) (by omega) (by omega)
  have hoB : DkOk (dkF 1048576 nmL bs 0 2 (.map []) [⟨1, 0, nmL, []⟩] 0) := dkF_ok (by omega) (by omega) (.inl rfl) (.inr rfl) (by omega) (by omega)
  have hoC : DkOk (dkF 1048576 nmL bs 0 3 (.map []) [⟨1, 0, nmL, []⟩] 0) := dkF_ok (by omega) (by omega) (.inl rfl) (.inr rfl) (by omega) (by omega)
  have hoth : l ≠ nmL → (readD (dkF 1048576 nmL bs 0 3 (.map []) [⟨1, 0, nmL, []⟩] 0) l).2 ≠ 0 := fun h => dkF_other h
  have hnA : (dkF 1048576 nmL [] 0 1 (.map []) [⟨1, 0, nmL, []⟩] 0).calls = 1 := rfl
  have hnB : (dkF 1048576 nmL bs 0 2 (.map []) [⟨1, 0, nmL, []⟩] 0).calls = 2 ∧ (dkF 1048576 nmL bs 0 2 (.map []) [⟨1, 0, nmL, []⟩] 0).files.length = 1 ∧ (dkF 1048576 nmL bs 0 2 (.map []) [⟨1, 0, nmL, []⟩] 0).turns.length = 1 := ⟨rfl, rfl, rfl⟩
  generalize dkF 1048576 nmL [] 0 1 (.map []) [⟨1, 0, nmL, []⟩] 0 = dA at *
  generalize dkF 1048576 nmL bs 0 2 (.map []) [⟨1, 0, nmL, []⟩] 0 = dB at *
  generalize dkF 1048576 nmL bs 0 3 (.map []) [⟨1, 0, nmL, []⟩] 0 = dC at *
  have HBL := Lib.hid hbl
  have E1 := Lib.hid hE1
  have E2 := Lib.hid hE2
  have E3 := Lib.hid hE3
  have E4 := Lib.hid hE4
  have NA := Lib.hid hnA
  have NB := Lib.hid hnB
  have OTH := Lib.hid hoth
  clear hbl hE1 hE2 hE3 hE4 hnA hnB hoth
  go_wp2_with fail
  refine (create_any H1 (newD_ok (by omega)) (by simp [newD]) (by simp [newD]) (by simp [newD]) nmL (by decide)).mono ?_
  rintro e w2 ⟨h2, rfl, H2, D2⟩
  rw [E1.out] at H2 ⊢
  (try dsimp only at H2)
  (try dsimp only)
  have hu2 := D2.below H1 (Nat.le_refl _) hu1
  have hb2 := hb.up hu2
  have hca := dappend0_any H2 hoA (by have := NA.out; omega) nmL (by decide) B bn bc bs hb2 (by omega) (fun h0 k hk hfk => by
    have h8 := (H2.lt hfk).1
    obtain ⟨a, rfl, e9⟩ := hk
    obtain ⟨b9, o9, e, hlt, -⟩ := hb.2 h0
    injection e with e
    subst e
    have e' : b9 = k := e9
    omega)
  rw [D2.g, E2.out] at hca
  (try dsimp only at hca)
  have HCA := Lib.hid hca
  have hg2 : h2.g = h1.g := D2.g
  have HG2 := Lib.hid hg2
  clear hca H1 D2 hf1
  go_wp2_with fail
  refine HCA.out.mono ?_
  rintro e w3 ⟨h3, rfl, H3, D3⟩
  have hu3 := D3.below H2 (Nat.le_refl _) hu2
  have hg3 : h3.g = h1.g := D3.g.trans HG2.out
  have HG3 := Lib.hid hg3
  clear HCA H2 D3 HG2 hg2 hg3 hb2
  go_wp2_with fail
  refine (lopen_nil nmL w3).mono ?_
  rintro e w4 ⟨rfl, hw4⟩
  rw [hw4]
  clear hw4
  go_wp2_with fail
  refine (lnew_nil [108, 111, 103, 46, 50] w3).mono ?_
  rintro e w4 ⟨rfl, hw4⟩
  rw [hw4]
  clear hw4
  have hcn := lnew_any H3 hoB (by have := NB.out; omega) (by have := NB.out; omega) (by have := NB.out; omega) nmL (by decide)
  rw [HG3.out] at hcn
  have HCN := Lib.hid hcn
  clear hcn
  go_wp2_with fail
  refine HCN.out.mono ?_
  rintro e w4 ⟨h4, H4, D4, hq⟩
  rw [E3.out] at H4 hq
  (try dsimp only at H4 hq)
  obtain rfl : e = .returned (.tuple #[.pointer none, .int .i64 12]) := hq.elim (fun h => absurd h.1 (by decide)) (fun h => h.2)
  have hu4 := D4.below H3 (Nat.le_refl _) hu3
  have hg4 : h4.g = h1.g := D4.g.trans HG3.out
  have HG4 := Lib.hid hg4
  clear hq HCN H3 D4 HG3 hg4 hu3 hu2
  have hco := lopen_any H4 hoC nmL (by decide)
  rw [HG4.out] at hco
  have HCO := Lib.hid hco
  clear hco
  go_wp2_with fail
  refine HCO.out.mono ?_
  rintro e w5 ⟨hu45, hq⟩
  rw [E4.out] at hq
  (try dsimp only at hq)
  have H5 := H4.up hu45
  have hu5 := hu4.trans hu45
  have hb5 := hb.up hu5
  have hcv : (convert 26 9 (.slice B bn bc)).run Try.prog w5 = .ok (.string (tx bs)) w5 := run_str bc hb5
  have hrr := fun W => rreplay14_any bs W (by have := HBL.out; omega)
  have hcj := fun (W : World) (hW : Up w5 W) => lopen_any (H5.up hW) hoC l hl9
  have hck := fun (W : World) (hW : Up w5 W) => dread_any (H5.up hW) hoC l hl9
  rw [HG4.out] at hcj hck
  have HRR := Lib.hid hrr
  have HCJ := Lib.hid hcj
  have HCK := Lib.hid hck
  have HOK := OTH
  clear hrr hcj hck HCO H4 hb hb5
  rcases hq with ⟨h0, -⟩ | ⟨-, hre, rfl⟩ | ⟨-, g, en, hre, gl, R, m, rc, rs, rfl, -, -, hR, hO, hl⟩
  · exact absurd rfl h0
  · have hrr := HRR.out
    rw [hre] at hrr
    have HRR2 := Lib.hid hrr
    clear hrr HRR hre
    go_wp2_with fail
    clear hcv
    refine (HRR2.out w5).mono ?_
    rintro e w6 ⟨rfl, hu56⟩
    go_wp2_with fail
    refine (same14_any none 0 0 [] none 0 0 [] w6 Rd.empty (RwOk.nil _) Rd.empty (RwOk.nil _) rfl (fun r hr => by cases hr) (by omega)).mono ?_
    rintro e w7 ⟨rfl, hu67⟩
    have hu57 := hu56.trans hu67
    clear hu56 hu67 HRR2
    have hj := HCJ.out w7 hu57
    have HJ := Lib.hid hj
    clear hj
    go_wp2_with fail
    refine HJ.out.mono ?_
    intro e w8 hj
    obtain ⟨hu78, p8, A8, n8, c8, tb8, E8, rfl, he8⟩ := LOpenPost.any hj
    have hu58 := hu57.trans hu78
    have hk := HCK.out w8 hu58
    obtain ⟨kl, K, hrd⟩ : ∃ a b, readD dC l = (a, b) := ⟨_, _, rfl⟩
    have hot := OTH.out
    rw [hrd] at hk he8 hot
    (try dsimp only at hk he8 hot)
    have HK := Lib.hid hk
    have HE8 := Lib.hid he8
    have HOT := Lib.hid hot
    clear hk he8 hot hrd hj HJ
    go_wp2_with fail
    refine HK.out.mono ?_
    rintro e w9 ⟨R9, n9, c9, rfl, hR9, hu89⟩
    have hu9 := hu5.trans (hu58.trans hu89)
    clear HK hR9
    by_cases hn : l = nmL
    · have hbeq : ((tx l).toList == [108, 111, 103, 46, 49]) = true := by rw [tx_toList, hn]; rfl
      clear hn
      go_wp2_with fail
      refine (awake14_any w9).mono ?_
      rintro e w10 ⟨rfl, hu10⟩
      go_wp2_with fail
      go_ret
      exact ⟨rfl, hu9.trans hu10⟩
    · have hbeq : ((tx l).toList == [108, 111, 103, 46, 49]) = false := by rw [tx_toList, beq_eq_false_iff_ne]; exact hn
      have hK0 := HOT.out hn
      obtain rfl := HE8.out hK0
      have k1 : ((K : Int) == (K : Int)) = true := by simp
      have k2 : ((K : Int) != 0) = true := by rw [bne_iff_ne]; omega
      clear hn hK0 HE8 HOT
      go_wp2_with fail
      refine (awake14_any w9).mono ?_
      rintro e w10 ⟨rfl, hu10⟩
      go_wp2_with fail
      go_ret
      exact ⟨rfl, hu9.trans hu10⟩
  · obtain ⟨q1, q2, q3⟩ := replL_bd hre
    (try dsimp only at q1 q2 q3)
    have hrr := HRR.out
    rw [hre] at hrr
    have HRR2 := Lib.hid hrr
    have HL := Lib.hid hl
    have Q3 := Lib.hid q3
    have hmg : m = g.length := by rw [hR.len, ← hl, rwl_len]
    have hm9 : m ≤ 3000 := by have := HBL.out; omega
    have hen : en ≤ bn := by have := HBL.out; omega
    rw [HBL.out] at *
    clear hrr HRR hre hl q3 q1 q2 hmg
    go_wp2_with fail
    clear hcv
    refine (HRR2.out w5).mono ?_
    rintro e w6 ⟨R7, m7, rc7, rs7, rfl, hR7, hO7, hl7, hu56⟩
    (try dsimp only at hl7)
    have hrl : rwl rs = rwl rs7 := HL.out.trans hl7.symm
    have hsame := same14_any R m rc rs R7 m7 rc7 rs7 w6 (hR.rd.up hu56) (hO.ok.up hu56) hR7.rd hO7.ok hrl (fun r hr => by
      have h8 : r.l ∈ g := by rw [← HL.out]; exact List.mem_map.2 ⟨r, hr, rfl⟩
      have := Q3.out r.l h8
      omega) (by omega)
    have HSAME := Lib.hid hsame
    clear hsame hrl hl7 hR hO hR7 hO7
    go_wp2_with fail
    refine HSAME.out.mono ?_
    rintro e w7 ⟨rfl, hu67⟩
    have hu57 := hu56.trans hu67
    clear hu56 hu67 HRR2 HSAME
    by_cases ht : en < bn
    · have t1 : decide (en < bn) = true := by simp [ht]
      have t2 : ((en : Int) == (bn : Int)) = false := by rw [beq_eq_false_iff_ne]; omega
      rw [t1]
      clear ht t1
      have hj := HCJ.out w7 hu57
      have HJ := Lib.hid hj
      clear hj
      go_wp2_with fail
      refine HJ.out.mono ?_
      intro e w8 hj
      obtain ⟨hu78, p8, A8, n8, c8, tb8, E8, rfl, he8⟩ := LOpenPost.any hj
      have hu58 := hu57.trans hu78
      have hk := HCK.out w8 hu58
      obtain ⟨kl, K, hrd⟩ : ∃ a b, readD dC l = (a, b) := ⟨_, _, rfl⟩
      have hot := OTH.out
      rw [hrd] at hk he8 hot
      (try dsimp only at hk he8 hot)
      have HK := Lib.hid hk
      have HE8 := Lib.hid he8
      have HOT := Lib.hid hot
      clear hk he8 hot hrd hj HJ
      go_wp2_with fail
      refine HK.out.mono ?_
      rintro e w9 ⟨R9, n9, c9, rfl, hR9, hu89⟩
      have hu9 := hu5.trans (hu58.trans hu89)
      clear HK hR9
      by_cases hn : l = nmL
      · have hbeq : ((tx l).toList == [108, 111, 103, 46, 49]) = true := by rw [tx_toList, hn]; rfl
        clear hn
        go_wp2_with fail
        refine (awake14_any w9).mono ?_
        rintro e w10 ⟨rfl, hu10⟩
        go_wp2_with fail
        go_ret
        exact ⟨rfl, hu9.trans hu10⟩
      · have hbeq : ((tx l).toList == [108, 111, 103, 46, 49]) = false := by rw [tx_toList, beq_eq_false_iff_ne]; exact hn
        have hK0 := HOT.out hn
        obtain rfl := HE8.out hK0
        have k1 : ((K : Int) == (K : Int)) = true := by simp
        have k2 : ((K : Int) != 0) = true := by rw [bne_iff_ne]; omega
        clear hn hK0 HE8 HOT
        go_wp2_with fail
        refine (awake14_any w9).mono ?_
        rintro e w10 ⟨rfl, hu10⟩
        go_wp2_with fail
        go_ret
        exact ⟨rfl, hu9.trans hu10⟩
    · have t1 : decide (en < bn) = false := by simp [ht]
      have t2 : ((en : Int) == (bn : Int)) = true := by rw [beq_iff_eq]; omega
      rw [t1]
      clear ht t1
      have hj := HCJ.out w7 hu57
      have HJ := Lib.hid hj
      clear hj
      go_wp2_with fail
      refine HJ.out.mono ?_
      intro e w8 hj
      obtain ⟨hu78, p8, A8, n8, c8, tb8, E8, rfl, he8⟩ := LOpenPost.any hj
      have hu58 := hu57.trans hu78
      have hk := HCK.out w8 hu58
      obtain ⟨kl, K, hrd⟩ : ∃ a b, readD dC l = (a, b) := ⟨_, _, rfl⟩
      have hot := OTH.out
      rw [hrd] at hk he8 hot
      (try dsimp only at hk he8 hot)
      have HK := Lib.hid hk
      have HE8 := Lib.hid he8
      have HOT := Lib.hid hot
      clear hk he8 hot hrd hj HJ
      go_wp2_with fail
      refine HK.out.mono ?_
      rintro e w9 ⟨R9, n9, c9, rfl, hR9, hu89⟩
      have hu9 := hu5.trans (hu58.trans hu89)
      clear HK hR9
      by_cases hn : l = nmL
      · have hbeq : ((tx l).toList == [108, 111, 103, 46, 49]) = true := by rw [tx_toList, hn]; rfl
        clear hn
        go_wp2_with fail
        refine (awake14_any w9).mono ?_
        rintro e w10 ⟨rfl, hu10⟩
        go_wp2_with fail
        go_ret
        exact ⟨rfl, hu9.trans hu10⟩
      · have hbeq : ((tx l).toList == [108, 111, 103, 46, 49]) = false := by rw [tx_toList, beq_eq_false_iff_ne]; exact hn
        have hK0 := HOT.out hn
        obtain rfl := HE8.out hK0
        have k1 : ((K : Int) == (K : Int)) = true := by simp
        have k2 : ((K : Int) != 0) = true := by rw [bne_iff_ne]; omega
        clear hn hK0 HE8 HOT
        go_wp2_with fail
        refine (awake14_any w9).mono ?_
        rintro e w10 ⟨rfl, hu10⟩
        go_wp2_with fail
        go_ret
        exact ⟨rfl, hu9.trans hu10⟩
end Go.Proofs.Ytnjmekjaingniaa.logOpens

/-
  'clepsydra/clepsydralaw14.LogOpens': for every input the law returns true; each argument reads behind the call as it read before. No condition.
-/

namespace Go.Proofs.Ytnjmekjaingniaa.logOpens
open Go.ChangeShapes Go.WideShapes Go.ChangeAt Go.RowKit
open Go.ChangeMaps (open_string shut_string)
set_option linter.unusedVariables false

set_option maxRecDepth 100000 in
theorem lifted (os : Os) (started : os.Started) (H : Type) (enc : TypeId × Value → H) :
    ReturnsInHanded {} Try.checked os 8 .any (Rows.logOpensSpec.pre6 enc Try.prog Try.f8 Rows.logOpensRow.domain false) (Rows.logOpensSpec.post enc Try.prog Try.f8 false true false false) := by
  refine returnsInHanded_of_change (C := Try.checked) prog_own started (by kernel_rfl) Try.func8
    (ChangeSpec.witness6 (enc := enc) (C := Try.checked) false ⟨#[], #[.string ByteArray.empty, .slice none 0 0], []⟩ 8 (by kernel_rfl) (by kernel_rfl) (by kernel_rfl) (by kernel_rfl)) ?_
  intro W base args ds gs before hval0 hW hcnd _
  have hval : ∀ (j : Nat) t v, Try.f8.params[j]? = some t → args[j]? = some v → Value.okWide Try.prog W .any base t v := hval0
  have hW' := hW
  obtain ⟨p, q, hA0, hV, rfl, hfz, hnd⟩ := hW
  have hA : DataW.TrodAll enc Try.prog W 0 (fun _ => true) true Try.f8.params.toList args.toList ds p := hA0
  rw [Try.params8] at hA hval
  obtain ⟨v0, vs0, d0, ds0, p0, q0, hargs, rfl, rfl, h0, r0⟩ := trodAll_cons hA
  obtain ⟨v1, vs1, d1, ds1, p1, q1, rfl, rfl, rfl, h1, r1⟩ := trodAll_cons r0
  obtain ⟨rfl, rfl, rfl⟩ := trodAll_nil r1
  obtain rfl : args = #[v0, v1] := by cases args; simp_all
  obtain ⟨rfl, rfl⟩ := trodVars_none hV
  obtain ⟨a0, rfl, rfl, rfl, w0⟩ := open_string Try.underlying9 (hval 0 9 v0 rfl rfl) h0
  obtain ⟨a1, len1, cap1, rfl⟩ := okWide_slice Try.underlying26 (hval 1 26 v1 rfl rfl)
  have k1 := h1
  have lt1 : ∀ x ∈ p1, x.block < W.heap.size := by obtain ⟨m, hm⟩ := k1; exact DataW.trod_lt m _ _ _ hm
  obtain ⟨l1, w1⟩ := is_b h1
  clear hA0 hval0
  refine (law_any a0 a1 len1 cap1 l1 W w0 w1).mono fun e W' ⟨he, bel⟩ => ?_
  subst he
  exact ⟨_, rfl, _, _, _, [], _, [], hW', trodAll_mk1 (shut_bool Try.underlying4 _), (trodAll_cons_mk (shut_string Try.underlying9 w0) (trodAll_cons_mk (Below.trod laidOut (by kernel_rfl) (of_decide_eq_true (by kernel_rfl)) k1 bel lt1) trodAll_mk0)), rfl, bel.frame _, fun h => by cases h⟩

theorem proved : Rows.LogOpensSaid :=
  OpenClaim.holds_of_wide 8 Try.f8 rfl rfl rfl rfl rfl rfl rfl ⟨rfl, rfl, rfl, rfl, rfl⟩ rfl rfl rfl rfl rfl (by kernel_rfl) Try.func8 (by kernel_rfl)
    (of_decide_eq_true (by kernel_rfl)) (by unfold Func.isWrapper; first | (rw [if_pos (by decide +kernel)]; kernel_rfl) | (rw [if_neg (by decide +kernel)]; exact ⟨rfl, rfl⟩))
    (fun os started H enc _ => lifted os started H enc)
#print axioms proved
end Go.Proofs.Ytnjmekjaingniaa.logOpens
