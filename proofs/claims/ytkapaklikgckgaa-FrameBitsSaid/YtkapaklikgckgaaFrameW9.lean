/-
  The walk of the laws' made.
-/
import Derived.Test.YtkapaklikgckgaaFrameW7
import Derived.Test.YtkapaklikgckgaaFrameW8
import Derived.Test.YtkapaklikgckgaaFrameLaw
import Derived.Test.YtkapaklikgckgaaOpenR
namespace Go.Proofs.Ytkapaklikgckgaa
open Go.RowKit
set_option linter.unusedVariables false
set_option linter.unusedSimpArgs false

/-- the kind of the record with this number -/
def kindOf (k : Nat) : Nat := k * 9 % 100 + 1
theorem kindOf_bd (k : Nat) : 1 ≤ kindOf k ∧ kindOf k ≤ 100 := by unfold kindOf; omega
/-- records, one behind the other, their kinds from number i on -/
def frsB : Nat → List (List UInt8) → List UInt8
  | _, [] => []
  | i, l :: r => frameB (kindOf i : Int) l ++ frsB (i + 1) r
theorem frsB_append : ∀ (i : Nat) (a b : List (List UInt8)), frsB i (a ++ b) = frsB i a ++ frsB (i + a.length) b
  | i, [], b => by simp [frsB]
  | i, l :: r, b => by rw [List.cons_append, frsB, frsB, frsB_append (i + 1) r b, List.append_assoc, List.length_cons]; congr 3; omega
theorem frsB_snoc (L : List (List UInt8)) {k : Nat} (hk : k < L.length) : frsB 0 (L.take (k + 1)) = frsB 0 (L.take k) ++ frameB (kindOf k : Int) (L[k]) := by
  rw [List.take_succ_eq_append_getElem hk, frsB_append, List.length_take, Nat.min_eq_left (by omega), Nat.zero_add]
  simp [frsB]
def endAt (L : List (List UInt8)) (k : Nat) : Nat := (frsB 0 (L.take k)).length
def endsL (L : List (List UInt8)) (k : Nat) : List Nat := (List.range (k + 1)).map (endAt L)
theorem endsL_snoc (L : List (List UInt8)) (k : Nat) : endsL L (k + 1) = endsL L k ++ [endAt L (k + 1)] := by
  unfold endsL; rw [List.range_succ, List.map_append]; rfl
theorem endAt_snoc (L : List (List UInt8)) {k : Nat} (hk : k < L.length) : endAt L (k + 1) = endAt L k + (L[k].length + 12) := by
  unfold endAt; rw [frsB_snoc L hk, List.length_append, frameB_len]

def ptls (ps : List Pt) : List (List UInt8) := ps.map (·.l)
/-- a slice of slices that came in: number k -/
theorem IsR.at_ {w : World} {A : Option Addr} {n c : Nat} {ps : List Pt} (h : IsR w A n c ps) {k : Nat} (hk : k < n) :
    ∃ b o p, A = some ⟨b, o, none⟩ ∧ ps[k]? = some p ∧ (ptls ps)[k]? = some p.l ∧ p.n ≤ p.c ∧ p.n = p.l.length ∧ p.c ≤ 9223372036854775807 ∧ ∀ W, Up w W → W.cell? ⟨b, o + k, none⟩ = some (.slice p.A p.n p.c) ∧ Rd W W.heap.size 1 p.A p.n (bvs p.l) := by
  obtain ⟨hr, hp, hc1, hc2⟩ := h
  have hn : n = ps.length := by have := hr.1; rw [List.length_map] at this; omega
  obtain ⟨b, o, e, hb, hc⟩ := hr.2 (by omega)
  have hkl : k < ps.length := by omega
  have hpm := hp ps[k] (List.getElem_mem _)
  refine ⟨b, o, ps[k], e, List.getElem?_eq_getElem hkl, by simp [ptls, hkl], hpm.2.1, hpm.1.blen, hpm.2.2, fun W hW => ⟨?_, hpm.1.up hW⟩⟩
  have h1 := hc k (ps[k]).v (by simp [hkl])
  exact (hW.cell (p := ⟨b, o + k, none⟩) hb).trans h1
theorem IsR.len {w : World} {A : Option Addr} {n c : Nat} {ps : List Pt} (h : IsR w A n c ps) : n = (ptls ps).length := by have := h.1.1; simp [ptls] at *; omega

/-- how many are made; and whether none is too long -/
def madeN (L : List (List UInt8)) (most : Nat) : Nat := min L.length most
def madeOk (L : List (List UInt8)) (most : Nat) : Bool := (L.take most).all fun l => decide (l.length ≤ 300)
/-- what made comes to -/
def MadePost (L : List (List UInt8)) (most : Nat) (w : World) (e : Ending) (w' : World) : Prop :=
  (madeOk L most = true ∧ ∃ R rc, e = .returned (.tuple #[.string (tx (frsB 0 (L.take most))), .slice R (madeN L most + 1) rc, .bool true]) ∧ OwnK w' w.heap.size R (madeN L most + 1) rc (endsL L (madeN L most)) ∧ Up w w') ∨
  (madeOk L most = false ∧ e = .returned (.tuple #[.string (tx []), .slice none 0 0, .bool false]) ∧ Up w w')
theorem all_bad {L : List (List UInt8)} {k most : Nat} (hk : k < L.length) (hm : k < most) (h : 300 < L[k].length) : madeOk L most = false := by
  unfold madeOk
  rw [List.all_eq_false]
  exact ⟨L[k], List.mem_take_iff_getElem.2 ⟨k, by omega, rfl⟩, by simp; omega⟩

set_option maxRecDepth 100000 in
set_option maxHeartbeats 800000 in
theorem made_any (A : Option Addr) (n c : Nat) (ps : List Pt) (most : Nat) (w : World) (hr : IsR w A n c ps) (hn : n ≤ 9223372036854775807) (hmost : most ≤ 100) :
    Calls Try.prog 14 #[.slice A n c, .int .i64 (most : Int)] w (MadePost (ptls ps) most w) := by
  have HL := Lib.hid hr.len
  have AT : Hid (∀ k, k < n → ∃ b o p, A = some ⟨b, o, none⟩ ∧ ps[k]? = some p ∧ (ptls ps)[k]? = some p.l ∧ p.n ≤ p.c ∧ p.n = p.l.length ∧ p.c ≤ 9223372036854775807 ∧ ∀ W, Up w W → W.cell? ⟨b, o + k, none⟩ = some (.slice p.A p.n p.c) ∧ Rd W W.heap.size 1 p.A p.n (bvs p.l)) := fun k hk => hr.at_ hk
  clear hr
  generalize ptls ps = L at *
  go_enter Try.func14, Try.ntmps14
  go_wp2_with fail
  go_loopw [7, 8, 9] (fun sv ev i wr => ∃ (k : Nat) (R : Option Addr) (rn rc : Nat), i = .int .i64 (k : Int) ∧ sv = .string (tx (frsB 0 (L.take k))) ∧ ev = .slice R rn rc ∧ rn = k + 1 ∧ k ≤ n ∧ k ≤ most ∧ endAt L k ≤ 312 * k ∧ Hid ((L.take k).all (fun l => decide (l.length ≤ 300)) = true) ∧ OwnK wr w.heap.size R rn rc (endsL L k) ∧ Up w wr) (fun _ _ i _ => n - (intOf i).toNat)
  case atStart =>
    refine ⟨0, some ⟨w.heap.size, 0, none⟩, 1, 1, rfl, rfl, rfl, rfl, by omega, by omega, by simp [endAt, frsB], rfl, ?_, (Up.refl _).alloc _⟩
    exact row_new w #[.int .i64 0] 3 (Nat.le_refl _) rfl (by omega)
  case round =>
    obtain ⟨k, R, rn, rc, rfl, rfl, rfl, hrn, hk, hkm, hle, hall, hown, hu⟩ := hrel
    by_cases hlt : k < n
    · by_cases hlm : k < most
      · obtain ⟨b, o, p, rfl, hpk, hpl, hpc, hpn, hpc2, hW⟩ := AT.out k hlt
        obtain ⟨hcell, hrp⟩ := hW wr hu
        have hkl : k < L.length := by have := HL.out; omega
        have hpl' : L[k] = p.l := by rw [List.getElem?_eq_getElem hkl] at hpl; injection hpl
        by_cases hbad : 300 < p.n
        · have hmk : madeOk L most = false := all_bad hkl hlm (by rw [hpl', ← hpn]; exact hbad)
          have HMK := Lib.hid hmk
          clear hpl hpl' hpk hmk
          go_wp2_with fail
          go_ret3
          exact .inr ⟨HMK.out, rfl, hu⟩
        · have hst : (convert 22 9 (.slice p.A p.n p.c)).run Try.prog wr = .ok (.string (tx p.l)) wr := run_str p.c hrp
          have hs1 := frsB_snoc L hkl
          have hs2 := endAt_snoc L hkl
          have hs3 := endsL_snoc L k
          rw [hpl'] at hs1 hs2
          have hall2 : (L.take (k + 1)).all (fun l => decide (l.length ≤ 300)) = true := by
            rw [List.take_succ_eq_append_getElem hkl, List.all_append, hall.out, hpl']
            simp; omega
          have hkind : (k : Int) * 9 % 100 + 1 = (kindOf k : Int) := by unfold kindOf; omega
          have hkb := kindOf_bd k
          have H1 := Lib.hid hs1
          have H2 := Lib.hid hs2
          have H3 := Lib.hid hs3
          have HA := Lib.hid hall2
          have HP := Lib.hid hpn
          clear hpl hpl' hpk hs1 hs2 hs3 hall2 hpn
          have hcat : tx (frsB 0 (L.take k)) ++ tx (frameB (kindOf k : Int) p.l) = tx (frsB 0 (L.take (k + 1))) := by rw [tx_append', ← H1.out]
          have hz1 : (tx (frsB 0 (L.take k))).size = endAt L k := tx_size _
          have hz2 : (tx (frsB 0 (L.take (k + 1)))).size = endAt L (k + 1) := tx_size _
          have hz3 : (tx (frameB (kindOf k : Int) p.l)).size = p.n + 12 := by rw [tx_size, frameB_len, HP.out]
          have hnz : ¬ (9223372036854775807 < (tx (frsB 0 (L.take k))).size + (tx (frameB (kindOf k : Int) p.l)).size) := by rw [hz1, hz3]; omega
          have hle2 : endAt L (k + 1) ≤ 312 * (k + 1) := by rw [H2.out, ← HP.out]; omega
          clear hz1 hz3
          generalize hS1 : frsB 0 (L.take (k + 1)) = S1 at *
          have HS1 := Lib.hid hS1
          clear hS1
          generalize frsB 0 (L.take k) = S0 at *
          go_wp2_with fail
          refine (rframe_any (kindOf k : Int) p.l wr (by omega) (by rw [← HP.out]; omega)).mono ?_
          rintro e w2 ⟨rfl, hu2⟩
          have hown2 : OwnK w2 w.heap.size R rn rc (endsL L k) := own_up hown hu2
          have hu02 := hu.trans hu2
          generalize frameB (kindOf k : Int) p.l = S2 at *
          clear hkind hkb
          subst hrn
          go_wp2_with (at_builtin; refine wpList_append_rd _ intsT (news := nvi [endAt L (k + 1)]) (World.ownsRow.alloc hown2 _) (Rd.box _ _ _) (nvi_one _) (by omega) (by omega) (by simp; have := hu02.size; omega) rfl rfl rfl rfl ?_; intro v3 w3 hown3 hg3 hat3; obtain ⟨R3, rc3, rfl⟩ := own_form hown3)
          have hu3 : Up w w3 := (hu02.alloc _).grown hg3 (fun g hg => (hown2.lt g hg).1)
          go_roundw
          case rel =>
            refine ⟨k + 1, R3, k + 1 + 1, rc3, by go_num, by rw [HS1.out], rfl, rfl, by omega, by omega, hle2, HA.out, ?_, hu3⟩
            show World.ownsRow _ _ _ _ _ _ _
            rw [H3.out]
            have e : nvi (endsL L k ++ [endAt L (k + 1)]) = nvi (endsL L k) ++ nvi [endAt L (k + 1)] := by simp [nvi]
            rw [e]; exact hown3
          case measure => simp [intOf]; omega
      · have hkm' : k = most := by omega
        subst hkm'
        have hN : madeN L k = k := by unfold madeN; have := HL.out; omega
        have HN := Lib.hid hN
        clear hN
        go_wp2_with fail
        go_ret3
        rw [hrn] at hown ⊢
        refine .inl ⟨hall.out, R, rc, ?_, by rw [HN.out]; exact hown, hu⟩
        rw [HN.out]; rfl
    · have hkn : k = n := by omega
      subst hkn
      have hN : madeN L most = k := by unfold madeN; have := HL.out; omega
      have ht : L.take most = L.take k := by rw [List.take_of_length_le (by have := HL.out; omega), List.take_of_length_le (by have := HL.out; omega)]
      have hok : madeOk L most = true := by unfold madeOk; rw [ht]; exact hall.out
      have HN := Lib.hid hN
      have HT := Lib.hid ht
      have HO := Lib.hid hok
      clear hN ht hok
      go_wp2_with fail
      go_ret3
      rw [hrn] at hown ⊢
      refine .inl ⟨HO.out, R, rc, ?_, by rw [HN.out]; exact hown, hu⟩
      rw [HN.out, HT.out]; rfl

theorem endAt_take (L : List (List UInt8)) (most j : Nat) (h : j ≤ most) : endAt (L.take most) j = endAt L j := by
  unfold endAt; rw [List.take_take, Nat.min_eq_left h]
theorem endsL_take (L : List (List UInt8)) (most k : Nat) (h : k ≤ most) : endsL (L.take most) k = endsL L k := by
  unfold endsL
  apply List.map_congr_left
  intro j hj
  rw [endAt_take L most j (by have := List.mem_range.1 hj; omega)]
theorem made_no (A : Option Addr) (n c : Nat) (ps : List Pt) (most : Nat) (w : World) (hr : IsR w A n c ps) (hn : n ≤ 9223372036854775807) (hmost : most ≤ 100) (hok : madeOk (ptls ps) most = false) :
    Calls Try.prog 14 #[.slice A n c, .int .i64 (most : Int)] w fun e w' => e = .returned (.tuple #[.string (tx []), .slice none 0 0, .bool false]) ∧ Up w w' :=
  (made_any A n c ps most w hr hn hmost).mono fun e w' h => by
    rcases h with ⟨h1, _⟩ | ⟨_, h2, h3⟩
    · rw [hok] at h1; cases h1
    · exact ⟨h2, h3⟩
theorem made_yes (A : Option Addr) (n c : Nat) (ps : List Pt) (most : Nat) (w : World) (hr : IsR w A n c ps) (hn : n ≤ 9223372036854775807) (hmost : most ≤ 100) (hok : madeOk (ptls ps) most = true) :
    ∃ L : List (List UInt8), L = (ptls ps).take most ∧ (∀ x ∈ L, x.length ≤ 300) ∧ L.length ≤ most ∧ endAt L L.length ≤ 312 * most ∧ Hid (Calls Try.prog 14 #[.slice A n c, .int .i64 (most : Int)] w fun e w' => ∃ R rc, e = .returned (.tuple #[.string (tx (frsB 0 L)), .slice R (L.length + 1) rc, .bool true]) ∧ OwnK w' w.heap.size R (L.length + 1) rc (endsL L L.length) ∧ Up w w') := by
  have hall : ∀ x ∈ (ptls ps).take most, x.length ≤ 300 := by
    intro x hx
    have := List.all_eq_true.1 hok x hx
    simpa using this
  refine ⟨_, rfl, hall, by rw [List.length_take]; omega, ?_, ?_⟩
  · have key : ∀ (L : List (List UInt8)), (∀ x ∈ L, x.length ≤ 300) → ∀ k, k ≤ L.length → endAt L k ≤ 312 * k := by
      intro L hL k
      induction k with
      | zero => intro _; simp [endAt, frsB]
      | succ k ih =>
        intro hk
        have h1 := ih (by omega)
        have h2 := hL (L[k]'(by omega)) (List.getElem_mem _)
        rw [endAt_snoc L (show k < L.length by omega)]; omega
    have h1 := key _ hall _ (Nat.le_refl _)
    have h2 : ((ptls ps).take most).length ≤ most := by rw [List.length_take]; omega
    omega
  · refine (made_any A n c ps most w hr hn hmost).mono fun e w' h => ?_
    have hm : madeN (ptls ps) most = ((ptls ps).take most).length := by unfold madeN; rw [List.length_take]; omega
    rcases h with ⟨_, R, rc, h2, h3, h4⟩ | ⟨h1, _⟩
    · rw [hm] at h2 h3
      exact ⟨R, rc, h2, by rw [endsL_take _ _ _ (by rw [List.length_take]; omega)]; exact h3, h4⟩
    · rw [hok] at h1; cases h1
theorem endAt_mono {L : List (List UInt8)} : ∀ {i j : Nat}, i ≤ j → j ≤ L.length → endAt L i ≤ endAt L j := by
  intro i j h
  induction j with
  | zero => intro _; have : i = 0 := by omega
            subst this; exact Nat.le_refl _
  | succ j ih =>
    intro hj
    rcases Nat.lt_or_ge i (j + 1) with hlt | hge
    · have := ih (by omega) (by omega); rw [endAt_snoc L (show j < L.length by omega)]; omega
    · have : i = j + 1 := by omega
      rw [this]; exact Nat.le_refl _
/-- the ends, one by one, in whatever grows out of that world -/
theorem ends_at {w : World} {base n c : Nat} {A : Option Addr} {L : List (List UInt8)} {m : Nat} (h : OwnK w base A n c (endsL L m)) (hn : n = m + 1) : ∃ g, A = some ⟨g, 0, none⟩ ∧ ∀ j, j ≤ m → ∀ W, Up w W → W.cell? ⟨g, j, none⟩ = some (.int .i64 (endAt L j : Int)) := by
  obtain ⟨g, rfl, _, hg⟩ := own_some h (by omega)
  refine ⟨g, rfl, fun j hj W hW => ?_⟩
  have hrd := Rd.own h
  obtain ⟨b, o, e, hb, hc⟩ := hrd.2 (by omega)
  injection e with e
  injection e with e1 e2
  subst e1; subst e2
  have h1 := hc j (.int .i64 (endAt L j : Int)) (by
    unfold nvi endsL
    rw [List.map_map, List.getElem?_map, List.getElem?_range (by omega)]; rfl)
  rw [Nat.zero_add] at h1
  exact (hW.cell (p := ⟨g, j, none⟩) hg).trans h1
end Go.Proofs.Ytkapaklikgckgaa
