/-
  The walk of frame.Split.
-/
import Derived.Test.YtokcaoaclheiiaaFrameW6
namespace Go.Proofs.Ytokcaoaclheiiaa
open Go.RowKit
set_option linter.unusedVariables false
set_option linter.unusedSimpArgs false

/-- an append to a row of one element type keeps the rows of another one -/
theorem own_far {w w' : World} {base base' : Nat} {e e' : TypeId} {sz sz' n n' : Nat} {v v' : Value} {xs xs' : List Value} (h : w.ownsRow base e sz v n xs) (h' : w.ownsRow base' e' sz' v' n' xs') (hne : e ≠ e') (hg : w.grownBy w' v.ownBlock) : w'.ownsRow base' e' sz' v' n' xs' := by
  refine ⟨h'.1, ?_⟩
  rcases h'.2 with h2 | ⟨g, cap, cur, rfl, hb, hh, r⟩
  · exact .inl h2
  · refine .inr ⟨g, cap, cur, rfl, hb, (hg.block g (Array.getElem?_eq_some_iff.1 hh).1 (fun e0 => ?_)).trans hh, r⟩
    rcases h.2 with ⟨rfl, _⟩ | ⟨g1, cap1, cur1, rfl, _, hh1, _⟩
    · simp [Value.ownBlock] at e0
    · have : g1 = g := by simpa [Value.ownBlock] using e0.symm
      subst this
      rw [hh] at hh1
      injection hh1 with hh1
      injection hh1 with _ ht
      exact hne ht.symm
def nvi (l : List Nat) : List Value := l.map fun (k : Nat) => Value.int .i64 (k : Int)
theorem nvi_one (l : List Nat) : ∀ u ∈ nvi l, u.oneCell' = true := by
  intro u hu; simp only [nvi, List.mem_map] at hu; obtain ⟨b, _, rfl⟩ := hu; rfl
theorem pv_one (l : List Pt) : ∀ u ∈ l.map Pt.v, u.oneCell' = true := by
  intro u hu; simp only [List.mem_map] at hu; obtain ⟨b, _, rfl⟩ := hu; rfl

/-- Split: the kinds, the bodies, where it ends, the error -/
def splitG (l : List UInt8) : Nat → Nat → List Nat → List (List UInt8) → List Nat × List (List UInt8) × Nat × Nat
  | 0, k, ks, bs => (ks, bs, k, 0)
  | f + 1, k, ks, bs => if k < l.length then
      (if (takeR (l.drop k)).1 = 0 then splitG l f (k + (takeR (l.drop k)).2.2.2) (ks ++ [(takeR (l.drop k)).2.1]) (bs ++ [(takeR (l.drop k)).2.2.1]) else (ks, bs, k, (takeR (l.drop k)).1))
    else (ks, bs, k, 0)
def splitL (l : List UInt8) : List Nat × List (List UInt8) × Nat × Nat := splitG l (l.length + 1) 0 [] []
theorem takeR_ok {r : List UInt8} (h : (takeR r).1 = 0) : 12 ≤ (takeR r).2.2.2 ∧ (takeR r).2.2.2 ≤ r.length ∧ (takeR r).2.2.2 = (takeR r).2.2.1.length + 12 ∧ (takeR r).2.1 < 256 := by
  unfold takeR at h ⊢
  have hb : (r.getD 0 0).toNat < 256 := (r.getD 0 0).toNat_lt
  split at h
  · cases h
  · rename_i h1
    rw [if_neg h1]
    split at h
    · rename_i h2; exact absurd h h2
    · rename_i h2
      rw [if_neg h2]
      split at h
      · cases h
      · rename_i h3
        rw [if_neg h3]
        split at h
        · cases h
        · rename_i h4
          rw [if_neg h4]
          split at h
          · rename_i h5; exact absurd h h5
          · rename_i h5
            rw [if_neg h5]
            simp only [List.length_take, List.length_drop]
            omega

/-- slices of the call's own, and what they hold -/
def Pts (w : World) (base : Nat) (ps : List Pt) (bs : List (List UInt8)) : Prop := ps.map (·.l) = bs ∧ ∀ p ∈ ps, OwnB w base p.A p.n p.c p.l
theorem Pts.up {w w' : World} {base : Nat} {ps : List Pt} {bs : List (List UInt8)} (h : Pts w base ps bs) (hu : Up w w') : Pts w' base ps bs := ⟨h.1, fun p hp => (h.2 p hp).up hu⟩

theorem intsT : SlT Try.prog 30 3 1 8 := SlT.mk' Try.underlying30 (z := .int .i64 0) (by kernel_rfl) rfl (by decide)
theorem rowsT : SlT Try.prog 104 43 1 24 := SlT.mk' Try.underlying104 (z := .slice none 0 0) (by kernel_rfl) rfl (by decide)
def OwnK (w : World) (base : Nat) (A : Option Addr) (n c : Nat) (l : List Nat) : Prop := w.ownsRow base 3 1 (.slice A n c) n (nvi l)
def OwnR (w : World) (base : Nat) (A : Option Addr) (n c : Nat) (ps : List Pt) : Prop := w.ownsRow base 43 1 (.slice A n c) n (ps.map Pt.v)
/-- what Split comes to -/
def SpPost (t : List Nat × List (List UInt8) × Nat × Nat) (w : World) (e : Ending) (w' : World) : Prop :=
  ∃ K kn kc R rn rc ps, e = .returned (.tuple #[.slice K kn kc, .slice R rn rc, .int .i64 (t.2.2.1 : Int), .int .i64 (t.2.2.2 : Int)]) ∧ OwnK w' w.heap.size K kn kc t.1 ∧ OwnR w' w.heap.size R rn rc ps ∧ Pts w' w.heap.size ps t.2.1 ∧ Up w w'

set_option maxRecDepth 100000 in
set_option maxHeartbeats 3200000 in
theorem split_any (A : Option Addr) (n c : Nat) (l : List UInt8) (w : World) (hr : Rd w w.heap.size 1 A n (bvs l)) (hn : n ≤ 549755813888) (hc : n ≤ c) :
    Calls Try.prog 59 #[.slice A n c] w (SpPost (splitL l) w) := by
  have HL := Lib.hid hr.blen
  go_enter Try.func59, Try.ntmps59
  go_wp2_with fail
  go_loopw [2, 3, 4] (fun kv rv i wr => ∃ (k : Nat) (K : Option Addr) (kn kc : Nat) (R : Option Addr) (rn rc : Nat) (ks : List Nat) (ps : List Pt) (bs : List (List UInt8)), i = .int .i64 (k : Int) ∧ kv = .slice K kn kc ∧ rv = .slice R rn rc ∧ k ≤ n ∧ kn ≤ k ∧ rn ≤ k ∧
      OwnK wr w.heap.size K kn kc ks ∧ OwnR wr w.heap.size R rn rc ps ∧ Pts wr w.heap.size ps bs ∧ Hid (∃ f, n - k < f ∧ splitG l f k ks bs = splitL l) ∧ Up w wr) (fun _ _ i _ => n - (intOf i).toNat)
  case atStart => exact ⟨0, none, 0, 0, none, 0, 0, [], [], [], rfl, rfl, rfl, by omega, by omega, by omega, World.ownsRow_nil _ _ _ _, World.ownsRow_nil _ _ _ _, ⟨rfl, fun p hp => by cases hp⟩, ⟨l.length + 1, by have := HL.out; omega, rfl⟩, Up.refl _⟩
  case round =>
    obtain ⟨k, K, kn, kc, R, rn, rc, ks, ps, bs, rfl, rfl, rfl, hk, hkn, hrn, hK, hR, hP, HF, hu⟩ := hrel
    by_cases hlt : k < n
    · go_wp2_with fail
      refine (ftake_core A n c l k wr (hr.up hu) hn hc hk).mono ?_
      rintro e w1 ⟨A1, n1, c1, rfl, ho1, hu1⟩
      have hu2 := hu.trans hu1
      have hsz := hu.size
      have ho2 := own_base ho1 hsz
      have hK1 : OwnK w1 w.heap.size K kn kc ks := own_up hK hu1
      have hR1 : OwnR w1 w.heap.size R rn rc ps := own_up hR hu1
      have hP1 := hP.up hu1
      clear ho1 hK hR hP
      by_cases he : (takeR (l.drop k)).1 = 0
      · have hok := takeR_ok he
        have hst : ∃ f, n - (k + (takeR (l.drop k)).2.2.2) < f ∧ splitG l f (k + (takeR (l.drop k)).2.2.2) (ks ++ [(takeR (l.drop k)).2.1]) (bs ++ [(takeR (l.drop k)).2.2.1]) = splitL l := by
          obtain ⟨f, hf, h⟩ := HF.out
          match f, hf, h with
          | f + 1, hf, h =>
            refine ⟨f, by omega, ?_⟩
            rw [← h]
            conv => rhs; unfold splitG
            rw [if_pos (by rw [← HL.out]; exact hlt), if_pos he]
        have HST := Lib.hid hst
        rw [if_pos he, he]
        have hdl : (l.drop k).length = n - k := by rw [List.length_drop, HL.out]
        rw [hdl] at hok
        clear hst he HF hdl
        generalize (takeR (l.drop k)).2.1 = tk at *
        generalize (takeR (l.drop k)).2.2.1 = tb at *
        generalize (takeR (l.drop k)).2.2.2 = tn at *
        obtain ⟨q1, q2, -, q4⟩ := hok
        have hcast : (k : Int) + (tn : Int) = ((k + tn : Nat) : Int) := by omega
        rw [hcast]
        clear hcast
        go_wp2_with (first
          | (at_builtin; refine wpList_append_rd _ intsT (news := nvi [tk]) (World.ownsRow.alloc hK1 _) (Rd.box _ _ _) (nvi_one _) (by omega) (by omega) (by simp; have := hu2.size; omega) rfl rfl rfl rfl ?_; intro v3 w3 hown3 hg3 hat3; obtain ⟨K3, kc3, rfl⟩ := own_form hown3)
          | (at_builtin; refine wpList_append_rd _ rowsT (news := [Value.slice A1 n1 c1]) (World.ownsRow.alloc (own_far (World.ownsRow.alloc hK1 _) (World.ownsRow.alloc hR1 _) (by decide) hg3) _) (Rd.box _ _ _) (by intro u hu; simp at hu; subst hu; rfl) (by omega) (by omega) (by simp; have := hu2.size; have := hg3.size; simp at this; omega) rfl rfl rfl rfl ?_; intro v4 w4 hown4 hg4 hat4; obtain ⟨R4, rc4, rfl⟩ := own_form hown4))
        have hu3 : Up w w3 := (hu2.alloc _).grown hg3 (fun g hg => (hK1.lt g hg).1)
        have hu4 : Up w w4 := (hu3.alloc _).grown hg4 (fun g hg => (hR1.lt g hg).1)
        have hR3 : OwnR w3 w.heap.size R rn rc ps := own_far (World.ownsRow.alloc hK1 _) (World.ownsRow.alloc hR1 _) (by decide) hg3
        have hK4 : OwnK w4 w.heap.size K3 (kn + 1) kc3 (ks ++ [tk]) := by
          show World.ownsRow _ _ _ _ _ _ _
          have e : nvi (ks ++ [tk]) = nvi ks ++ nvi [tk] := by simp [nvi]
          rw [e]
          exact own_far (World.ownsRow.alloc hR3 _) (World.ownsRow.alloc hown3 _) (by decide) hg4
        have hR4 : OwnR w4 w.heap.size R4 (rn + 1) rc4 (ps ++ [⟨A1, n1, c1, tb⟩]) := by
          show World.ownsRow _ _ _ _ _ _ _
          have e : (ps ++ [(⟨A1, n1, c1, tb⟩ : Pt)]).map Pt.v = ps.map Pt.v ++ [Value.slice A1 n1 c1] := by simp [Pt.v]
          rw [e]; exact hown4
        have keepB : ∀ (A : Option Addr) (n c : Nat) (l : List UInt8), OwnB w1 w.heap.size A n c l → OwnB w4 w.heap.size A n c l := fun A n c l h =>
          own_far (World.ownsRow.alloc hR3 _) (World.ownsRow.alloc (own_far (World.ownsRow.alloc hK1 _) (World.ownsRow.alloc h _) (by decide) hg3) _) (by decide) hg4
        have hP4 : Pts w4 w.heap.size (ps ++ [⟨A1, n1, c1, tb⟩]) (bs ++ [tb]) := by
          refine ⟨by rw [List.map_append, hP1.1]; rfl, fun p hp => ?_⟩
          rcases List.mem_append.1 hp with hp | hp
          · exact keepB _ _ _ _ (hP1.2 p hp)
          · simp only [List.mem_singleton] at hp
            subst hp
            exact keepB _ _ _ _ ho2
        clear hg3 hg4 hat3 hat4 hown3 hown4
        go_roundw
        case rel => exact ⟨k + tn, K3, kn + 1, kc3, R4, rn + 1, rc4, ks ++ [tk], ps ++ [⟨A1, n1, c1, tb⟩], bs ++ [tb], by go_num, rfl, rfl, by omega, by omega, by omega, hK4, hR4, hP4, HST.out, hu4⟩
        case measure => simp [intOf]; omega
      · have hst : splitL l = (ks, bs, k, (takeR (l.drop k)).1) := by
          obtain ⟨f, hf, h⟩ := HF.out
          match f, hf, h with
          | f + 1, hf, h =>
            rw [← h]
            conv => lhs; unfold splitG
            rw [if_pos (by rw [← HL.out]; exact hlt), if_neg he]
        have HST := Lib.hid hst
        rw [if_neg he]
        clear hst HF
        generalize (takeR (l.drop k)).1 = E at *
        generalize (takeR (l.drop k)).2.1 = tk at *
        have hE5 : ¬ (E : Int) = 0 := by omega
        go_wp2_with fail
        refine bodyPost_ret (v := .tuple #[.slice K kn kc, .slice R rn rc, .int .i64 (k : Int), .int .i64 (E : Int)]) (by simp [results, Try.results59, go_sem]) rfl ?_
        rw [HST.out]
        exact ⟨K, kn, kc, R, rn, rc, ps, rfl, hK1, hR1, hP1, hu2⟩
    · have hkn' : k = n := by omega
      subst hkn'
      have hst : splitL l = (ks, bs, k, 0) := by
        obtain ⟨f, hf, h⟩ := HF.out
        match f, hf, h with
        | f + 1, hf, h =>
          rw [← h]
          conv => lhs; unfold splitG
          rw [if_neg (by rw [← HL.out]; exact hlt)]
      have HST := Lib.hid hst
      clear hst HF
      go_wp2_with fail
      refine bodyPost_ret (v := .tuple #[.slice K kn kc, .slice R rn rc, .int .i64 (k : Int), .int .i64 0]) (by simp [results, Try.results59, go_sem]) rfl ?_
      rw [HST.out]
      exact ⟨K, kn, kc, R, rn, rc, ps, rfl, hK, hR, hP, hu⟩
end Go.Proofs.Ytokcaoaclheiiaa
