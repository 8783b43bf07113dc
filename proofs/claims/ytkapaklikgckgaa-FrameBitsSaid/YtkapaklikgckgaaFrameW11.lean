/-
  The walk of clepsydraref1.Split.
-/
import Derived.Test.YtkapaklikgckgaaFrameW10
namespace Go.Proofs.Ytkapaklikgckgaa
open Go.RowKit
set_option linter.unusedVariables false
set_option linter.unusedSimpArgs false

theorem strsT : SlT Try.prog 42 9 1 16 := SlT.mk' Try.underlying42 (z := .string (ByteArray.mk #[])) (by kernel_rfl) rfl (by decide)
def nstr (l : List (List UInt8)) : List Value := l.map fun b => Value.string (tx b)
def OwnS (w : World) (base : Nat) (A : Option Addr) (n c : Nat) (l : List (List UInt8)) : Prop := w.ownsRow base 9 1 (.slice A n c) n (nstr l)
/-- what Split comes to -/
def RsPost (t : List Nat × List (List UInt8) × Nat × Nat) (w : World) (e : Ending) (w' : World) : Prop :=
  ∃ K kn kc R rn rc, e = .returned (.tuple #[.slice K kn kc, .slice R rn rc, .int .i64 (t.2.2.1 : Int), .int .i64 (t.2.2.2 : Int)]) ∧ OwnK w' w.heap.size K kn kc t.1 ∧ OwnS w' w.heap.size R rn rc t.2.1 ∧ Up w w'

set_option maxRecDepth 100000 in
set_option maxHeartbeats 1600000 in
theorem rsplit_any (l : List UInt8) (w : World) (hn : l.length ≤ 549755813888) :
    Calls Try.prog 17 #[.string (tx l)] w (RsPost (splitL l) w) := by
  have hz := tx_size l
  obtain ⟨n, hN⟩ : ∃ n, n = l.length := ⟨_, rfl⟩
  rw [← hN] at hz hn
  have HL := Lib.hid hN
  clear hN
  go_enter Try.func17, Try.ntmps17
  go_wp2_with fail
  go_loopw [6, 7, 8] (fun kv rv i wr => ∃ (k : Nat) (K : Option Addr) (kn kc : Nat) (R : Option Addr) (rn rc : Nat) (ks : List Nat) (bs : List (List UInt8)), i = .int .i64 (k : Int) ∧ kv = .slice K kn kc ∧ rv = .slice R rn rc ∧ k ≤ n ∧ kn ≤ k ∧ rn ≤ k ∧
      OwnK wr w.heap.size K kn kc ks ∧ OwnS wr w.heap.size R rn rc bs ∧ Hid (∃ f, n - k < f ∧ splitG l f k ks bs = splitL l) ∧ Up w wr) (fun _ _ i _ => n - (intOf i).toNat)
  case atStart => exact ⟨0, none, 0, 0, none, 0, 0, [], [], rfl, rfl, rfl, by omega, by omega, by omega, World.ownsRow_nil _ _ _ _, World.ownsRow_nil _ _ _ _, ⟨l.length + 1, by have := HL.out; omega, rfl⟩, Up.refl _⟩
  case round =>
    obtain ⟨k, K, kn, kc, R, rn, rc, ks, bs, rfl, rfl, rfl, hk, hkn, hrn, hK, hR, HF, hu⟩ := hrel
    by_cases hlt : k < n
    · go_wp2_with fail
      refine (unframe_core l k wr (by rw [← HL.out]; exact hn) (by rw [← HL.out]; exact hk)).mono ?_
      rintro e w1 ⟨rfl, hu1⟩
      have hu2 := hu.trans hu1
      have hsz := hu.size
      have hK1 : OwnK w1 w.heap.size K kn kc ks := own_up hK hu1
      have hR1 : OwnS w1 w.heap.size R rn rc bs := own_up hR hu1
      clear hK hR
      by_cases he : (takeR (l.drop k)).1 = 0
      · have hok := takeR_ok he
        have hst : ∃ f, n - (k + (takeR (l.drop k)).2.2.2) < f ∧ splitG l f (k + (takeR (l.drop k)).2.2.2) (ks ++ [(takeR (l.drop k)).2.1]) (bs ++ [(takeR (l.drop k)).2.2.1]) = splitL l := by
          obtain ⟨f, hf, h⟩ := HF.out
          match f, hf, h with
          | f + 1, hf, h =>
            refine ⟨f, by omega, ?_⟩
            rw [← h]
            conv => rhs; unfold splitG
            rw [if_pos (by rw [← HL.out]; exact hlt), if_pos he]
        have HST := Lib.hid hst
        rw [if_pos he, he]
        have hdl : (l.drop k).length = n - k := by rw [List.length_drop, ← HL.out]
        rw [hdl] at hok
        clear hst he HF hdl
        generalize (takeR (l.drop k)).2.1 = tk at *
        generalize (takeR (l.drop k)).2.2.1 = tb at *
        generalize (takeR (l.drop k)).2.2.2 = tn at *
        obtain ⟨q1, q2, -, q4⟩ := hok
        have hcast : (k : Int) + (tn : Int) = ((k + tn : Nat) : Int) := by omega
        rw [hcast]
        clear hcast
        go_wp2_with (first
          | (at_builtin; refine wpList_append_rd _ intsT (news := nvi [tk]) (World.ownsRow.alloc hK1 _) (Rd.box _ _ _) (nvi_one _) (by omega) (by omega) (by simp; have := hu2.size; omega) rfl rfl rfl rfl ?_; intro v3 w3 hown3 hg3 hat3; obtain ⟨K3, kc3, rfl⟩ := own_form hown3)
          | (at_builtin; refine wpList_append_rd _ strsT (news := [Value.string (tx tb)]) (World.ownsRow.alloc (own_far (World.ownsRow.alloc hK1 _) (World.ownsRow.alloc hR1 _) (by decide) hg3) _) (Rd.box _ _ _) (by intro u hu; simp at hu; subst hu; rfl) (by omega) (by omega) (by simp; have := hu2.size; have := hg3.size; simp at this; omega) rfl rfl rfl rfl ?_; intro v4 w4 hown4 hg4 hat4; obtain ⟨R4, rc4, rfl⟩ := own_form hown4))
        have hu3 : Up w w3 := (hu2.alloc _).grown hg3 (fun g hg => (hK1.lt g hg).1)
        have hu4 : Up w w4 := (hu3.alloc _).grown hg4 (fun g hg => (hR1.lt g hg).1)
        have hR3 : OwnS w3 w.heap.size R rn rc bs := own_far (World.ownsRow.alloc hK1 _) (World.ownsRow.alloc hR1 _) (by decide) hg3
        have hK4 : OwnK w4 w.heap.size K3 (kn + 1) kc3 (ks ++ [tk]) := by
          show World.ownsRow _ _ _ _ _ _ _
          have e : nvi (ks ++ [tk]) = nvi ks ++ nvi [tk] := by simp [nvi]
          rw [e]
          exact own_far (World.ownsRow.alloc hR3 _) (World.ownsRow.alloc hown3 _) (by decide) hg4
        have hR4 : OwnS w4 w.heap.size R4 (rn + 1) rc4 (bs ++ [tb]) := by
          show World.ownsRow _ _ _ _ _ _ _
          have e : nstr (bs ++ [tb]) = nstr bs ++ [Value.string (tx tb)] := by simp [nstr]
          rw [e]; exact hown4
        clear hg3 hg4 hat3 hat4 hown3 hown4
        go_roundw
        case rel => exact ⟨k + tn, K3, kn + 1, kc3, R4, rn + 1, rc4, ks ++ [tk], bs ++ [tb], by go_num, rfl, rfl, by omega, by omega, by omega, hK4, hR4, HST.out, hu4⟩
        case measure => simp [intOf]; omega
      · have hst : splitL l = (ks, bs, k, (takeR (l.drop k)).1) := by
          obtain ⟨f, hf, h⟩ := HF.out
          match f, hf, h with
          | f + 1, hf, h =>
            rw [← h]
            conv => lhs; unfold splitG
            rw [if_pos (by rw [← HL.out]; exact hlt), if_neg he]
        have HST := Lib.hid hst
        rw [if_neg he]
        clear hst HF
        generalize (takeR (l.drop k)).1 = E at *
        generalize (takeR (l.drop k)).2.1 = tk at *
        generalize (takeR (l.drop k)).2.2.1 = tb at *
        have hE5 : ¬ (E : Int) = 0 := by omega
        go_wp2_with fail
        refine bodyPost_ret (v := .tuple #[.slice K kn kc, .slice R rn rc, .int .i64 (k : Int), .int .i64 (E : Int)]) (by simp [results, Try.results17, go_sem]) rfl ?_
        rw [HST.out]
        exact ⟨K, kn, kc, R, rn, rc, rfl, hK1, hR1, hu2⟩
    · have hkn' : k = n := by omega
      subst hkn'
      have hst : splitL l = (ks, bs, k, 0) := by
        obtain ⟨f, hf, h⟩ := HF.out
        match f, hf, h with
        | f + 1, hf, h =>
          rw [← h]
          conv => lhs; unfold splitG
          rw [if_neg (by rw [← HL.out]; exact hlt)]
      have HST := Lib.hid hst
      clear hst HF
      go_wp2_with fail
      refine bodyPost_ret (v := .tuple #[.slice K kn kc, .slice R rn rc, .int .i64 (k : Int), .int .i64 0]) (by simp [results, Try.results17, go_sem]) rfl ?_
      rw [HST.out]
      exact ⟨K, kn, kc, R, rn, rc, rfl, hK, hR, hu⟩
end Go.Proofs.Ytkapaklikgckgaa
