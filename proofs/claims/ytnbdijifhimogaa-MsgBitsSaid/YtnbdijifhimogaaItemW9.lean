/-
  The walk of clepsydraref5.Bytes.
-/
import Derived.Test.YtnbdijifhimogaaItemW5
import Derived.Test.YtnbdijifhimogaaTx
namespace Go.Proofs.Ytnbdijifhimogaa
open Go.RowKit
set_option linter.unusedVariables false
set_option linter.unusedSimpArgs false

set_option maxRecDepth 100000 in
set_option maxHeartbeats 1600000 in
theorem rbytes_any (Q : Option Addr) (m d : Nat) (l : List It) (w : World) (hq : Rd w w.heap.size 5 Q m (itcs l)) (hm : m ≤ 2000) :
    Calls Try.prog 31 #[.slice Q m d] w fun e w' => ∃ s : ByteArray, e = .returned (.string s) ∧ Hid (s.data.toList = itemsB l) ∧ Up w w' := by
  have HL := Lib.hid hq.ilen
  go_enter Try.func31, Try.ntmps31
  go_wp2_with fail
  refine (rnum_any m _ (by omega)).mono ?_
  rintro e w1 ⟨s0, rfl, hs0, hu1⟩
  go_wp2_with fail
  go_loopw [3, 4] (fun sv i wr => ∃ (k : Nat) (L : List UInt8), i = .int .i64 (k : Int) ∧ sv = .string (tx L) ∧ k ≤ m ∧ Hid (L = numB m ++ (l.take k).flatMap itB) ∧ L.length ≤ 10 + 32 * k ∧ Up w wr) (fun _ i _ => m - (intOf i).toNat)
  case atStart =>
    refine ⟨0, numB m, rfl, ?_, by omega, by show _ = _; simp, by have := numB_ten (n := m) (by omega); omega, hu1⟩
    rw [tx_of hs0.out]
  case round =>
    obtain ⟨k, L, rfl, rfl, hk, hs, hss, hu⟩ := hrel
    by_cases hlt : k < m
    · obtain ⟨b, o, i, rfl, hb, hik, c0, c1, c2, c3, c4⟩ := (hq.stay (Nat.le_refl _) hu).item_at hlt
      have HI := Lib.hid hik
      clear hik
      go_wp2_with fail
      have hWw : Up w (wr.alloc (.cells #[.int .i64 i.s.toInt, .int .i64 i.k.toInt, .int .u64 (i.t.toNat : Int), .int .u64 (i.v.toNat : Int), .int .i64 i.x.toInt] 27)) := hu.alloc _
      generalize hW : wr.alloc (.cells #[.int .i64 i.s.toInt, .int .i64 i.k.toInt, .int .u64 (i.t.toNat : Int), .int .u64 (i.v.toNat : Int), .int .i64 i.x.toInt] 27) = W at *
      have hg := item_held wr i hW
      generalize wr.heap.size = g5 at *
      clear hW c0 c1 c2 c3 c4
      have HC := two_str i.s.toInt i.k.toInt
      have hn1 := numB_ten i.t.toNat_lt
      have hn2 := numB_ten i.v.toNat_lt
      have hsl := signN_lt i.x.toInt (i64_bd i.x).1 (i64_bd i.x).2
      have hn3 := numB_ten hsl
      apply Rg.region_up _ (by kernel_rfl) (by kernel_rfl) hg
      · intro QN hQN
        iterate 7 (apply Rg.RK.ok; (· intro vs w1 hS; go_simp; with_reducible rfl); (· rfl); simp only [Act.put, List.setIfInBounds_toArray, List.set_cons_zero, List.set_cons_succ, Nat.reduceAdd])
        apply Rg.RK.opn (fun v W1 => ∃ g, v = .slice (some ⟨g, 0, none⟩) 2 2 ∧ W1.cell? ⟨g, 0, none⟩ = some (.int .u8 (IntKind.u8.wrap (i.s.toInt))) ∧ W1.cell? ⟨g, 1, none⟩ = some (.int .u8 (IntKind.u8.wrap (i.k.toInt)))) Rg.ob [] []
        · rintro v W1 W2 ⟨g, rfl, h0, h1⟩ hs
          exact ⟨g, rfl, sta_some hs h0 (.inr rfl), sta_some hs h1 (.inr rfl)⟩
        · rfl
        · intro vs w1 hK hS _ K hKK
          go_simp
          refine hKK.out _ _ ⟨w1.heap.size, rfl, by simp [World.cell?_alloc_at _ _ _ _ rfl], by simp [World.cell?_alloc_at _ _ _ _ rfl]⟩ (Rg.Keeps.of_up ((Up.refl _).alloc _)) ?_
          rintro g rfl
          exact ⟨by simp, .inl (Nat.le_refl _)⟩
        simp only [Act.put, List.setIfInBounds_toArray, List.set_cons_zero, List.set_cons_succ, Nat.reduceAdd]
        apply Rg.RK.okU [7]
        · intro vs w1 hS hf
          obtain ⟨⟨g, hv, h0, h1⟩, -⟩ := hf
          rw [hv]
          go_simp
          with_reducible rfl
        · rfl
        simp only [Act.put, List.setIfInBounds_toArray, List.set_cons_zero, List.set_cons_succ, Nat.reduceAdd]
        (apply Rg.RK.ok; (· intro vs w1 hS; go_simp; rw [if_neg (by simp [tx_size, cc_length]; omega), tx_append]); (· rfl); simp only [Act.put, List.setIfInBounds_toArray, List.set_cons_zero, List.set_cons_succ, Nat.reduceAdd])
        iterate 2 (apply Rg.RK.ok; (· intro vs w1 hS; go_simp; with_reducible rfl); (· rfl); simp only [Act.put, List.setIfInBounds_toArray, List.set_cons_zero, List.set_cons_succ, Nat.reduceAdd])
        apply Rg.RK.call (.string (tx (numB i.t.toNat))) []
        · rfl
        · intro vs w1 hK hS _ K hKK
          go_simp
          refine (rnum_any _ _ (by have := i.t.toNat_lt; omega)).mono ?_
          rintro e w2 ⟨s1, rfl, hs1, hu1⟩
          rw [tx_of hs1.out]
          exact hKK.out _ hu1
        simp only [Act.put, List.setIfInBounds_toArray, List.set_cons_zero, List.set_cons_succ, Nat.reduceAdd]
        (apply Rg.RK.ok; (· intro vs w1 hS; go_simp; rw [if_neg (by simp [tx_size, cc_length]; omega), tx_append]); (· rfl); simp only [Act.put, List.setIfInBounds_toArray, List.set_cons_zero, List.set_cons_succ, Nat.reduceAdd])
        iterate 2 (apply Rg.RK.ok; (· intro vs w1 hS; go_simp; with_reducible rfl); (· rfl); simp only [Act.put, List.setIfInBounds_toArray, List.set_cons_zero, List.set_cons_succ, Nat.reduceAdd])
        apply Rg.RK.call (.string (tx (numB i.v.toNat))) []
        · rfl
        · intro vs w1 hK hS _ K hKK
          go_simp
          refine (rnum_any _ _ (by have := i.v.toNat_lt; omega)).mono ?_
          rintro e w2 ⟨s1, rfl, hs1, hu1⟩
          rw [tx_of hs1.out]
          exact hKK.out _ hu1
        simp only [Act.put, List.setIfInBounds_toArray, List.set_cons_zero, List.set_cons_succ, Nat.reduceAdd]
        (apply Rg.RK.ok; (· intro vs w1 hS; go_simp; rw [if_neg (by simp [tx_size, cc_length]; omega), tx_append]); (· rfl); simp only [Act.put, List.setIfInBounds_toArray, List.set_cons_zero, List.set_cons_succ, Nat.reduceAdd])
        iterate 2 (apply Rg.RK.ok; (· intro vs w1 hS; go_simp; with_reducible rfl); (· rfl); simp only [Act.put, List.setIfInBounds_toArray, List.set_cons_zero, List.set_cons_succ, Nat.reduceAdd])
        apply Rg.RK.call (.int .u64 (signN i.x.toInt : Int)) []
        · rfl
        · intro vs w1 hK hS _ K hKK
          go_simp
          refine (rsign_any _ _ (i64_bd i.x).1 (i64_bd i.x).2).mono ?_
          rintro e w2 ⟨rfl, rfl⟩
          exact hKK.out _ (Up.refl _)
        simp only [Act.put, List.setIfInBounds_toArray, List.set_cons_zero, List.set_cons_succ, Nat.reduceAdd]
        apply Rg.RK.call (.string (tx (numB (signN i.x.toInt)))) []
        · rfl
        · intro vs w1 hK hS _ K hKK
          go_simp
          refine (rnum_any _ _ (by omega)).mono ?_
          rintro e w2 ⟨s1, rfl, hs1, hu1⟩
          rw [tx_of hs1.out]
          exact hKK.out _ hu1
        simp only [Act.put, List.setIfInBounds_toArray, List.set_cons_zero, List.set_cons_succ, Nat.reduceAdd]
        (apply Rg.RK.ok; (· intro vs w1 hS; go_simp; rw [if_neg (by simp [tx_size, cc_length]; omega), tx_append]); (· rfl); simp only [Act.put, List.setIfInBounds_toArray, List.set_cons_zero, List.set_cons_succ, Nat.reduceAdd])
        (apply Rg.RK.ok; (· intro vs w1 hS; go_simp; with_reducible rfl); (· rfl); simp only [Act.put, List.setIfInBounds_toArray, List.set_cons_zero, List.set_cons_succ, Nat.reduceAdd])
        apply Rg.RK.fin []
        intro vs w1 hK hS _
        refine hQN.out _ _ ?_
        clear hQN
        have hUW : Up w w1 := hWw.trans (keeps_up hK)
        clear hg HC hK hS
        go_wp2_with fail
        go_roundw
        case rel =>
          have hkl : k < l.length := by have := HL.out; omega
          have htk : l.take (k + 1) = l.take k ++ [i] := by
            rw [List.take_succ_eq_append_getElem hkl]
            have := HI.out
            rw [List.getElem?_eq_getElem hkl] at this
            injection this with this
            rw [this]
          refine ⟨k + 1, _, by go_num, rfl, by omega, ?_, ?_, hUW⟩
          · show _ = _
            rw [htk, List.flatMap_append, hs.out]
            simp [cc, itB]
          · simp only [cc_length, List.length_cons, List.length_nil]; omega
        case measure => simp [intOf]; omega
      · kernel_rfl
    · have hkm : k = m := by omega
      have hlm : l.take k = l := by rw [List.take_of_length_le (by have := HL.out; omega)]
      go_wp2_with fail
      go_ret
      refine ⟨_, rfl, ?_, hu⟩
      show _ = _
      rw [tx_list, hs.out, hlm, itemsB, HL.out]
end Go.Proofs.Ytnbdijifhimogaa
