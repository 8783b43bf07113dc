/-
  The walks of the document's answers for items: Key, May, Equal; of the law's Some.
-/
import Derived.Test.YtpifigalaembdaaItemW4
import Derived.Test.YtpifigalaembdaaRefW2
import Derived.Test.YtpifigalaembdaaTx
namespace Go.Proofs.Ytpifigalaembdaa
open Go.RowKit
set_option linter.unusedVariables false
set_option linter.unusedSimpArgs false

set_option maxRecDepth 100000 in
set_option maxHeartbeats 1600000 in
theorem rkey_any (i : It) (w : World) :
    Calls Try.prog 25 #[.agg #[.int .i64 i.s.toInt, .int .i64 i.k.toInt, .int .u64 (i.t.toNat : Int), .int .u64 (i.v.toNat : Int), .int .i64 i.x.toInt]] w fun e w' => ∃ s : ByteArray, e = .returned (.string s) ∧ Hid (s.data.toList = keyB i) ∧ Up w w' := by
  have HC := two_str i.s.toInt i.k.toInt
  have h8 := eightB_len i.t.toNat
  go_enter Try.func25, Try.ntmps25
  go_wp2_with fail
  generalize hW : w.alloc (.cells #[.int .i64 i.s.toInt, .int .i64 i.k.toInt, .int .u64 (i.t.toNat : Int), .int .u64 (i.v.toNat : Int), .int .i64 i.x.toInt] 24) = W
  have hg := item_held w i hW
  have hWw : Up w W := by rw [← hW]; exact (Up.refl _).alloc _
  generalize w.heap.size = g5 at *
  clear hW
  apply Rg.region_up _ (by kernel_rfl) (by kernel_rfl) hg
  · intro QN hQN
    iterate 6 (apply Rg.RK.ok; (· intro vs w1 hS; go_simp; with_reducible rfl); (· rfl); simp only [Act.put, List.setIfInBounds_toArray, List.set_cons_zero, List.set_cons_succ, Nat.reduceAdd])
    apply Rg.RK.opn (fun v W1 => ∃ g, v = .slice (some ⟨g, 0, none⟩) 2 2 ∧ W1.cell? ⟨g, 0, none⟩ = some (.int .u8 (IntKind.u8.wrap (i.s.toInt))) ∧ W1.cell? ⟨g, 1, none⟩ = some (.int .u8 (IntKind.u8.wrap (i.k.toInt)))) Rg.ob [] []
    · rintro v W1 W2 ⟨g, rfl, h0, h1⟩ hs
      exact ⟨g, rfl, sta_some hs h0 (.inr rfl), sta_some hs h1 (.inr rfl)⟩
    · rfl
    · intro vs w1 hK hS _ K hKK
      go_simp
      refine hKK.out _ _ ⟨w1.heap.size, rfl, by simp [World.cell?_alloc_at _ _ _ _ rfl], by simp [World.cell?_alloc_at _ _ _ _ rfl]⟩ (Rg.Keeps.of_up ((Up.refl _).alloc _)) ?_
      rintro g rfl
      exact ⟨by simp, .inl (Nat.le_refl _)⟩
    simp only [Act.put, List.setIfInBounds_toArray, List.set_cons_zero, List.set_cons_succ, Nat.reduceAdd]
    apply Rg.RK.okU [6]
    · intro vs w1 hS hf
      obtain ⟨⟨g, hv, h0, h1⟩, -⟩ := hf
      rw [hv]
      go_simp
      with_reducible rfl
    · rfl
    simp only [Act.put, List.setIfInBounds_toArray, List.set_cons_zero, List.set_cons_succ, Nat.reduceAdd]
    iterate 2 (apply Rg.RK.ok; (· intro vs w1 hS; go_simp; with_reducible rfl); (· rfl); simp only [Act.put, List.setIfInBounds_toArray, List.set_cons_zero, List.set_cons_succ, Nat.reduceAdd])
    apply Rg.RK.call (.string (tx (eightB i.t.toNat))) []
    · rfl
    · intro vs w1 hK hS _ K hKK
      go_simp
      refine (reight_any _ _ (by have := i.t.toNat_lt; omega)).mono ?_
      rintro e w2 ⟨s1, rfl, hs1, hu1⟩
      rw [tx_of hs1.out]
      exact hKK.out _ hu1
    simp only [Act.put, List.setIfInBounds_toArray, List.set_cons_zero, List.set_cons_succ, Nat.reduceAdd]
    (apply Rg.RK.ok; (· intro vs w1 hS; go_simp; rw [if_neg (by simp [tx_size, cc_length]; omega), tx_append]); (· rfl); simp only [Act.put, List.setIfInBounds_toArray, List.set_cons_zero, List.set_cons_succ, Nat.reduceAdd])
    (apply Rg.RK.ok; (· intro vs w1 hS; go_simp; with_reducible rfl); (· rfl); simp only [Act.put, List.setIfInBounds_toArray, List.set_cons_zero, List.set_cons_succ, Nat.reduceAdd])
    apply Rg.RK.fin []
    intro vs w1 hK hS _
    refine hQN.out _ _ ?_
    clear hQN
    have hUW := hWw.trans (keeps_up hK)
    go_wp2_with fail
    go_ret
    refine ⟨_, rfl, ?_, hUW⟩
    show _ = _
    rw [tx_list]; rfl
  · kernel_rfl
end Go.Proofs.Ytpifigalaembdaa
