/-
  The law ItemOrders: the walk.
-/
import Derived.Test.YtpifigalaembdaaItemW6
import Derived.Test.YtpifigalaembdaaOpenI
import Derived.Test.YtpifigalaembdaaOpenQ
import Derived.Test.YtpifigalaembdaaTx
import Derived.Test.YtpifigalaembdaaNumLaw
namespace Go.Proofs.Ytpifigalaembdaa.itemOrders
open Go.RowKit
set_option linter.unusedVariables false
set_option linter.unusedSimpArgs false

theorem three {w : World} {B n : Nat} {A : Option Addr} {xs : List Value} (h : Rd w B 1 A n xs) (hn : 3 ≤ n) (hB : B ≤ w.heap.size) : ∃ b o u0 u1 u2, A = some ⟨b, o, none⟩ ∧ xs[0]? = some u0 ∧ xs[1]? = some u1 ∧ xs[2]? = some u2 ∧ ∀ W, Up w W → W.cell? ⟨b, o, none⟩ = some u0 ∧ W.cell? ⟨b, o + 1, none⟩ = some u1 ∧ W.cell? ⟨b, o + 2, none⟩ = some u2 := by
  have hl := h.1
  rw [Nat.mul_one] at hl
  obtain ⟨b, o, e, hb, hc⟩ := h.2 (by omega)
  refine ⟨b, o, xs[0]'(by omega), xs[1]'(by omega), xs[2]'(by omega), e, by simp, by simp, by simp, fun W hW => ⟨?_, ?_, ?_⟩⟩
  · exact (hW.cell (p := ⟨b, o, none⟩) (show b < _ by omega)).trans (by simpa using hc 0 (xs[0]'(by omega)) (by simp))
  · exact (hW.cell (p := ⟨b, o + 1, none⟩) (show b < _ by omega)).trans (hc 1 (xs[1]'(by omega)) (by simp))
  · exact (hW.cell (p := ⟨b, o + 2, none⟩) (show b < _ by omega)).trans (hc 2 (xs[2]'(by omega)) (by simp))

theorem ok_bd {i : It} (h : okB i = true) : 0 ≤ i.s.toInt ∧ i.s.toInt ≤ 255 ∧ 1 ≤ i.k.toInt ∧ i.k.toInt ≤ 2 := by
  simp only [okB, okZ, decide_eq_true_eq] at h; omega
theorem byteOf_val {z : Int} (h0 : 0 ≤ z) (h1 : z ≤ 255) : ((byteOf z).toNat : Int) = z := by
  unfold byteOf; simp; omega
theorem key_less {i j : It} (hi : okB i = true) (hj : okB j = true) : Op.bytesLess (keyB i) (keyB j) = lessB i j := by
  obtain ⟨a1, a2, a3, a4⟩ := ok_bd hi
  obtain ⟨b1, b2, b3, b4⟩ := ok_bd hj
  have s1 := byteOf_val a1 a2
  have s2 := byteOf_val b1 b2
  have k1 := byteOf_val (z := i.k.toInt) (by omega) (by omega)
  have k2 := byteOf_val (z := j.k.toInt) (by omega) (by omega)
  have h8 := less_eightB i.t.toNat_lt j.t.toNat_lt
  simp only [keyB, Op.bytesLess, h8, lessB, lessZ]
  rw [Bool.eq_iff_iff]
  simp only [Bool.or_eq_true, Bool.and_eq_true, decide_eq_true_eq, beq_iff_eq, UInt8.lt_iff_toNat_lt, ← UInt8.toNat_inj]
  omega
theorem key_same {i j : It} (hi : okB i = true) (hj : okB j = true) : (keyB i == keyB j) = sameB i j := by
  obtain ⟨a1, a2, a3, a4⟩ := ok_bd hi
  obtain ⟨b1, b2, b3, b4⟩ := ok_bd hj
  have s1 := byteOf_val a1 a2
  have s2 := byteOf_val b1 b2
  have k1 := byteOf_val (z := i.k.toInt) (by omega) (by omega)
  have k2 := byteOf_val (z := j.k.toInt) (by omega) (by omega)
  rw [Bool.eq_iff_iff]
  simp only [sameB, lessB, lessZ, beq_iff_eq, keyB, List.cons.injEq, Bool.and_eq_true, Bool.not_eq_true', decide_eq_false_iff_not, ← UInt8.toNat_inj]
  constructor
  · rintro ⟨h1, h2, h3⟩
    have := eightB_inj i.t.toNat_lt j.t.toNat_lt h3
    omega
  · intro h
    have ht : i.t.toNat = j.t.toNat := by omega
    rw [ht]
    exact ⟨by omega, by omega, rfl⟩
theorem less_asym {i j : It} (h : lessB i j = true) : lessB j i = false := by
  simp only [lessB, lessZ, decide_eq_true_eq, decide_eq_false_iff_not] at *; omega
theorem less_trans {i j k : It} (h : lessB i j = true) (h2 : lessB j k = true) : lessB i k = true := by
  simp only [lessB, lessZ, decide_eq_true_eq] at *; omega
theorem less_irr (i : It) : lessB i i = false := by simp only [lessB, lessZ, decide_eq_false_iff_not]; omega
theorem same_self (i : It) : sameB i i = true := by simp [sameB, less_irr]

abbrev itv (i : It) : Value := .agg #[.int .i64 i.s.toInt, .int .i64 i.k.toInt, .int .u64 (i.t.toNat : Int), .int .u64 (i.v.toNat : Int), .int .i64 i.x.toInt]
/-- the item's five cells stand at the head of this block -/
def At (i : It) (v : Value) (W : World) : Prop := ∃ g, v = .pointer (some ⟨g, 0, none⟩) ∧ W.heap[g]? = some (.cells #[.int .i64 i.s.toInt, .int .i64 i.k.toInt, .int .u64 (i.t.toNat : Int), .int .u64 (i.v.toNat : Int), .int .i64 i.x.toInt] 24 (0, 0))
def New (v : Value) (W : World) : Prop := ∃ g, v = .pointer (some ⟨g, 0, none⟩) ∧ W.heap[g]? = some (.cells #[.int .i64 0, .int .i64 0, .int .u64 0, .int .u64 0, .int .i64 0] 24 (0, 0))
theorem At.sta {i : It} {v : Value} {w w' : World} {Y : Nat → Prop} (h : At i v w) (hs : Rg.Sta (fun g => Y g ∨ Rg.ob v g) w w') : At i v w' := by
  obtain ⟨g, rfl, hh⟩ := h
  exact ⟨g, rfl, (hs.block g (Array.getElem?_eq_some_iff.1 hh).1 (.inr rfl)).trans hh⟩
theorem New.sta {v : Value} {w w' : World} {Y : Nat → Prop} (h : New v w) (hs : Rg.Sta (fun g => Y g ∨ Rg.ob v g) w w') : New v w' := by
  obtain ⟨g, rfl, hh⟩ := h
  exact ⟨g, rfl, (hs.block g (Array.getElem?_eq_some_iff.1 hh).1 (.inr rfl)).trans hh⟩

theorem At.held {i : It} {v : Value} {W : World} (h : At i v W) : ∃ g, v = .pointer (some ⟨g, 0, none⟩) ∧ ∀ w1, Up W w1 → w1.cell? ⟨g, 0, none⟩ = some (.int .i64 i.s.toInt) ∧ w1.cell? ⟨g, 1, none⟩ = some (.int .i64 i.k.toInt) ∧ w1.cell? ⟨g, 2, none⟩ = some (.int .u64 (i.t.toNat : Int)) ∧ w1.cell? ⟨g, 3, none⟩ = some (.int .u64 (i.v.toNat : Int)) ∧ w1.cell? ⟨g, 4, none⟩ = some (.int .i64 i.x.toInt) := by
  obtain ⟨g, rfl, hh⟩ := h
  refine ⟨g, rfl, fun w1 hu => ?_⟩
  have hb := (hu.block g (Array.getElem?_eq_some_iff.1 hh).1).trans hh
  exact ⟨blk_cell hb 0, blk_cell hb 1, blk_cell hb 2, blk_cell hb 3, blk_cell hb 4⟩

set_option maxRecDepth 100000 in
set_option maxHeartbeats 1600000 in
theorem law_core (bs os bk ok bt ot : Nat) (n0 c0 n1 c1 n2 c2 : Nat) (s0 s1 s2 k0 k1 k2 : Int) (t0 t1 t2 : Int) (S0 S1 S2 T0 T1 T2 : Nat) (i j k : It) (w : World)
    (h0 : (3 : Int) ≤ n0) (h1 : (3 : Int) ≤ n1) (h2 : (3 : Int) ≤ n2)
    (hs : ∀ W, Up w W → W.cell? ⟨bs, os, none⟩ = some (.int .i64 s0) ∧ W.cell? ⟨bs, os + 1, none⟩ = some (.int .i64 s1) ∧ W.cell? ⟨bs, os + 2, none⟩ = some (.int .i64 s2))
    (hk : ∀ W, Up w W → W.cell? ⟨bk, ok, none⟩ = some (.int .i64 k0) ∧ W.cell? ⟨bk, ok + 1, none⟩ = some (.int .i64 k1) ∧ W.cell? ⟨bk, ok + 2, none⟩ = some (.int .i64 k2))
    (ht : ∀ W, Up w W → W.cell? ⟨bt, ot, none⟩ = some (.int .u64 t0) ∧ W.cell? ⟨bt, ot + 1, none⟩ = some (.int .u64 t1) ∧ W.cell? ⟨bt, ot + 2, none⟩ = some (.int .u64 t2))
    (e0 : bits .and .i64 s0 3 = (S0 : Int)) (e1 : bits .and .i64 s1 3 = (S1 : Int)) (e2 : bits .and .i64 s2 3 = (S2 : Int))
    (f0 : bits .and .u64 t0 7 = (T0 : Int)) (f1 : bits .and .u64 t1 7 = (T1 : Int)) (f2 : bits .and .u64 t2 7 = (T2 : Int))
    (C0 : Hid (∀ W, Calls Try.prog 16 #[.int .i64 (S0 : Int), .int .i64 k0, .int .u64 (T0 : Int), .int .u64 1, .int .i64 0] W fun e w' => e = .returned (itv i) ∧ Up W w'))
    (C1 : Hid (∀ W, Calls Try.prog 16 #[.int .i64 (S1 : Int), .int .i64 k1, .int .u64 (T1 : Int), .int .u64 2, .int .i64 0] W fun e w' => e = .returned (itv j) ∧ Up W w'))
    (C2 : Hid (∀ W, Calls Try.prog 16 #[.int .i64 (S2 : Int), .int .i64 k2, .int .u64 (T2 : Int), .int .u64 3, .int .i64 0] W fun e w' => e = .returned (itv k) ∧ Up W w'))
    (oi : Hid (okB i = true)) (oj : Hid (okB j = true)) (ok' : Hid (okB k = true)) :
    Calls Try.prog 6 #[.slice (some ⟨bs, os, none⟩) n0 c0, .slice (some ⟨bk, ok, none⟩) n1 c1, .slice (some ⟨bt, ot, none⟩) n2 c2] w fun e w' => e = .returned (.bool true) ∧ Up w w' := by
  have g0 : decide ((n0 : Int) < 3) = false := by simp; omega
  have g1 : decide ((n1 : Int) < 3) = false := by simp; omega
  have g2 : decide ((n2 : Int) < 3) = false := by simp; omega
  have a0 : (0 : Int) < n0 := by omega
  have a1 : (0 : Int) < n1 := by omega
  have a2 : (0 : Int) < n2 := by omega
  have b0 : (1 : Int) < n0 := by omega
  have b1 : (1 : Int) < n1 := by omega
  have b2 : (1 : Int) < n2 := by omega
  have d0 : (2 : Int) < n0 := by omega
  have d1 : (2 : Int) < n1 := by omega
  have d2 : (2 : Int) < n2 := by omega
  have z0 : 0 < n0 := by omega
  have z1 : 0 < n1 := by omega
  have z2 : 0 < n2 := by omega
  have y0 : 1 < n0 := by omega
  have y1 : 1 < n1 := by omega
  have y2 : 1 < n2 := by omega
  have x0 : 2 < n0 := by omega
  have x1 : 2 < n1 := by omega
  have x2 : 2 < n2 := by omega
  have hS : ∀ W, Up w W → (W.cell? ⟨bs, os, none⟩ = some (.int .i64 s0) ∧ W.cell? ⟨bs, os + 1, none⟩ = some (.int .i64 s1) ∧ W.cell? ⟨bs, os + 2, none⟩ = some (.int .i64 s2)) ∧
      (W.cell? ⟨bk, ok, none⟩ = some (.int .i64 k0) ∧ W.cell? ⟨bk, ok + 1, none⟩ = some (.int .i64 k1) ∧ W.cell? ⟨bk, ok + 2, none⟩ = some (.int .i64 k2)) ∧
      (W.cell? ⟨bt, ot, none⟩ = some (.int .u64 t0) ∧ W.cell? ⟨bt, ot + 1, none⟩ = some (.int .u64 t1) ∧ W.cell? ⟨bt, ot + 2, none⟩ = some (.int .u64 t2)) := fun W h => ⟨hs W h, hk W h, ht W h⟩
  clear hs hk ht
  go_enter Try.func6, Try.ntmps6
  go_wp2_with fail
  apply Rg.region_up _ (by kernel_rfl) (by kernel_rfl) hS
  · intro QN hQN
    iterate 11 (apply Rg.RK.ok; (· intro vs w1 hS; go_simp; with_reducible rfl); (· rfl); simp only [Act.put, List.setIfInBounds_toArray, List.set_cons_zero, List.set_cons_succ, Nat.reduceAdd])
    apply Rg.RK.call (itv i) []
    · rfl
    · intro vs w1 hK hS _ K hKK
      go_simp
      refine (C0.out _).mono ?_
      rintro e w2 ⟨rfl, hu2⟩
      exact hKK.out _ hu2
    simp only [Act.put, List.setIfInBounds_toArray, List.set_cons_zero, List.set_cons_succ, Nat.reduceAdd]
    iterate 11 (apply Rg.RK.ok; (· intro vs w1 hS; go_simp; with_reducible rfl); (· rfl); simp only [Act.put, List.setIfInBounds_toArray, List.set_cons_zero, List.set_cons_succ, Nat.reduceAdd])
    apply Rg.RK.call (itv j) []
    · rfl
    · intro vs w1 hK hS _ K hKK
      go_simp
      refine (C1.out _).mono ?_
      rintro e w2 ⟨rfl, hu2⟩
      exact hKK.out _ hu2
    simp only [Act.put, List.setIfInBounds_toArray, List.set_cons_zero, List.set_cons_succ, Nat.reduceAdd]
    iterate 11 (apply Rg.RK.ok; (· intro vs w1 hS; go_simp; with_reducible rfl); (· rfl); simp only [Act.put, List.setIfInBounds_toArray, List.set_cons_zero, List.set_cons_succ, Nat.reduceAdd])
    apply Rg.RK.call (itv k) []
    · rfl
    · intro vs w1 hK hS _ K hKK
      go_simp
      refine (C2.out _).mono ?_
      rintro e w2 ⟨rfl, hu2⟩
      exact hKK.out _ hu2
    simp only [Act.put, List.setIfInBounds_toArray, List.set_cons_zero, List.set_cons_succ, Nat.reduceAdd]
    apply Rg.RK.opn New Rg.ob [] []
    · exact fun v W1 W2 h hs => h.sta hs
    · rfl
    · intro vs w1 hK hS _ K hKK
      go_simp
      exact hKK.out _ _ ⟨w1.heap.size, rfl, heap_alloc_new w1 _⟩ (Rg.Keeps.of_up ((Up.refl _).alloc _)) (by rintro g rfl; exact ⟨by simp, .inl (Nat.le_refl _)⟩)
    simp only [Act.put, List.setIfInBounds_toArray, List.set_cons_zero, List.set_cons_succ, Nat.reduceAdd]
    apply Rg.RK.opn New Rg.ob [] []
    · exact fun v W1 W2 h hs => h.sta hs
    · rfl
    · intro vs w1 hK hS _ K hKK
      go_simp
      exact hKK.out _ _ ⟨w1.heap.size, rfl, heap_alloc_new w1 _⟩ (Rg.Keeps.of_up ((Up.refl _).alloc _)) (by rintro g rfl; exact ⟨by simp, .inl (Nat.le_refl _)⟩)
    simp only [Act.put, List.setIfInBounds_toArray, List.set_cons_zero, List.set_cons_succ, Nat.reduceAdd]
    apply Rg.RK.opn New Rg.ob [] []
    · exact fun v W1 W2 h hs => h.sta hs
    · rfl
    · intro vs w1 hK hS _ K hKK
      go_simp
      exact hKK.out _ _ ⟨w1.heap.size, rfl, heap_alloc_new w1 _⟩ (Rg.Keeps.of_up ((Up.refl _).alloc _)) (by rintro g rfl; exact ⟨by simp, .inl (Nat.le_refl _)⟩)
    simp only [Act.put, List.setIfInBounds_toArray, List.set_cons_zero, List.set_cons_succ, Nat.reduceAdd]
    apply Rg.RK.opD (fun vs W => At i (vs 36) W) (fun vs => Rg.ob (vs 36)) [36] [36] [36] (fun vs vs' h => by rw [h 36 (by simp)]; exact ⟨rfl, rfl⟩)
    · exact fun vs W1 W2 h hs => h.sta hs
    · rfl
    · intro vs w1 hK hS hf K hKK
      obtain ⟨⟨g, hv, hh⟩, -⟩ := hf
      (try dsimp only at hKK ⊢)
      rw [hv] at hKK ⊢
      have q0 := blk_cell hh
      have q1 := blk_free hh
      go_simp
      have h5 := set5 w1 g _ _ _ _ _ (.int .i64 i.s.toInt) (.int .i64 i.k.toInt) (.int .u64 (i.t.toNat : Int)) (.int .u64 (i.v.toNat : Int)) (.int .i64 i.x.toInt) _ hh
      refine hKK.out undef _ ⟨g, hv, h5.1⟩ (Keeps.weak h5.2 fun y hy => ⟨36, List.mem_singleton.2 rfl, ?_⟩) (fun y hy => ⟨?_, .inr ⟨36, List.mem_singleton.2 rfl, hy⟩⟩)
      · show Rg.ob (vs 36) y
        rw [hv]; exact hy.symm
      · have hy' : Rg.ob (vs 36) y := hy
        rw [hv] at hy'
        have hgy : g = y := hy'
        rw [← hgy]; exact (Array.getElem?_eq_some_iff.1 h5.1).1
    simp only [Act.put, List.setIfInBounds_toArray, List.set_cons_zero, List.set_cons_succ, Nat.reduceAdd]
    apply Rg.RK.opD (fun vs W => At j (vs 37) W) (fun vs => Rg.ob (vs 37)) [37] [37] [37] (fun vs vs' h => by rw [h 37 (by simp)]; exact ⟨rfl, rfl⟩)
    · exact fun vs W1 W2 h hs => h.sta hs
    · rfl
    · intro vs w1 hK hS hf K hKK
      obtain ⟨⟨g, hv, hh⟩, -⟩ := hf
      (try dsimp only at hKK ⊢)
      rw [hv] at hKK ⊢
      have q0 := blk_cell hh
      have q1 := blk_free hh
      go_simp
      have h5 := set5 w1 g _ _ _ _ _ (.int .i64 j.s.toInt) (.int .i64 j.k.toInt) (.int .u64 (j.t.toNat : Int)) (.int .u64 (j.v.toNat : Int)) (.int .i64 j.x.toInt) _ hh
      refine hKK.out undef _ ⟨g, hv, h5.1⟩ (Keeps.weak h5.2 fun y hy => ⟨37, List.mem_singleton.2 rfl, ?_⟩) (fun y hy => ⟨?_, .inr ⟨37, List.mem_singleton.2 rfl, hy⟩⟩)
      · show Rg.ob (vs 37) y
        rw [hv]; exact hy.symm
      · have hy' : Rg.ob (vs 37) y := hy
        rw [hv] at hy'
        have hgy : g = y := hy'
        rw [← hgy]; exact (Array.getElem?_eq_some_iff.1 h5.1).1
    simp only [Act.put, List.setIfInBounds_toArray, List.set_cons_zero, List.set_cons_succ, Nat.reduceAdd]
    apply Rg.RK.opD (fun vs W => At k (vs 38) W) (fun vs => Rg.ob (vs 38)) [38] [38] [38] (fun vs vs' h => by rw [h 38 (by simp)]; exact ⟨rfl, rfl⟩)
    · exact fun vs W1 W2 h hs => h.sta hs
    · rfl
    · intro vs w1 hK hS hf K hKK
      obtain ⟨⟨g, hv, hh⟩, -⟩ := hf
      (try dsimp only at hKK ⊢)
      rw [hv] at hKK ⊢
      have q0 := blk_cell hh
      have q1 := blk_free hh
      go_simp
      have h5 := set5 w1 g _ _ _ _ _ (.int .i64 k.s.toInt) (.int .i64 k.k.toInt) (.int .u64 (k.t.toNat : Int)) (.int .u64 (k.v.toNat : Int)) (.int .i64 k.x.toInt) _ hh
      refine hKK.out undef _ ⟨g, hv, h5.1⟩ (Keeps.weak h5.2 fun y hy => ⟨38, List.mem_singleton.2 rfl, ?_⟩) (fun y hy => ⟨?_, .inr ⟨38, List.mem_singleton.2 rfl, hy⟩⟩)
      · show Rg.ob (vs 38) y
        rw [hv]; exact hy.symm
      · have hy' : Rg.ob (vs 38) y := hy
        rw [hv] at hy'
        have hgy : g = y := hy'
        rw [← hgy]; exact (Array.getElem?_eq_some_iff.1 h5.1).1
    simp only [Act.put, List.setIfInBounds_toArray, List.set_cons_zero, List.set_cons_succ, Nat.reduceAdd]
    apply Rg.RK.fin [39, 40, 41]
    intro vs w1 hK hS hf
    obtain ⟨hi, hj, hk, -⟩ := hf
    refine hQN.out _ _ ?_
    clear hQN
    obtain ⟨x, hx, hxc⟩ := At.held hi
    obtain ⟨y, hy, hyc⟩ := At.held hj
    obtain ⟨z, hz, hzc⟩ := At.held hk
    (try dsimp only)
    rw [hx, hy, hz]
    have hu1 := keeps_up hK
    clear hi hj hk hx hy hz hS hK C0 C1 C2 e0 e1 e2 f0 f1 f2
    have hS2 : ∀ W, Up w1 W → _ ∧ _ := fun W h => ⟨hxc W h, hyc W h⟩
    go_wp2_with fail
    apply Rg.region_up _ (by kernel_rfl) (by kernel_rfl) hS2
    · intro QN hQN
      (apply Rg.RK.ok; (· intro vs w1 hS; go_simp; with_reducible rfl); (· rfl); simp only [Act.put, List.setIfInBounds_toArray, List.set_cons_zero, List.set_cons_succ, Nat.reduceAdd])
      apply Rg.RK.opn (Sl 1 (bvs (keyB i))) Rg.ob [] []
      · exact fun v W1 W2 h hs => h.sta hs
      · rfl
      · intro vs w1 hK hS _ K hKK
        go_simp
        refine (key_any i w1).mono ?_
        rintro e w2 ⟨A1, n1, c1, rfl, ho1, hu2⟩
        exact hKK.out _ _ (Sl.own ho1) (Rg.Keeps.of_up hu2) (own_row ho1)
      simp only [Act.put, List.setIfInBounds_toArray, List.set_cons_zero, List.set_cons_succ, Nat.reduceAdd]
      apply Rg.RK.okU [1] (v := .string (tx (keyB i)))
      · intro vs w1 hS hf
        obtain ⟨⟨A1, n1, c1, hv, -, hrd⟩, -⟩ := hf
        exact exec_str rfl hv hrd
      · rfl
      simp only [Act.put, List.setIfInBounds_toArray, List.set_cons_zero, List.set_cons_succ, Nat.reduceAdd]
      (apply Rg.RK.ok; (· intro vs w1 hS; go_simp; with_reducible rfl); (· rfl); simp only [Act.put, List.setIfInBounds_toArray, List.set_cons_zero, List.set_cons_succ, Nat.reduceAdd])
      apply Rg.RK.opn (Sl 1 (bvs (keyB j))) Rg.ob [] []
      · exact fun v W1 W2 h hs => h.sta hs
      · rfl
      · intro vs w1 hK hS _ K hKK
        go_simp
        refine (key_any j w1).mono ?_
        rintro e w2 ⟨A1, n1, c1, rfl, ho1, hu2⟩
        exact hKK.out _ _ (Sl.own ho1) (Rg.Keeps.of_up hu2) (own_row ho1)
      simp only [Act.put, List.setIfInBounds_toArray, List.set_cons_zero, List.set_cons_succ, Nat.reduceAdd]
      apply Rg.RK.okU [4] (v := .string (tx (keyB j)))
      · intro vs w1 hS hf
        obtain ⟨⟨A1, n1, c1, hv, -, hrd⟩, -⟩ := hf
        exact exec_str rfl hv hrd
      · rfl
      simp only [Act.put, List.setIfInBounds_toArray, List.set_cons_zero, List.set_cons_succ, Nat.reduceAdd]
      iterate 2 (apply Rg.RK.ok; (· intro vs w1 hS; go_simp; with_reducible rfl); (· rfl); simp only [Act.put, List.setIfInBounds_toArray, List.set_cons_zero, List.set_cons_succ, Nat.reduceAdd])
      apply Rg.RK.fin []
      intro vs2 w2 hK hS _
      refine hQN.out _ _ ?_
      clear hQN
      have hu2 := keeps_up hK
      have hx2 := fun W (h : Up w2 W) => hxc W (hu2.trans h)
      have hy2 := fun W (h : Up w2 W) => hyc W (hu2.trans h)
      have hz2 := fun W (h : Up w2 W) => hzc W (hu2.trans h)
      have hu12 := hu1.trans hu2
      clear hxc hyc hzc hS2 hS hK hu1 hu2
      have hr2 := Up.refl w2
      have bl : Op.bytesLess (tx (keyB i)).toList (tx (keyB j)).toList = lessB i j := by rw [tx_toList, tx_toList]; exact key_less oi.out oj.out
      have bs : ((tx (keyB i)).toList == (tx (keyB j)).toList) = sameB i j := by rw [tx_toList, tx_toList]; exact key_same oi.out oj.out
      have c1 := fun W => less_any i j W
      have c2 := fun W => less_any j i W
      have c3 := fun W => less_any j k W
      have c4 := fun W => less_any i k W
      have c5 := fun W => less_any i i W
      have c6 := fun W => same_any i j W
      have c7 := fun W => same_any i i W
      rw [less_irr] at c5
      rw [same_self] at c7
      have hsm : sameB i j = (!lessB i j && !lessB j i) := rfl
      rw [hsm] at c6 bs
      cases hL : lessB i j
      · rw [hL] at c1 c6 bs bl
        cases hM : lessB j i
        · rw [hM] at c2 c6 bs
          have K1 := keepUp c1 w2
          have K2 := keepUp c2 w2
          have K3 := keepUp c3 w2
          have K4 := keepUp c4 w2
          have K5 := keepUp c5 w2
          have K6 := keepUp c6 w2
          have K7 := keepUp c7 w2
          clear c1 c2 c3 c4 c5 c6 c7 hsm
          (try clear hL)
          (try clear hM)
          (try clear h3 h4)
          go_wp2_with (first
            | (go_at_call 18; with_reducible refine (K1.out _ (by assumption)).mono ?_; rintro e w3 ⟨rfl, hu3⟩)
            | (go_at_call 18; with_reducible refine (K2.out _ (by assumption)).mono ?_; rintro e w3 ⟨rfl, hu3⟩)
            | (go_at_call 18; with_reducible refine (K3.out _ (by assumption)).mono ?_; rintro e w3 ⟨rfl, hu3⟩)
            | (go_at_call 18; with_reducible refine (K4.out _ (by assumption)).mono ?_; rintro e w3 ⟨rfl, hu3⟩)
            | (go_at_call 18; with_reducible refine (K5.out _ (by assumption)).mono ?_; rintro e w3 ⟨rfl, hu3⟩)
            | (go_at_call 19; with_reducible refine (K6.out _ (by assumption)).mono ?_; rintro e w3 ⟨rfl, hu3⟩)
            | (go_at_call 19; with_reducible refine (K7.out _ (by assumption)).mono ?_; rintro e w3 ⟨rfl, hu3⟩)
            | (go_at_call 11; with_reducible refine (awake5_any _).mono ?_; rintro e w4 ⟨rfl, hu4⟩))
          go_ret
          exact ⟨rfl, hu12.trans (Up.trans (by assumption) hu4)⟩
        · rw [hM] at c2 c6 bs
          have K1 := keepUp c1 w2
          have K2 := keepUp c2 w2
          have K3 := keepUp c3 w2
          have K4 := keepUp c4 w2
          have K5 := keepUp c5 w2
          have K6 := keepUp c6 w2
          have K7 := keepUp c7 w2
          clear c1 c2 c3 c4 c5 c6 c7 hsm
          (try clear hL)
          (try clear hM)
          (try clear h3 h4)
          go_wp2_with (first
            | (go_at_call 18; with_reducible refine (K1.out _ (by assumption)).mono ?_; rintro e w3 ⟨rfl, hu3⟩)
            | (go_at_call 18; with_reducible refine (K2.out _ (by assumption)).mono ?_; rintro e w3 ⟨rfl, hu3⟩)
            | (go_at_call 18; with_reducible refine (K3.out _ (by assumption)).mono ?_; rintro e w3 ⟨rfl, hu3⟩)
            | (go_at_call 18; with_reducible refine (K4.out _ (by assumption)).mono ?_; rintro e w3 ⟨rfl, hu3⟩)
            | (go_at_call 18; with_reducible refine (K5.out _ (by assumption)).mono ?_; rintro e w3 ⟨rfl, hu3⟩)
            | (go_at_call 19; with_reducible refine (K6.out _ (by assumption)).mono ?_; rintro e w3 ⟨rfl, hu3⟩)
            | (go_at_call 19; with_reducible refine (K7.out _ (by assumption)).mono ?_; rintro e w3 ⟨rfl, hu3⟩)
            | (go_at_call 11; with_reducible refine (awake5_any _).mono ?_; rintro e w4 ⟨rfl, hu4⟩))
          go_ret
          exact ⟨rfl, hu12.trans (Up.trans (by assumption) hu4)⟩
      · have hM := less_asym hL
        rw [hL] at c1 c6 bs bl
        rw [hM] at c2 c6 bs
        cases h3 : lessB j k
        · rw [h3] at c3
          have K1 := keepUp c1 w2
          have K2 := keepUp c2 w2
          have K3 := keepUp c3 w2
          have K4 := keepUp c4 w2
          have K5 := keepUp c5 w2
          have K6 := keepUp c6 w2
          have K7 := keepUp c7 w2
          clear c1 c2 c3 c4 c5 c6 c7 hsm
          (try clear hL)
          (try clear hM)
          (try clear h3 h4)
          go_wp2_with (first
            | (go_at_call 18; with_reducible refine (K1.out _ (by assumption)).mono ?_; rintro e w3 ⟨rfl, hu3⟩)
            | (go_at_call 18; with_reducible refine (K2.out _ (by assumption)).mono ?_; rintro e w3 ⟨rfl, hu3⟩)
            | (go_at_call 18; with_reducible refine (K3.out _ (by assumption)).mono ?_; rintro e w3 ⟨rfl, hu3⟩)
            | (go_at_call 18; with_reducible refine (K4.out _ (by assumption)).mono ?_; rintro e w3 ⟨rfl, hu3⟩)
            | (go_at_call 18; with_reducible refine (K5.out _ (by assumption)).mono ?_; rintro e w3 ⟨rfl, hu3⟩)
            | (go_at_call 19; with_reducible refine (K6.out _ (by assumption)).mono ?_; rintro e w3 ⟨rfl, hu3⟩)
            | (go_at_call 19; with_reducible refine (K7.out _ (by assumption)).mono ?_; rintro e w3 ⟨rfl, hu3⟩)
            | (go_at_call 11; with_reducible refine (awake5_any _).mono ?_; rintro e w4 ⟨rfl, hu4⟩))
          go_ret
          exact ⟨rfl, hu12.trans (Up.trans (by assumption) hu4)⟩
        · have h4 := less_trans hL h3
          rw [h3] at c3
          rw [h4] at c4
          have K1 := keepUp c1 w2
          have K2 := keepUp c2 w2
          have K3 := keepUp c3 w2
          have K4 := keepUp c4 w2
          have K5 := keepUp c5 w2
          have K6 := keepUp c6 w2
          have K7 := keepUp c7 w2
          clear c1 c2 c3 c4 c5 c6 c7 hsm
          (try clear hL)
          (try clear hM)
          (try clear h3 h4)
          go_wp2_with (first
            | (go_at_call 18; with_reducible refine (K1.out _ (by assumption)).mono ?_; rintro e w3 ⟨rfl, hu3⟩)
            | (go_at_call 18; with_reducible refine (K2.out _ (by assumption)).mono ?_; rintro e w3 ⟨rfl, hu3⟩)
            | (go_at_call 18; with_reducible refine (K3.out _ (by assumption)).mono ?_; rintro e w3 ⟨rfl, hu3⟩)
            | (go_at_call 18; with_reducible refine (K4.out _ (by assumption)).mono ?_; rintro e w3 ⟨rfl, hu3⟩)
            | (go_at_call 18; with_reducible refine (K5.out _ (by assumption)).mono ?_; rintro e w3 ⟨rfl, hu3⟩)
            | (go_at_call 19; with_reducible refine (K6.out _ (by assumption)).mono ?_; rintro e w3 ⟨rfl, hu3⟩)
            | (go_at_call 19; with_reducible refine (K7.out _ (by assumption)).mono ?_; rintro e w3 ⟨rfl, hu3⟩)
            | (go_at_call 11; with_reducible refine (awake5_any _).mono ?_; rintro e w4 ⟨rfl, hu4⟩))
          go_ret
          exact ⟨rfl, hu12.trans (Up.trans (by assumption) hu4)⟩
    · kernel_rfl
  · kernel_rfl

theorem and3 : ∀ k : Nat, k ≤ 3 → bits .and .i64 (k : Int) 255 = (k : Int) := by decide +kernel
theorem and7 : ∀ k : Nat, k ≤ 7 → bits .and .u64 (k : Int) 1099511627775 = (k : Int) := by decide +kernel
theorem some3 (S K T v : Nat) (k : Int) (hS : S ≤ 3) (hT : T ≤ 7) (hK : bits .and .i64 k 3 = (K : Int)) (hV : bits .and .u64 (v : Int) 281474976710655 = (v : Int)) (hv : v ≤ 3) :
    ∃ i : It, Hid (okB i = true) ∧ ∀ w, Calls Try.prog 16 #[.int .i64 (S : Int), .int .i64 k, .int .u64 (T : Int), .int .u64 (v : Int), .int .i64 0] w fun e w' => e = .returned (itv i) ∧ Up w w' :=
  some_fix (S : Int) k (T : Int) (v : Int) 0 S K T v (and3 S hS) hK (and7 T hT) hV (by omega) (by omega) (by omega) (by omega)

set_option maxRecDepth 100000 in
set_option maxHeartbeats 800000 in
theorem law_any (A0 : Option Addr) (n0 c0 : Nat) (l0 : List Int64) (A1 : Option Addr) (n1 c1 : Nat) (l1 : List Int64) (A2 : Option Addr) (n2 c2 : Nat) (l2 : List UInt64) (w : World) (h0 : IsZ w A0 n0 c0 l0) (h1 : IsZ w A1 n1 c1 l1) (h2 : IsQ w A2 n2 c2 l2) :
    Calls Try.prog 6 #[.slice A0 n0 c0, .slice A1 n1 c1, .slice A2 n2 c2] w fun e w' => e = .returned (.bool true) ∧ Up w w' := by
  obtain ⟨r0, -, -⟩ := h0
  obtain ⟨r1, -, -⟩ := h1
  obtain ⟨r2, -, -⟩ := h2
  by_cases t0 : n0 < 3
  · go_enter Try.func6, Try.ntmps6
    go_wp2_with (go_at_call 11; with_reducible refine (awake5_any _).mono ?_; rintro e w4 ⟨rfl, hu4⟩)
    go_ret
    exact ⟨rfl, hu4⟩
  by_cases t1 : n1 < 3
  · have g0 : decide ((n0 : Int) < 3) = false := by simp; omega
    go_enter Try.func6, Try.ntmps6
    go_wp2_with (go_at_call 11; with_reducible refine (awake5_any _).mono ?_; rintro e w4 ⟨rfl, hu4⟩)
    go_ret
    exact ⟨rfl, hu4⟩
  by_cases t2 : n2 < 3
  · have g0 : decide ((n0 : Int) < 3) = false := by simp; omega
    have g1 : decide ((n1 : Int) < 3) = false := by simp; omega
    go_enter Try.func6, Try.ntmps6
    go_wp2_with (go_at_call 11; with_reducible refine (awake5_any _).mono ?_; rintro e w4 ⟨rfl, hu4⟩)
    go_ret
    exact ⟨rfl, hu4⟩
  obtain ⟨bs, os, u0, u1, u2, rfl, e0, e1, e2, hs⟩ := three r0 (by omega) (Nat.le_refl _)
  obtain ⟨bk, ok, v0, v1, v2, rfl, f0, f1, f2, hk⟩ := three r1 (by omega) (Nat.le_refl _)
  obtain ⟨bt, ot, x0, x1, x2, rfl, g0, g1, g2, ht⟩ := three r2 (by omega) (Nat.le_refl _)
  have zv : ∀ (l : List Int64) (j : Nat) (u : Value), (zvs l)[j]? = some u → ∃ z : Int, u = .int .i64 z := fun l j u h => by
    simp only [zvs, List.getElem?_map, Option.map_eq_some_iff] at h
    obtain ⟨a, _, rfl⟩ := h; exact ⟨_, rfl⟩
  have qv' : ∀ (l : List UInt64) (j : Nat) (u : Value), (qvs l)[j]? = some u → ∃ z : Int, u = .int .u64 z := fun l j u h => by
    simp only [qvs, List.getElem?_map, Option.map_eq_some_iff] at h
    obtain ⟨a, _, rfl⟩ := h; exact ⟨_, rfl⟩
  obtain ⟨s0, rfl⟩ := zv _ _ _ e0
  obtain ⟨s1, rfl⟩ := zv _ _ _ e1
  obtain ⟨s2, rfl⟩ := zv _ _ _ e2
  obtain ⟨k0, rfl⟩ := zv _ _ _ f0
  obtain ⟨k1, rfl⟩ := zv _ _ _ f1
  obtain ⟨k2, rfl⟩ := zv _ _ _ f2
  obtain ⟨q0, rfl⟩ := qv' _ _ _ g0
  obtain ⟨q1, rfl⟩ := qv' _ _ _ g1
  obtain ⟨q2, rfl⟩ := qv' _ _ _ g2
  obtain ⟨S0, hS0, lS0⟩ := i64_and_le s0 3 (by omega)
  obtain ⟨S1, hS1, lS1⟩ := i64_and_le s1 3 (by omega)
  obtain ⟨S2, hS2, lS2⟩ := i64_and_le s2 3 (by omega)
  obtain ⟨K0, hK0, _⟩ := i64_and_le k0 3 (by omega)
  obtain ⟨K1, hK1, _⟩ := i64_and_le k1 3 (by omega)
  obtain ⟨K2, hK2, _⟩ := i64_and_le k2 3 (by omega)
  obtain ⟨T0, hT0, lT0⟩ := u64_and_le q0 7 (by omega)
  obtain ⟨T1, hT1, lT1⟩ := u64_and_le q1 7 (by omega)
  obtain ⟨T2, hT2, lT2⟩ := u64_and_le q2 7 (by omega)
  obtain ⟨i, oi, ci⟩ := some3 S0 K0 T0 1 k0 lS0 lT0 hK0 (by decide +kernel) (by omega)
  obtain ⟨j, oj, cj⟩ := some3 S1 K1 T1 2 k1 lS1 lT1 hK1 (by decide +kernel) (by omega)
  obtain ⟨k, okk, ck⟩ := some3 S2 K2 T2 3 k2 lS2 lT2 hK2 (by decide +kernel) (by omega)
  exact law_core bs os bk ok bt ot n0 c0 n1 c1 n2 c2 s0 s1 s2 k0 k1 k2 q0 q1 q2 S0 S1 S2 T0 T1 T2 i j k w (by omega) (by omega) (by omega) hs hk ht hS0 hS1 hS2 hT0 hT1 hT2 ci cj ck oi oj okk
end Go.Proofs.Ytpifigalaembdaa.itemOrders
