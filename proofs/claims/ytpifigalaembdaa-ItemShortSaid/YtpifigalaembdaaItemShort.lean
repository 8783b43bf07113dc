import Derived.Test.YtpifigalaembdaaItemW6
import Derived.Test.YtpifigalaembdaaItemW8
import Derived.Test.YtpifigalaembdaaOpenI
import Derived.Test.YtpifigalaembdaaTx
namespace Go.Proofs.Ytpifigalaembdaa.itemShort
open Go.RowKit
set_option linter.unusedVariables false
set_option linter.unusedSimpArgs false

theorem numB_le : ∀ (k : Nat) (n : Nat), n < 128 ^ (k + 1) → (numB n).length ≤ k + 1
  | 0, n, h => by rw [numB_lo (by simpa using h)]; simp
  | k + 1, n, h => by
    by_cases h1 : n < 128
    · rw [numB_lo h1]; simp
    · rw [numB_hi h1, List.length_cons]
      have := numB_le k (n / 128) (by rw [Nat.pow_succ] at h; omega)
      omega
theorem numB_pos (n : Nat) : 1 ≤ (numB n).length := by
  by_cases h1 : n < 128
  · rw [numB_lo h1]; simp
  · rw [numB_hi h1]; simp
theorem itB_bd (x : It) (h : okB x = true) : 5 ≤ (itB x).length ∧ (itB x).length ≤ 28 := by
  simp only [okB, okZ, decide_eq_true_eq] at h
  have h1 := numB_le 5 x.t.toNat (by have : (128 : Nat) ^ 6 = 4398046511104 := by decide
                                     omega)
  have h2 := numB_le 6 x.v.toNat (by have : (128 : Nat) ^ 7 = 562949953421312 := by decide
                                     omega)
  have h3 := numB_ten (signN_lt x.x.toInt (i64_bd x.x).1 (i64_bd x.x).2)
  have p1 := numB_pos x.t.toNat
  have p2 := numB_pos x.v.toNat
  have p3 := numB_pos (signN x.x.toInt)
  simp only [itB, List.length_cons, List.length_append]; omega
theorem short_len (l : List It) (x : It) (hl : l.length ≤ 100) (hx : okB x = true) (he : bytesE l = 0) :
    bytesE (l ++ [x]) = 0 ∧ (bytesL [] l).length + 5 ≤ (bytesL [] (l ++ [x])).length ∧ (bytesL [] (l ++ [x])).length ≤ (bytesL [] l).length + 28 := by
  have hall : l.all okB = true := by
    unfold bytesE at he
    rw [if_neg (by omega)] at he
    cases h : l.all okB
    · rw [h] at he; simp at he
    · rfl
  have he2 : bytesE (l ++ [x]) = 0 := by
    unfold bytesE
    rw [if_neg (by simp; omega), List.all_append, hall]; simp [hx]
  have hb := itB_bd x hx
  refine ⟨he2, ?_⟩
  rw [bytesL_yes he, bytesL_yes he2]
  simp only [itemsB, List.nil_append, List.length_append, List.flatMap_append, List.flatMap_singleton, List.length_singleton]
  rw [numB_lo (by omega), numB_lo (by omega)]
  simp only [List.length_singleton]
  omega
theorem bytesL_bd (l : List It) : (bytesL [] l).length ≤ 10 + 32 * l.length ∨ 18446744073709551616 ≤ l.length := by
  rcases Nat.lt_or_ge l.length 18446744073709551616 with h | h
  · refine .inl ?_
    unfold bytesL
    split
    · have h1 := numB_ten (n := l.length) h
      have h2 : ∀ l : List It, (l.flatMap itB).length ≤ 32 * l.length := by
        intro l
        induction l with
        | nil => simp
        | cons a l ih => have := itB_len a; simp only [List.flatMap_cons, List.length_append, List.length_cons]; omega
      have := h2 l
      simp only [itemsB, List.nil_append, List.length_append]; omega
    · simp
  · exact .inr h
def itY : It := ⟨0, 2, 0, 1, 0⟩
theorem itY_E : bytesE [itY] = 0 := by decide +kernel
theorem itY_len : (bytesL [] [itY]).length = 6 := by
  rw [bytesL_yes itY_E]
  have e1 : signN itY.x.toInt = 0 := by decide +kernel
  have e2 : itY.t.toNat = 0 := by decide +kernel
  have e3 : itY.v.toNat = 1 := by decide +kernel
  simp only [itemsB, List.length_singleton, List.flatMap_cons, List.flatMap_nil, itB, e1, e2, e3, List.nil_append]
  rw [numB_lo (n := 1) (by omega), numB_lo (n := 0) (by omega)]
  rfl
theorem itY_c : itc itY = [.int .i64 0, .int .i64 2, .int .u64 0, .int .u64 1, .int .i64 0] := by kernel_rfl

set_option maxRecDepth 100000 in
set_option maxHeartbeats 3200000 in
theorem law_any (Q : Option Addr) (m d : Nat) (l : List It) (x : It) (w : World) (hi : IsI w Q m d l) :
    Calls Try.prog 4 #[.slice Q m d, .agg (itc x).toArray] w fun e w' => e = .returned (.bool true) ∧ Up w w' := by
  obtain ⟨hq, hmd, hdm⟩ := hi
  have HL := Lib.hid hq.ilen
  by_cases hbig : 100 < m
  · show Calls _ _ #[.slice Q m d, .agg #[.int .i64 x.s.toInt, .int .i64 x.k.toInt, .int .u64 (x.t.toNat : Int), .int .u64 (x.v.toNat : Int), .int .i64 x.x.toInt]] w _
    go_enter Try.func4, Try.ntmps4
    go_wp2_with fail
    refine (awake5_any _).mono ?_
    rintro e w1 ⟨rfl, hu⟩
    go_wp2_with fail
    go_ret
    exact ⟨rfl, ((Up.refl w).alloc _).trans hu⟩
  by_cases he : bytesE l = 0
  · cases hx : okB x
    · have hmay := fun W hW => may_any Q m d l W hW (by omega)
      rw [he] at hmay
      have hok := rok_any x
      rw [hx] at hok
      have HM := Lib.hid hmay
      have HK := Lib.hid hok
      have HE := Lib.hid he
      have HX := Lib.hid hx
      clear hmay hok he hx
      show Calls _ _ #[.slice Q m d, .agg #[.int .i64 x.s.toInt, .int .i64 x.k.toInt, .int .u64 (x.t.toNat : Int), .int .u64 (x.v.toNat : Int), .int .i64 x.x.toInt]] w _
      have hxs := lit_stay w x #[.int .i64 x.s.toInt, .int .i64 x.k.toInt, .int .u64 (x.t.toNat : Int), .int .u64 (x.v.toNat : Int), .int .i64 x.x.toInt] 24 rfl rfl
      have hxs0 := Up.refl (w.alloc (.cells #[.int .i64 x.s.toInt, .int .i64 x.k.toInt, .int .u64 (x.t.toNat : Int), .int .u64 (x.v.toNat : Int), .int .i64 x.x.toInt] 24))
      have hdec : decide (100 < (m : Int)) = false := by simp; omega
      go_enter Try.func4, Try.ntmps4
      go_wp2_with fail
      refine (HM.out _ (hq.up ((Up.refl w).alloc _))).mono ?_
      rintro e w1 ⟨rfl, hu1⟩
      go_wp2_with fail
      refine (HK.out _).mono ?_
      rintro e w2 ⟨rfl, hu2⟩
      have hu02 := (((Up.refl w).alloc (.cells #[.int .i64 x.s.toInt, .int .i64 x.k.toInt, .int .u64 (x.t.toNat : Int), .int .u64 (x.v.toNat : Int), .int .i64 x.x.toInt] 24)).trans hu1).trans hu2
      go_wp2_with fail
      refine (awake5_any _).mono ?_
      rintro e w3 ⟨rfl, hu3⟩
      go_wp2_with fail
      go_ret
      exact ⟨rfl, hu02.trans hu3⟩
    · have hmay := fun W hW => may_any Q m d l W hW (by omega)
      rw [he] at hmay
      have hok := rok_any x
      rw [hx] at hok
      have HM := Lib.hid hmay
      have HK := Lib.hid hok
      have HE := Lib.hid he
      have HX := Lib.hid hx
      clear hmay hok he hx
      show Calls _ _ #[.slice Q m d, .agg #[.int .i64 x.s.toInt, .int .i64 x.k.toInt, .int .u64 (x.t.toNat : Int), .int .u64 (x.v.toNat : Int), .int .i64 x.x.toInt]] w _
      have hsl := short_len l x (by have := HL.out; omega) HX.out HE.out
      have HS := Lib.hid hsl
      clear hsl
      have hxs := lit_stay w x #[.int .i64 x.s.toInt, .int .i64 x.k.toInt, .int .u64 (x.t.toNat : Int), .int .u64 (x.v.toNat : Int), .int .i64 x.x.toInt] 24 rfl rfl
      have hxs0 := Up.refl (w.alloc (.cells #[.int .i64 x.s.toInt, .int .i64 x.k.toInt, .int .u64 (x.t.toNat : Int), .int .u64 (x.v.toNat : Int), .int .i64 x.x.toInt] 24))
      have hdec : decide (100 < (m : Int)) = false := by simp; omega
      go_enter Try.func4, Try.ntmps4
      go_wp2_with fail
      refine (HM.out _ (hq.up ((Up.refl w).alloc _))).mono ?_
      rintro e w1 ⟨rfl, hu1⟩
      go_wp2_with fail
      refine (HK.out _).mono ?_
      rintro e w2 ⟨rfl, hu2⟩
      have hu02 := (((Up.refl w).alloc (.cells #[.int .i64 x.s.toInt, .int .i64 x.k.toInt, .int .u64 (x.t.toNat : Int), .int .u64 (x.v.toNat : Int), .int .i64 x.x.toInt] 24)).trans hu1).trans hu2
      go_wp2_with fail
      refine (bytes_any none 0 0 [] Q m d l w2 Rd.empty (hq.up hu02) (by omega) (by omega)).mono ?_
      rintro e w3 ⟨A3, n3, c3, rfl, ho3, hu3⟩
      rw [HE.out]
      have hu03 := hu02.trans hu3
      have hn3 := ho3.len
      have HN3 := Lib.hid hn3
      have hx3 := fun W (h : Up w3 W) => hxs W ((hu1.trans (hu2.trans hu3)).trans h)
      have hq3 := hq.up hu03
      clear hn3 ho3 hxs hxs0
      have hr3 := Up.refl w3
      go_wp2_with fail
      apply Rg.region_up _ (by kernel_rfl) (by kernel_rfl) hx3
      · intro QN hQN
        apply Rg.RK.opn (fun v W1 => W1.ownsRow (w3.heap.size) 24 5 v 0 ([])) Rg.ob [] []
        · exact fun v W1 W2 h hs => row_sta h hs
        · rfl
        · intro vs w1 hK hS _ K hKK
          go_simp
          exact hKK.out _ _ (row_new w1 _ _ (Nat.le_trans (Nat.le_refl _) (keeps_up hK).size) rfl (by omega)) (Rg.Keeps.of_up ((Up.refl _).alloc _)) (by rintro g rfl; exact ⟨by simp, .inl (Nat.le_refl _)⟩)
        simp only [Act.put, List.setIfInBounds_toArray, List.set_cons_zero, List.set_cons_succ, Nat.reduceAdd]
        (apply Rg.RK.ok; (· intro vs w1 hS; go_simp; with_reducible rfl); (· rfl); simp only [Act.put, List.setIfInBounds_toArray, List.set_cons_zero, List.set_cons_succ, Nat.reduceAdd])
        -- append([]api.Item{}, l...)
        apply Rg.RK.opn (fun v W1 => W1.ownsRow w3.heap.size 24 5 v m (itcs l)) Rg.ob [0] [0]
        · exact fun v W1 W2 h hs => row_sta h hs
        · rfl
        · intro vs w4 hK hS hf K hKK
          obtain ⟨hr, -⟩ := hf
          have hu4 := keeps_up hK
          refine wp_append_rd _ _ _ itemsT rfl rfl rfl hr (hq3.up hu4) (itcs_one _) (by omega) (by omega) hu4.size fun v' w5 ho' hg' hat' => ?_
          rw [Nat.zero_add, List.nil_append] at ho'
          exact hKK.out _ _ ho' (keeps_grown hr hg' fun g hg => ⟨0, List.mem_singleton.2 rfl, hg⟩) (own_grown hr ho' hat' fun g hg => ⟨0, List.mem_singleton.2 rfl, hg⟩)
        simp only [Act.put, List.setIfInBounds_toArray, List.set_cons_zero, List.set_cons_succ, Nat.reduceAdd]
        (apply Rg.RK.ok; (· intro vs w1 hS; go_simp; with_reducible rfl); (· rfl); simp only [Act.put, List.setIfInBounds_toArray, List.set_cons_zero, List.set_cons_succ, Nat.reduceAdd])
        apply Rg.RK.opn (fun v W1 => W1.ownsRow (w3.heap.size) 24 5 v 1 (itcs [x])) Rg.ob [] []
        · exact fun v W1 W2 h hs => row_sta h hs
        · rfl
        · intro vs w1 hK hS _ K hKK
          go_simp
          exact hKK.out _ _ (row_new w1 _ _ (Nat.le_trans (Nat.le_refl _) (keeps_up hK).size) rfl (by omega)) (Rg.Keeps.of_up ((Up.refl _).alloc _)) (by rintro g rfl; exact ⟨by simp, .inl (Nat.le_refl _)⟩)
        simp only [Act.put, List.setIfInBounds_toArray, List.set_cons_zero, List.set_cons_succ, Nat.reduceAdd]
        -- append(.., x)
        apply Rg.RK.opn (fun v W1 => W1.ownsRow w3.heap.size 24 5 v (m + 1) (itcs (l ++ [x]))) Rg.ob [2, 4] [2]
        · exact fun v W1 W2 h hs => row_sta h hs
        · rfl
        · intro vs w4 hK hS hf K hKK
          obtain ⟨hr, hr1, -⟩ := hf
          have hu4 := keeps_up hK
          obtain ⟨A1, c1, hv1, hrd1⟩ := Rd.from_ownsRow hr1
          refine wp_append_rd _ _ _ itemsT rfl rfl hv1 hr hrd1 (itcs_one _) (by omega) (by omega) hu4.size fun v' w5 ho' hg' hat' => ?_
          rw [← itcs_append] at ho'
          exact hKK.out _ _ ho' (keeps_grown hr hg' fun g hg => ⟨2, List.mem_singleton.2 rfl, hg⟩) (own_grown hr ho' hat' fun g hg => ⟨2, List.mem_singleton.2 rfl, hg⟩)
        simp only [Act.put, List.setIfInBounds_toArray, List.set_cons_zero, List.set_cons_succ, Nat.reduceAdd]
        apply Rg.RK.opn (fun v _ => ∃ A c, v = .tuple #[.slice A (bytesL [] (l ++ [x])).length c, .int .i64 0]) (fun _ _ => False) [5] []
        · exact fun _ _ _ h _ => h
        · rfl
        · intro vs w4 hK hS hf K hKK
          obtain ⟨hr, -⟩ := hf
          obtain ⟨A1, c1, hv1, hrd1⟩ := Rd.from_ownsRow hr
          (try dsimp only at hKK ⊢)
          rw [hv1] at hKK ⊢
          go_simp
          refine (bytes_any none 0 0 [] _ (m + 1) _ (l ++ [x]) w4 Rd.empty hrd1 (by omega) (by omega)).mono ?_
          rintro e w5 ⟨A5, n5, c5, rfl, ho5, hu5⟩
          rw [HS.out.1, ho5.len]
          exact hKK.out _ _ ⟨_, _, rfl⟩ (Rg.Keeps.of_up hu5) (fun g hg => hg.elim)
        simp only [Act.put, List.setIfInBounds_toArray, List.set_cons_zero, List.set_cons_succ, Nat.reduceAdd]
        apply Rg.RK.opn (fun v _ => ∃ A c, v = .tuple #[.slice A (bytesL [] (l ++ [x])).length c, .int .i64 0]) (fun _ _ => False) [6] []
        · exact fun _ _ _ h _ => h
        · rfl
        · intro vs w1 hK hS hf K hKK
          obtain ⟨⟨A, c, hv⟩, -⟩ := hf
          (try dsimp only at hKK ⊢)
          rw [hv] at hKK ⊢
          go_simp
          exact hKK.out _ _ ⟨_, _, rfl⟩ (Rg.Keeps.refl _ _) (fun g hg => hg.elim)
        simp only [Act.put, List.setIfInBounds_toArray, List.set_cons_zero, List.set_cons_succ, Nat.reduceAdd]
        apply Rg.RK.opn (fun v _ => ∃ A c, v = .slice A (bytesL [] (l ++ [x])).length c) (fun _ _ => False) [7] []
        · exact fun _ _ _ h _ => h
        · rfl
        · intro vs w1 hK hS hf K hKK
          obtain ⟨⟨A, c, hv⟩, -⟩ := hf
          (try dsimp only at hKK ⊢)
          rw [hv] at hKK ⊢
          go_simp
          exact hKK.out _ _ ⟨_, _, rfl⟩ (Rg.Keeps.refl _ _) (fun g hg => hg.elim)
        simp only [Act.put, List.setIfInBounds_toArray, List.set_cons_zero, List.set_cons_succ, Nat.reduceAdd]
        apply Rg.RK.okU [7]
        · intro vs w1 hS hf
          obtain ⟨⟨A, c, hv⟩, -⟩ := hf
          rw [hv]
          go_simp
          with_reducible rfl
        · rfl
        simp only [Act.put, List.setIfInBounds_toArray, List.set_cons_zero, List.set_cons_succ, Nat.reduceAdd]
        apply Rg.RK.opn (fun v _ => ∃ A c, v = .slice A (bytesL [] (l ++ [x])).length c) (fun _ _ => False) [8] []
        · exact fun _ _ _ h _ => h
        · rfl
        · intro vs w1 hK hS hf K hKK
          obtain ⟨⟨A, c, hv⟩, -⟩ := hf
          (try dsimp only at hKK ⊢)
          rw [hv] at hKK ⊢
          go_simp
          exact hKK.out _ _ ⟨_, _, rfl⟩ (Rg.Keeps.refl _ _) (fun g hg => hg.elim)
        simp only [Act.put, List.setIfInBounds_toArray, List.set_cons_zero, List.set_cons_succ, Nat.reduceAdd]
        (apply Rg.RK.ok; (· intro vs w1 hS; go_simp; with_reducible rfl); (· rfl); simp only [Act.put, List.setIfInBounds_toArray, List.set_cons_zero, List.set_cons_succ, Nat.reduceAdd])
        apply Rg.RK.fin [10]
        intro vs w1 hK hS hf
        obtain ⟨⟨A4, c4, hv⟩, -⟩ := hf
        refine hQN.out _ _ ?_
        clear hQN
        have hu4 := keeps_up hK
        rw [hv]
        have h5 := HS.out.2.1
        have h28 := HS.out.2.2
        have hb3 : (bytesL [] l).length ≤ 4000 := by have := bytesL_bd l; have := HL.out; omega
        have hn3 := HN3.out
        generalize (bytesL [] l).length = n3' at *
        generalize (bytesL [] (l ++ [x])).length = n4 at *
        clear hS hv hx3 hK
        go_wp2_with fail
        refine (bytes_any none 0 0 [] _ 1 1 [itY] _ Rd.empty (Rd.ilit_at _ [itY] _ _ (by simp) (by simp [itcs, itY_c])) (by omega) (by omega)).mono ?_
        rintro e w5 ⟨A5, n5, c5, rfl, ho5, hu5⟩
        have hl5 := ho5.len
        rw [itY_len] at hl5
        subst hl5
        rw [itY_E]
        clear ho5
        go_wp2_with fail
        refine (awake5_any _).mono ?_
        rintro e w6 ⟨rfl, hu6⟩
        go_wp2_with fail
        go_ret
        exact ⟨rfl, (hu03.trans hu4).trans ((((Up.refl _).alloc _).trans hu5).trans hu6)⟩
      · kernel_rfl
  · have hmay := fun W hW => may_any Q m d l W hW (by omega)
    show Calls _ _ #[.slice Q m d, .agg #[.int .i64 x.s.toInt, .int .i64 x.k.toInt, .int .u64 (x.t.toNat : Int), .int .u64 (x.v.toNat : Int), .int .i64 x.x.toInt]] w _
    generalize bytesE l = E at *
    have he' : ¬ (E : Int) = 0 := by omega
    have HM := Lib.hid hmay
    clear hmay he
    go_enter Try.func4, Try.ntmps4
    go_wp2_with fail
    refine (HM.out _ (hq.up ((Up.refl w).alloc _))).mono ?_
    rintro e w1 ⟨rfl, hu⟩
    go_wp2_with fail
    refine (awake5_any _).mono ?_
    rintro e w2 ⟨rfl, hu2⟩
    go_wp2_with fail
    go_ret
    exact ⟨rfl, (((Up.refl w).alloc _).trans hu).trans hu2⟩
end Go.Proofs.Ytpifigalaembdaa.itemShort
