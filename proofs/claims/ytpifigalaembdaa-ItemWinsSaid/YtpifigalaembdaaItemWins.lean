import Derived.Test.YtpifigalaembdaaItemW4
namespace Go.Proofs.Ytpifigalaembdaa.itemWins
open Go.RowKit
set_option linter.unusedVariables false

theorem wins_irr (a : It) : winsB a a = false := by simp [winsB, winsZ]
theorem wins_anti (a b : It) (h : winsB a b = true) : winsB b a = false := by
  simp only [winsB, winsZ, decide_eq_true_eq, decide_eq_false_iff_not] at *; omega
theorem wins_tr (a b c : It) (h : winsB a b = true) (k : winsB b c = true) : winsB a c = true := by
  simp only [winsB, winsZ, decide_eq_true_eq] at *; omega
theorem wins_like (a b : It) : (winsB a b || winsB b a) = !(decide ((a.v.toNat : Int) = (b.v.toNat : Int)) && decide (a.x.toInt = b.x.toInt)) := by
  rw [Bool.eq_iff_iff]; simp only [winsB, winsZ, Bool.or_eq_true, decide_eq_true_eq, Bool.not_eq_true', Bool.and_eq_false_iff, decide_eq_false_iff_not]; omega

set_option maxRecDepth 100000 in
set_option maxHeartbeats 3200000 in
theorem law_any (a b c : It) (w : World) : Calls Try.prog 5 #[.agg (itc a).toArray, .agg (itc b).toArray, .agg (itc c).toArray] w fun e w' => e = .returned (.bool true) ∧ Up w w' := by
  have e0 := wins_irr a
  have e1 := wins_like a b
  have e2 := wins_anti a b
  have e3 := wins_tr a b c
  have ca := wins_any a a
  have cb := wins_any a b
  have cc := wins_any b a
  have cd := wins_any b c
  have ce := wins_any a c
  rw [e0] at ca
  generalize winsB a b = p at *
  generalize winsB b a = q at *
  generalize winsB b c = r at *
  generalize winsB a c = s at *
  show Calls _ _ #[.agg #[.int .i64 a.s.toInt, .int .i64 a.k.toInt, .int .u64 (a.t.toNat : Int), .int .u64 (a.v.toNat : Int), .int .i64 a.x.toInt], .agg #[.int .i64 b.s.toInt, .int .i64 b.k.toInt, .int .u64 (b.t.toNat : Int), .int .u64 (b.v.toNat : Int), .int .i64 b.x.toInt], .agg #[.int .i64 c.s.toInt, .int .i64 c.k.toInt, .int .u64 (c.t.toNat : Int), .int .u64 (c.v.toNat : Int), .int .i64 c.x.toInt]] w _
  have ha := lit_stay w a #[.int .i64 a.s.toInt, .int .i64 a.k.toInt, .int .u64 (a.t.toNat : Int), .int .u64 (a.v.toNat : Int), .int .i64 a.x.toInt] 24 rfl rfl
  have hb := lit_stay (w.alloc (.cells #[.int .i64 a.s.toInt, .int .i64 a.k.toInt, .int .u64 (a.t.toNat : Int), .int .u64 (a.v.toNat : Int), .int .i64 a.x.toInt] 24)) b #[.int .i64 b.s.toInt, .int .i64 b.k.toInt, .int .u64 (b.t.toNat : Int), .int .u64 (b.v.toNat : Int), .int .i64 b.x.toInt] 24 (World.size_alloc _ _) rfl
  have hc := lit_stay ((w.alloc (.cells #[.int .i64 a.s.toInt, .int .i64 a.k.toInt, .int .u64 (a.t.toNat : Int), .int .u64 (a.v.toNat : Int), .int .i64 a.x.toInt] 24)).alloc (.cells #[.int .i64 b.s.toInt, .int .i64 b.k.toInt, .int .u64 (b.t.toNat : Int), .int .u64 (b.v.toNat : Int), .int .i64 b.x.toInt] 24)) c #[.int .i64 c.s.toInt, .int .i64 c.k.toInt, .int .u64 (c.t.toNat : Int), .int .u64 (c.v.toNat : Int), .int .i64 c.x.toInt] 24 (g := w.heap.size + 1 + 1) (by simp) rfl
  have ha3 := fun W (h : Up (((w.alloc (.cells #[.int .i64 a.s.toInt, .int .i64 a.k.toInt, .int .u64 (a.t.toNat : Int), .int .u64 (a.v.toNat : Int), .int .i64 a.x.toInt] 24)).alloc (.cells #[.int .i64 b.s.toInt, .int .i64 b.k.toInt, .int .u64 (b.t.toNat : Int), .int .u64 (b.v.toNat : Int), .int .i64 b.x.toInt] 24)).alloc (.cells #[.int .i64 c.s.toInt, .int .i64 c.k.toInt, .int .u64 (c.t.toNat : Int), .int .u64 (c.v.toNat : Int), .int .i64 c.x.toInt] 24)) W) => ha W ((((Up.refl _).alloc _).alloc _).trans h)
  have hb3 := fun W (h : Up (((w.alloc (.cells #[.int .i64 a.s.toInt, .int .i64 a.k.toInt, .int .u64 (a.t.toNat : Int), .int .u64 (a.v.toNat : Int), .int .i64 a.x.toInt] 24)).alloc (.cells #[.int .i64 b.s.toInt, .int .i64 b.k.toInt, .int .u64 (b.t.toNat : Int), .int .u64 (b.v.toNat : Int), .int .i64 b.x.toInt] 24)).alloc (.cells #[.int .i64 c.s.toInt, .int .i64 c.k.toInt, .int .u64 (c.t.toNat : Int), .int .u64 (c.v.toNat : Int), .int .i64 c.x.toInt] 24)) W) => hb W (((Up.refl _).alloc _).trans h)
  clear ha hb
  have hu := Up.refl (((w.alloc (.cells #[.int .i64 a.s.toInt, .int .i64 a.k.toInt, .int .u64 (a.t.toNat : Int), .int .u64 (a.v.toNat : Int), .int .i64 a.x.toInt] 24)).alloc (.cells #[.int .i64 b.s.toInt, .int .i64 b.k.toInt, .int .u64 (b.t.toNat : Int), .int .u64 (b.v.toNat : Int), .int .i64 b.x.toInt] 24)).alloc (.cells #[.int .i64 c.s.toInt, .int .i64 c.k.toInt, .int .u64 (c.t.toNat : Int), .int .u64 (c.v.toNat : Int), .int .i64 c.x.toInt] 24))
  have hup : Up w (((w.alloc (.cells #[.int .i64 a.s.toInt, .int .i64 a.k.toInt, .int .u64 (a.t.toNat : Int), .int .u64 (a.v.toNat : Int), .int .i64 a.x.toInt] 24)).alloc (.cells #[.int .i64 b.s.toInt, .int .i64 b.k.toInt, .int .u64 (b.t.toNat : Int), .int .u64 (b.v.toNat : Int), .int .i64 b.x.toInt] 24)).alloc (.cells #[.int .i64 c.s.toInt, .int .i64 c.k.toInt, .int .u64 (c.t.toNat : Int), .int .u64 (c.v.toNat : Int), .int .i64 c.x.toInt] 24)) := (((Up.refl w).alloc _).alloc _).alloc _
  generalize a.s.toInt = a1 at *
  generalize a.k.toInt = a2 at *
  generalize a.t.toNat = a3 at *
  generalize b.s.toInt = b1 at *
  generalize b.k.toInt = b2 at *
  generalize b.t.toNat = b3 at *
  generalize c.s.toInt = c1 at *
  generalize c.k.toInt = c2 at *
  generalize c.t.toNat = c3 at *
  generalize a.v.toNat = a4 at *
  generalize b.v.toNat = b4 at *
  generalize c.v.toNat = c4 at *
  generalize a.x.toInt = a5 at *
  generalize b.x.toInt = b5 at *
  generalize c.x.toInt = c5 at *
  generalize hw3 : (((w.alloc (.cells #[.int .i64 a1, .int .i64 a2, .int .u64 (a3 : Int), .int .u64 (a4 : Int), .int .i64 a5] 24)).alloc (.cells #[.int .i64 b1, .int .i64 b2, .int .u64 (b3 : Int), .int .u64 (b4 : Int), .int .i64 b5] 24)).alloc (.cells #[.int .i64 c1, .int .i64 c2, .int .u64 (c3 : Int), .int .u64 (c4 : Int), .int .i64 c5] 24)) = w3 at hu hc ha3 hb3 hup
  have Ca := keepUp ca w3
  have Cb := keepUp cb w3
  have Cc := keepUp cc w3
  have Cd := keepUp cd w3
  have Ce := keepUp ce w3
  have C0 := keepUp awake5_any w3
  have hu : Up w3 (((w.alloc (.cells #[.int .i64 a1, .int .i64 a2, .int .u64 (a3 : Int), .int .u64 (a4 : Int), .int .i64 a5] 24)).alloc (.cells #[.int .i64 b1, .int .i64 b2, .int .u64 (b3 : Int), .int .u64 (b4 : Int), .int .i64 b5] 24)).alloc (.cells #[.int .i64 c1, .int .i64 c2, .int .u64 (c3 : Int), .int .u64 (c4 : Int), .int .i64 c5] 24)) := by rw [hw3]; exact hu
  have HW := Lib.hid hw3
  clear hw3
  clear ca cb cc cd ce e0
  have hvs : (a4 = b4 ∧ a5 = b5) ∨ (a4 = b4 ∧ ¬ a5 = b5) ∨ ¬ (a4 : Int) = b4 := by omega
  rcases hvs with ⟨hv, hx⟩ | ⟨hv, hx⟩ | hv
  · subst hv
    subst hx
    have h1 := e1
    simp at h1
    obtain ⟨hp, hq⟩ := h1
    subst hp
    subst hq
    clear e1 e2 e3
    cases r <;> cases s
    all_goals
      go_enter Try.func5, Try.ntmps5
      go_wp2_with fail
      repeat' ((first | (go_at_call 15; first | with_reducible refine ((Ca.out _ hu).mono ?_) | with_reducible refine ((Cb.out _ hu).mono ?_) | with_reducible refine ((Cc.out _ hu).mono ?_) | with_reducible refine ((Cd.out _ hu).mono ?_) | with_reducible refine ((Ce.out _ hu).mono ?_)) | (go_at_call 11; with_reducible refine ((C0.out _ hu).mono ?_))); clear hu; rintro e W1 ⟨rfl, hu⟩; go_wp2_with fail)
      all_goals
        go_ret
        exact ⟨rfl, hup.trans hu⟩
  · subst hv
    have h1 : (p || q) = true := by rw [e1]; simp [hx]
    clear e1
    cases p <;> cases q <;> cases r <;> cases s
    all_goals first
      | (exfalso; clear Ca Cb Cc Cd Ce C0 hup hu hc ha3 hb3 HW; simp_all; done)
      | skip
    all_goals
      clear h1 e2 e3
      go_enter Try.func5, Try.ntmps5
      go_wp2_with fail
      repeat' ((first | (go_at_call 15; first | with_reducible refine ((Ca.out _ hu).mono ?_) | with_reducible refine ((Cb.out _ hu).mono ?_) | with_reducible refine ((Cc.out _ hu).mono ?_) | with_reducible refine ((Cd.out _ hu).mono ?_) | with_reducible refine ((Ce.out _ hu).mono ?_)) | (go_at_call 11; with_reducible refine ((C0.out _ hu).mono ?_))); clear hu; rintro e W1 ⟨rfl, hu⟩; go_wp2_with fail)
      all_goals
        go_ret
        exact ⟨rfl, hup.trans hu⟩
  · have h1 : (p || q) = true := by rw [e1]; simp only [hv]; simp
    clear e1
    cases p <;> cases q <;> cases r <;> cases s
    all_goals first
      | (exfalso; clear Ca Cb Cc Cd Ce C0 hup hu hc ha3 hb3 HW; simp_all; done)
      | skip
    all_goals
      clear h1 e2 e3
      go_enter Try.func5, Try.ntmps5
      go_wp2_with fail
      repeat' ((first | (go_at_call 15; first | with_reducible refine ((Ca.out _ hu).mono ?_) | with_reducible refine ((Cb.out _ hu).mono ?_) | with_reducible refine ((Cc.out _ hu).mono ?_) | with_reducible refine ((Cd.out _ hu).mono ?_) | with_reducible refine ((Ce.out _ hu).mono ?_)) | (go_at_call 11; with_reducible refine ((C0.out _ hu).mono ?_))); clear hu; rintro e W1 ⟨rfl, hu⟩; go_wp2_with fail)
      all_goals
        go_ret
        exact ⟨rfl, hup.trans hu⟩
end Go.Proofs.Ytpifigalaembdaa.itemWins
