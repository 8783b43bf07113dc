/-
  Texts of this claim, joined: BlkW7, Apart.
-/
import Derived.Test.YtijekbeofpaojaaZ4
/-
  The walk of block.Find.
-/
namespace Go.Proofs.Ytijekbeofpaojaa
open Go.RowKit
set_option linter.unusedVariables false
set_option linter.unusedSimpArgs false

/-- where the first stands that is not below x -/
def geI (x : It) : List It → Nat
  | [] => 0
  | y :: r => if lessB y x = true then geI x r + 1 else 0
theorem geI_step {x : It} : ∀ {l : List It} {k : Nat} (h : k < l.length), k ≤ geI x l → (lessB l[k] x = true → k + 1 ≤ geI x l) ∧ (lessB l[k] x = false → k = geI x l)
  | [], k, h, _ => absurd h (Nat.not_lt_zero _)
  | y :: r, 0, h, _ => by
    unfold geI
    simp only [List.getElem_cons_zero]
    exact ⟨fun h1 => by rw [if_pos h1]; omega, fun h1 => by rw [if_neg (by rw [h1]; simp)]⟩
  | y :: r, k + 1, h, hk => by
    unfold geI at hk ⊢
    by_cases hy : lessB y x = true
    · rw [if_pos hy] at hk ⊢
      have ih := geI_step (x := x) (l := r) (k := k) (by simpa using h) (by omega)
      simp only [List.getElem_cons_succ]
      exact ⟨fun h1 => by have := ih.1 h1; omega, fun h1 => by have := ih.2 h1; omega⟩
    · rw [if_neg hy] at hk; omega
/-- Find: is it there, and which -/
def findL (l : List It) (x : It) : Option It := l.find? fun y => sameB y x
theorem less_trans {a b c : It} (h1 : lessB a b = true) (h2 : lessB b c = true) : lessB a c = true := by
  rw [less_iff] at *; omega
theorem same_less {a b c : It} (h1 : sameB a b = true) : lessB c a = lessB c b := by
  rw [same_iff] at h1
  rw [Bool.eq_iff_iff, less_iff, less_iff]; omega
/-- behind a head each is greater -/
theorem riseR_all : ∀ {l : List It} {a : It}, riseR (a :: l) → ∀ y ∈ l, lessB a y = true
  | [], _, _, y, hy => by cases hy
  | b :: r, a, h, y, hy => by
    rcases List.mem_cons.1 hy with e | hy
    · rw [e]; exact h.1
    · exact less_trans h.1 (riseR_all h.2 y hy)
theorem find_ge : ∀ (l : List It) (x : It), riseR l → findL l x = (if h : geI x l < l.length then (if sameB l[geI x l] x then some l[geI x l] else none) else none)
  | [], x, _ => rfl
  | a :: r, x, h => by
    have ih := find_ge r x (riseR_tail h)
    by_cases hl : lessB a x = true
    · have hs : sameB a x = false := by
        rw [← Bool.not_eq_true, same_iff]; rw [less_iff] at hl; omega
      have e1 : geI x (a :: r) = geI x r + 1 := by rw [show geI x (a :: r) = if lessB a x = true then geI x r + 1 else 0 from rfl, if_pos hl]
      have e2 : findL (a :: r) x = findL r x := by unfold findL; rw [List.find?_cons, hs]
      rw [e2, ih]
      simp only [e1, List.length_cons, Nat.add_lt_add_iff_right, List.getElem_cons_succ]
    · have e1 : geI x (a :: r) = 0 := by rw [show geI x (a :: r) = if lessB a x = true then geI x r + 1 else 0 from rfl, if_neg hl]
      simp only [e1, List.length_cons, Nat.zero_lt_succ, dite_true, List.getElem_cons_zero]
      by_cases hs : sameB a x = true
      · rw [if_pos hs]; unfold findL; rw [List.find?_cons, hs]
      · rw [if_neg hs]
        unfold findL
        rw [List.find?_eq_none]
        intro y hy h1
        rcases List.mem_cons.1 hy with e | hy
        · rw [e] at h1; exact hs h1
        · have h2 := riseR_all h y hy
          rw [same_less h1] at h2
          exact hl h2
set_option maxRecDepth 100000 in
set_option maxHeartbeats 800000 in
theorem find1_any (y x : It) (g : Nat) (w : World) (hg : w.heap[g]? = some (.cells #[.int .i64 x.s.toInt, .int .i64 x.k.toInt, .int .u64 (x.t.toNat : Int), .int .u64 (x.v.toNat : Int), .int .i64 x.x.toInt] 46 (0, 0))) :
    Calls Try.prog 37 #[.agg #[.int .i64 y.s.toInt, .int .i64 y.k.toInt, .int .u64 (y.t.toNat : Int), .int .u64 (y.v.toNat : Int), .int .i64 y.x.toInt], .pointer (some ⟨g, 0, none⟩)] w fun e w' => e = .returned (.bool (!lessB y x)) ∧ Up w w' := by
  have hub := fun o => (Up.refl w).alloc o
  have k0 : ∀ o, (w.alloc o).cell? ⟨g, 0, none⟩ = some (.int .i64 x.s.toInt) := fun o => blk_cell (blk_up (hub o) hg) 0
  have k1 : ∀ o, (w.alloc o).cell? ⟨g, 1, none⟩ = some (.int .i64 x.k.toInt) := fun o => blk_cell (blk_up (hub o) hg) 1
  have k2 : ∀ o, (w.alloc o).cell? ⟨g, 2, none⟩ = some (.int .u64 (x.t.toNat : Int)) := fun o => blk_cell (blk_up (hub o) hg) 2
  have k3 : ∀ o, (w.alloc o).cell? ⟨g, 3, none⟩ = some (.int .u64 (x.v.toNat : Int)) := fun o => blk_cell (blk_up (hub o) hg) 3
  have k4 : ∀ o, (w.alloc o).cell? ⟨g, 4, none⟩ = some (.int .i64 x.x.toInt) := fun o => blk_cell (blk_up (hub o) hg) 4
  clear hub
  go_enter Try.func37, Try.ntmps37
  go_wp2_with fail
  refine (less_any y x _).mono ?_
  rintro e w2 ⟨rfl, hu2⟩
  go_wp2_with fail
  go_ret
  exact ⟨rfl, ((Up.refl w).alloc _).trans hu2⟩
def IdxPost (G n : Nat) (w : World) (e : Ending) (w' : World) : Prop := e = .returned (.int .i64 (if G < n then (G : Int) else -1)) ∧ Up w w'
set_option maxRecDepth 100000 in
set_option maxHeartbeats 1600000 in
theorem findex_any (A : Option Addr) (n c : Nat) (l : List It) (x : It) (g : Nat) (w : World) (hr : Rd w w.heap.size 5 A n (itcs l)) (hn : n ≤ 9223372036854775807) (hg : w.heap[g]? = some (.cells #[.int .i64 x.s.toInt, .int .i64 x.k.toInt, .int .u64 (x.t.toNat : Int), .int .u64 (x.v.toNat : Int), .int .i64 x.x.toInt] 46 (0, 0))) :
    Calls Try.prog 36 #[.slice A n c, .func (.func 37) #[] #[.pointer (some ⟨g, 0, none⟩)]] w (IdxPost (geI x l) n w) := by
  have HL := Lib.hid hr.ilen
  obtain ⟨G, hG⟩ : ∃ q, q = geI x l := ⟨_, rfl⟩
  rw [← hG]
  have HG := Lib.hid hG
  clear hG
  obtain ⟨wo, hwo⟩ : ∃ q, q = w := ⟨_, rfl⟩
  subst hwo
  go_enter Try.func36, Try.ntmps36
  go_wp2_with fail
  go_loopw [8] (fun i wr => ∃ k : Nat, i = .int .i64 (k : Int) ∧ k ≤ n ∧ k ≤ G ∧ Up wo wr) (fun i _ => n - (intOf i).toNat)
  case atStart => exact ⟨0, rfl, by omega, by omega, Up.refl _⟩
  case round =>
    obtain ⟨k, rfl, hk, hkG, hu⟩ := hrel
    by_cases hlt : k < n
    · obtain ⟨b, o, i, rfl, hb, hik, c0, c1, c2, c3, c4⟩ := (hr.stay (Nat.le_refl _) hu).item_at hlt
      have hkl : k < l.length := by have := HL.out; omega
      have hi : l[k] = i := by
        rw [List.getElem?_eq_getElem hkl] at hik
        injection hik
      have HI := Lib.hid hi
      have hgr := blk_up hu hg
      clear hik hi
      go_wp2_with fail
      refine (find1_any i x g wr hgr).mono ?_
      rintro e w2 ⟨rfl, hu2⟩
      clear c0 c1 c2 c3 c4
      obtain ⟨lb, hlb⟩ : ∃ q, q = lessB i x := ⟨_, rfl⟩
      rw [← hlb]
      have HLB := Lib.hid hlb
      clear hlb
      cases lb
      · have hz : Hid (k = G) := by
          show _ = _
          rw [HG.out]
          exact (geI_step hkl (by rw [← HG.out]; exact hkG)).2 (by rw [HI.out]; exact HLB.out.symm)
        go_wp2_with fail
        go_ret
        refine ⟨?_, hu.trans hu2⟩
        show Ending.returned (.int .i64 (k : Int)) = _
        rw [← hz.out, if_pos hlt]
      · have hz : k + 1 ≤ G := by
          rw [HG.out]
          exact (geI_step hkl (by rw [← HG.out]; exact hkG)).1 (by rw [HI.out]; exact HLB.out.symm)
        go_wp2_with fail
        go_roundw
        case rel => exact ⟨k + 1, by go_num, by omega, hz, hu.trans hu2⟩
        case measure => simp [intOf]; omega
    · go_wp2_with fail
      go_ret
      refine ⟨?_, hu⟩
      show Ending.returned (.int .i64 (-1)) = _
      rw [if_neg (by omega)]
theorem keepsUpG {w wq w2 : World} {gx : Nat} (hu : Up w wq) (hg : w.heap.size ≤ gx) (hK : Rg.Keeps (fun g => g = gx) wq w2) : Up w w2 :=
  ⟨hK.os.trans hu.os, hK.tape.trans hu.tape, hK.output.trans hu.output, Nat.le_trans hu.size hK.size, fun k hk => (hK.block k (Nat.lt_of_lt_of_le hk hu.size) (by show ¬ k = gx; omega)).trans (hu.block k hk)⟩
def FindPost (r : Option It) (w : World) (e : Ending) (w' : World) : Prop :=
  (∃ i : It, r = some i ∧ e = .returned (.tuple #[.agg #[.int .i64 i.s.toInt, .int .i64 i.k.toInt, .int .u64 (i.t.toNat : Int), .int .u64 (i.v.toNat : Int), .int .i64 i.x.toInt], .bool true]) ∧ Up w w') ∨
  (r = none ∧ e = .returned (.tuple #[.agg #[.int .i64 0, .int .i64 0, .int .u64 0, .int .u64 0, .int .i64 0], .bool false]) ∧ Up w w')
set_option maxRecDepth 100000 in
set_option maxHeartbeats 4000000 in
theorem find_any (A : Option Addr) (n c : Nat) (l : List It) (x : It) (w : World) (hr : Rd w w.heap.size 5 A n (itcs l)) (hn : n ≤ 1099511627776) (hrise : riseR l) :
    Calls Try.prog 19 #[.slice A n c, .agg #[.int .i64 x.s.toInt, .int .i64 x.k.toInt, .int .u64 (x.t.toNat : Int), .int .u64 (x.v.toNat : Int), .int .i64 x.x.toInt]] w (FindPost (findL l x) w) := by
  have hl := hr.ilen
  have hfg := find_ge l x hrise
  obtain ⟨G, hG⟩ : ∃ q, q = geI x l := ⟨_, rfl⟩
  have HFG : Hid (findL l x = (if h : G < l.length then (if sameB l[G] x then some l[G] else none) else none)) := by show _ = _; rw [hfg]; simp only [hG]
  obtain ⟨w2, hw2⟩ : ∃ w2, w2 = (w.alloc (.cells #[.int .i64 x.s.toInt, .int .i64 x.k.toInt, .int .u64 (x.t.toNat : Int), .int .u64 (x.v.toNat : Int), .int .i64 x.x.toInt] 46)).alloc (.cells #[.int .i64 0, .int .i64 0, .int .u64 0, .int .u64 0, .int .i64 0] 46) := ⟨_, rfl⟩
  have hup2 : Up w w2 := by rw [hw2]; exact ((Up.refl w).alloc _).alloc _
  have hx2 : w2.heap[w.heap.size]? = some (.cells #[.int .i64 x.s.toInt, .int .i64 x.k.toInt, .int .u64 (x.t.toNat : Int), .int .u64 (x.v.toNat : Int), .int .i64 x.x.toInt] 46 (0, 0)) := by
    rw [hw2, Below.heap_alloc _ _ _ (by simp)]; exact heap_alloc_new w _
  have hz2 : w2.heap[w.heap.size + 1]? = some (.cells #[.int .i64 0, .int .i64 0, .int .u64 0, .int .u64 0, .int .i64 0] 46 (0, 0)) := by
    rw [hw2]
    have h := heap_alloc_new (w.alloc (.cells #[.int .i64 x.s.toInt, .int .i64 x.k.toInt, .int .u64 (x.t.toNat : Int), .int .u64 (x.v.toNat : Int), .int .i64 x.x.toInt] 46)) (.cells #[.int .i64 0, .int .i64 0, .int .u64 0, .int .u64 0, .int .i64 0] 46)
    rwa [World.size_alloc] at h
  have hr2 := hr.up hup2
  have HW := Lib.hid hw2
  have HL := Lib.hid hl
  have HG := Lib.hid hG
  clear hw2 hr hfg hl hG
  go_enter Try.func19, Try.ntmps19
  go_wp2_with fail
  rw [← HW.out]
  clear HW
  have hgw : w.heap.size ≤ w.heap.size + 1 := Nat.le_succ _
  generalize hg2 : w.heap.size + 1 = g2 at hz2 hgw ⊢
  generalize w.heap.size = g1 at hx2 ⊢
  refine (findex_any A n c l x g1 w2 hr2 (by omega) hx2).mono ?_
  rintro e w3 ⟨rfl, hu3⟩
  rw [← HG.out]
  have hx3 := blk_up hu3 hx2
  have hz3 := blk_up hu3 hz2
  have hr3 := hr2.up hu3
  have hup3 := hup2.trans hu3
  clear hx2 hz2 hr2 hup2 hu3 HG
  by_cases hlt : G < n
  · rw [if_pos hlt]
    obtain ⟨b, o, y, rfl, hb, hy, c0, c1, c2, c3, c4⟩ := hr3.item_at hlt
    have hGl : G < l.length := by have := HL.out; omega
    have hly : l[G] = y := by
      rw [List.getElem?_eq_getElem hGl] at hy
      injection hy
    have hfd : findL l x = (if sameB y x then some y else none) := by rw [HFG.out, dif_pos hGl, hly]
    have HFD := Lib.hid hfd
    have hS : ∀ W, Up w3 W → Up w3 W ∧ (W.cell? ⟨b, o + G * 5, none⟩ = some (.int .i64 y.s.toInt) ∧ W.cell? ⟨b, o + G * 5 + 1, none⟩ = some (.int .i64 y.k.toInt) ∧ W.cell? ⟨b, o + G * 5 + 2, none⟩ = some (.int .u64 (y.t.toNat : Int)) ∧ W.cell? ⟨b, o + G * 5 + 3, none⟩ = some (.int .u64 (y.v.toNat : Int)) ∧ W.cell? ⟨b, o + G * 5 + 4, none⟩ = some (.int .i64 y.x.toInt)) ∧
        (W.cell? ⟨g1, 0, none⟩ = some (.int .i64 x.s.toInt) ∧ W.cell? ⟨g1, 1, none⟩ = some (.int .i64 x.k.toInt) ∧ W.cell? ⟨g1, 2, none⟩ = some (.int .u64 (x.t.toNat : Int)) ∧ W.cell? ⟨g1, 3, none⟩ = some (.int .u64 (x.v.toNat : Int)) ∧ W.cell? ⟨g1, 4, none⟩ = some (.int .i64 x.x.toInt)) := fun W h => by
      have h5 := blk_up h hx3
      exact ⟨h, ⟨(h.cell (p := ⟨b, o + G * 5, none⟩) hb).trans c0, (h.cell (p := ⟨b, o + G * 5 + 1, none⟩) hb).trans c1, (h.cell (p := ⟨b, o + G * 5 + 2, none⟩) hb).trans c2, (h.cell (p := ⟨b, o + G * 5 + 3, none⟩) hb).trans c3, (h.cell (p := ⟨b, o + G * 5 + 4, none⟩) hb).trans c4⟩, blk_cell h5 0, blk_cell h5 1, blk_cell h5 2, blk_cell h5 3, blk_cell h5 4⟩
    have HS := Lib.hid hS
    have d0 : decide ((G : Int) < 0) = false := by simp
    obtain ⟨sm, hsm⟩ : ∃ q, q = sameB y x := ⟨_, rfl⟩
    have hcs := fun W => same_any y x W
    rw [← hsm] at hcs HFD
    clear c0 c1 c2 c3 c4 hy hly hsm hfd HFG
    go_wp2_with fail
    apply Rg.region_up _ (by kernel_rfl) (by kernel_rfl) hS
    · intro QN hQN
      iterate 3 (apply Rg.RK.ok; (· intro vs w1 hS; go_simp; with_reducible rfl); (· rfl); simp only [Act.put, List.setIfInBounds_toArray, List.set_cons_zero, List.set_cons_succ, Nat.reduceAdd])
      iterate 5 (apply Rg.RK.gok (t := 12); (· intro vs w1 hS; go_simp; with_reducible rfl); (· rfl); (· intro vs; rfl); simp only [Act.put, List.setIfInBounds_toArray, List.set_cons_zero, List.set_cons_succ, Nat.reduceAdd])
      apply Rg.RK.gcall (t := 12) (.bool sm) []
      · rfl
      · intro vs; rfl
      · intro vs w1 hK hS _ K hKK
        go_simp
        refine (hcs w1).mono ?_
        rintro e w2 ⟨rfl, hu2⟩
        exact hKK.out _ hu2
      simp only [Act.put, List.setIfInBounds_toArray, List.set_cons_zero, List.set_cons_succ, Nat.reduceAdd]
      iterate 1 (apply Rg.RK.gok (t := 12); (· intro vs w1 hS; go_simp; with_reducible rfl); (· rfl); (· intro vs; rfl); simp only [Act.put, List.setIfInBounds_toArray, List.set_cons_zero, List.set_cons_succ, Nat.reduceAdd])
      iterate 1 (apply Rg.RK.ok; (· intro vs w1 hS; go_simp; with_reducible rfl); (· rfl); simp only [Act.put, List.setIfInBounds_toArray, List.set_cons_zero, List.set_cons_succ, Nat.reduceAdd])
      apply Rg.RK.fin []
      intro vs w1 hK hS _
      refine hQN.out _ _ ?_
      clear hQN
      have hu4 := keeps_up hK
      have hz4 := blk_up hu4 hz3
      obtain ⟨-, ⟨c0, c1, c2, c3, c4⟩, -⟩ := hS
      have hup4 := hup3.trans hu4
      clear hK hx3 hz3 hu4 hcs
      cases sm
      · go_wp2_with (first
          | (with_reducible show wpList _ _ _ (⟨none, .store 46 _ _, _, _, _, none⟩ :: _) _ _
             go_loud (refine wpList_store_it5 rfl _ _ rfl (g := g2) (z0 := .int .i64 0) (z1 := .int .i64 0) (z2 := .int .u64 0) (z3 := .int .u64 0) (z4 := .int .i64 0) (by kernel_rfl) (by kernel_rfl) hz4 (by simp [Value.oneCell']) ?_)
             intro w5 hgd hbut
             have hup5 := But.up hup4 hbut hgw
             clear hbut hz4
             have e0 := blk_cell hgd 0
             have e1 := blk_cell hgd 1
             have e2 := blk_cell hgd 2
             have e3 := blk_cell hgd 3
             have e4 := blk_cell hgd 4
             have f0 := blk_free hgd 0
             have f1 := blk_free hgd 1
             have f2 := blk_free hgd 2
             have f3 := blk_free hgd 3
             have f4 := blk_free hgd 4
             simp only [List.getElem?_toArray, List.getElem?_cons_zero, List.getElem?_cons_succ] at e0 e1 e2 e3 e4
             clear hgd))
        refine bodyPost_ret (v := .tuple #[.agg #[.int .i64 0, .int .i64 0, .int .u64 0, .int .u64 0, .int .i64 0], .bool false]) (by simp [results, Try.results19, go_sem, e0, e1, e2, e3, e4]) rfl ?_
        exact .inr ⟨HFD.out, rfl, hup5⟩
      · go_wp2_with (first
          | (with_reducible show wpList _ _ _ (⟨none, .store 46 _ _, _, _, _, none⟩ :: _) _ _
             go_loud (refine wpList_store_it5 rfl _ _ rfl (g := g2) (z0 := .int .i64 y.s.toInt) (z1 := .int .i64 y.k.toInt) (z2 := .int .u64 (y.t.toNat : Int)) (z3 := .int .u64 (y.v.toNat : Int)) (z4 := .int .i64 y.x.toInt) (by kernel_rfl) (by kernel_rfl) hz4 (by simp [Value.oneCell']) ?_)
             intro w5 hgd hbut
             have hup5 := But.up hup4 hbut hgw
             clear hbut hz4
             have e0 := blk_cell hgd 0
             have e1 := blk_cell hgd 1
             have e2 := blk_cell hgd 2
             have e3 := blk_cell hgd 3
             have e4 := blk_cell hgd 4
             have f0 := blk_free hgd 0
             have f1 := blk_free hgd 1
             have f2 := blk_free hgd 2
             have f3 := blk_free hgd 3
             have f4 := blk_free hgd 4
             simp only [List.getElem?_toArray, List.getElem?_cons_zero, List.getElem?_cons_succ] at e0 e1 e2 e3 e4
             clear hgd))
        refine bodyPost_ret (v := .tuple #[.agg #[.int .i64 y.s.toInt, .int .i64 y.k.toInt, .int .u64 (y.t.toNat : Int), .int .u64 (y.v.toNat : Int), .int .i64 y.x.toInt], .bool true]) (by simp [results, Try.results19, go_sem, e0, e1, e2, e3, e4]) rfl ?_
        exact .inl ⟨y, HFD.out, rfl, hup5⟩
    · kernel_rfl
  · rw [if_neg hlt]
    have hfd : findL l x = none := by rw [HFG.out, dif_neg (by have := HL.out; omega)]
    have HFD := Lib.hid hfd
    have d0 : decide ((-1 : Int) < 0) = true := rfl
    clear hfd HFG
    go_wp2_with fail
    apply Rg.region_up (fun W => Up w3 W) (by kernel_rfl) (by kernel_rfl) (fun _ h => h)
    · intro QN hQN
      iterate 3 (apply Rg.RK.ok; (· intro vs w1 hS; go_simp; with_reducible rfl); (· rfl); simp only [Act.put, List.setIfInBounds_toArray, List.set_cons_zero, List.set_cons_succ, Nat.reduceAdd])
      iterate 7 (apply Rg.RK.gno (t := 12) (y := true); (· rfl); (· intro vs; rfl); (· rfl); simp only [Act.put, List.setIfInBounds_toArray, List.set_cons_zero, List.set_cons_succ, Nat.reduceAdd])
      iterate 1 (apply Rg.RK.ok; (· intro vs w1 hS; go_simp; with_reducible rfl); (· rfl); simp only [Act.put, List.setIfInBounds_toArray, List.set_cons_zero, List.set_cons_succ, Nat.reduceAdd])
      apply Rg.RK.fin []
      intro vs w1 hK hS _
      refine hQN.out _ _ ?_
      clear hQN
      have hu4 := keeps_up hK
      have hz4 := blk_up hu4 hz3
      have hup4 := hup3.trans hu4
      clear hK hx3 hz3 hu4 hS
      go_wp2_with (first
        | (with_reducible show wpList _ _ _ (⟨none, .store 46 _ _, _, _, _, none⟩ :: _) _ _
           go_loud (refine wpList_store_it5 rfl _ _ rfl (g := g2) (z0 := .int .i64 0) (z1 := .int .i64 0) (z2 := .int .u64 0) (z3 := .int .u64 0) (z4 := .int .i64 0) (by kernel_rfl) (by kernel_rfl) hz4 (by simp [Value.oneCell']) ?_)
           intro w5 hgd hbut
           have hup5 := But.up hup4 hbut hgw
           clear hbut hz4
           have e0 := blk_cell hgd 0
           have e1 := blk_cell hgd 1
           have e2 := blk_cell hgd 2
           have e3 := blk_cell hgd 3
           have e4 := blk_cell hgd 4
           have f0 := blk_free hgd 0
           have f1 := blk_free hgd 1
           have f2 := blk_free hgd 2
           have f3 := blk_free hgd 3
           have f4 := blk_free hgd 4
           simp only [List.getElem?_toArray, List.getElem?_cons_zero, List.getElem?_cons_succ] at e0 e1 e2 e3 e4
           clear hgd))
      refine bodyPost_ret (v := .tuple #[.agg #[.int .i64 0, .int .i64 0, .int .u64 0, .int .u64 0, .int .i64 0], .bool false]) (by simp [results, Try.results19, go_sem, e0, e1, e2, e3, e4]) rfl ?_
      exact .inr ⟨HFD.out, rfl, hup5⟩
    · kernel_rfl
end Go.Proofs.Ytijekbeofpaojaa

/-
  Rows of unlike types lie apart. No program is named here.
-/
namespace Go.Proofs.Ytijekbeofpaojaa
open Go.RowKit
set_option linter.unusedVariables false

/-- a row lies as it lay where another one of another type has grown -/
theorem own_apart {w w' : World} {base base' : Nat} {e e' : TypeId} {sz sz' n n' : Nat} {v v' : Value} {xs xs' : List Value} (h : w.ownsRow base e sz v n xs) (h2 : w.ownsRow base' e' sz' v' n' xs') (hne : e ≠ e') (hg : w.grownBy w' v'.ownBlock) : w'.ownsRow base e sz v n xs := by
  refine ⟨h.1, ?_⟩
  rcases h.2 with h3 | ⟨g, cap, cur, hv, hb, hh, r⟩
  · exact .inl h3
  · refine .inr ⟨g, cap, cur, hv, hb, (hg.block g (Array.getElem?_eq_some_iff.1 hh).1 (fun e9 => ?_)).trans hh, r⟩
    rcases h2.2 with ⟨h4, _⟩ | ⟨g', cap', cur', h4, _, hh', _⟩
    · rw [h4] at e9; cases e9
    · rw [h4] at e9
      simp only [Value.ownBlock, Option.some.injEq] at e9
      subst e9
      rw [hh] at hh'
      injection hh' with hh'
      injection hh' with q1 q2
      exact hne q2
end Go.Proofs.Ytijekbeofpaojaa
