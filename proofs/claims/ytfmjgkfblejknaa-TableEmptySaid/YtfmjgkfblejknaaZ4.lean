/-
  Texts of this claim, joined: LogW2, Apart, BlkW7, DkB2, BegC, MsgW1, MsgW2, OpenI.
-/
import Derived.Deep.Cut
import Derived.Deep.CutRange
import Derived.Test.YtfmjgkfblejknaaZ3
/-
  The walks of log.Replay and of the document's Replay.
-/
namespace Go.Proofs.Ytfmjgkfblejknaa
open Go.RowKit
set_option linter.unusedVariables false
set_option linter.unusedSimpArgs false

theorem rowsIT : SlT Try.prog 48 22 1 24 := SlT.mk' Try.underlying48 (z := .slice none 0 0) (by kernel_rfl) rfl (by decide)
def OwnRI (w : World) (base : Nat) (A : Option Addr) (n c : Nat) (rs : List Rw) : Prop := w.ownsRow base 22 1 (.slice A n c) n (rwv rs)
theorem OwnRI.rd {w : World} {base n c : Nat} {A : Option Addr} {rs : List Rw} (h : OwnRI w base A n c rs) : Rd w w.heap.size 1 A n (rwv rs) := Rd.own h
theorem OwnRI.len {w : World} {base n c : Nat} {A : Option Addr} {rs : List Rw} (h : OwnRI w base A n c rs) : n = rs.length := (OwnRI.rd h).rlen
theorem OwnRI.up {w w' : World} {base n c : Nat} {A : Option Addr} {rs : List Rw} (h : OwnRI w base A n c rs) (hu : Up w w') : OwnRI w' base A n c rs := own_up h hu
theorem OwnRI.nil (w : World) (base : Nat) : OwnRI w base none 0 0 [] := World.ownsRow_nil _ _ _ _
theorem OwnRI.snoc {w : World} {base n c : Nat} {A : Option Addr} {rs : List Rw} {A1 : Option Addr} {n1 c1 : Nat} {l : List It} (h : w.ownsRow base 22 1 (.slice A n c) n (rwv rs ++ [.slice A1 n1 c1])) : OwnRI w base A n c (rs ++ [⟨A1, n1, c1, l⟩]) := by
  unfold OwnRI; rw [rwv_snoc]; exact h
/-- rows of the call's own: what a Replay tells -/
def ReplPost (r : Option (List (List It) × Nat)) (w : World) (e : Ending) (w' : World) : Prop :=
  match r with
  | none => e = .returned (.tuple #[.slice none 0 0, .int .i64 0, .int .i64 9]) ∧ Up w w'
  | some x => ∃ R m rc rs, e = .returned (.tuple #[.slice R m rc, .int .i64 (x.2 : Int), .int .i64 0]) ∧ OwnRI w' w.heap.size R m rc rs ∧ RwOwn w' w.heap.size rs ∧ rwl rs = x.1 ∧ Up w w'
theorem ReplPost.no {r : Option (List (List It) × Nat)} {w w' : World} (h : r = none) (hu : Up w w') : ReplPost r w (.returned (.tuple #[.slice none 0 0, .int .i64 0, .int .i64 9])) w' := by subst h; exact ⟨rfl, hu⟩
end Go.Proofs.Ytfmjgkfblejknaa

/-
  Rows of unlike types lie apart. No program is named here.
-/
namespace Go.Proofs.Ytfmjgkfblejknaa
open Go.RowKit
set_option linter.unusedVariables false

/-- a row lies as it lay where another one of another type has grown -/
theorem own_apart {w w' : World} {base base' : Nat} {e e' : TypeId} {sz sz' n n' : Nat} {v v' : Value} {xs xs' : List Value} (h : w.ownsRow base e sz v n xs) (h2 : w.ownsRow base' e' sz' v' n' xs') (hne : e ≠ e') (hg : w.grownBy w' v'.ownBlock) : w'.ownsRow base e sz v n xs := by
  refine ⟨h.1, ?_⟩
  rcases h.2 with h3 | ⟨g, cap, cur, hv, hb, hh, r⟩
  · exact .inl h3
  · refine .inr ⟨g, cap, cur, hv, hb, (hg.block g (Array.getElem?_eq_some_iff.1 hh).1 (fun e9 => ?_)).trans hh, r⟩
    rcases h2.2 with ⟨h4, _⟩ | ⟨g', cap', cur', h4, _, hh', _⟩
    · rw [h4] at e9; cases e9
    · rw [h4] at e9
      simp only [Value.ownBlock, Option.some.injEq] at e9
      subst e9
      rw [hh] at hh'
      injection hh' with hh'
      injection hh' with q1 q2
      exact hne q2
end Go.Proofs.Ytfmjgkfblejknaa

/-
  The walk of block.Find.
-/
namespace Go.Proofs.Ytfmjgkfblejknaa
open Go.RowKit
set_option linter.unusedVariables false
set_option linter.unusedSimpArgs false

/-- where the first stands that is not below x -/
def geI (x : It) : List It → Nat
  | [] => 0
  | y :: r => if lessB y x = true then geI x r + 1 else 0
theorem geI_step {x : It} : ∀ {l : List It} {k : Nat} (h : k < l.length), k ≤ geI x l → (lessB l[k] x = true → k + 1 ≤ geI x l) ∧ (lessB l[k] x = false → k = geI x l)
  | [], k, h, _ => absurd h (Nat.not_lt_zero _)
  | y :: r, 0, h, _ => by
    unfold geI
    simp only [List.getElem_cons_zero]
    exact ⟨fun h1 => by rw [if_pos h1]; omega, fun h1 => by rw [if_neg (by rw [h1]; simp)]⟩
  | y :: r, k + 1, h, hk => by
    unfold geI at hk ⊢
    by_cases hy : lessB y x = true
    · rw [if_pos hy] at hk ⊢
      have ih := geI_step (x := x) (l := r) (k := k) (by simpa using h) (by omega)
      simp only [List.getElem_cons_succ]
      exact ⟨fun h1 => by have := ih.1 h1; omega, fun h1 => by have := ih.2 h1; omega⟩
    · rw [if_neg hy] at hk; omega
/-- Find: is it there, and which -/
def findL (l : List It) (x : It) : Option It := l.find? fun y => sameB y x
theorem less_trans {a b c : It} (h1 : lessB a b = true) (h2 : lessB b c = true) : lessB a c = true := by
  rw [less_iff] at *; omega
theorem same_less {a b c : It} (h1 : sameB a b = true) : lessB c a = lessB c b := by
  rw [same_iff] at h1
  rw [Bool.eq_iff_iff, less_iff, less_iff]; omega
/-- behind a head each is greater -/
theorem riseR_all : ∀ {l : List It} {a : It}, riseR (a :: l) → ∀ y ∈ l, lessB a y = true
  | [], _, _, y, hy => by cases hy
  | b :: r, a, h, y, hy => by
    rcases List.mem_cons.1 hy with e | hy
    · rw [e]; exact h.1
    · exact less_trans h.1 (riseR_all h.2 y hy)
theorem find_ge : ∀ (l : List It) (x : It), riseR l → findL l x = (if h : geI x l < l.length then (if sameB l[geI x l] x then some l[geI x l] else none) else none)
  | [], x, _ => rfl
  | a :: r, x, h => by
    have ih := find_ge r x (riseR_tail h)
    by_cases hl : lessB a x = true
    · have hs : sameB a x = false := by
        rw [← Bool.not_eq_true, same_iff]; rw [less_iff] at hl; omega
      have e1 : geI x (a :: r) = geI x r + 1 := by rw [show geI x (a :: r) = if lessB a x = true then geI x r + 1 else 0 from rfl, if_pos hl]
      have e2 : findL (a :: r) x = findL r x := by unfold findL; rw [List.find?_cons, hs]
      rw [e2, ih]
      simp only [e1, List.length_cons, Nat.add_lt_add_iff_right, List.getElem_cons_succ]
    · have e1 : geI x (a :: r) = 0 := by rw [show geI x (a :: r) = if lessB a x = true then geI x r + 1 else 0 from rfl, if_neg hl]
      simp only [e1, List.length_cons, Nat.zero_lt_succ, dite_true, List.getElem_cons_zero]
      by_cases hs : sameB a x = true
      · rw [if_pos hs]; unfold findL; rw [List.find?_cons, hs]
      · rw [if_neg hs]
        unfold findL
        rw [List.find?_eq_none]
        intro y hy h1
        rcases List.mem_cons.1 hy with e | hy
        · rw [e] at h1; exact hs h1
        · have h2 := riseR_all h y hy
          rw [same_less h1] at h2
          exact hl h2
set_option maxRecDepth 100000 in
set_option maxHeartbeats 800000 in
theorem find1_any (y x : It) (g : Nat) (w : World) (hg : w.heap[g]? = some (.cells #[.int .i64 x.s.toInt, .int .i64 x.k.toInt, .int .u64 (x.t.toNat : Int), .int .u64 (x.v.toNat : Int), .int .i64 x.x.toInt] 35 (0, 0))) :
    Calls Try.prog 54 #[.agg #[.int .i64 y.s.toInt, .int .i64 y.k.toInt, .int .u64 (y.t.toNat : Int), .int .u64 (y.v.toNat : Int), .int .i64 y.x.toInt], .pointer (some ⟨g, 0, none⟩)] w fun e w' => e = .returned (.bool (!lessB y x)) ∧ Up w w' := by
  have hub := fun o => (Up.refl w).alloc o
  have k0 : ∀ o, (w.alloc o).cell? ⟨g, 0, none⟩ = some (.int .i64 x.s.toInt) := fun o => blk_cell (blk_up (hub o) hg) 0
  have k1 : ∀ o, (w.alloc o).cell? ⟨g, 1, none⟩ = some (.int .i64 x.k.toInt) := fun o => blk_cell (blk_up (hub o) hg) 1
  have k2 : ∀ o, (w.alloc o).cell? ⟨g, 2, none⟩ = some (.int .u64 (x.t.toNat : Int)) := fun o => blk_cell (blk_up (hub o) hg) 2
  have k3 : ∀ o, (w.alloc o).cell? ⟨g, 3, none⟩ = some (.int .u64 (x.v.toNat : Int)) := fun o => blk_cell (blk_up (hub o) hg) 3
  have k4 : ∀ o, (w.alloc o).cell? ⟨g, 4, none⟩ = some (.int .i64 x.x.toInt) := fun o => blk_cell (blk_up (hub o) hg) 4
  clear hub
  go_enter Try.func54, Try.ntmps54
  go_wp2_with fail
  refine (less_any y x _).mono ?_
  rintro e w2 ⟨rfl, hu2⟩
  go_wp2_with fail
  go_ret
  exact ⟨rfl, ((Up.refl w).alloc _).trans hu2⟩
def IdxPost (G n : Nat) (w : World) (e : Ending) (w' : World) : Prop := e = .returned (.int .i64 (if G < n then (G : Int) else -1)) ∧ Up w w'
set_option maxRecDepth 100000 in
set_option maxHeartbeats 1600000 in
theorem findex_any (A : Option Addr) (n c : Nat) (l : List It) (x : It) (g : Nat) (w : World) (hr : Rd w w.heap.size 5 A n (itcs l)) (hn : n ≤ 9223372036854775807) (hg : w.heap[g]? = some (.cells #[.int .i64 x.s.toInt, .int .i64 x.k.toInt, .int .u64 (x.t.toNat : Int), .int .u64 (x.v.toNat : Int), .int .i64 x.x.toInt] 35 (0, 0))) :
    Calls Try.prog 38 #[.slice A n c, .func (.func 54) #[] #[.pointer (some ⟨g, 0, none⟩)]] w (IdxPost (geI x l) n w) := by
  have HL := Lib.hid hr.ilen
  obtain ⟨G, hG⟩ : ∃ q, q = geI x l := ⟨_, rfl⟩
  rw [← hG]
  have HG := Lib.hid hG
  clear hG
  obtain ⟨wo, hwo⟩ : ∃ q, q = w := ⟨_, rfl⟩
  subst hwo
  go_enter Try.func38, Try.ntmps38
  go_wp2_with fail
  go_loopw [8] (fun i wr => ∃ k : Nat, i = .int .i64 (k : Int) ∧ k ≤ n ∧ k ≤ G ∧ Up wo wr) (fun i _ => n - (intOf i).toNat)
  case atStart => exact ⟨0, rfl, by omega, by omega, Up.refl _⟩
  case round =>
    obtain ⟨k, rfl, hk, hkG, hu⟩ := hrel
    by_cases hlt : k < n
    · obtain ⟨b, o, i, rfl, hb, hik, c0, c1, c2, c3, c4⟩ := (hr.stay (Nat.le_refl _) hu).item_at hlt
      have hkl : k < l.length := by have := HL.out; omega
      have hi : l[k] = i := by
        rw [List.getElem?_eq_getElem hkl] at hik
        injection hik
      have HI := Lib.hid hi
      have hgr := blk_up hu hg
      clear hik hi
      go_wp2_with fail
      refine (find1_any i x g wr hgr).mono ?_
      rintro e w2 ⟨rfl, hu2⟩
      clear c0 c1 c2 c3 c4
      obtain ⟨lb, hlb⟩ : ∃ q, q = lessB i x := ⟨_, rfl⟩
      rw [← hlb]
      have HLB := Lib.hid hlb
      clear hlb
      cases lb
      · have hz : Hid (k = G) := by
          show _ = _
          rw [HG.out]
          exact (geI_step hkl (by rw [← HG.out]; exact hkG)).2 (by rw [HI.out]; exact HLB.out.symm)
        go_wp2_with fail
        go_ret
        refine ⟨?_, hu.trans hu2⟩
        show Ending.returned (.int .i64 (k : Int)) = _
        rw [← hz.out, if_pos hlt]
      · have hz : k + 1 ≤ G := by
          rw [HG.out]
          exact (geI_step hkl (by rw [← HG.out]; exact hkG)).1 (by rw [HI.out]; exact HLB.out.symm)
        go_wp2_with fail
        go_roundw
        case rel => exact ⟨k + 1, by go_num, by omega, hz, hu.trans hu2⟩
        case measure => simp [intOf]; omega
    · go_wp2_with fail
      go_ret
      refine ⟨?_, hu⟩
      show Ending.returned (.int .i64 (-1)) = _
      rw [if_neg (by omega)]
theorem keepsUpG {w wq w2 : World} {gx : Nat} (hu : Up w wq) (hg : w.heap.size ≤ gx) (hK : Rg.Keeps (fun g => g = gx) wq w2) : Up w w2 :=
  ⟨hK.os.trans hu.os, hK.tape.trans hu.tape, hK.output.trans hu.output, Nat.le_trans hu.size hK.size, fun k hk => (hK.block k (Nat.lt_of_lt_of_le hk hu.size) (by show ¬ k = gx; omega)).trans (hu.block k hk)⟩
def FindPost (r : Option It) (w : World) (e : Ending) (w' : World) : Prop :=
  (∃ i : It, r = some i ∧ e = .returned (.tuple #[.agg #[.int .i64 i.s.toInt, .int .i64 i.k.toInt, .int .u64 (i.t.toNat : Int), .int .u64 (i.v.toNat : Int), .int .i64 i.x.toInt], .bool true]) ∧ Up w w') ∨
  (r = none ∧ e = .returned (.tuple #[.agg #[.int .i64 0, .int .i64 0, .int .u64 0, .int .u64 0, .int .i64 0], .bool false]) ∧ Up w w')
set_option maxRecDepth 100000 in
set_option maxHeartbeats 4000000 in
theorem find_any (A : Option Addr) (n c : Nat) (l : List It) (x : It) (w : World) (hr : Rd w w.heap.size 5 A n (itcs l)) (hn : n ≤ 1099511627776) (hrise : riseR l) :
    Calls Try.prog 35 #[.slice A n c, .agg #[.int .i64 x.s.toInt, .int .i64 x.k.toInt, .int .u64 (x.t.toNat : Int), .int .u64 (x.v.toNat : Int), .int .i64 x.x.toInt]] w (FindPost (findL l x) w) := by
  have hl := hr.ilen
  have hfg := find_ge l x hrise
  obtain ⟨G, hG⟩ : ∃ q, q = geI x l := ⟨_, rfl⟩
  have HFG : Hid (findL l x = (if h : G < l.length then (if sameB l[G] x then some l[G] else none) else none)) := by show _ = _; rw [hfg]; simp only [hG]
  obtain ⟨w2, hw2⟩ : ∃ w2, w2 = (w.alloc (.cells #[.int .i64 x.s.toInt, .int .i64 x.k.toInt, .int .u64 (x.t.toNat : Int), .int .u64 (x.v.toNat : Int), .int .i64 x.x.toInt] 35)).alloc (.cells #[.int .i64 0, .int .i64 0, .int .u64 0, .int .u64 0, .int .i64 0] 35) := ⟨_, rfl⟩
  have hup2 : Up w w2 := by rw [hw2]; exact ((Up.refl w).alloc _).alloc _
  have hx2 : w2.heap[w.heap.size]? = some (.cells #[.int .i64 x.s.toInt, .int .i64 x.k.toInt, .int .u64 (x.t.toNat : Int), .int .u64 (x.v.toNat : Int), .int .i64 x.x.toInt] 35 (0, 0)) := by
    rw [hw2, Below.heap_alloc _ _ _ (by simp)]; exact heap_alloc_new w _
  have hz2 : w2.heap[w.heap.size + 1]? = some (.cells #[.int .i64 0, .int .i64 0, .int .u64 0, .int .u64 0, .int .i64 0] 35 (0, 0)) := by
    rw [hw2]
    have h := heap_alloc_new (w.alloc (.cells #[.int .i64 x.s.toInt, .int .i64 x.k.toInt, .int .u64 (x.t.toNat : Int), .int .u64 (x.v.toNat : Int), .int .i64 x.x.toInt] 35)) (.cells #[.int .i64 0, .int .i64 0, .int .u64 0, .int .u64 0, .int .i64 0] 35)
    rwa [World.size_alloc] at h
  have hr2 := hr.up hup2
  have HW := Lib.hid hw2
  have HL := Lib.hid hl
  have HG := Lib.hid hG
  clear hw2 hr hfg hl hG
  go_enter Try.func35, Try.ntmps35
  go_wp2_with fail
  rw [← HW.out]
  clear HW
  have hgw : w.heap.size ≤ w.heap.size + 1 := Nat.le_succ _
  generalize hg2 : w.heap.size + 1 = g2 at hz2 hgw ⊢
  generalize w.heap.size = g1 at hx2 ⊢
  refine (findex_any A n c l x g1 w2 hr2 (by omega) hx2).mono ?_
  rintro e w3 ⟨rfl, hu3⟩
  rw [← HG.out]
  have hx3 := blk_up hu3 hx2
  have hz3 := blk_up hu3 hz2
  have hr3 := hr2.up hu3
  have hup3 := hup2.trans hu3
  clear hx2 hz2 hr2 hup2 hu3 HG
  by_cases hlt : G < n
  · rw [if_pos hlt]
    obtain ⟨b, o, y, rfl, hb, hy, c0, c1, c2, c3, c4⟩ := hr3.item_at hlt
    have hGl : G < l.length := by have := HL.out; omega
    have hly : l[G] = y := by
      rw [List.getElem?_eq_getElem hGl] at hy
      injection hy
    have hfd : findL l x = (if sameB y x then some y else none) := by rw [HFG.out, dif_pos hGl, hly]
    have HFD := Lib.hid hfd
    have hS : ∀ W, Up w3 W → Up w3 W ∧ (W.cell? ⟨b, o + G * 5, none⟩ = some (.int .i64 y.s.toInt) ∧ W.cell? ⟨b, o + G * 5 + 1, none⟩ = some (.int .i64 y.k.toInt) ∧ W.cell? ⟨b, o + G * 5 + 2, none⟩ = some (.int .u64 (y.t.toNat : Int)) ∧ W.cell? ⟨b, o + G * 5 + 3, none⟩ = some (.int .u64 (y.v.toNat : Int)) ∧ W.cell? ⟨b, o + G * 5 + 4, none⟩ = some (.int .i64 y.x.toInt)) ∧
        (W.cell? ⟨g1, 0, none⟩ = some (.int .i64 x.s.toInt) ∧ W.cell? ⟨g1, 1, none⟩ = some (.int .i64 x.k.toInt) ∧ W.cell? ⟨g1, 2, none⟩ = some (.int .u64 (x.t.toNat : Int)) ∧ W.cell? ⟨g1, 3, none⟩ = some (.int .u64 (x.v.toNat : Int)) ∧ W.cell? ⟨g1, 4, none⟩ = some (.int .i64 x.x.toInt)) := fun W h => by
      have h5 := blk_up h hx3
      exact ⟨h, ⟨(h.cell (p := ⟨b, o + G * 5, none⟩) hb).trans c0, (h.cell (p := ⟨b, o + G * 5 + 1, none⟩) hb).trans c1, (h.cell (p := ⟨b, o + G * 5 + 2, none⟩) hb).trans c2, (h.cell (p := ⟨b, o + G * 5 + 3, none⟩) hb).trans c3, (h.cell (p := ⟨b, o + G * 5 + 4, none⟩) hb).trans c4⟩, blk_cell h5 0, blk_cell h5 1, blk_cell h5 2, blk_cell h5 3, blk_cell h5 4⟩
    have HS := Lib.hid hS
    have d0 : decide ((G : Int) < 0) = false := by simp
    obtain ⟨sm, hsm⟩ : ∃ q, q = sameB y x := ⟨_, rfl⟩
    have hcs := fun W => same_any y x W
    rw [← hsm] at hcs HFD
    clear c0 c1 c2 c3 c4 hy hly hsm hfd HFG
    go_wp2_with fail
    apply Rg.region_up _ (by kernel_rfl) (by kernel_rfl) hS
    · intro QN hQN
      iterate 3 (apply Rg.RK.ok; (· intro vs w1 hS; go_simp; with_reducible rfl); (· rfl); simp only [Act.put, List.setIfInBounds_toArray, List.set_cons_zero, List.set_cons_succ, Nat.reduceAdd])
      iterate 5 (apply Rg.RK.gok (t := 12); (· intro vs w1 hS; go_simp; with_reducible rfl); (· rfl); (· intro vs; rfl); simp only [Act.put, List.setIfInBounds_toArray, List.set_cons_zero, List.set_cons_succ, Nat.reduceAdd])
      apply Rg.RK.gcall (t := 12) (.bool sm) []
      · rfl
      · intro vs; rfl
      · intro vs w1 hK hS _ K hKK
        go_simp
        refine (hcs w1).mono ?_
        rintro e w2 ⟨rfl, hu2⟩
        exact hKK.out _ hu2
      simp only [Act.put, List.setIfInBounds_toArray, List.set_cons_zero, List.set_cons_succ, Nat.reduceAdd]
      iterate 1 (apply Rg.RK.gok (t := 12); (· intro vs w1 hS; go_simp; with_reducible rfl); (· rfl); (· intro vs; rfl); simp only [Act.put, List.setIfInBounds_toArray, List.set_cons_zero, List.set_cons_succ, Nat.reduceAdd])
      iterate 1 (apply Rg.RK.ok; (· intro vs w1 hS; go_simp; with_reducible rfl); (· rfl); simp only [Act.put, List.setIfInBounds_toArray, List.set_cons_zero, List.set_cons_succ, Nat.reduceAdd])
      apply Rg.RK.fin []
      intro vs w1 hK hS _
      refine hQN.out _ _ ?_
      clear hQN
      have hu4 := keeps_up hK
      have hz4 := blk_up hu4 hz3
      obtain ⟨-, ⟨c0, c1, c2, c3, c4⟩, -⟩ := hS
      have hup4 := hup3.trans hu4
      clear hK hx3 hz3 hu4 hcs
      cases sm
      · go_wp2_with (first
          | (with_reducible show wpList _ _ _ (⟨none, .store 35 _ _, _, _, _, none⟩ :: _) _ _
             go_loud (refine wpList_store_it5 rfl _ _ rfl (g := g2) (z0 := .int .i64 0) (z1 := .int .i64 0) (z2 := .int .u64 0) (z3 := .int .u64 0) (z4 := .int .i64 0) (by kernel_rfl) (by kernel_rfl) hz4 (by simp [Value.oneCell']) ?_)
             intro w5 hgd hbut
             have hup5 := But.up hup4 hbut hgw
             clear hbut hz4
             have e0 := blk_cell hgd 0
             have e1 := blk_cell hgd 1
             have e2 := blk_cell hgd 2
             have e3 := blk_cell hgd 3
             have e4 := blk_cell hgd 4
             have f0 := blk_free hgd 0
             have f1 := blk_free hgd 1
             have f2 := blk_free hgd 2
             have f3 := blk_free hgd 3
             have f4 := blk_free hgd 4
             simp only [List.getElem?_toArray, List.getElem?_cons_zero, List.getElem?_cons_succ] at e0 e1 e2 e3 e4
             clear hgd))
        refine bodyPost_ret (v := .tuple #[.agg #[.int .i64 0, .int .i64 0, .int .u64 0, .int .u64 0, .int .i64 0], .bool false]) (by simp [results, Try.results35, go_sem, e0, e1, e2, e3, e4]) rfl ?_
        exact .inr ⟨HFD.out, rfl, hup5⟩
      · go_wp2_with (first
          | (with_reducible show wpList _ _ _ (⟨none, .store 35 _ _, _, _, _, none⟩ :: _) _ _
             go_loud (refine wpList_store_it5 rfl _ _ rfl (g := g2) (z0 := .int .i64 y.s.toInt) (z1 := .int .i64 y.k.toInt) (z2 := .int .u64 (y.t.toNat : Int)) (z3 := .int .u64 (y.v.toNat : Int)) (z4 := .int .i64 y.x.toInt) (by kernel_rfl) (by kernel_rfl) hz4 (by simp [Value.oneCell']) ?_)
             intro w5 hgd hbut
             have hup5 := But.up hup4 hbut hgw
             clear hbut hz4
             have e0 := blk_cell hgd 0
             have e1 := blk_cell hgd 1
             have e2 := blk_cell hgd 2
             have e3 := blk_cell hgd 3
             have e4 := blk_cell hgd 4
             have f0 := blk_free hgd 0
             have f1 := blk_free hgd 1
             have f2 := blk_free hgd 2
             have f3 := blk_free hgd 3
             have f4 := blk_free hgd 4
             simp only [List.getElem?_toArray, List.getElem?_cons_zero, List.getElem?_cons_succ] at e0 e1 e2 e3 e4
             clear hgd))
        refine bodyPost_ret (v := .tuple #[.agg #[.int .i64 y.s.toInt, .int .i64 y.k.toInt, .int .u64 (y.t.toNat : Int), .int .u64 (y.v.toNat : Int), .int .i64 y.x.toInt], .bool true]) (by simp [results, Try.results35, go_sem, e0, e1, e2, e3, e4]) rfl ?_
        exact .inl ⟨y, HFD.out, rfl, hup5⟩
    · kernel_rfl
  · rw [if_neg hlt]
    have hfd : findL l x = none := by rw [HFG.out, dif_neg (by have := HL.out; omega)]
    have HFD := Lib.hid hfd
    have d0 : decide ((-1 : Int) < 0) = true := rfl
    clear hfd HFG
    go_wp2_with fail
    apply Rg.region_up (fun W => Up w3 W) (by kernel_rfl) (by kernel_rfl) (fun _ h => h)
    · intro QN hQN
      iterate 3 (apply Rg.RK.ok; (· intro vs w1 hS; go_simp; with_reducible rfl); (· rfl); simp only [Act.put, List.setIfInBounds_toArray, List.set_cons_zero, List.set_cons_succ, Nat.reduceAdd])
      iterate 7 (apply Rg.RK.gno (t := 12) (y := true); (· rfl); (· intro vs; rfl); (· rfl); simp only [Act.put, List.setIfInBounds_toArray, List.set_cons_zero, List.set_cons_succ, Nat.reduceAdd])
      iterate 1 (apply Rg.RK.ok; (· intro vs w1 hS; go_simp; with_reducible rfl); (· rfl); simp only [Act.put, List.setIfInBounds_toArray, List.set_cons_zero, List.set_cons_succ, Nat.reduceAdd])
      apply Rg.RK.fin []
      intro vs w1 hK hS _
      refine hQN.out _ _ ?_
      clear hQN
      have hu4 := keeps_up hK
      have hz4 := blk_up hu4 hz3
      have hup4 := hup3.trans hu4
      clear hK hx3 hz3 hu4 hS
      go_wp2_with (first
        | (with_reducible show wpList _ _ _ (⟨none, .store 35 _ _, _, _, _, none⟩ :: _) _ _
           go_loud (refine wpList_store_it5 rfl _ _ rfl (g := g2) (z0 := .int .i64 0) (z1 := .int .i64 0) (z2 := .int .u64 0) (z3 := .int .u64 0) (z4 := .int .i64 0) (by kernel_rfl) (by kernel_rfl) hz4 (by simp [Value.oneCell']) ?_)
           intro w5 hgd hbut
           have hup5 := But.up hup4 hbut hgw
           clear hbut hz4
           have e0 := blk_cell hgd 0
           have e1 := blk_cell hgd 1
           have e2 := blk_cell hgd 2
           have e3 := blk_cell hgd 3
           have e4 := blk_cell hgd 4
           have f0 := blk_free hgd 0
           have f1 := blk_free hgd 1
           have f2 := blk_free hgd 2
           have f3 := blk_free hgd 3
           have f4 := blk_free hgd 4
           simp only [List.getElem?_toArray, List.getElem?_cons_zero, List.getElem?_cons_succ] at e0 e1 e2 e3 e4
           clear hgd))
      refine bodyPost_ret (v := .tuple #[.agg #[.int .i64 0, .int .i64 0, .int .u64 0, .int .u64 0, .int .i64 0], .bool false]) (by simp [results, Try.results35, go_sem, e0, e1, e2, e3, e4]) rfl ?_
      exact .inr ⟨HFD.out, rfl, hup5⟩
    · kernel_rfl
end Go.Proofs.Ytfmjgkfblejknaa

/-
  What a slice reads as, behind a change of blocks that it does not lie in.
-/
namespace Go.Proofs.Ytfmjgkfblejknaa
open Go.RowKit
set_option linter.unusedVariables false
theorem Rd.keepsX {w w' : World} {B sz n : Nat} {A : Option Addr} {xs : List Value} {X : Nat → Prop} (h : Rd w B sz A n xs) (hB : B ≤ w.heap.size) (hne : ∀ a, A = some a → ¬ X a.block) (hK : Rg.Keeps X w w') : Rd w' w'.heap.size sz A n xs := by
  refine ⟨h.1, fun hn => ?_⟩
  obtain ⟨b, o, rfl, hb, hc⟩ := h.2 hn
  refine ⟨b, o, rfl, Nat.lt_of_lt_of_le (Nat.lt_of_lt_of_le hb hB) hK.size, fun j u hu => ?_⟩
  exact (World.cell?_of_block (hK.block b (Nat.lt_of_lt_of_le hb hB) (hne _ rfl))).trans (hc j u hu)
theorem Rd.keepsX0 {w w' : World} {B sz n : Nat} {A : Option Addr} {xs : List Value} {X : Nat → Prop} (h : Rd w B sz A n xs) (hB : B ≤ w.heap.size) (hne : 0 < n → ∀ a, A = some a → ¬ X a.block) (hK : Rg.Keeps X w w') : Rd w' w'.heap.size sz A n xs := by
  refine ⟨h.1, fun hn => ?_⟩
  exact (h.keepsX hB (hne hn) hK).2 hn
end Go.Proofs.Ytfmjgkfblejknaa

/-
  []byte(s) that is written and appended to: the new block with its spare places.
-/
namespace Go.Proofs.Ytfmjgkfblejknaa
open Go.RowKit
set_option linter.unusedVariables false
set_option linter.unusedSimpArgs false

def BegC (g : Nat) (l : List UInt8) (cap : Nat) (w : World) : Prop := ∃ (cs : Array Value) (fz : Nat × Nat), w.heap[g]? = some (.cells cs 5 fz) ∧ l.length ≤ cap ∧ cs.size = cap ∧ cap ≤ fz.1 ∧ ∀ j, j < l.length → cs[j]? = some (bv (l.getD j 0))
theorem BegC.beg {g cap : Nat} {l : List UInt8} {w : World} (h : BegC g l cap w) : Beg g l w := by
  obtain ⟨cs, fz, hh, h1, h2, h3, h4⟩ := h
  exact ⟨cs, _, fz, hh, by omega, by omega, h4⟩
theorem BegC.set {g cap : Nat} {l : List UInt8} {w : World} (h : BegC g l cap w) {j : Nat} (hj : j < l.length) (x : UInt8) : BegC g (l.set j x) cap (w.setCell ⟨g, j, none⟩ (bv x)) := by
  obtain ⟨cs, fz, hh, h1, h2, h3, h4⟩ := h
  refine ⟨cs.setIfInBounds j (bv x), fz, by simp [World.setCell, Array.getElem?_modify, hh], by simp; exact h1, by simp; exact h2, h3, fun i hi => ?_⟩
  rw [List.length_set] at hi
  by_cases hij : j = i
  · subst hij
    rw [Array.getElem?_setIfInBounds_self_of_lt (by omega)]
    simp [List.getD, hj]
  · rw [Array.getElem?_setIfInBounds_ne hij, h4 i hi]
    simp [List.getD, List.getElem?_set_ne hij]
set_option maxRecDepth 100000 in
theorem conv_begc (w : World) (l : List UInt8) : ∃ c w', (convert 9 24 (.string (tx l))).run Try.prog w = .ok (.slice (some ⟨w.heap.size, 0, none⟩) l.length c) w' ∧ l.length ≤ c ∧
    BegC w.heap.size l c w' ∧ Up w w' := by
  have hrun := Lib.run_convert_string_bytes (P := Try.prog) w 9 24 5 (tx l) Try.underlying9 bytesT.ut Try.underlying5
  rw [tx_size] at hrun
  have hge := grownCap_ge w l.length 0 5
  have hs : (Lib.bytesCells w 5 (tx l)).size = grownCap w l.length 0 5 := by
    unfold Lib.bytesCells
    have hd : (tx l).data.size = l.length := by rw [← tx_size]; rfl
    simp only [Array.size_append, Array.size_map, Array.size_replicate, tx_size, hd]
    omega
  refine ⟨_, _, hrun, hge, ?_, ⟨rfl, rfl, rfl, by rw [Lib.bytesWorld_size]; omega, fun k hk => Lib.bytesWorld_at_old w _ _ k hk⟩⟩
  refine ⟨_, _, Lib.bytesWorld_at_new w _ _, hge, hs, by rw [hs]; exact Nat.le_refl _, fun j hj => ?_⟩
  have hc := Lib.bytesWorld_cell w 5 (tx l) j (by rw [tx_size]; exact hj)
  rw [tx_list] at hc
  rw [cell_of_row _ _ _ _ _ _ (Lib.bytesWorld_at_new w _ _)] at hc
  exact hc
set_option maxRecDepth 100000 in
/-- append(c[:k], x...) -/
theorem run_append_begc (ty : TypeId) {w0 w : World} {g cap k m c B : Nat} {l news : List UInt8} {A : Option Addr} (hB : BegC g l cap w) (hk : k ≤ l.length) (hr : Rd w B 1 A m (bvs news)) (hb : k + m ≤ 140737488355328) (hg : w0.heap.size ≤ g) (hu : Up w0 w) :
    ∃ A' c' w', (Builtin.append_ #[24, 24] ty #[.slice (some ⟨g, 0, none⟩) k cap, .slice A m c]).run Try.prog w = .ok (.slice A' (k + m) c') w' ∧ Rd w' w'.heap.size 1 A' (k + m) (bvs (l.take k ++ news)) ∧ k + m ≤ c' ∧ Up w0 w' := by
  have hBg := hB.beg
  have hrd := hBg.rd.bto hk
  obtain ⟨ht, ⟨i, z, hi, hz, hsize, hby, hzs⟩, hsz⟩ := bytesT
  have hgl := hBg.lt
  have hnl : news.length = m := hr.blen.symm
  obtain ⟨cs, fz, hh, h1, h2, h3, h4⟩ := hB
  rcases A with _ | ad
  · have hm : m = 0 := by
      rcases Nat.eq_zero_or_pos m with h0 | h0
      · exact h0
      · obtain ⟨b, o, h, _⟩ := hr.2 h0
        cases h
    subst hm
    have hn : news = [] := List.eq_nil_of_length_eq_zero hnl
    subst hn
    refine ⟨some ⟨g, 0, none⟩, cap, w, ?_, by simpa using hrd, by omega, hu⟩
    have hkc : k ≤ cap := by omega
    simp [Builtin.append_, run_underlying ht, sizeOf, typeInfo, hi, Builtin.lenOf, Builtin.firstCells, hkc, storeCells]
  · have hcells : ∀ j u, (bvs news)[j]? = some u → w.cell? (ad.add j) = some u := by
      intro j u hj
      rcases Nat.eq_zero_or_pos m with h0 | h0
      · have hn : news = [] := List.eq_nil_of_length_eq_zero (by omega)
        subst hn
        simp [bvs] at hj
      · obtain ⟨b, o, h, _, hc⟩ := hr.2 h0
        injection h with h
        subst h
        have e : (⟨b, o, none⟩ : Addr).add j = ⟨b, o + j, none⟩ := by unfold Addr.add; split <;> simp_all
        rw [e]
        exact hc j u hj
    have hbl : (bvs news).length = m := by rw [bvs_length, hnl]
    by_cases hroom : k + m ≤ cap
    · have hfit : ∀ j, j < (bvs news).length → (w.cell? ⟨g, 0 + k * i.size + j, none⟩).isSome = true := by
        intro j hj
        rw [hsize, cell_of_row w g _ cs _ fz hh]
        simp; omega
      have hfr : ∀ j, j < (bvs news).length → w.frozen? ⟨g, 0 + k * i.size + j, none⟩ = false := by
        intro j hj
        rw [hsize]
        simp [World.frozen?, hh]
        omega
      have hrun := run_append_room_cells (P := Try.prog) w 24 ty 5 i ht hi g 0 k cap ad m c (bvs news) (by rw [hbl, hsize, Nat.mul_one]) hcells (bvs_one _) hroom hfit hfr
      have hbs := below_sets g hg (bvs news) (0 + k * i.size) w (Below.refl w0.heap.size w)
      refine ⟨_, _, _, hrun, ?_, hroom, Below.trans (show Below w0.heap.size w0 w from hu) hbs⟩
      rw [hsize, Nat.mul_one, Nat.zero_add] at *
      refine ⟨by rw [bvs_length, List.length_append, List.length_take, hnl]; omega, fun _ => ⟨g, 0, rfl, Nat.lt_of_lt_of_le hgl hbs.size, fun j u hj => ?_⟩⟩
      rw [Nat.zero_add]
      rw [bvs_append, List.getElem?_append] at hj
      have hl : (bvs (l.take k)).length = k := by rw [bvs_length, List.length_take]; omega
      rw [hl] at hj
      by_cases hjk : j < k
      · rw [if_pos hjk] at hj
        rw [World.cell?_setCells_out g (bvs news) k w ⟨g, j, none⟩ (fun _ _ => .inl (by simp only; omega))]
        have := (hrd.2 (by omega))
        obtain ⟨b, o, e, _, hc⟩ := this
        injection e with e
        injection e with e1 e2
        subst e1; subst e2
        have := hc j u hj
        rwa [Nat.zero_add] at this
      · rw [if_neg hjk] at hj
        have e2 : j = k + (j - k) := by omega
        rw [e2]
        obtain ⟨hjn, hjv⟩ := List.getElem?_eq_some_iff.1 hj
        rw [World.cell?_setCells_in g (bvs news) k w (fun i hi => by rw [cell_of_row w g _ cs _ fz hh]; simp; omega) _ hjn, ← hjv]
    · have holds : ∀ j u, (bvs (l.take k))[j]? = some u → w.cell? ((⟨g, 0, none⟩ : Addr).add j) = some u := by
        intro j u hj
        have hjl := (List.getElem?_eq_some_iff.1 hj).1
        rw [bvs_length, List.length_take] at hjl
        have e : (⟨g, 0, none⟩ : Addr).add j = ⟨g, 0 + j, none⟩ := by unfold Addr.add; split <;> simp_all
        rw [e]
        obtain ⟨b, o, e, _, hc⟩ := hrd.2 (by omega)
        injection e with e
        injection e with e1 e2
        subst e1; subst e2
        exact hc j u hj
      obtain ⟨v', w', hrun, ho, hg'⟩ := run_append_arg_grows (P := Try.prog) w 24 ty 5 i z 1 1 ht hi hz hsize hby hzs hsz ⟨g, 0, none⟩ k cap (bvs (l.take k)) (by rw [bvs_length, List.length_take]; omega) holds ad m c (bvs news) (by rw [hbl, Nat.mul_one]) hcells (by omega) (by simp only [maxLen]; omega) (by omega)
      obtain ⟨A', c', rfl, hrd'⟩ := Rd.from_ownsRow ho
      exact ⟨A', c', w', hrun, by rw [bvs_append]; exact hrd', own_cap ho, hu.grown hg' (fun k hk => by cases hk)⟩
set_option maxRecDepth 100000 in
theorem wpList_append_begc {ops : Array Oper} {rest : List Oper} {o : Oper} {a : Act} {Q : Exit → Act → World → Prop} {s x : Operand} {w0 w : World} {g cap k m c B : Nat} {l news : List UInt8} {A : Option Addr} (hB : BegC g l cap w) (hk : k ≤ l.length) (hr : Rd w B 1 A m (bvs news)) (hb : k + m ≤ 140737488355328) (hg : w0.heap.size ≤ g) (hu : Up w0 w)
    (hgd : o.guard = none) (ho : o.op = .call { callee := .builtin .append, args := #[s, x], argTypes := #[24, 24] })
    (hs : a.eval s = .slice (some ⟨g, 0, none⟩) k cap) (hx : a.eval x = .slice A m c)
    (h : ∀ A' c' w', Rd w' w'.heap.size 1 A' (k + m) (bvs (l.take k ++ news)) → k + m ≤ c' → Up w0 w' → wpList Try.prog ops Q rest (a.put o.dst (.slice A' (k + m) c')) w') : wpList Try.prog ops Q (o :: rest) a w := by
  refine wpList_plain hgd fun _ hK => ?_
  obtain ⟨A', c', w', hrun, h2, h3, h4⟩ := run_append_begc o.type (c := c) hB hk hr hb hg hu
  unfold Oper.wp execOp
  simp only [ho, resolve, invoke, builtin, Sem.run_bind, Sem.run_pure, Result.andThen_ok, List.map_toArray, List.map_cons, List.map_nil, hs, hx, hrun]
  exact hK _ _ (h A' c' w' h2 h3 h4)
end Go.Proofs.Ytfmjgkfblejknaa

/-
  The walks of msg.isNode, msg.withItems, msg.Ok, and of the document's MsgOk.
-/
namespace Go.Proofs.Ytfmjgkfblejknaa
open Go.RowKit
set_option linter.unusedVariables false
set_option linter.unusedSimpArgs false

def nodeB (n : Int) : Bool := decide (0 ≤ n ∧ n < 7)
def withB (k : Int) : Bool := decide (k = 1 ∨ k = 5 ∨ k = 7 ∨ k = 8)
def msgB (k f t : Int) (id n : Nat) (l : List It) : Bool := decide (1 ≤ k ∧ k ≤ 10 ∧ (0 ≤ f ∧ f < 7) ∧ (0 ≤ t ∧ t < 7) ∧ id ≤ 1099511627776 ∧ n ≤ 281474976710656 ∧ l.length ≤ 1500 ∧ (l.length = 0 ∨ withB k = true)) && l.all okB
end Go.Proofs.Ytfmjgkfblejknaa

/-
  The walks of slices.Equal at items, of the document's Equal at any two rows, of msg.Same and SameMsg.
-/
namespace Go.Proofs.Ytfmjgkfblejknaa
open Go.RowKit
set_option linter.unusedVariables false
set_option linter.unusedSimpArgs false

theorem it_ext {a b : It} (h1 : a.s.toInt = b.s.toInt) (h2 : a.k.toInt = b.k.toInt) (h3 : a.t.toNat = b.t.toNat) (h4 : a.v.toNat = b.v.toNat) (h5 : a.x.toInt = b.x.toInt) : a = b := by
  obtain ⟨a1, a2, a3, a4, a5⟩ := a
  obtain ⟨b1, b2, b3, b4, b5⟩ := b
  simp only [It.mk.injEq]
  exact ⟨Int64.toInt_inj.1 h1, Int64.toInt_inj.1 h2, UInt64.toNat_inj.1 h3, UInt64.toNat_inj.1 h4, Int64.toInt_inj.1 h5⟩
instance : DecidableEq It := fun a b => decidable_of_iff (a.s.toInt = b.s.toInt ∧ a.k.toInt = b.k.toInt ∧ a.t.toNat = b.t.toNat ∧ a.v.toNat = b.v.toNat ∧ a.x.toInt = b.x.toInt)
  ⟨fun ⟨h1, h2, h3, h4, h5⟩ => it_ext h1 h2 h3 h4 h5, fun h => by rw [h]; exact ⟨rfl, rfl, rfl, rfl, rfl⟩⟩
set_option maxRecDepth 100000 in
set_option maxHeartbeats 4000000 in
theorem requal_any (A : Option Addr) (n c : Nat) (l : List It) (A' : Option Addr) (n' c' : Nat) (l' : List It) (w : World)
    (hr : Rd w w.heap.size 5 A n (itcs l)) (hr' : Rd w w.heap.size 5 A' n' (itcs l')) (hn : n ≤ 1099511627776) (hn' : n' ≤ 1099511627776) :
    Calls Try.prog 12 #[.slice A n c, .slice A' n' c'] w fun e w' => e = .returned (.bool (decide (l = l'))) ∧ Up w w' := by
  have HL := Lib.hid hr.ilen
  have HL' := Lib.hid hr'.ilen
  by_cases k6 : n = n'
  · subst k6
    have hnn : ((n : Int) != (n : Int)) = false := by simp
    go_enter Try.func12, Try.ntmps12
    go_wp2_with fail
    go_loopw [5] (fun i wr => ∃ k : Nat, i = .int .i64 (k : Int) ∧ k ≤ n ∧ Hid (l.take k = l'.take k) ∧ Up w wr) (fun i _ => n - (intOf i).toNat)
    case atStart => exact ⟨0, rfl, by omega, rfl, Up.refl _⟩
    case round =>
      obtain ⟨k, rfl, hk, ht, hu⟩ := hrel
      by_cases hlt : k < n
      · obtain ⟨b, o, x, rfl, hb, hx, c0, c1, c2, c3, c4⟩ := (hr.up hu).item_at hlt
        obtain ⟨b', o', y, rfl, hb', hy, d0, d1, d2, d3, d4⟩ := (hr'.up hu).item_at hlt
        obtain ⟨x1, hx1⟩ : ∃ z, z = x.s.toInt := ⟨_, rfl⟩
        obtain ⟨x2, hx2⟩ : ∃ z, z = x.k.toInt := ⟨_, rfl⟩
        obtain ⟨x3, hx3⟩ : ∃ z : Int, z = (x.t.toNat : Int) := ⟨_, rfl⟩
        obtain ⟨x4, hx4⟩ : ∃ z : Int, z = (x.v.toNat : Int) := ⟨_, rfl⟩
        obtain ⟨x5, hx5⟩ : ∃ z, z = x.x.toInt := ⟨_, rfl⟩
        obtain ⟨y1, hy1⟩ : ∃ z, z = y.s.toInt := ⟨_, rfl⟩
        obtain ⟨y2, hy2⟩ : ∃ z, z = y.k.toInt := ⟨_, rfl⟩
        obtain ⟨y3, hy3⟩ : ∃ z : Int, z = (y.t.toNat : Int) := ⟨_, rfl⟩
        obtain ⟨y4, hy4⟩ : ∃ z : Int, z = (y.v.toNat : Int) := ⟨_, rfl⟩
        obtain ⟨y5, hy5⟩ : ∃ z, z = y.x.toInt := ⟨_, rfl⟩
        rw [← hx1] at c0
        rw [← hx2] at c1
        rw [← hx3] at c2
        rw [← hx4] at c3
        rw [← hx5] at c4
        rw [← hy1] at d0
        rw [← hy2] at d1
        rw [← hy3] at d2
        rw [← hy4] at d3
        rw [← hy5] at d4
        have X1 := Lib.hid hx1
        have X2 := Lib.hid hx2
        have X3 := Lib.hid hx3
        have X4 := Lib.hid hx4
        have X5 := Lib.hid hx5
        have Y1 := Lib.hid hy1
        have Y2 := Lib.hid hy2
        have Y3 := Lib.hid hy3
        have Y4 := Lib.hid hy4
        have Y5 := Lib.hid hy5
        clear hx1 hx2 hx3 hx4 hx5 hy1 hy2 hy3 hy4 hy5
        have hS : ∀ W, Up wr W → Up wr W ∧ (W.cell? ⟨b, o + k * 5, none⟩ = some (.int .i64 x1) ∧ W.cell? ⟨b, o + k * 5 + 1, none⟩ = some (.int .i64 x2) ∧ W.cell? ⟨b, o + k * 5 + 2, none⟩ = some (.int .u64 x3) ∧ W.cell? ⟨b, o + k * 5 + 3, none⟩ = some (.int .u64 x4) ∧ W.cell? ⟨b, o + k * 5 + 4, none⟩ = some (.int .i64 x5)) ∧
            (W.cell? ⟨b', o' + k * 5, none⟩ = some (.int .i64 y1) ∧ W.cell? ⟨b', o' + k * 5 + 1, none⟩ = some (.int .i64 y2) ∧ W.cell? ⟨b', o' + k * 5 + 2, none⟩ = some (.int .u64 y3) ∧ W.cell? ⟨b', o' + k * 5 + 3, none⟩ = some (.int .u64 y4) ∧ W.cell? ⟨b', o' + k * 5 + 4, none⟩ = some (.int .i64 y5)) := fun W h =>
          ⟨h, ⟨(h.cell (p := ⟨b, o + k * 5, none⟩) hb).trans c0, (h.cell (p := ⟨b, o + k * 5 + 1, none⟩) hb).trans c1, (h.cell (p := ⟨b, o + k * 5 + 2, none⟩) hb).trans c2, (h.cell (p := ⟨b, o + k * 5 + 3, none⟩) hb).trans c3, (h.cell (p := ⟨b, o + k * 5 + 4, none⟩) hb).trans c4⟩,
            (h.cell (p := ⟨b', o' + k * 5, none⟩) hb').trans d0, (h.cell (p := ⟨b', o' + k * 5 + 1, none⟩) hb').trans d1, (h.cell (p := ⟨b', o' + k * 5 + 2, none⟩) hb').trans d2, (h.cell (p := ⟨b', o' + k * 5 + 3, none⟩) hb').trans d3, (h.cell (p := ⟨b', o' + k * 5 + 4, none⟩) hb').trans d4⟩
        have hkl : k < l.length := by have := HL.out; omega
        have hkl' : k < l'.length := by have := HL'.out; omega
        rw [List.getElem?_eq_getElem hkl] at hx
        rw [List.getElem?_eq_getElem hkl'] at hy
        injection hx with hx
        injection hy with hy
        have HX := Lib.hid hx
        have HX' := Lib.hid hy
        have hki : (k : Int) < (n : Int) := by omega
        have hkb : decide ((k : Int) < (n : Int)) = true := by simp; omega
        clear hx hy c0 c1 c2 c3 c4 d0 d1 d2 d3 d4
        by_cases m1 : x1 = y1
        · by_cases m2 : x2 = y2
          · by_cases m3 : x3 = y3
            · by_cases m4 : x4 = y4
              · by_cases m5 : x5 = y5
                · subst m1; subst m2; subst m3; subst m4; subst m5
                  have hxy := it_ext (X1.out.symm.trans Y1.out) (X2.out.symm.trans Y2.out) (by have := X3.out; have := Y3.out; omega) (by have := X4.out; have := Y4.out; omega) (X5.out.symm.trans Y5.out)
                  have HXY := Lib.hid hxy
                  clear hxy
                  go_wp2_with fail
                  apply Rg.region_up _ (by kernel_rfl) (by kernel_rfl) hS
                  · intro QN hQN
                    iterate 9 (apply Rg.RK.ok; (· intro vs w1 hS; go_simp; with_reducible rfl); (· rfl); simp only [Act.put, List.setIfInBounds_toArray, List.set_cons_zero, List.set_cons_succ, Nat.reduceAdd])
                    apply Rg.RK.fin []
                    intro vs w1 hK hS _
                    refine hQN.out _ _ ?_
                    clear hQN
                    go_wp2_with fail
                    go_roundw
                    case rel =>
                      refine ⟨k + 1, by go_num, by omega, ?_, hu.trans (keeps_up hK)⟩
                      show _ = _
                      rw [List.take_succ_eq_append_getElem hkl, List.take_succ_eq_append_getElem hkl', ht.out, HX.out, HX'.out, HXY.out]
                    case measure => simp [intOf]; omega
                  · kernel_rfl
                · have hne : l ≠ l' := by
                    intro e
                    subst e
                    have h := HX.out.symm.trans HX'.out
                    have a1 := X1.out; have a2 := X2.out; have a3 := X3.out; have a4 := X4.out; have a5 := X5.out
                    have b1 := Y1.out; have b2 := Y2.out; have b3 := Y3.out; have b4 := Y4.out; have b5 := Y5.out
                    rw [h] at a1 a2 a3 a4 a5
                    omega
                  have HNE := Lib.hid hne
                  clear hne
                  go_wp2_with fail
                  apply Rg.region_up _ (by kernel_rfl) (by kernel_rfl) hS
                  · intro QN hQN
                    iterate 9 (apply Rg.RK.ok; (· intro vs w1 hS; go_simp; with_reducible rfl); (· rfl); simp only [Act.put, List.setIfInBounds_toArray, List.set_cons_zero, List.set_cons_succ, Nat.reduceAdd])
                    apply Rg.RK.fin []
                    intro vs w1 hK hS _
                    refine hQN.out _ _ ?_
                    clear hQN
                    go_wp2_with fail
                    go_ret
                    refine ⟨retb ?_, hu.trans (keeps_up hK)⟩
                    have := HNE.out
                    simp [this]
                  · kernel_rfl
              · have hne : l ≠ l' := by
                  intro e
                  subst e
                  have h := HX.out.symm.trans HX'.out
                  have a1 := X1.out; have a2 := X2.out; have a3 := X3.out; have a4 := X4.out; have a5 := X5.out
                  have b1 := Y1.out; have b2 := Y2.out; have b3 := Y3.out; have b4 := Y4.out; have b5 := Y5.out
                  rw [h] at a1 a2 a3 a4 a5
                  omega
                have HNE := Lib.hid hne
                clear hne
                go_wp2_with fail
                apply Rg.region_up _ (by kernel_rfl) (by kernel_rfl) hS
                · intro QN hQN
                  iterate 9 (apply Rg.RK.ok; (· intro vs w1 hS; go_simp; with_reducible rfl); (· rfl); simp only [Act.put, List.setIfInBounds_toArray, List.set_cons_zero, List.set_cons_succ, Nat.reduceAdd])
                  apply Rg.RK.fin []
                  intro vs w1 hK hS _
                  refine hQN.out _ _ ?_
                  clear hQN
                  go_wp2_with fail
                  go_ret
                  refine ⟨retb ?_, hu.trans (keeps_up hK)⟩
                  have := HNE.out
                  simp [this]
                · kernel_rfl
            · have hne : l ≠ l' := by
                intro e
                subst e
                have h := HX.out.symm.trans HX'.out
                have a1 := X1.out; have a2 := X2.out; have a3 := X3.out; have a4 := X4.out; have a5 := X5.out
                have b1 := Y1.out; have b2 := Y2.out; have b3 := Y3.out; have b4 := Y4.out; have b5 := Y5.out
                rw [h] at a1 a2 a3 a4 a5
                omega
              have HNE := Lib.hid hne
              clear hne
              go_wp2_with fail
              apply Rg.region_up _ (by kernel_rfl) (by kernel_rfl) hS
              · intro QN hQN
                iterate 9 (apply Rg.RK.ok; (· intro vs w1 hS; go_simp; with_reducible rfl); (· rfl); simp only [Act.put, List.setIfInBounds_toArray, List.set_cons_zero, List.set_cons_succ, Nat.reduceAdd])
                apply Rg.RK.fin []
                intro vs w1 hK hS _
                refine hQN.out _ _ ?_
                clear hQN
                go_wp2_with fail
                go_ret
                refine ⟨retb ?_, hu.trans (keeps_up hK)⟩
                have := HNE.out
                simp [this]
              · kernel_rfl
          · have hne : l ≠ l' := by
              intro e
              subst e
              have h := HX.out.symm.trans HX'.out
              have a1 := X1.out; have a2 := X2.out; have a3 := X3.out; have a4 := X4.out; have a5 := X5.out
              have b1 := Y1.out; have b2 := Y2.out; have b3 := Y3.out; have b4 := Y4.out; have b5 := Y5.out
              rw [h] at a1 a2 a3 a4 a5
              omega
            have HNE := Lib.hid hne
            clear hne
            go_wp2_with fail
            apply Rg.region_up _ (by kernel_rfl) (by kernel_rfl) hS
            · intro QN hQN
              iterate 9 (apply Rg.RK.ok; (· intro vs w1 hS; go_simp; with_reducible rfl); (· rfl); simp only [Act.put, List.setIfInBounds_toArray, List.set_cons_zero, List.set_cons_succ, Nat.reduceAdd])
              apply Rg.RK.fin []
              intro vs w1 hK hS _
              refine hQN.out _ _ ?_
              clear hQN
              go_wp2_with fail
              go_ret
              refine ⟨retb ?_, hu.trans (keeps_up hK)⟩
              have := HNE.out
              simp [this]
            · kernel_rfl
        · have hne : l ≠ l' := by
            intro e
            subst e
            have h := HX.out.symm.trans HX'.out
            have a1 := X1.out; have a2 := X2.out; have a3 := X3.out; have a4 := X4.out; have a5 := X5.out
            have b1 := Y1.out; have b2 := Y2.out; have b3 := Y3.out; have b4 := Y4.out; have b5 := Y5.out
            rw [h] at a1 a2 a3 a4 a5
            omega
          have HNE := Lib.hid hne
          clear hne
          go_wp2_with fail
          apply Rg.region_up _ (by kernel_rfl) (by kernel_rfl) hS
          · intro QN hQN
            iterate 9 (apply Rg.RK.ok; (· intro vs w1 hS; go_simp; with_reducible rfl); (· rfl); simp only [Act.put, List.setIfInBounds_toArray, List.set_cons_zero, List.set_cons_succ, Nat.reduceAdd])
            apply Rg.RK.fin []
            intro vs w1 hK hS _
            refine hQN.out _ _ ?_
            clear hQN
            go_wp2_with fail
            go_ret
            refine ⟨retb ?_, hu.trans (keeps_up hK)⟩
            have := HNE.out
            simp [this]
          · kernel_rfl
      · go_wp2_with fail
        go_ret
        refine ⟨retb ?_, hu⟩
        have hkn : k = n := by omega
        have hll : l = l' := by
          have h := ht.out
          rwa [List.take_of_length_le (by have := HL.out; omega), List.take_of_length_le (by have := HL'.out; omega)] at h
        rw [hll]
        simp
  · have hne : decide (l = l') = false := by
      rw [decide_eq_false_iff_not]
      intro e
      apply k6
      rw [HL.out, HL'.out, e]
    have HNE := Lib.hid hne
    clear hne
    have hnn : ((n : Int) != (n' : Int)) = true := by simp; omega
    go_enter Try.func12, Try.ntmps12
    go_wp2_with fail
    go_ret
    refine ⟨retb ?_, Up.refl _⟩
    rw [HNE.out]
end Go.Proofs.Ytfmjgkfblejknaa

/-
  Opening arguments: slices of items, of whole numbers.
-/
namespace Go.Proofs.Ytfmjgkfblejknaa
open Go.ChangeShapes Go.WideShapes Go.ChangeAt Go.RowKit Go.Deep
set_option linter.unusedVariables false

instance : Inhabited It := ⟨⟨0, 0, 0, 0, 0⟩⟩
/-- a slice of items that came in -/
def IsI (w : World) (A : Option Addr) (n c : Nat) (l : List It) : Prop := Rd w w.heap.size 5 A n (itcs l) ∧ n ≤ c ∧ c ≤ 9223372036854775807
section
variable {H : Type} {enc : TypeId × Value → H} {W : World} {sp : Nat → Bool} {a : Option Addr} {len cap : Nat} {d : DataW H} {p : List MemPlace}
theorem is_i (h : DataW.Trod enc Try.prog W 0 (fun _ => true) true 22 (.slice a len cap) d p) : ∃ l, IsI W a len cap l := by
  obtain ⟨fuel, hf⟩ := h
  rcases open_slice Try.underlying22 hf with ⟨hcs, _⟩ | ⟨x, l, c, m, n, D, Pl, hcs, _, hl, hm, hmm, _, hx⟩
  · simp [Value.cells] at hcs
    obtain ⟨rfl, rfl, rfl⟩ := hcs
    exact ⟨[], Rd.empty, by omega, by omega⟩
  · simp [Value.cells] at hcs
    obtain ⟨rfl, rfl, rfl⟩ := hcs
    have hC : Try.prog.cellsOf 35 = 5 := by kernel_rfl
    rw [hC] at hx
    obtain ⟨L, hL, hr⟩ := rd_elems (W := W) (len := len) (a := x) (base := 0) itc (sz := 5) (fun _ => rfl) (by omega) (fun i hi => by
      obtain ⟨cs', h1, h2⟩ := hx i (by simp at hmm; omega)
      exact ⟨cs', h1, item_cells' h2⟩)
    exact ⟨L, hr, hl, by simpa only [maxLen] using hm⟩
/-- a slice of whole numbers that came in -/
def zvs (l : List Int64) : List Value := l.map fun z => Value.int .i64 z.toInt
def IsZ (w : World) (A : Option Addr) (n c : Nat) (l : List Int64) : Prop := Rd w w.heap.size 1 A n (zvs l) ∧ n ≤ c ∧ c ≤ 9223372036854775807
theorem is_z (h : DataW.Trod enc Try.prog W 0 (fun _ => true) true 102 (.slice a len cap) d p) : ∃ l, IsZ W a len cap l := by
  obtain ⟨fuel, hf⟩ := h
  rcases open_ints Try.underlying102 Try.underlying3 (by kernel_rfl) hf with ⟨hcs, _⟩ | ⟨x, l, c, zs, hcs, _, hl, hm, hz, _, hcell, hwz⟩
  · simp [Value.cells] at hcs
    obtain ⟨rfl, rfl, rfl⟩ := hcs
    exact ⟨[], Rd.empty, by omega, by omega⟩
  · simp [Value.cells] at hcs
    obtain ⟨rfl, rfl, rfl⟩ := hcs
    refine ⟨_, rd_ints (fun z : Int64 => Value.int .i64 z.toInt) (fun n => Int64.ofInt n) (fun n hn => ?_) hl (by simpa using hz) hcell hwz, hl, by simpa only [maxLen] using hm⟩
    exact congrArg _ (i64_of hn).symm
theorem Rd.zlen {w : World} {B n : Nat} {A : Option Addr} {q : List Int64} (h : Rd w B 1 A n (zvs q)) : n = q.length := by have := h.1; simp [zvs] at this; omega
theorem Rd.znum {w : World} {B n : Nat} {A : Option Addr} {q : List Int64} (h : Rd w B 1 A n (zvs q)) {k : Nat} (hk : k < n) :
    ∃ b o, A = some ⟨b, o, none⟩ ∧ b < B ∧ w.cell? ⟨b, o + k, none⟩ = some (.int .i64 (q.getD k 0).toInt) := by
  obtain ⟨b, o, e, hb, hc⟩ := h.2 (by omega)
  have hl : k < q.length := by have := h.zlen; omega
  exact ⟨b, o, e, hb, hc k _ (by simp [zvs, hl, List.getD])⟩
end
end Go.Proofs.Ytfmjgkfblejknaa
