/-
  Texts of this claim, joined: TabW11, TabW12, TabW13, TabR2, TabT.
-/
import Derived.Tactics
import Derived.Tactics2
import Derived.Defers
import Derived.Laws.Pointers
import Derived.Laws.LoneSync
import Derived.RegionTactic
import Derived.RegionCalls
import Derived.ChangeAlike
import Derived.IntWalk
import Derived.Test.YtfmjgkfblejknaaGreatZ6
/-
  The walks of what a table's May takes of sync and sync/atomic.
-/
namespace Go.Proofs.YtfmjgkfblejknaaGreat
open Go.RowKit
set_option linter.unusedVariables false
set_option linter.unusedSimpArgs false

theorem race_off (w : World) : (callFunc 106 #[]).run Tryz.prog w = .ok (.value (.tuple #[])) w := run_call_mark0 Tryz.func106 (by kernel_rfl) (by kernel_rfl) (by kernel_rfl) .disable (by kernel_rfl) w
theorem race_on (w : World) : (callFunc 108 #[]).run Tryz.prog w = .ok (.value (.tuple #[])) w := run_call_mark0 Tryz.func108 (by kernel_rfl) (by kernel_rfl) (by kernel_rfl) .enable (by kernel_rfl) w
theorem race_acq (a : Addr) (w : World) : (callFunc 109 #[.pointer (some a)]).run Tryz.prog w = .ok (.value (.tuple #[])) w := run_call_marked Tryz.func109 (by kernel_rfl) (by kernel_rfl) (by kernel_rfl) .acquire (by kernel_rfl) a w
theorem race_rel (a : Addr) (w : World) : (callFunc 111 #[.pointer (some a)]).run Tryz.prog w = .ok (.value (.tuple #[])) w := run_call_marked Tryz.func111 (by kernel_rfl) (by kernel_rfl) (by kernel_rfl) .releaseMerge (by kernel_rfl) a w

set_option maxRecDepth 100000 in
set_option maxHeartbeats 1600000 in
theorem bstore_deferred (a : Addr) (x : Value) (u : FrameMode) (w : World) (hc : w.cell? a = some x) (hz : w.frozen? a = false) :
    CallsD Tryz.prog 96 #[.pointer (some a), .bool true] u w fun e u' w' => u' = u ∧ (e = .returned (.tuple #[]) ∧ w' = w.drew.setCell a (.int .u32 1)) := by
  have hc' : w.drew.cell? a = some x := by go_simp
  have hz' : w.drew.frozen? a = false := by go_simp
  have hst := run_call_store (P := Tryz.prog) Tryz.func103 (by kernel_rfl) (by kernel_rfl) (by kernel_rfl) (by kernel_rfl) (k := .u32) (y := 1) hc' hz'
  go_enter_d Tryz.func96, Tryz.ntmps96
  go_wp2
  go_region_calls
  all_goals (go_end0; exact ⟨rfl, rfl⟩)

set_option maxRecDepth 100000 in
set_option maxHeartbeats 1600000 in
theorem unlock_deferred (a : Addr) (u : FrameMode) (w : World) (hc : w.cell? a = some (.int .i32 1)) (hz : w.frozen? a = false) :
    CallsD Tryz.prog 95 #[.pointer (some a)] u w fun e u' w' => u' = u ∧ (e = .returned (.tuple #[]) ∧ w' = w.setCell a (.int .i32 0)) := by
  have hd := race_off
  have he := race_on
  have hr := race_rel
  have hadd := run_call_add (P := Tryz.prog) Tryz.func112 (by kernel_rfl) (by kernel_rfl) (by kernel_rfl) .i32 (by kernel_rfl) (y := -1) (s := 0) hc hz (by simp [go_sem]; rfl)
  have hcv := run_convert_to_unsafe (P := Tryz.prog) (src := 141) (dst := 145) Tryz.underlying141 Tryz.underlying145 (by kernel_rfl) hc
  go_enter_d Tryz.func95, Tryz.ntmps95
  go_wp2
  go_end0
  go_wp2
  go_end0
  exact ⟨rfl, rfl⟩

set_option maxRecDepth 100000 in
set_option maxHeartbeats 1600000 in
theorem lock_free (a : Addr) (w : World) (hc : w.cell? a = some (.int .i32 0)) (hz : w.frozen? a = false) :
    Calls Tryz.prog 94 #[.pointer (some a)] w fun e w' => e = .returned (.tuple #[]) ∧ w' = w.setCell a (.int .i32 1) := by
  have hd := race_off
  have he := race_on
  have ha := race_acq
  have hcas := run_call_cas_hit (P := Tryz.prog) Tryz.func107 (by kernel_rfl) (by kernel_rfl) (by kernel_rfl) .i32 (by kernel_rfl) (y := 1) hc hz
  have hc' : (w.setCell a (.int .i32 1)).cell? a = some (.int .i32 1) := World.cell?_setCell_same w a _ hc
  have hcv := run_convert_to_unsafe (P := Tryz.prog) (src := 141) (dst := 145) Tryz.underlying141 Tryz.underlying145 (by kernel_rfl) hc'
  go_enter Tryz.func94, Tryz.ntmps94
  go_wp2
  first | go_end0 | (simp only [Exit.inBlock, Exit.then]; refine bodyPost_ret (results_none rfl _ _ _) rfl ?_) | refine bodyPost_ret (results_none rfl _ _ _) rfl ?_
  go_wp2
  go_end0
  exact ⟨rfl, rfl⟩
set_option maxRecDepth 100000 in
theorem bload_any (a : Addr) (d : Int) (w : World) (h0 : w.cell? a = some (.int .u32 d)) :
    Calls Tryz.prog 75 #[.pointer (some a)] w fun e w' => e = .returned (.bool (d != 0)) ∧ w = w' := by
  have hl := run_call_load (P := Tryz.prog) Tryz.func93 (by kernel_rfl) (by kernel_rfl) (by kernel_rfl) .u32 (by kernel_rfl) h0
  go_enter Tryz.func75, Tryz.ntmps75
  go_wp2_with fail
  go_ret
  exact ⟨rfl, rfl⟩
end Go.Proofs.YtfmjgkfblejknaaGreat

/-
  The walk of a table's May, where the item is there.
-/
namespace Go.Proofs.YtfmjgkfblejknaaGreat
open Go.RowKit
set_option linter.unusedVariables false
set_option linter.unusedSimpArgs false

/-- a table's rows, as they lie -/
structure TabX (w : World) (B g m rc : Nat) (R : Option Addr) (rs : List Rw) (L : List It) : Prop where
  own : OwnRI w B R m rc rs
  rows : RwOwn w B rs
  eq : rwl rs = rowsC L
  ok : makeE L = 0
  base : B ≤ g
theorem TabX.up {w w' : World} {B g m rc : Nat} {R : Option Addr} {rs : List Rw} {L : List It} (h : TabX w B g m rc R rs L) (hu : Up w w') : TabX w' B g m rc R rs L := ⟨h.own.up hu, h.rows.up hu, h.eq, h.ok, h.base⟩
theorem TabX.keeps {w w' : World} {B g m rc : Nat} {R : Option Addr} {rs : List Rw} {L : List It} {cs : Array Value} (h : TabX w B g m rc R rs L) (hd : w.heap[g]? = some (.cells cs 74 (0, 0))) (hK : Rg.Keeps (fun k => k = g) w w') : TabX w' B g m rc R rs L :=
  ⟨own_block h.own (fun g' cs' hh => hK.block g' (Array.getElem?_eq_some_iff.1 hh).1 (by
      intro e
      have e' : g' = g := e
      subst e'
      rw [hd] at hh
      injection hh with hh
      injection hh with _ hh
      exact absurd hh (by decide))),
   RwOwn.others h.rows hK (fun k hk => by have e' : k = g := hk; subst e'; exact ⟨_, _, _, hd, by decide⟩), h.eq, h.ok, h.base⟩
theorem TabX.flat {w : World} {B g m rc : Nat} {R : Option Addr} {rs : List Rw} {L : List It} (h : TabX w B g m rc R rs L) : flL rs = L := by rw [flL_flat, h.eq, rowsC_flat]
theorem TabX.len {w : World} {B g m rc : Nat} {R : Option Addr} {rs : List Rw} {L : List It} (h : TabX w B g m rc R rs L) : L.length ≤ 2000 := (makeE_ok h.ok).1
theorem TabX.m_le {w : World} {B g m rc : Nat} {R : Option Addr} {rs : List Rw} {L : List It} (h : TabX w B g m rc R rs L) : m ≤ 1000 := by
  have h1 := OwnRI.len h.own
  have h2 := congrArg List.length h.eq
  rw [rwl_len] at h2
  have h3 := rowsC_len L
  have h4 := h.len
  omega
theorem TabX.row {w : World} {B g m rc : Nat} {R : Option Addr} {rs : List Rw} {L : List It} (h : TabX w B g m rc R rs L) : ∀ r ∈ rs, 0 < r.n ∧ r.n ≤ 1000000 := fun r hr => by
  have h1 := (h.rows.ok r hr).1.ilen
  have h2 : r.l ∈ rwl rs := List.mem_map_of_mem hr
  rw [h.eq] at h2
  have h3 := rowsC_row h2
  omega
set_option maxRecDepth 100000 in
set_option maxHeartbeats 4000000 in
theorem tmay1_any (B g m rc N : Nat) (R : Option Addr) (rs : List Rw) (L : List It) (pl : Nat) (w : World) (hd : w.heap[g]? = some (.cells #[.slice R m rc, .int .i64 (N : Int), .int .u32 0, .int .i32 1, .int .u32 0, .pointer none] 74 (0, 0))) (hX : TabX w B g m rc R rs L) (hp : w.cell? ⟨pl, 0, none⟩ = some (.pointer (some ⟨g, 0, none⟩))) (hpl : pl < w.heap.size) (hpg : pl ≠ g) :
    Calls Tryz.prog 49 #[.pointer (some ⟨pl, 0, none⟩)] w fun e w' => e = .returned (.tuple #[]) ∧ ∃ fg fb, w'.heap[g]? = some (.cells #[.slice R m rc, .int .i64 (N : Int), .int .u32 0, .int .i32 1, .int .u32 0, .pointer (some ⟨fg, 0, none⟩)] 74 (0, 0)) ∧ FilAt w.heap.size fg fb (filB L) w' ∧ Rg.Keeps (fun k => k = g) w w' := by
  have hgl := (Array.getElem?_eq_some_iff.1 hd).1
  have hS : ∀ W, Rg.Keeps (fun k => k = g) w.drew W → W.cell? ⟨pl, 0, none⟩ = some (.pointer (some ⟨g, 0, none⟩)) ∧ TabX W B g m rc R rs L ∧ Rg.Keeps (fun k => k = g) w W := fun W hK => by
    have hK2 : Rg.Keeps (fun k => k = g) w W := ⟨hK.os, hK.tape, hK.output, hK.size, hK.block⟩
    exact ⟨(World.cell?_of_block (a := ⟨pl, 0, none⟩) (hK2.block pl hpl hpg)).trans hp, hX.keeps hd hK2, hK2⟩
  have hfl := hX.flat
  have hln := hX.len
  have hml := hX.m_le
  have HFL := Lib.hid hfl
  obtain ⟨n, hn⟩ : ∃ n, n = L.length := ⟨_, rfl⟩
  rw [← hn] at hln
  have HN := Lib.hid hn
  clear hX hp hfl hn
  go_enter Tryz.func49, Tryz.ntmps49
  go_wp2_with fail
  apply Rg.region_own 7 _ (fun k => k = g) (fun W => W.heap[g]? = some (.cells #[.slice R m rc, .int .i64 (N : Int), .int .u32 0, .int .i32 1, .int .u32 0, .pointer none] 74 (0, 0))) rfl (by kernel_rfl) (by kernel_rfl) (by rintro k rfl; exact hgl) hd (fun w1 w2 h hs => (hs.block g (Array.getElem?_eq_some_iff.1 h).1 (.inr rfl)).trans h) hS
  · intro QN hQN
    iterate 2 (apply Rg.RK.ok; (· intro vs w1 hS; go_simp; with_reducible rfl); (· rfl); simp only [Act.put, List.setIfInBounds_toArray, List.set_cons_zero, List.set_cons_succ, Nat.reduceAdd])
    apply Rg.RK.opn (fun v W => ∃ A c, v = .slice A n c ∧ OwnI W w.heap.size A n c L) Rg.ob [7] []
    · rintro v W1 W2 ⟨A, c, rfl, h⟩ hs
      exact ⟨A, c, rfl, row_sta h hs⟩
    · rfl
    · intro vs w1 hK hS hf K hKK
      have hh : w1.heap[g]? = some (.cells #[.slice R m rc, .int .i64 (N : Int), .int .u32 0, .int .i32 1, .int .u32 0, .pointer none] 74 (0, 0)) := hf.1
      have hX1 := hS.2.1
      have hall := tall_cell g m rc R rs w1 (blk_cell hh 0) (OwnRI.rd hX1.own) hX1.rows.ok (by rw [HFL.out, ← HN.out]; omega) (by omega)
      rw [HFL.out, ← HN.out] at hall
      go_simp
      refine hall.mono ?_
      rintro e w2 ⟨A, c, rfl, ho, hu⟩
      exact hKK.out _ _ ⟨A, c, rfl, own_base ho hS.2.2.size⟩ (Rg.Keeps.of_up hu) (own_row ho)
    simp only [Act.put, List.setIfInBounds_toArray, List.set_cons_zero, List.set_cons_succ, Nat.reduceAdd]
    apply Rg.RK.opn (fun v W => ∃ fg fb, v = .pointer (some ⟨fg, 0, none⟩) ∧ FilAt w.heap.size fg fb (filB L) W) (fun v k => ∃ fg, v = .pointer (some ⟨fg, 0, none⟩) ∧ (k = fg ∨ k + 1 = fg)) [2] []
    · rintro v W1 W2 ⟨fg, fb, rfl, h⟩ hs
      exact ⟨fg, fb, rfl, (hs.block fg (Array.getElem?_eq_some_iff.1 h.1).1 (.inr ⟨fg, rfl, .inl rfl⟩)).trans h.1, h.2.1.sta hs (.inr ⟨fg, rfl, .inr h.2.2.2.2.symm⟩), h.2.2⟩
    · rfl
    · intro vs w1 hK hS hf K hKK
      obtain ⟨⟨A, c, hv, ho⟩, -⟩ := hf
      (try dsimp only at hKK ⊢)
      rw [hv] at hKK ⊢
      go_simp
      refine (filter_any A n c L w1 (Rd.own ho) (by omega)).mono ?_
      rintro e w2 ⟨fg, fb, rfl, hfil, hu⟩
      refine hKK.out _ _ ⟨fg, fb, rfl, hfil.base hS.2.2.size⟩ (Rg.Keeps.of_up hu) ?_
      rintro k ⟨fg', he, hk⟩
      injection he with he
      injection he with he
      injection he with he
      subst he
      have h1 := (Array.getElem?_eq_some_iff.1 hfil.1).1
      have h2 := hfil.2.2.1
      have h3 := hfil.2.2.2.1
      have h4 := hfil.2.2.2.2
      exact ⟨by omega, .inl (by omega)⟩
    simp only [Act.put, List.setIfInBounds_toArray, List.set_cons_zero, List.set_cons_succ, Nat.reduceAdd]
    iterate 2 (apply Rg.RK.ok; (· intro vs w1 hS; go_simp; with_reducible rfl); (· rfl); simp only [Act.put, List.setIfInBounds_toArray, List.set_cons_zero, List.set_cons_succ, Nat.reduceAdd])
    apply Rg.RK.opD (fun vs W => ∃ fg fb, vs 3 = .pointer (some ⟨fg, 0, none⟩) ∧ W.heap[g]? = some (.cells #[.slice R m rc, .int .i64 (N : Int), .int .u32 0, .int .i32 1, .int .u32 0, .pointer (some ⟨fg, 0, none⟩)] 74 (0, 0)) ∧ FilAt w.heap.size fg fb (filB L) W) (fun vs k => k = g ∨ ∃ fg, vs 3 = .pointer (some ⟨fg, 0, none⟩) ∧ (k = fg ∨ k + 1 = fg)) [3, 7] [3, 7] [3] (fun vs vs' h => by rw [h 3 (by simp)]; exact ⟨rfl, rfl⟩)
    · rintro vs W1 W2 ⟨fg, fb, hv, hh, h⟩ hs
      exact ⟨fg, fb, hv, (hs.block g (Array.getElem?_eq_some_iff.1 hh).1 (.inr (.inl rfl))).trans hh, (hs.block fg (Array.getElem?_eq_some_iff.1 h.1).1 (.inr (.inr ⟨fg, hv, .inl rfl⟩))).trans h.1, h.2.1.sta hs (.inr (.inr ⟨fg, hv, .inr h.2.2.2.2.symm⟩)), h.2.2⟩
    · rfl
    · intro vs w1 hK hS hf K hKK
      obtain ⟨h3, hh, -⟩ := hf
      obtain ⟨fg, fb, hv, hfil⟩ := h3
      (try dsimp only at hKK ⊢)
      rw [hv] at hKK ⊢
      have HV := Lib.hid hv
      clear hv
      have q0 := blk_cell hh 5
      have q1 := blk_free hh 5
      have h5 := setc_heap w1 g 5 (.pointer (some ⟨fg, 0, none⟩)) _ _ hh
      have k5 := setc_keeps w1 w1 g 5 (.pointer (some ⟨fg, 0, none⟩)) (Rg.Keeps.refl _ _)
      have hfl := (Array.getElem?_eq_some_iff.1 hfil.1).1
      have hgw : g < w.heap.size := hgl
      have n1 : fg ≠ g := by have := hfil.2.2.1; omega
      have n2 : fb ≠ g := by have := hfil.2.2.2.1; omega
      have hf2 : FilAt w.heap.size fg fb (filB L) (w1.setCell ⟨g, 5, none⟩ (.pointer (some ⟨fg, 0, none⟩))) := ⟨(k5.block fg hfl n1).trans hfil.1, (k5.block fb hfil.2.1.lt n2).trans hfil.2.1, hfil.2.2⟩
      go_simp
      refine hKK.out undef _ ⟨fg, fb, by rw [Rg.upd_ne _ _ (by decide)]; exact HV.out, h5, hf2⟩ (Keeps.weak k5 fun y hy => ⟨7, by simp, hy⟩) (fun y hy => ?_)
      rw [Rg.upd_ne _ _ (by decide)] at hy
      rcases hy with hy | ⟨fg', hv', hy⟩
      · rw [hy]
        exact ⟨(Array.getElem?_eq_some_iff.1 h5).1, .inr ⟨7, by simp, rfl⟩⟩
      · rw [HV.out] at hv'
        injection hv' with hv'
        injection hv' with hv'
        injection hv' with hv'
        subst hv'
        have h4 := hfil.2.2.2.2
        have h6 := (Array.getElem?_eq_some_iff.1 hf2.1).1
        exact ⟨by omega, .inr ⟨3, by simp, fg, HV.out, hy⟩⟩
    simp only [Act.put, List.setIfInBounds_toArray, List.set_cons_zero, List.set_cons_succ, Nat.reduceAdd]
    apply Rg.RK.fin [6]
    intro vs w8 hK hS hf
    obtain ⟨⟨fg, fb, hv, hh, hfil⟩, -⟩ := hf
    refine hQN.out _ _ ?_
    clear hQN
    go_wp2_with fail
    exact bodyPost_end (results_none rfl _ _ _) rfl ⟨rfl, fg, fb, hh, hfil, hS.2.2⟩
  · kernel_rfl
set_option maxRecDepth 100000 in
set_option maxHeartbeats 4000000 in
theorem oslow_any (B g m rc N : Nat) (R : Option Addr) (rs : List Rw) (L : List It) (pl : Nat) (w : World) (hd : w.heap[g]? = some (.cells (tcs R m rc N 0 none) 74 (0, 0))) (hX : TabX w B g m rc R rs L) (hp : w.cell? ⟨pl, 0, none⟩ = some (.pointer (some ⟨g, 0, none⟩))) (hpl : pl < w.heap.size) (hpg : pl ≠ g) :
    Calls Tryz.prog 76 #[.pointer (some ⟨g, 2, none⟩), .func (.func 49) #[] #[.pointer (some ⟨pl, 0, none⟩)]] w fun e w' => e = .returned (.tuple #[]) ∧ ∃ fg fb, w'.heap[g]? = some (.cells (tcs R m rc N 1 (some ⟨fg, 0, none⟩)) 74 (0, 0)) ∧ FilAt w.heap.size fg fb (filB L) w' ∧ Rg.Keeps (fun k => k = g) w w' := by
  unfold tcs at hd ⊢
  have c3 : w.cell? ⟨g, 3, none⟩ = some (.int .i32 0) := blk_cell hd 3
  have f3 : w.frozen? ⟨g, 3, none⟩ = false := blk_free hd 3
  have hgl := (Array.getElem?_eq_some_iff.1 hd).1
  obtain ⟨w1, hw1⟩ : ∃ w1, w1 = w.setCell ⟨g, 3, none⟩ (.int .i32 1) := ⟨_, rfl⟩
  have hd1 : w1.heap[g]? = some (.cells #[.slice R m rc, .int .i64 (N : Int), .int .u32 0, .int .i32 1, .int .u32 0, .pointer none] 74 (0, 0)) := by rw [hw1]; exact setc_heap w g 3 (.int .i32 1) _ _ hd
  have hK1 : Rg.Keeps (fun k => k = g) w w1 := by rw [hw1]; exact setc_keeps w w g 3 _ (Rg.Keeps.refl _ _)
  have HC := Lib.hid (tmay1_any B g m rc N R rs L pl w1 hd1 (hX.keeps hd hK1) ((World.cell?_of_block (a := ⟨pl, 0, none⟩) (hK1.block pl hpl hpg)).trans hp) (Nat.lt_of_lt_of_le hpl hK1.size) hpg)
  have c2 : w1.cell? ⟨g, 2, none⟩ = some (.int .u32 0) := blk_cell hd1 2
  have hnot : ∀ (x : Bool) (w : World), (Op.unary .not (.bool x)).run Tryz.prog w = .ok (.bool (!x)) w := fun _ _ => rfl
  have HW := Lib.hid hw1
  have hK0 := hK1
  clear hX hp hw1 hd hd1 hK1
  go_enter_defers Tryz.func76, Tryz.ntmps76
  go_wp2_with (first | (go_at_call 94; refine (lock_free ⟨g, 3, none⟩ _ c3 f3).mono ?_; rintro e w' ⟨rfl, rfl⟩; rw [← HW.out]) | (go_at_call 75; refine (bload_any ⟨g, 2, none⟩ 0 _ c2).mono ?_; rintro e w' ⟨rfl, rfl⟩; rw [show ((0 : Int) != 0) = false from rfl]) | (go_at_call 49; refine HC.out.mono ?_; rintro e w2 ⟨rfl, fg, fb, hd2, hfil, hK2⟩))
  refine leaves_cons (f := 96) (args := #[.pointer (some ⟨g, 2, none⟩), .bool true]) (by simp) (by simp [go_sem]) ?_
  refine (bstore_deferred ⟨g, 2, none⟩ (.int .u32 0) .returning _ (blk_cell hd2 2) (blk_free hd2 2)).mono ?_
  rintro e u' w'' ⟨rfl, rfl, rfl⟩
  have hd3 := setc_heap w2.drew g 2 (.int .u32 1) _ _ hd2
  have hd4 : (w2.drew.setCell ⟨g, 2, none⟩ (.int .u32 1)).heap[g]? = some (.cells #[.slice R m rc, .int .i64 (N : Int), .int .u32 1, .int .i32 1, .int .u32 0, .pointer (some ⟨fg, 0, none⟩)] 74 (0, 0)) := hd3
  refine leaves_cons (f := 95) (args := #[.pointer (some ⟨g, 3, none⟩)]) (by simp [settle]) (by simp [go_sem]) ?_
  refine (unlock_deferred ⟨g, 3, none⟩ _ _ (blk_cell hd4 3) (blk_free hd4 3)).mono ?_
  rintro e u' w'' ⟨rfl, rfl, rfl⟩
  have hd5 := setc_heap _ g 3 (.int .i32 0) _ _ hd4
  have hK3 : Rg.Keeps (fun k => k = g) w2 w2.drew := ⟨rfl, rfl, rfl, Nat.le_refl _, fun _ _ _ => rfl⟩
  have hK5 := setc_keeps w2 _ g 3 (.int .i32 0) (setc_keeps w2 _ g 2 (.int .u32 1) hK3)
  have hK6 := KeepsT hK0 (KeepsT hK2 hK5)
  have hgf : g < w1.heap.size := Nat.lt_of_lt_of_le hgl hK0.size
  have n1 : fg ≠ g := by have := hfil.2.2.1; omega
  have n2 : fb ≠ g := by have := hfil.2.2.2.1; omega
  have hfil5 : FilAt w.heap.size fg fb (filB L) _ := ⟨(hK5.block fg (Array.getElem?_eq_some_iff.1 hfil.1).1 n1).trans hfil.1, (hK5.block fb hfil.2.1.lt n2).trans hfil.2.1, (hfil.base hK0.size).2.2⟩
  generalize (w2.drew.setCell ⟨g, 2, none⟩ (.int .u32 1)).setCell ⟨g, 3, none⟩ (.int .i32 0) = w9 at *
  simp [Leaves, settle, results, Tryz.results76]
  exact ⟨fg, hd5, ⟨fb, hfil5⟩, hK6⟩
set_option maxRecDepth 100000 in
set_option maxHeartbeats 4000000 in
theorem odo_first (B g m rc N : Nat) (R : Option Addr) (rs : List Rw) (L : List It) (pl : Nat) (w : World) (hd : w.heap[g]? = some (.cells (tcs R m rc N 0 none) 74 (0, 0))) (hX : TabX w B g m rc R rs L) (hp : w.cell? ⟨pl, 0, none⟩ = some (.pointer (some ⟨g, 0, none⟩))) (hpl : pl < w.heap.size) (hpg : pl ≠ g) :
    Calls Tryz.prog 48 #[.pointer (some ⟨g, 2, none⟩), .func (.func 49) #[] #[.pointer (some ⟨pl, 0, none⟩)]] w fun e w' => e = .returned (.tuple #[]) ∧ ∃ fg fb, w'.heap[g]? = some (.cells (tcs R m rc N 1 (some ⟨fg, 0, none⟩)) 74 (0, 0)) ∧ FilAt w.heap.size fg fb (filB L) w' ∧ Rg.Keeps (fun k => k = g) w w' := by
  have c2 : w.cell? ⟨g, 2, none⟩ = some (.int .u32 0) := blk_cell hd 2
  have HS := Lib.hid (oslow_any B g m rc N R rs L pl w hd hX hp hpl hpg)
  have hnot : ∀ (x : Bool) (w : World), (Op.unary .not (.bool x)).run Tryz.prog w = .ok (.bool (!x)) w := fun _ _ => rfl
  clear hd hX hp
  go_enter Tryz.func48, Tryz.ntmps48
  go_wp2_with (first | (go_at_call 75; refine (bload_any ⟨g, 2, none⟩ 0 _ c2).mono ?_; rintro e w' ⟨rfl, rfl⟩; rw [show ((0 : Int) != 0) = false from rfl]) | (go_at_call 76; refine HS.out.mono ?_; rintro e w2 ⟨rfl, hpost⟩))
  exact bodyPost_end (results_none rfl _ _ _) rfl ⟨rfl, hpost⟩
set_option maxRecDepth 100000 in
set_option maxHeartbeats 4000000 in
theorem odo_done (g : Nat) (fv : Value) (w : World) (c2 : w.cell? ⟨g, 2, none⟩ = some (.int .u32 1)) :
    Calls Tryz.prog 48 #[.pointer (some ⟨g, 2, none⟩), fv] w fun e w' => e = .returned (.tuple #[]) ∧ w = w' := by
  have hnot : ∀ (x : Bool) (w : World), (Op.unary .not (.bool x)).run Tryz.prog w = .ok (.bool (!x)) w := fun _ _ => rfl
  go_enter Tryz.func48, Tryz.ntmps48
  go_wp2_with (first | (go_at_call 75; refine (bload_any ⟨g, 2, none⟩ 1 _ c2).mono ?_; rintro e w' ⟨rfl, rfl⟩; rw [show ((1 : Int) != 0) = true from rfl]))
  exact bodyPost_end (results_none rfl _ _ _) rfl ⟨rfl, rfl⟩
set_option maxRecDepth 100000 in
set_option maxHeartbeats 4000000 in
theorem tmay_first (B g m rc N : Nat) (R : Option Addr) (rs : List Rw) (L : List It) (x : It) (w : World) (hd : w.heap[g]? = some (.cells (tcs R m rc N 0 none) 74 (0, 0))) (hX : TabX w B g m rc R rs L) (hx : x ∈ L) :
    Calls Tryz.prog 19 #[.pointer (some ⟨g, 0, none⟩), .agg #[.int .i64 x.s.toInt, .int .i64 x.k.toInt, .int .u64 (x.t.toNat : Int), .int .u64 (x.v.toNat : Int), .int .i64 x.x.toInt]] w fun e w' => e = .returned (.bool true) ∧ ∃ fg fb, w'.heap[g]? = some (.cells (tcs R m rc N 1 (some ⟨fg, 0, none⟩)) 74 (0, 0)) ∧ FilAt w.heap.size fg fb (filB L) w' ∧ Rg.Keeps (fun k => k = g) w w' := by
  have hhas := filB_has L hx
  have hlen := filK_len L L.length
  have hL := hX.len
  have hgl := (Array.getElem?_eq_some_iff.1 hd).1
  obtain ⟨w2, hw2⟩ : ∃ w2, w2 = (w.alloc (.cells #[.pointer (some ⟨g, 0, none⟩)] 27)).alloc (.cells #[.int .i64 x.s.toInt, .int .i64 x.k.toInt, .int .u64 (x.t.toNat : Int), .int .u64 (x.v.toNat : Int), .int .i64 x.x.toInt] 37) := ⟨_, rfl⟩
  have hup2 : Up w w2 := by rw [hw2]; exact ((Up.refl w).alloc _).alloc _
  have hp2 : w2.heap[w.heap.size]? = some (.cells #[.pointer (some ⟨g, 0, none⟩)] 27 (0, 0)) := by
    rw [hw2, Below.heap_alloc _ _ _ (by simp)]; exact heap_alloc_new w _
  have hx2 : w2.heap[w.heap.size + 1]? = some (.cells #[.int .i64 x.s.toInt, .int .i64 x.k.toInt, .int .u64 (x.t.toNat : Int), .int .u64 (x.v.toNat : Int), .int .i64 x.x.toInt] 37 (0, 0)) := by
    rw [hw2]
    have h := heap_alloc_new (w.alloc (.cells #[.pointer (some ⟨g, 0, none⟩)] 27)) (.cells #[.int .i64 x.s.toInt, .int .i64 x.k.toInt, .int .u64 (x.t.toNat : Int), .int .u64 (x.v.toNat : Int), .int .i64 x.x.toInt] 37)
    rwa [World.size_alloc] at h
  have hpl : w.heap.size < w2.heap.size := (Array.getElem?_eq_some_iff.1 hp2).1
  have hdo := odo_first B g m rc N R rs L w.heap.size w2 (blk_up hup2 hd) (hX.up hup2) (blk_cell hp2 0) hpl (by omega)
  have HDO := Lib.hid hdo
  have HW := Lib.hid hw2
  have HLN : Hid (0 < (filB L).length ∧ (filB L).length ≤ 3000) := by show _ ∧ _; unfold filB; omega
  have HHAS := Lib.hid hhas
  have hp0 := blk_cell hp2 0
  have hg1 : w.heap.size + 1 < w2.heap.size := (Array.getElem?_eq_some_iff.1 hx2).1
  clear hw2 hd hX hhas hlen hdo hL
  go_enter Tryz.func19, Tryz.ntmps19
  go_wp2_with fail
  rw [← HW.out]
  refine HDO.out.mono ?_
  rintro e w5 ⟨rfl, fg, fb, hd5, hfil, hK5⟩
  have hp5 := (hK5.block w.heap.size hpl (by show ¬ w.heap.size = g; omega)).trans hp2
  have hx5 := (hK5.block _ hg1 (by show ¬ w.heap.size + 1 = g; omega)).trans hx2
  have hS : ∀ W, Up w5 W → (W.cell? ⟨w.heap.size, 0, none⟩ = some (.pointer (some ⟨g, 0, none⟩)) ∧ W.cell? ⟨g, 5, none⟩ = some (.pointer (some ⟨fg, 0, none⟩)) ∧ W.cell? ⟨w.heap.size + 1, 0, none⟩ = some (.int .i64 x.s.toInt) ∧ W.cell? ⟨w.heap.size + 1, 1, none⟩ = some (.int .i64 x.k.toInt) ∧ W.cell? ⟨w.heap.size + 1, 2, none⟩ = some (.int .u64 (x.t.toNat : Int)) ∧ W.cell? ⟨w.heap.size + 1, 3, none⟩ = some (.int .u64 (x.v.toNat : Int)) ∧ W.cell? ⟨w.heap.size + 1, 4, none⟩ = some (.int .i64 x.x.toInt)) ∧ Up w5 W := fun W h =>
    ⟨⟨blk_cell (blk_up h hp5) 0, blk_cell (blk_up h hd5) 5, blk_cell (blk_up h hx5) 0, blk_cell (blk_up h hx5) 1, blk_cell (blk_up h hx5) 2, blk_cell (blk_up h hx5) 3, blk_cell (blk_up h hx5) 4⟩, h⟩
  have hK0 : Rg.Keeps (fun k => k = g) w w5 := KeepsT (Rg.Keeps.of_up hup2) hK5
  clear hp0 hp2 hx2 HDO hK5 hp5 hx5 HW
  go_wp2_with fail
  apply Rg.region_up _ (by kernel_rfl) (by kernel_rfl) hS
  · intro QN hQN
    iterate 5 (apply Rg.RK.ok; (· intro vs w1 hS; go_simp; with_reducible rfl); (· rfl); simp only [Act.put, List.setIfInBounds_toArray, List.set_cons_zero, List.set_cons_succ, Nat.reduceAdd])
    apply Rg.RK.opn (Sl 1 (bvs (keyB x))) Rg.ob [] []
    · exact fun v W1 W2 h hs => h.sta hs
    · rfl
    · intro vs w1 hK hS _ K hKK
      go_simp
      refine (key_any x w1).mono ?_
      rintro e w2 ⟨A1, n1, c1, rfl, ho1, hu2⟩
      exact hKK.out _ _ (Sl.own ho1) (Rg.Keeps.of_up hu2) (own_row ho1)
    simp only [Act.put, List.setIfInBounds_toArray, List.set_cons_zero, List.set_cons_succ, Nat.reduceAdd]
    apply Rg.RK.call (.bool true) [5]
    · rfl
    · intro vs w1 hK hS hf K hKK
      obtain ⟨hsl, -⟩ := hf
      obtain ⟨A1, n1, c1, hv, hnc, hrd⟩ := hsl
      have HBL := Lib.hid hrd.blen
      (try dsimp only at hKK ⊢)
      rw [hv] at hKK ⊢
      go_simp
      refine (fhas_yes w2.heap.size fg fb (filB L) A1 n1 c1 (keyB x) w1 (hfil.up hS.2) hrd (by have := HBL.out; rw [this]; simp [keyB, eightB_len]) HLN.out.1 HLN.out.2 HHAS.out).mono ?_
      rintro e w2 ⟨rfl, hu2⟩
      exact hKK.out _ hu2
    simp only [Act.put, List.setIfInBounds_toArray, List.set_cons_zero, List.set_cons_succ, Nat.reduceAdd]
    iterate 1 (apply Rg.RK.ok; (· intro vs w1 hS; go_simp; with_reducible rfl); (· rfl); simp only [Act.put, List.setIfInBounds_toArray, List.set_cons_zero, List.set_cons_succ, Nat.reduceAdd])
    apply Rg.RK.fin []
    intro vs w1 hK hS _
    refine hQN.out _ _ ?_
    clear hQN
    go_wp2_with fail
    go_ret
    exact ⟨rfl, fg, fb, blk_up hS.2 hd5, (hfil.base hup2.size).up hS.2, KeepsT hK0 (Rg.Keeps.of_up hS.2)⟩
  · kernel_rfl
set_option maxRecDepth 100000 in
set_option maxHeartbeats 4000000 in
theorem tmay_again (B g m rc N fg fb : Nat) (R : Option Addr) (L : List It) (x : It) (w : World) (hd : w.heap[g]? = some (.cells (tcs R m rc N 1 (some ⟨fg, 0, none⟩)) 74 (0, 0))) (hfil : FilAt B fg fb (filB L) w) (hL : L.length ≤ 2000) (hx : x ∈ L) :
    Calls Tryz.prog 19 #[.pointer (some ⟨g, 0, none⟩), .agg #[.int .i64 x.s.toInt, .int .i64 x.k.toInt, .int .u64 (x.t.toNat : Int), .int .u64 (x.v.toNat : Int), .int .i64 x.x.toInt]] w fun e w' => e = .returned (.bool true) ∧ Up w w' := by
  have hhas := filB_has L hx
  have hlen := filK_len L L.length
  have hgl := (Array.getElem?_eq_some_iff.1 hd).1
  obtain ⟨w2, hw2⟩ : ∃ w2, w2 = (w.alloc (.cells #[.pointer (some ⟨g, 0, none⟩)] 27)).alloc (.cells #[.int .i64 x.s.toInt, .int .i64 x.k.toInt, .int .u64 (x.t.toNat : Int), .int .u64 (x.v.toNat : Int), .int .i64 x.x.toInt] 37) := ⟨_, rfl⟩
  have hup2 : Up w w2 := by rw [hw2]; exact ((Up.refl w).alloc _).alloc _
  have hp2 : w2.heap[w.heap.size]? = some (.cells #[.pointer (some ⟨g, 0, none⟩)] 27 (0, 0)) := by
    rw [hw2, Below.heap_alloc _ _ _ (by simp)]; exact heap_alloc_new w _
  have hx2 : w2.heap[w.heap.size + 1]? = some (.cells #[.int .i64 x.s.toInt, .int .i64 x.k.toInt, .int .u64 (x.t.toNat : Int), .int .u64 (x.v.toNat : Int), .int .i64 x.x.toInt] 37 (0, 0)) := by
    rw [hw2]
    have h := heap_alloc_new (w.alloc (.cells #[.pointer (some ⟨g, 0, none⟩)] 27)) (.cells #[.int .i64 x.s.toInt, .int .i64 x.k.toInt, .int .u64 (x.t.toNat : Int), .int .u64 (x.v.toNat : Int), .int .i64 x.x.toInt] 37)
    rwa [World.size_alloc] at h
  have hd2 := blk_up hup2 hd
  have hdo := fun fv => odo_done g fv w2 (blk_cell hd2 2)
  have HDO := Lib.hid hdo
  have HW := Lib.hid hw2
  have HLN : Hid (0 < (filB L).length ∧ (filB L).length ≤ 3000) := by show _ ∧ _; unfold filB; omega
  have HHAS := Lib.hid hhas
  have hfil2 := hfil.up hup2
  have hp0 := blk_cell hp2 0
  have hS : ∀ W, Up w2 W → (W.cell? ⟨w.heap.size, 0, none⟩ = some (.pointer (some ⟨g, 0, none⟩)) ∧ W.cell? ⟨g, 5, none⟩ = some (.pointer (some ⟨fg, 0, none⟩)) ∧ W.cell? ⟨w.heap.size + 1, 0, none⟩ = some (.int .i64 x.s.toInt) ∧ W.cell? ⟨w.heap.size + 1, 1, none⟩ = some (.int .i64 x.k.toInt) ∧ W.cell? ⟨w.heap.size + 1, 2, none⟩ = some (.int .u64 (x.t.toNat : Int)) ∧ W.cell? ⟨w.heap.size + 1, 3, none⟩ = some (.int .u64 (x.v.toNat : Int)) ∧ W.cell? ⟨w.heap.size + 1, 4, none⟩ = some (.int .i64 x.x.toInt)) ∧ Up w2 W := fun W h =>
    ⟨⟨blk_cell (blk_up h hp2) 0, blk_cell (blk_up h hd2) 5, blk_cell (blk_up h hx2) 0, blk_cell (blk_up h hx2) 1, blk_cell (blk_up h hx2) 2, blk_cell (blk_up h hx2) 3, blk_cell (blk_up h hx2) 4⟩, h⟩
  clear hw2 hd hfil hhas hlen hdo hL hp2 hx2
  go_enter Tryz.func19, Tryz.ntmps19
  go_wp2_with fail
  rw [← HW.out]
  refine (HDO.out _).mono ?_
  rintro e w5 ⟨rfl, rfl⟩
  clear hp0 HDO HW
  go_wp2_with fail
  apply Rg.region_up _ (by kernel_rfl) (by kernel_rfl) hS
  · intro QN hQN
    iterate 5 (apply Rg.RK.ok; (· intro vs w1 hS; go_simp; with_reducible rfl); (· rfl); simp only [Act.put, List.setIfInBounds_toArray, List.set_cons_zero, List.set_cons_succ, Nat.reduceAdd])
    apply Rg.RK.opn (Sl 1 (bvs (keyB x))) Rg.ob [] []
    · exact fun v W1 W2 h hs => h.sta hs
    · rfl
    · intro vs w1 hK hS _ K hKK
      go_simp
      refine (key_any x w1).mono ?_
      rintro e w2 ⟨A1, n1, c1, rfl, ho1, hu2⟩
      exact hKK.out _ _ (Sl.own ho1) (Rg.Keeps.of_up hu2) (own_row ho1)
    simp only [Act.put, List.setIfInBounds_toArray, List.set_cons_zero, List.set_cons_succ, Nat.reduceAdd]
    apply Rg.RK.call (.bool true) [5]
    · rfl
    · intro vs w1 hK hS hf K hKK
      obtain ⟨hsl, -⟩ := hf
      obtain ⟨A1, n1, c1, hv, hnc, hrd⟩ := hsl
      have HBL := Lib.hid hrd.blen
      (try dsimp only at hKK ⊢)
      rw [hv] at hKK ⊢
      go_simp
      refine (fhas_yes B fg fb (filB L) A1 n1 c1 (keyB x) w1 (hfil2.up hS.2) hrd (by have := HBL.out; rw [this]; simp [keyB, eightB_len]) HLN.out.1 HLN.out.2 HHAS.out).mono ?_
      rintro e w2 ⟨rfl, hu2⟩
      exact hKK.out _ hu2
    simp only [Act.put, List.setIfInBounds_toArray, List.set_cons_zero, List.set_cons_succ, Nat.reduceAdd]
    iterate 1 (apply Rg.RK.ok; (· intro vs w1 hS; go_simp; with_reducible rfl); (· rfl); simp only [Act.put, List.setIfInBounds_toArray, List.set_cons_zero, List.set_cons_succ, Nat.reduceAdd])
    apply Rg.RK.fin []
    intro vs w1 hK hS _
    refine hQN.out _ _ ?_
    clear hQN
    go_wp2_with fail
    go_ret
    exact ⟨rfl, hup2.trans hS.2⟩
  · kernel_rfl
end Go.Proofs.YtfmjgkfblejknaaGreat

/-
  A table that is read back: what it answers; what the document fixes (awake); items made of a few (More).
-/
namespace Go.Proofs.YtfmjgkfblejknaaGreat
open Go.RowKit
set_option linter.unusedVariables false
set_option linter.unusedSimpArgs false

theorem TabX.flat2 {w : World} {B g m rc : Nat} {R : Option Addr} {rs : List Rw} {L : List It} (h : TabX w B g m rc R rs L) : (rwl rs).flatten = L := by rw [h.eq, rowsC_flat]
theorem tread_tab (A : Option Addr) (n c : Nat) (L : List It) (w : World) (hr : Rd w w.heap.size 1 A n (bvs (tabB L))) (h : makeE L = 0) (hnc : n ≤ c) :
    Calls Tryz.prog 9 #[.slice A n c] w fun e w' => ∃ g m rc R rs, e = .returned (.tuple #[.pointer (some ⟨g, 0, none⟩), .int .i64 0]) ∧ w'.heap[g]? = some (.cells (tcs R m rc L.length 0 none) 74 (0, 0)) ∧ TabX w' w.heap.size g m rc R rs L ∧ Up w w' := by
  have h1 := hr.blen
  have h2 := tab_len (makeE_ok h).1
  refine (tread_any A n c (tabB L) w hr (by omega) hnc).mono fun e w' hp => ?_
  unfold TrPost at hp
  rw [readT_tab h] at hp
  obtain ⟨g, m, rc, N, R, rs, he, hd, hg, ho, hrw, hq, hN, hu⟩ := hp
  rw [rowsC_flat] at hN
  subst hN
  exact ⟨g, m, rc, R, rs, he, hd, ⟨ho, hrw, hq, h, hg⟩, hu⟩
theorem tget_x {B g m rc N d : Nat} {R f : Option Addr} {rs : List Rw} {L : List It} {w : World} (hd : w.heap[g]? = some (.cells (tcs R m rc N d f) 74 (0, 0))) (hX : TabX w B g m rc R rs L) (x : It) :
    Calls Tryz.prog 20 #[.pointer (some ⟨g, 0, none⟩), .agg #[.int .i64 x.s.toInt, .int .i64 x.k.toInt, .int .u64 (x.t.toNat : Int), .int .u64 (x.v.toNat : Int), .int .i64 x.x.toInt]] w (FindPost (findL L x) w) := by
  have h := tget_any g m rc N d R f rs x w hd (OwnRI.rd hX.own) hX.rows.ok hX.row (by have := hX.m_le; omega) (by rw [hX.flat2]; exact (makeE_ok hX.ok).2.1)
  rwa [hX.flat2] at h
theorem tget_some {B g m rc N d : Nat} {R f : Option Addr} {rs : List Rw} {L : List It} {w : World} (hd : w.heap[g]? = some (.cells (tcs R m rc N d f) 74 (0, 0))) (hX : TabX w B g m rc R rs L) {x y : It} (h : findL L x = some y) :
    Calls Tryz.prog 20 #[.pointer (some ⟨g, 0, none⟩), .agg #[.int .i64 x.s.toInt, .int .i64 x.k.toInt, .int .u64 (x.t.toNat : Int), .int .u64 (x.v.toNat : Int), .int .i64 x.x.toInt]] w fun e w' => e = .returned (.tuple #[.agg #[.int .i64 y.s.toInt, .int .i64 y.k.toInt, .int .u64 (y.t.toNat : Int), .int .u64 (y.v.toNat : Int), .int .i64 y.x.toInt], .bool true]) ∧ Up w w' :=
  (tget_x hd hX x).mono fun e w' hp => by
    rcases hp with ⟨i, h1, h2⟩ | ⟨h1, -⟩
    · rw [h] at h1; injection h1 with h1; subst h1; exact h2
    · rw [h] at h1; cases h1
theorem tget_none {B g m rc N d : Nat} {R f : Option Addr} {rs : List Rw} {L : List It} {w : World} (hd : w.heap[g]? = some (.cells (tcs R m rc N d f) 74 (0, 0))) (hX : TabX w B g m rc R rs L) {x : It} (h : findL L x = none) :
    Calls Tryz.prog 20 #[.pointer (some ⟨g, 0, none⟩), .agg #[.int .i64 x.s.toInt, .int .i64 x.k.toInt, .int .u64 (x.t.toNat : Int), .int .u64 (x.v.toNat : Int), .int .i64 x.x.toInt]] w fun e w' => e = .returned (.tuple #[.agg #[.int .i64 0, .int .i64 0, .int .u64 0, .int .u64 0, .int .i64 0], .bool false]) ∧ Up w w' :=
  (tget_x hd hX x).mono fun e w' hp => by
    rcases hp with ⟨i, h1, h2⟩ | ⟨h1, h2⟩
    · rw [h] at h1; cases h1
    · exact h2
theorem trange_x {B g m rc N d : Nat} {R f : Option Addr} {rs : List Rw} {L : List It} {w : World} (hd : w.heap[g]? = some (.cells (tcs R m rc N d f) 74 (0, 0))) (hX : TabX w B g m rc R rs L) (x y : It) :
    Calls Tryz.prog 21 #[.pointer (some ⟨g, 0, none⟩), .agg #[.int .i64 x.s.toInt, .int .i64 x.k.toInt, .int .u64 (x.t.toNat : Int), .int .u64 (x.v.toNat : Int), .int .i64 x.x.toInt], .agg #[.int .i64 y.s.toInt, .int .i64 y.k.toInt, .int .u64 (y.t.toNat : Int), .int .u64 (y.v.toNat : Int), .int .i64 y.x.toInt]] w fun e w' => ∃ A n, e = .returned (.slice A n n) ∧ Rd w' w'.heap.size 5 A n (itcs (rangeL L x y)) ∧ (∀ x : Addr, A = some x → w.heap.size ≤ x.block ∧ x.block < w'.heap.size) ∧ Up w w' := by
  have h := trange_any g m rc N d R f rs x y w hd (OwnRI.rd hX.own) hX.rows.ok (by rw [hX.flat]; have := hX.len; omega) (by have := hX.m_le; omega)
  rwa [hX.flat] at h
theorem tall_x {B g m rc N d : Nat} {R f : Option Addr} {rs : List Rw} {L : List It} {w : World} (hd : w.heap[g]? = some (.cells (tcs R m rc N d f) 74 (0, 0))) (hX : TabX w B g m rc R rs L) :
    Calls Tryz.prog 10 #[.pointer (some ⟨g, 0, none⟩)] w fun e w' => ∃ A c, e = .returned (.slice A L.length c) ∧ OwnI w' w.heap.size A L.length c L ∧ Up w w' := by
  have h := tall_any g m rc N d R f rs w hd (OwnRI.rd hX.own) hX.rows.ok (by rw [hX.flat]; have := hX.len; omega) (by have := hX.m_le; omega)
  rwa [hX.flat] at h
def itX : It := ⟨1, 2, 0, 2, 0⟩
theorem itX_c : itcs [itX] = [.int .i64 1, .int .i64 2, .int .u64 0, .int .u64 2, .int .i64 0] := rfl
theorem itX_make : makeE [itX] = 0 := by decide
theorem itX_find : findL [itX] itX = some itX := find_at (l := [itX]) (i := 0) trivial (by decide) (same_refl _)
set_option maxRecDepth 100000 in
set_option maxHeartbeats 4000000 in
theorem awake12_any (w : World) : Calls Tryz.prog 6 #[] w fun e w' => e = .returned (.bool true) ∧ Up w w' := by
  obtain ⟨w1, hw1⟩ : ∃ w1, w1 = (w.alloc (.cells #[.int .i64 1, .int .i64 2, .int .u64 0, .int .u64 2, .int .i64 0] 37)).alloc (.cells #[.int .i64 1, .int .i64 2, .int .u64 0, .int .u64 2, .int .i64 0] 37) := ⟨_, rfl⟩
  have hu1 : Up w w1 := by rw [hw1]; exact ((Up.refl w).alloc _).alloc _
  have hx1 : w1.heap[w.heap.size]? = some (.cells #[.int .i64 1, .int .i64 2, .int .u64 0, .int .u64 2, .int .i64 0] 37 (0, 0)) := by
    rw [hw1, Below.heap_alloc _ _ _ (by simp)]; exact heap_alloc_new w _
  have hr1 : Rd w1 w1.heap.size 5 (some ⟨w.heap.size + 1, 0, none⟩) 1 (itcs [itX]) := by
    rw [hw1]
    exact Rd.ilit_at (w.alloc (.cells #[.int .i64 1, .int .i64 2, .int .u64 0, .int .u64 2, .int .i64 0] 37)) [itX] #[.int .i64 1, .int .i64 2, .int .u64 0, .int .u64 2, .int .i64 0] 37 (World.size_alloc w _) itX_c.symm
  have HW := Lib.hid hw1
  have hwg : w.heap.size ≤ w.heap.size := Nat.le_refl _
  clear hw1
  go_enter Tryz.func6, Tryz.ntmps6
  go_wp2_with fail
  rw [← HW.out]
  clear HW
  generalize w.heap.size + 1 = g2 at hr1 ⊢
  generalize hg1 : w.heap.size = g1 at hx1 ⊢
  refine (make_any (some ⟨g2, 0, none⟩) 1 1 [itX] w1 hr1 (by omega) (by omega)).mono ?_
  rintro e w2 ⟨B, bn, bc, rfl, hoB, hu2⟩
  rw [itX_make]
  rw [show ((0 : Nat) : Int) = 0 from rfl]
  have hoB' : OwnB w2 w1.heap.size B bn bc (tabB [itX]) := by
    have h := hoB
    unfold makeL at h
    rwa [if_pos itX_make] at h
  have hrB := Rd.own hoB'
  have hbc := own_cap hoB'
  have hx2 := blk_up hu2 hx1
  have hup2 := hu1.trans hu2
  clear hoB hoB' hr1 hx1 hu1 hu2
  go_wp2_with fail
  refine (tread_tab B bn bc [itX] w2 hrB itX_make hbc).mono ?_
  rintro e w3 ⟨g, m, rc, R, rs, rfl, hd3, hX3, hu3⟩
  rw [show ([itX] : List It).length = 1 from rfl] at hd3
  have hx3 := blk_up hu3 hx2
  have hup3 := hup2.trans hu3
  have hw2s := hup2.size
  clear hx2 hup2 hu3 hrB
  have x0 := blk_cell hx3 0
  have x1 := blk_cell hx3 1
  have x2 := blk_cell hx3 2
  have x3 := blk_cell hx3 3
  have x4 := blk_cell hx3 4
  simp only [List.getElem?_toArray, List.getElem?_cons_zero, List.getElem?_cons_succ] at x0 x1 x2 x3 x4
  have HG := Lib.hid (tget_some (x := itX) (y := itX) hd3 hX3 itX_find)
  go_wp2_with fail
  refine HG.out.mono ?_
  rintro e w4 ⟨rfl, hu4⟩
  rw [show itX.s.toInt = 1 from rfl, show itX.k.toInt = 2 from rfl, show itX.t.toNat = 0 from rfl, show itX.v.toNat = 2 from rfl, show itX.x.toInt = 0 from rfl]
  obtain ⟨w5, hw5⟩ : ∃ w5, w5 = w4.alloc (.cells #[.int .i64 1, .int .i64 2, .int .u64 0, .int .u64 2, .int .i64 0] 37) := ⟨_, rfl⟩
  have hu5 : Up w3 w5 := by rw [hw5]; exact hu4.alloc _
  have hy5 : w5.heap[w4.heap.size]? = some (.cells #[.int .i64 1, .int .i64 2, .int .u64 0, .int .u64 2, .int .i64 0] 37 (0, 0)) := by rw [hw5]; exact heap_alloc_new w4 _
  have hd5 := blk_up hu5 hd3
  have hX5 := hX3.up hu5
  have hup5 := hup3.trans hu5
  have hx5 := blk_up hu5 hx3
  have HW := Lib.hid hw5
  clear HG x0 x1 x2 x3 x4 hd3 hX3 hup3 hx3 hw5 hu4 hu5
  have x0 := blk_cell hx5 0
  have x1 := blk_cell hx5 1
  have x2 := blk_cell hx5 2
  have x3 := blk_cell hx5 3
  have x4 := blk_cell hx5 4
  have y0 := blk_cell hy5 0
  have y1 := blk_cell hy5 1
  have y2 := blk_cell hy5 2
  have y3 := blk_cell hy5 3
  have y4 := blk_cell hy5 4
  simp only [List.getElem?_toArray, List.getElem?_cons_zero, List.getElem?_cons_succ] at x0 x1 x2 x3 x4 y0 y1 y2 y3 y4
  have HL := Lib.hid (tlen_any g m rc 1 0 R none w5 hd5)
  have HM := Lib.hid (tmay_first w2.heap.size g m rc 1 R rs [itX] itX w5 hd5 hX5 (List.mem_singleton.2 rfl))
  have hb := hX5.base
  have hgs : w.heap.size ≤ g := by have := hX5.base; omega
  go_wp2_with fail
  rw [← HW.out]
  refine HL.out.mono ?_
  rintro e w6 ⟨rfl, rfl⟩
  rw [show ((1 : Nat) : Int) = 1 from rfl]
  go_wp2_with fail
  refine HM.out.mono ?_
  rintro e w7 ⟨rfl, fg, fb, hd7, hf7, hK7⟩
  go_wp2_with fail
  go_ret
  exact ⟨rfl, keepsUpX hup5 hgs hK7⟩
end Go.Proofs.YtfmjgkfblejknaaGreat

/-
  The walks of the document's Table and TableMay.
-/
namespace Go.Proofs.YtfmjgkfblejknaaGreat
open Go.RowKit
set_option linter.unusedVariables false
set_option linter.unusedSimpArgs false

set_option maxRecDepth 100000 in
set_option maxHeartbeats 1600000 in
theorem rtmay_any (A : Option Addr) (n c : Nat) (l : List It) (w : World) (hr : Rd w w.heap.size 5 A n (itcs l)) (hn : n ≤ 1000000) :
    Calls Tryz.prog 12 #[.slice A n c] w fun e w' => e = .returned (.int .i64 (makeE l : Int)) ∧ Up w w' := by
  have HL := Lib.hid hr.ilen
  have HRI := Lib.hid (rrises_any A n c l w hr (by omega))
  by_cases h2 : 2000 < n
  · have hE : makeE l = 2 := by unfold makeE; rw [if_pos (by have := HL.out; omega)]
    have HE := Lib.hid hE
    have i1 : (2000 : Int) < (n : Int) := by omega
    clear hE hr
    go_enter Tryz.func12, Tryz.ntmps12
    go_wp2_with fail
    go_ret
    rw [HE.out]
    exact ⟨rfl, Up.refl _⟩
  · have hE : makeE l = if (risesB l && l.all okB) = true then 0 else 1 := by unfold makeE; rw [if_neg (by have := HL.out; omega)]
    have HE := Lib.hid hE
    have i1 : ¬ (2000 : Int) < (n : Int) := by omega
    generalize (risesB l && l.all okB) = rb at *
    clear hE hr
    go_enter Tryz.func12, Tryz.ntmps12
    go_wp2_with fail
    refine HRI.out.mono ?_
    rintro e w2 ⟨rfl, hu2⟩
    cases rb
    · go_wp2_with fail
      go_ret
      rw [HE.out]
      exact ⟨rfl, hu2⟩
    · go_wp2_with fail
      go_ret
      rw [HE.out]
      exact ⟨rfl, hu2⟩
set_option maxRecDepth 100000 in
set_option maxHeartbeats 6400000 in
theorem rtable_any (A : Option Addr) (n c : Nat) (l : List It) (w : World) (hr : Rd w w.heap.size 5 A n (itcs l)) (hnc : n ≤ c) (hn : n ≤ 2000) :
    Calls Tryz.prog 7 #[.slice A n c] w fun e w' => e = .returned (.string (tx (tabB l))) ∧ Up w w' := by
  have hl := hr.ilen
  have hcut := rcut_any A n c 20 l w hr hnc (by omega) (by omega) (by omega)
  rw [show mostQ 20 = 20 from rfl] at hcut
  have hl2 : l.length ≤ 2000 := by omega
  have hrc := rowsC_len l
  have hb1 := tb1_len hl2
  have hb2 := idx_len hl2
  have hb3 := blm_len hl2
  have hb4 := tb2_len hl2
  have hb5 := end_len hl2
  have hb6 := tab_len hl2
  have hfl := filK_len l
  have HFL := Lib.hid hfl
  have hnl : newF n = filK l 0 := by unfold filK; rw [hl]; rfl
  have HN := Lib.hid hnl
  have HL := Lib.hid hl
  have HCUT := Lib.hid hcut
  clear hl hcut hfl hnl
  go_enter Tryz.func7, Tryz.ntmps7
  go_wp2_with fail
  refine HCUT.out.mono ?_
  rintro e w1 ⟨R, m, rc, rs, rfl, hR, hok, hrs, hu1⟩
  clear HCUT
  obtain ⟨L, hLd⟩ : ∃ L, L = rowsC l := ⟨_, rfl⟩
  have hrs2 : rwl rs = L := by rw [hLd]; exact hrs
  have hmr := hR.rlen
  have hmL : m = L.length := by rw [← hrs2, rwl_len]; exact hmr
  have hL20 : ∀ z ∈ L, z.length ≤ 20 ∧ 0 < z.length := fun z hz => by rw [hLd] at hz; exact rowsC_row hz
  rw [← hLd] at hrc
  have hSb : ∀ k, (blksB (L.take k)).length ≤ 3222 * 101 := fun k => by
    have h1 := blksB_len (L.take k) (fun z hz => by have := (hL20 z (List.mem_of_mem_take hz)).1; omega)
    have h2 : (L.take k).length ≤ 101 := by rw [List.length_take]; omega
    omega
  have hXb : ∀ k, k ≤ L.length → (idxK L k).length ≤ 100 * k := idxK_len L (by have h := hSb L.length; rw [List.take_length] at h; omega) (fun z hz => by have := (hL20 z hz).1; omega)
  have HSB := Lib.hid hSb
  have HXB := Lib.hid hXb
  have HL20 := Lib.hid hL20
  have HRS := Lib.hid hrs2
  have HLD := Lib.hid hLd
  have HML := Lib.hid hmL
  have HMR := Lib.hid hmr
  have hm9 : m ≤ 101 := by omega
  clear hSb hXb hL20 hrs hrs2 hLd hmL hmr hrc
  go_wp2_with fail
  go_loopw [3, 4, 6] (fun sv xv i wr => ∃ k : Nat, i = .int .i64 (k : Int) ∧ sv = .string (tx (blksB (L.take k))) ∧ xv = .string (tx (idxK L k)) ∧ k ≤ m ∧ Up w1 wr) (fun _ _ i _ => m - (intOf i).toNat)
  case atStart => exact ⟨0, rfl, rfl, rfl, by omega, Up.refl _⟩
  case round =>
    obtain ⟨k, rfl, rfl, rfl, hk, hu⟩ := hrel
    by_cases hlt : k < m
    · have i1 : (k : Int) < (m : Int) := by omega
      obtain ⟨b, o, r, rfl, hb, hr', hc⟩ := hR.row_at hlt
      have hkL : k < L.length := by have := HML.out; omega
      have hrl : L[k] = r.l := by
        have h1 : (rwl rs)[k]? = some r.l := by simp [rwl, hr']
        rw [HRS.out, List.getElem?_eq_getElem hkL] at h1
        injection h1
      have hrr := (hok r (List.mem_of_getElem? hr')).1
      have hrc2 := (hok r (List.mem_of_getElem? hr')).2
      have h20 := HL20.out L[k] (List.getElem_mem hkL)
      rw [hrl] at h20
      have hrn := hrr.ilen
      have hs1 := blksB_snoc L k hkL
      have hx1 := idxK_succ L k
      have hgd : L.getD k [] = r.l := by rw [List.getD_eq_getElem?_getD, List.getElem?_eq_getElem hkL]; exact hrl
      rw [hgd] at hx1
      rw [hrl] at hs1
      have hSb := HSB.out k
      have hXb := HXB.out k (by omega)
      generalize blksB (L.take k) = S at *
      generalize idxK L k = X at *
      have hNb : (numB S.length).length ≤ 10 := numB_ten (by omega)
      have hIb := itemsB_blk (r.l.take 1) (by rw [List.length_take]; omega)
      have hFb : (frameB 2 (itemsB r.l)).length ≤ 4000 := by
        have h1 := frameB_len 2 (itemsB r.l)
        have h2 := itemsB_blk r.l (by omega)
        omega
      have hc1 : ∀ W, Up wr W → W.cell? ⟨b, o + k, none⟩ = some (.slice r.A r.n r.c) ∧ Up wr W := fun W h => ⟨((hu.trans h).cell (p := ⟨b, o + k, none⟩) hb).trans hc, h⟩
      have CT : ∀ W, (Instr.slice 23 (.slice r.A r.n r.c) none (some (.int .i64 1)) none).run Tryz.prog W = .ok (.slice r.A 1 r.c) W := fun W => cut_to_i W r.A r.n r.c 1 (by omega)
      have hrr1 : ∀ W, Up wr W → Rd W W.heap.size 5 r.A r.n (itcs r.l) := fun W h => hrr.up (hu.trans h)
      have hz1 : (tx S).size = S.length := tx_size S
      have y1 : IntKind.u64.wrap (S.length : Int) = (S.length : Int) := by rw [IntKind.wrap_u64]; omega
      have HS1 := Lib.hid hs1
      have HX1 := Lib.hid hx1
      have HHR := Lib.hid hrr1
      have hrn1 : 1 ≤ r.n ∧ r.n ≤ 20 := by omega
      have hcat1 : cc (cc X (numB S.length)) (itemsB (r.l.take 1)) = idxK L (k + 1) := by unfold cc; rw [HX1.out, List.append_assoc]
      have HC1 := Lib.hid hcat1
      clear hrl hr' hrr hgd hs1 hx1 hcat1 hrr1 h20 hrn hc
      go_wp2_with fail
      apply Rg.region_up _ (by kernel_rfl) (by kernel_rfl) hc1
      · intro QN hQN
        iterate 4 (apply Rg.RK.ok; (· intro vs w1 hS; go_simp; with_reducible rfl); (· rfl); simp only [Act.put, List.setIfInBounds_toArray, List.set_cons_zero, List.set_cons_succ, Nat.reduceAdd])
        apply Rg.RK.call (.string (tx (numB S.length))) []
        · rfl
        · intro vs w1 hK hS _ K hKK
          go_simp
          refine (rnum_any S.length w1 (by omega)).mono ?_
          rintro e w2 ⟨s1, rfl, hs1, hu1⟩
          rw [tx_of hs1.out]
          exact hKK.out _ hu1
        simp only [Act.put, List.setIfInBounds_toArray, List.set_cons_zero, List.set_cons_succ, Nat.reduceAdd]
        (apply Rg.RK.ok; (· intro vs w1 hS; go_simp; rw [if_neg (by simp [tx_size, cc_length]; omega), tx_append]); (· rfl); simp only [Act.put, List.setIfInBounds_toArray, List.set_cons_zero, List.set_cons_succ, Nat.reduceAdd])
        iterate 5 (apply Rg.RK.ok; (· intro vs w1 hS; go_simp; with_reducible rfl); (· rfl); simp only [Act.put, List.setIfInBounds_toArray, List.set_cons_zero, List.set_cons_succ, Nat.reduceAdd])
        apply Rg.RK.call (.string (tx (itemsB (r.l.take 1)))) []
        · rfl
        · intro vs w1 hK hS _ K hKK
          go_simp
          refine (rbytes_any r.A 1 r.c (r.l.take 1) w1 ((HHR.out w1 hS.2).toi (by omega)) (by omega)).mono ?_
          rintro e w2 ⟨s1, rfl, hs1, hu1⟩
          rw [tx_of hs1.out]
          exact hKK.out _ hu1
        simp only [Act.put, List.setIfInBounds_toArray, List.set_cons_zero, List.set_cons_succ, Nat.reduceAdd]
        (apply Rg.RK.ok; (· intro vs w1 hS; go_simp; rw [if_neg (by simp [tx_size, cc_length]; omega), tx_append]); (· rfl); simp only [Act.put, List.setIfInBounds_toArray, List.set_cons_zero, List.set_cons_succ, Nat.reduceAdd])
        iterate 1 (apply Rg.RK.ok; (· intro vs w1 hS; go_simp; with_reducible rfl); (· rfl); simp only [Act.put, List.setIfInBounds_toArray, List.set_cons_zero, List.set_cons_succ, Nat.reduceAdd])
        apply Rg.RK.fin []
        intro vs w1 hK hS _
        refine hQN.out _ _ ?_
        clear hQN
        rw [HC1.out]
        have hc2 := (hc1 _ hS.2).1
        have hFcat : tx S ++ tx (frameB 2 (itemsB r.l)) = tx (blksB (L.take (k + 1))) := by rw [HS1.out]; exact tx_append' _ _
        have hzz : ¬ (9223372036854775807 < (tx S).size + (tx (frameB 2 (itemsB r.l))).size) := by rw [tx_size, tx_size]; omega
        have hur := hu.trans hS.2
        have HBK := Lib.hid (rblock_any r.A r.n r.c r.l _ (HHR.out _ hS.2) (by omega))
        clear hc1 hK hS hu
        go_wp2_with fail
        refine HBK.out.mono ?_
        rintro e w3 ⟨rfl, hu3⟩
        go_wp2_with fail
        go_roundw
        case rel => exact ⟨k + 1, by go_num, rfl, rfl, by omega, hur.trans hu3⟩
        case measure => simp [intOf]; omega
      · kernel_rfl
    · have i1 : ¬ (k : Int) < (m : Int) := by omega
      obtain rfl : k = m := by omega
      have hS9 : blksB (L.take k) = tb1 l := by rw [HML.out, List.take_length, HLD.out]; rfl
      have hX9 : idxK L k = idxK (rowsC l) (rowsC l).length := by rw [HML.out, HLD.out]
      rw [hS9, hX9]
      have hu9 := hu1.trans hu
      clear hS9 hX9 hu1 hu hR hok
      go_wp2_with fail
      refine (rnew_any n _ hn).mono ?_
      rintro e w4 ⟨g, fb, rfl, hf, hu4⟩
      rw [HN.out] at hf
      have hup4 := hu9.trans hu4
      have hf4 : RFil w.heap.size g fb (filK l 0) w4 := ⟨hf.1, hf.2.1, Nat.le_trans hu9.size hf.2.2.1, Nat.le_trans hu9.size hf.2.2.2.1, hf.2.2.2.2⟩
      clear hf hu4 hu9
      go_wp2_with fail
      go_loopw [8] (fun i wr => ∃ k : Nat, i = .int .i64 (k : Int) ∧ k ≤ n ∧ RFil w.heap.size g fb (filK l k) wr ∧ Up w wr) (fun i _ => n - (intOf i).toNat)
      case atStart => exact ⟨0, rfl, by omega, hf4, hup4⟩
      case round =>
        obtain ⟨k, rfl, hk, hfr, hur⟩ := hrel
        clear hf4 hup4
        by_cases hlt : k < n
        · have i1 : (k : Int) < (n : Int) := by omega
          obtain ⟨b1, o1, x, rfl, hb1', hik, c0, c1, c2, c3, c4⟩ := (hr.stay (Nat.le_refl _) hur).item_at hlt
          have hkl : k < l.length := by have := HL.out; omega
          have hx : l[k] = x := by rw [List.getElem?_eq_getElem hkl] at hik; injection hik
          have hsn := filK_succ l k hkl
          rw [hx] at hsn
          have HSN := Lib.hid hsn
          have hlen := HFL.out k
          have HLN := Lib.hid hlen
          clear hik hx hsn hlen
          go_wp2_with fail
          refine (rkey_any x _).mono ?_
          rintro e w6 ⟨s6, rfl, hs6, hu6⟩
          obtain rfl : s6 = tx (keyB x) := tx_of hs6.out
          have hadd := radd_any w.heap.size g fb (filK l k) (keyB x) w6 (hfr.up hu6) (by simp [keyB, eightB_len]) (by rw [HLN.out]; omega) (by rw [HLN.out]; have := HL.out; omega)
          rw [← HSN.out] at hadd
          have HA := Lib.hid hadd
          have hgb := hfr.2.2.2.1
          have hur2 := hur.trans hu6
          clear hadd hfr c0 c1 c2 c3 c4 hs6
          go_wp2_with fail
          refine HA.out.mono ?_
          rintro e w7 ⟨rfl, hf7, hK7⟩
          clear HA
          go_wp2_with fail
          go_roundw
          case rel => exact ⟨k + 1, by go_num, by omega, hf7, keepsUpX hur2 hgb hK7⟩
          case measure => simp [intOf]; omega
        · have i1 : ¬ (k : Int) < (n : Int) := by omega
          obtain rfl : k = n := by omega
          have hall : filK l k = filB l := by unfold filB; rw [HL.out]
          rw [hall] at hfr
          have hfbl : (filB l).length ≤ 3000 := by have h := HFL.out l.length; unfold filB; omega
          have e2 : tx (tb1 l) ++ tx (frameB 3 (idxK (rowsC l) (rowsC l).length)) = tx (tb2 l) := tx_append' _ _
          have e3 : tx (tb2 l) ++ tx (frameB 4 (blmB (filB l))) = tx (tb3 l) := tx_append' _ _
          have e4 : tx (numB (tb1 l).length) ++ tx (numB (tb2 l).length) = tx (numB (tb1 l).length ++ numB (tb2 l).length) := tx_append' _ _
          have e5 : tx (numB (tb1 l).length ++ numB (tb2 l).length) ++ tx (numB k) = tx (endB l) := by rw [tx_append']; unfold endB; rw [HL.out]
          have e6 : tx (tb3 l) ++ tx (frameB 5 (endB l)) = tx (tabB l) := tx_append' _ _
          have h3 : (frameB 3 (idxK (rowsC l) (rowsC l).length)).length ≤ 20000 := by rw [frameB_len]; omega
          have h4 : (frameB 4 (blmB (filB l))).length ≤ 20000 := by rw [frameB_len]; omega
          have h5 : (frameB 5 (endB l)).length ≤ 20000 := by rw [frameB_len]; omega
          have h6 : (tb3 l).length ≤ 400000 := by unfold tb3; rw [List.length_append]; omega
          have h7 : (numB (tb1 l).length).length ≤ 10 := numB_ten (by omega)
          have h8 : (numB (tb2 l).length).length ≤ 10 := numB_ten (by omega)
          have h9 : (numB k).length ≤ 10 := numB_ten (by omega)
          have h10 : (numB (tb1 l).length ++ numB (tb2 l).length).length ≤ 20 := by rw [List.length_append]; omega
          have HBB := Lib.hid (fun W (h : Up wr W) => rfbytes_any w.heap.size g fb (filB l) W (hfr.up h) hfbl)
          clear hfr
          generalize idxK (rowsC l) (rowsC l).length = X0 at *
          generalize tb1 l = T1 at *
          generalize tb2 l = T2 at *
          generalize tb3 l = T3 at *
          generalize blmB (filB l) = BM at *
          generalize endB l = EB at *
          obtain ⟨TB, hTB⟩ : ∃ TB, TB = tabB l := ⟨_, rfl⟩
          rw [← hTB] at e6 hb6
          have HTB := Lib.hid hTB
          clear hTB
          have s1 : (tx T1).size = T1.length := tx_size _
          have s2 : (tx T2).size = T2.length := tx_size _
          have z2 : ¬ (9223372036854775807 < (tx T1).size + (tx (frameB 3 X0)).size) := by rw [tx_size, tx_size]; omega
          have z3 : ¬ (9223372036854775807 < (tx T2).size + (tx (frameB 4 BM)).size) := by rw [tx_size, tx_size]; omega
          have z4 : ¬ (9223372036854775807 < (tx (numB T1.length)).size + (tx (numB T2.length)).size) := by rw [tx_size, tx_size]; omega
          have z5 : ¬ (9223372036854775807 < (tx (numB T1.length ++ numB T2.length)).size + (tx (numB k)).size) := by rw [tx_size, tx_size]; omega
          have z6 : ¬ (9223372036854775807 < (tx T3).size + (tx (frameB 5 EB)).size) := by rw [tx_size, tx_size]; omega
          have y1 : IntKind.u64.wrap (T1.length : Int) = (T1.length : Int) := by rw [IntKind.wrap_u64]; omega
          have y2 : IntKind.u64.wrap (T2.length : Int) = (T2.length : Int) := by rw [IntKind.wrap_u64]; omega
          have y3 : IntKind.u64.wrap (k : Int) = (k : Int) := by rw [IntKind.wrap_u64]; omega
          have y4 : (T1.length : Int) % 18446744073709551616 = (T1.length : Int) := by omega
          have y5 : (T2.length : Int) % 18446744073709551616 = (T2.length : Int) := by omega
          have y6 : (k : Int) % 18446744073709551616 = (k : Int) := by omega
          go_wp2_with fail
          refine (rframe_any 3 X0 wr (by omega) (by omega)).mono ?_
          rintro e w8 ⟨rfl, hu8⟩
          go_wp2_with fail
          refine (HBB.out _ hu8).mono ?_
          rintro e w9 ⟨rfl, hu9⟩
          go_wp2_with fail
          refine (rframe_any 4 BM w9 (by omega) (by omega)).mono ?_
          rintro e w10 ⟨rfl, hu10⟩
          go_wp2_with fail
          refine (rnum_any T1.length w10 (by omega)).mono ?_
          rintro e w11 ⟨s11, rfl, hs11, hu11⟩
          obtain rfl : s11 = tx (numB T1.length) := tx_of hs11.out
          go_wp2_with fail
          refine (rnum_any T2.length w11 (by omega)).mono ?_
          rintro e w12 ⟨s12, rfl, hs12, hu12⟩
          obtain rfl : s12 = tx (numB T2.length) := tx_of hs12.out
          go_wp2_with fail
          refine (rnum_any k w12 (by omega)).mono ?_
          rintro e w13 ⟨s13, rfl, hs13, hu13⟩
          obtain rfl : s13 = tx (numB k) := tx_of hs13.out
          go_wp2_with fail
          refine (rframe_any 5 EB w13 (by omega) (by omega)).mono ?_
          rintro e w14 ⟨rfl, hu14⟩
          go_wp2_with fail
          go_ret
          refine ⟨?_, ?_⟩
          · show Ending.returned (.string (tx TB)) = _
            rw [HTB.out]
          exact (((((((hur.trans hu8).trans hu9).trans hu10).trans hu11).trans hu12).trans hu13).trans hu14)
end Go.Proofs.YtfmjgkfblejknaaGreat

/-
  First and Last of a table that is read back; what holds over a loop that asks a table.
-/
namespace Go.Proofs.YtfmjgkfblejknaaGreat
open Go.RowKit
set_option linter.unusedVariables false
set_option linter.unusedSimpArgs false

theorem lastI_getD (L : List It) : lastI L = L.getD (L.length - 1) noIt := by
  unfold lastI
  rw [List.getLastD_eq_getLast?, List.getLast?_eq_getElem?, List.getD_eq_getElem?_getD]
theorem tfirst_x {B g m rc d : Nat} {R f : Option Addr} {rs : List Rw} {L : List It} {w : World} (hd : w.heap[g]? = some (.cells (tcs R m rc L.length d f) 74 (0, 0))) (hX : TabX w B g m rc R rs L) (h0 : 0 < L.length) {y : It} (hy : L.getD 0 noIt = y) :
    Calls Tryz.prog 15 #[.pointer (some ⟨g, 0, none⟩)] w fun e w' => e = .returned (.tuple #[.agg #[.int .i64 y.s.toInt, .int .i64 y.k.toInt, .int .u64 (y.t.toNat : Int), .int .u64 (y.v.toNat : Int), .int .i64 y.x.toInt], .bool true]) ∧ Up w w' := by
  have hf := hX.flat2
  cases rs with
  | nil =>
    rw [show rwl [] = [] from rfl, List.flatten_nil] at hf
    rw [← hf] at h0
    cases h0
  | cons r rs' =>
    have hr := hX.row r List.mem_cons_self
    have hrl := (hX.rows.ok r List.mem_cons_self).1.ilen
    have h1 := flat_first (L := rwl (r :: rs')) (z := r.l) (r := rwl rs') rfl (by omega)
    rw [hf] at h1
    refine tfirst_yes g m rc L.length d R f (r :: rs') r y w hd h0 (OwnRI.rd hX.own) hX.rows.ok rfl ?_
    rw [← h1, ← hy, List.getElem?_eq_getElem h0]
    simp [List.getD, h0]
theorem tlast_x {B g m rc d : Nat} {R f : Option Addr} {rs : List Rw} {L : List It} {w : World} (hd : w.heap[g]? = some (.cells (tcs R m rc L.length d f) 74 (0, 0))) (hX : TabX w B g m rc R rs L) (h0 : 0 < L.length) {y : It} (hy : L.getD (L.length - 1) noIt = y) :
    Calls Tryz.prog 16 #[.pointer (some ⟨g, 0, none⟩)] w fun e w' => e = .returned (.tuple #[.agg #[.int .i64 y.s.toInt, .int .i64 y.k.toInt, .int .u64 (y.t.toNat : Int), .int .u64 (y.v.toNat : Int), .int .i64 y.x.toInt], .bool true]) ∧ Up w w' := by
  have hf := hX.flat2
  have hml := hX.m_le
  have hmr := OwnRI.len hX.own
  have hm0 : 0 < rs.length := by
    cases rs with
    | nil =>
      rw [show rwl [] = [] from rfl, List.flatten_nil] at hf
      rw [← hf] at h0
      cases h0
    | cons r rs' => simp
  have hmL : rs.length - 1 < rs.length := by omega
  have hr := hX.row rs[rs.length - 1] (List.getElem_mem hmL)
  have hrl := (hX.rows.ok rs[rs.length - 1] (List.getElem_mem hmL)).1.ilen
  have h1 := flat_last (L := rwl rs) (by rw [rwl_len]; exact hm0) (fun z hz => by
    obtain ⟨r, hr, rfl⟩ := List.mem_map.1 hz
    have h1 := (hX.row r hr).1
    rw [(hX.rows.ok r hr).1.ilen] at h1
    exact h1)
  have h2 : (rwl rs)[(rwl rs).length - 1]'(by rw [rwl_len]; omega) = rs[rs.length - 1].l := by simp [rwl]
  rw [hf] at h1
  refine tlast_yes g m rc L.length d R f rs rs[rs.length - 1] y w hd h0 (by omega) hr.2 (OwnRI.rd hX.own) hX.rows.ok (by rw [hmr]; exact List.getElem?_eq_getElem hmL) ?_
  rw [hrl, lastI_at (by omega), ← h2, ← h1.2, lastI_getD, hy]
/-- a row of items in whatever keeps all but some blocks that it does not lie in -/
theorem OwnI.keeps {w w' : World} {base n c : Nat} {A : Option Addr} {l : List It} {X : Nat → Prop} (h : OwnI w base A n c l) (hK : Rg.Keeps X w w') (hx : ∀ k, base ≤ k → ¬ X k) : OwnI w' base A n c l := by
  refine ⟨h.1, ?_⟩
  rcases h.2 with h2 | ⟨g', cap, cur, hv, hb, hh, r⟩
  · exact .inl h2
  · exact .inr ⟨g', cap, cur, hv, hb, (hK.block g' (Array.getElem?_eq_some_iff.1 hh).1 (hx g' hb)).trans hh, r⟩
theorem OwnI.other {w w' : World} {base n c g : Nat} {A : Option Addr} {l : List It} {cs : Array Value} (h : OwnI w base A n c l) (hd : w.heap[g]? = some (.cells cs 74 (0, 0))) (hK : Rg.Keeps (fun k => k = g) w w') : OwnI w' base A n c l :=
  own_block h (fun g' cs' hh => hK.block g' (Array.getElem?_eq_some_iff.1 hh).1 (by
      intro e
      have e' : g' = g := e
      subst e'
      rw [hd] at hh
      injection hh with hh
      injection hh with _ hh
      exact absurd hh (by decide)))
theorem keeps_wb {wb wr w2 : World} {g gw : Nat} (h : Rg.Keeps (fun k => k = g) wb wr) (hK : Rg.Keeps (fun k => k = gw) wr w2) (hb : wb.heap.size ≤ gw) : Rg.Keeps (fun k => k = g) wb w2 :=
  ⟨hK.os.trans h.os, hK.tape.trans h.tape, hK.output.trans h.output, Nat.le_trans h.size hK.size, fun k hk hn => (hK.block k (Nat.lt_of_lt_of_le hk h.size) (by show ¬ k = gw; omega)).trans (h.block k hk hn)⟩
theorem FilAt.keeps {B g b k0 : Nat} {bs : List UInt8} {w w' : World} (h : FilAt B g b bs w) (hK : Rg.Keeps (fun k => k = k0) w w') (hk : k0 < B) : FilAt B g b bs w' :=
  ⟨(hK.block g (Array.getElem?_eq_some_iff.1 h.1).1 (by show ¬ g = k0; have := h.2.2.1; omega)).trans h.1, (hK.block b h.2.1.lt (by show ¬ b = k0; have := h.2.2.2.1; omega)).trans h.2.1, h.2.2⟩
theorem ne_types {w : World} {a b : Nat} {c1 c2 : Array Value} {t1 t2 : TypeId} (h1 : w.heap[a]? = some (.cells c1 t1 (0, 0))) (h2 : w.heap[b]? = some (.cells c2 t2 (0, 0))) (ht : t1 ≠ t2) : a ≠ b := fun e => by
  subst e
  rw [h1] at h2
  injection h2 with h2
  injection h2 with _ h2
  exact ht h2
/-- the table's head: the filter is not there yet, or is -/
def TabH (g B m rc : Nat) (R : Option Addr) (L : List It) (w : World) : Prop :=
  w.heap[g]? = some (.cells (tcs R m rc L.length 0 none) 74 (0, 0)) ∨ ∃ fg fb, w.heap[g]? = some (.cells (tcs R m rc L.length 1 (some ⟨fg, 0, none⟩)) 74 (0, 0)) ∧ FilAt B fg fb (filB L) w
theorem TabH.up {g B m rc : Nat} {R : Option Addr} {L : List It} {w w' : World} (h : TabH g B m rc R L w) (hu : Up w w') : TabH g B m rc R L w' := by
  rcases h with h | ⟨fg, fb, h1, h2⟩
  · exact .inl (blk_up hu h)
  · exact .inr ⟨fg, fb, blk_up hu h1, h2.up hu⟩
theorem TabH.keeps {g B m rc k0 : Nat} {R : Option Addr} {L : List It} {w w' : World} (h : TabH g B m rc R L w) (hK : Rg.Keeps (fun k => k = k0) w w') (hg : g ≠ k0) (hk : k0 < B) : TabH g B m rc R L w' := by
  rcases h with h | ⟨fg, fb, h1, h2⟩
  · exact .inl ((hK.block g (Array.getElem?_eq_some_iff.1 h).1 hg).trans h)
  · exact .inr ⟨fg, fb, (hK.block g (Array.getElem?_eq_some_iff.1 h1).1 hg).trans h1, h2.keeps hK hk⟩
theorem TabH.head {g B m rc : Nat} {R : Option Addr} {L : List It} {w : World} (h : TabH g B m rc R L w) : ∃ d f, w.heap[g]? = some (.cells (tcs R m rc L.length d f) 74 (0, 0)) := by
  rcases h with h | ⟨fg, fb, h1, _⟩
  · exact ⟨_, _, h⟩
  · exact ⟨_, _, h1⟩
theorem ob_item {w w' : World} {base n c k : Nat} {A : Option Addr} {l : List It} {cs : Array Value} {t : TypeId} (ho : OwnI w base A n c l) (hK : Rg.Keeps (Rg.ob (.slice A n c)) w w') (hh : w.heap[k]? = some (.cells cs t (0, 0))) (ht : t ≠ 37) : w'.heap[k]? = some (.cells cs t (0, 0)) := by
  refine (hK.block k (Array.getElem?_eq_some_iff.1 hh).1 fun hb => ?_).trans hh
  rcases ho.2 with ⟨h1, -⟩ | ⟨g', cap, cur, hv, hb2, h3, -⟩
  · injection h1 with h1
    subst h1
    exact hb.elim
  · injection hv with hv
    subst hv
    have hb' : g' = k := hb
    subst hb'
    rw [hh] at h3
    injection h3 with h3
    injection h3 with _ h3
    exact ht h3
theorem TabH.own {g B m rc base n c : Nat} {R A : Option Addr} {L l : List It} {w w' : World} (h : TabH g B m rc R L w) (ho : OwnI w base A n c l) (hK : Rg.Keeps (Rg.ob (.slice A n c)) w w') : TabH g B m rc R L w' := by
  rcases h with h | ⟨fg, fb, h1, h2⟩
  · exact .inl (ob_item ho hK h (by decide))
  · exact .inr ⟨fg, fb, ob_item ho hK h1 (by decide), ob_item ho hK h2.1 (by decide), ob_item ho hK h2.2.1 (by decide), h2.2.2⟩
theorem ob_base {w w' : World} {base n c k : Nat} {A : Option Addr} {l : List It} (ho : OwnI w base A n c l) (hK : Rg.Keeps (Rg.ob (.slice A n c)) w w') (hk : k < base) (hkw : k < w.heap.size) : w'.heap[k]? = w.heap[k]? := by
  refine hK.block k hkw fun hb => ?_
  rcases ho.2 with ⟨h1, -⟩ | ⟨g', cap, cur, hv, hb2, h3, -⟩
  · injection h1 with h1
    subst h1
    exact hb.elim
  · injection hv with hv
    subst hv
    have hb' : g' = k := hb
    omega
theorem keeps_ob {wb w w' : World} {base n c g : Nat} {A : Option Addr} {l : List It} (h : Rg.Keeps (fun k => k = g) wb w) (ho : OwnI w base A n c l) (hK : Rg.Keeps (Rg.ob (.slice A n c)) w w') (hb : wb.heap.size ≤ base) : Rg.Keeps (fun k => k = g) wb w' :=
  ⟨hK.os.trans h.os, hK.tape.trans h.tape, hK.output.trans h.output, Nat.le_trans h.size hK.size, fun k hk hn => (ob_base ho hK (Nat.lt_of_lt_of_le hk hb) (Nat.lt_of_lt_of_le hk h.size)).trans (h.block k hk hn)⟩
/-- May of an item that is there, whatever the head -/
theorem tmay_x {B B2 g m rc : Nat} {R : Option Addr} {rs : List Rw} {L : List It} {w : World} (hh : TabH g B2 m rc R L w) (hX : TabX w B g m rc R rs L) (hB : B2 ≤ w.heap.size) {y : It} (hy : y ∈ L) :
    Calls Tryz.prog 19 #[.pointer (some ⟨g, 0, none⟩), .agg #[.int .i64 y.s.toInt, .int .i64 y.k.toInt, .int .u64 (y.t.toNat : Int), .int .u64 (y.v.toNat : Int), .int .i64 y.x.toInt]] w fun e w' => e = .returned (.bool true) ∧ TabH g B2 m rc R L w' ∧ Rg.Keeps (fun k => k = g) w w' := by
  rcases hh with h | ⟨fg, fb, h1, h2⟩
  · refine (tmay_first B g m rc L.length R rs L y w h hX hy).mono ?_
    rintro e w2 ⟨he, fg, fb, h1, h2, hK⟩
    exact ⟨he, .inr ⟨fg, fb, h1, h2.base hB⟩, hK⟩
  · refine (tmay_again B2 g m rc L.length fg fb R L y w h1 h2 hX.len hy).mono ?_
    rintro e w2 ⟨he, hu⟩
    exact ⟨he, .inr ⟨fg, fb, blk_up hu h1, h2.up hu⟩, Rg.Keeps.of_up hu⟩
/-- what was found so far -/
def FndS (l : List It) (x : It) (b : Bool) (v : It) : Prop := (findL l x = none ∧ b = false ∧ v = ⟨0, 0, 0, 0, 0⟩) ∨ (findL l x = some v ∧ b = true)
theorem FndS.zero (x : It) : FndS [] x false ⟨0, 0, 0, 0, 0⟩ := .inl ⟨rfl, rfl, rfl⟩
theorem FndS.skip {l : List It} {x y v : It} {b : Bool} (h : FndS l x b v) (hy : sameB y x = false) : FndS (l ++ [y]) x b v := by
  have e : findL (l ++ [y]) x = findL l x := by
    unfold findL
    rw [List.find?_append, List.find?_cons, hy]
    simp
  unfold FndS
  rw [e]; exact h
theorem FndS.hit {q : List It} {x y v : It} {b : Bool} {k : Nat} (hq : riseR q) (hk : k < q.length) (hy : q[k] = y) (h : FndS (q.take k) x b v) (hs : sameB y x = true) : FndS (q.take k ++ [y]) x true y := by
  have e : findL (q.take k) x = none := findL_no fun z hz => by
    obtain ⟨j, hj, rfl⟩ := List.getElem_of_mem hz
    rw [List.length_take] at hj
    rw [List.getElem_take]
    have h1 := riseR_at hq hk (i := j) (by omega)
    rw [hy] at h1
    rw [← Bool.not_eq_true, same_iff]
    rw [same_iff] at hs
    rw [less_iff] at h1
    omega
  refine .inr ⟨?_, rfl⟩
  unfold findL at e ⊢
  rw [List.find?_append, e, List.find?_cons, hs]
  rfl
end Go.Proofs.YtfmjgkfblejknaaGreat
