/-
  Texts of this claim, joined: EditW13, Fold, EditW18, RefW4, EditW15, EditLaw2.
-/
import Derived.IntWalk
import Derived.Test.YtokcaoaclheiiaaZ3
/-
  The walk of edit.Read.
-/
namespace Go.Proofs.Ytokcaoaclheiiaa
open Go.RowKit
set_option linter.unusedVariables false
set_option linter.unusedSimpArgs false

abbrev RS := List UInt8 × Bool
def rfiles : Nat → RS → List Fl × RS
  | 0, s => ([], s)
  | k + 1, s =>
    let t := rfiles k s
    let a := rtk 3 t.2.1 t.2.2
    let b := rtk 1073741824 a.2.1 a.2.2
    (t.1 ++ [((a.1 : Int), (b.1 : Int))], b.2)
theorem rfiles_succ {k : Nat} {s : RS} {add : List Fl} {st s1 s2 : RS} {lv nu : Nat} (h : rfiles k s = (add, st)) (h1 : lv = (rtk 3 st.1 st.2).1) (h2 : s1 = (rtk 3 st.1 st.2).2) (h3 : nu = (rtk 1073741824 s1.1 s1.2).1) (h4 : s2 = (rtk 1073741824 s1.1 s1.2).2) :
    rfiles (k + 1) s = (add ++ [((lv : Int), (nu : Int))], s2) := by
  subst h4; subst h3; subst h2; subst h1
  simp only [rfiles, h]
def capN (x : Nat) : Nat := if 1073741825 < x then 1073741825 else x
def minD (x : UInt64) : Int := (capN x.toNat : Int)
abbrev ET := List Int × List Fl × Int × Nat × Nat × Nat × Nat
/-- the edit of a frame's body -/
def readE (bs : List UInt8) : Option ET :=
  let u := unlistL bs 40
  let c := rtk 40 (bs.drop u.2.1) true
  let fs := rfiles c.1 c.2
  let l := rtk 1073741824 fs.2.1 fs.2.2
  let a := rtk 281474976710656 l.2.1 l.2.2
  let b := rtk 281474976710656 a.2.1 a.2.2
  let d := rtk 281474976710656 b.2.1 b.2.2
  let e := rtk 281474976710656 d.2.1 d.2.2
  if u.2.2 = 0 ∧ e.2.2 = true ∧ e.2.1 = [] ∧ mayE (u.1.map minD) fs.1 l.1 a.1 b.1 d.1 e.1 = true then some (u.1.map minD, fs.1, (l.1 : Int), a.1, b.1, d.1, e.1) else none
theorem own_keepsT {w w2 : World} {base gx : Nat} {e t : TypeId} {sz n : Nat} {v : Value} {xs : List Value} {cs : Array Value} {fz : Nat × Nat} (h : w.ownsRow base e sz v n xs) (hh : w.heap[gx]? = some (.cells cs t fz)) (hne : e ≠ t) (hK : Rg.Keeps (fun g => g = gx) w w2) : w2.ownsRow base e sz v n xs := by
  refine ⟨h.1, ?_⟩
  rcases h.2 with h2 | ⟨g, cap, cur, hv, hb, hg, r⟩
  · exact .inl h2
  · refine .inr ⟨g, cap, cur, hv, hb, (hK.block g (Array.getElem?_eq_some_iff.1 hg).1 (fun e0 => ?_)).trans hg, r⟩
    have e1 : g = gx := e0
    rw [e1, hh] at hg
    injection hg with hg
    injection hg with _ h2 _
    exact hne h2.symm

theorem step_wp {P : Program} {ops : Array Oper} {o : Oper} {a : Act} {w : World} {K : Act → World → Prop} {Q : Exit → Act → World → Prop} {E : Prop} (hg : o.guard = none) (h : Oper.wp P o a w K Q) :
    if Region.wanted o (yielded ops a.tmps) = true then Oper.wp P o a w K Q else E := by
  rw [if_pos (by simp [Region.wanted, hg])]; exact h
def RdPost (r : Option ET) (w : World) (e : Ending) (w' : World) : Prop :=
  match r with
  | none => e = .returned (.tuple #[.agg #[.slice none 0 0, .slice none 0 0, .int .i64 0, .int .u64 0, .int .u64 0, .int .u64 0, .int .u64 0], .int .i64 3]) ∧ Up w w'
  | some x => ∃ D dn dc A an ac, e = .returned (.tuple #[.agg #[.slice D dn dc, .slice A an ac, .int .i64 x.2.2.1, .int .u64 (x.2.2.2.1 : Int), .int .u64 (x.2.2.2.2.1 : Int), .int .u64 (x.2.2.2.2.2.1 : Int), .int .u64 (x.2.2.2.2.2.2 : Int)], .int .i64 0]) ∧
      Rd w' w'.heap.size 1 D dn (nmv x.1) ∧ dn ≤ dc ∧ Rd w' w'.heap.size 2 A an (fvs x.2.1) ∧ an ≤ ac ∧ Up w w'
/-- what is known of all that Read has made -/
structure RdI (w : World) (g2 ge gr : Nat) (D : Option Addr) (dn dc : Nat) (ds : List Int) (A : Option Addr) (an ac : Nat) (add : List Fl) (lg f ce at_ le : Nat) (bs : List UInt8) (ok : Bool) (W : World) : Prop where
  o1 : w.heap.size ≤ g2
  o2 : g2 < ge
  o3 : ge < gr
  up : Up w W
  hg : W.heap[g2]? = some (.cells #[.slice none 0 0, .slice none 0 0, .int .i64 0, .int .u64 0, .int .u64 0, .int .u64 0, .int .u64 0] 32 (0, 0))
  hge : W.heap[ge]? = some (.cells #[.slice D dn dc, .slice A an ac, .int .i64 (lg : Int), .int .u64 (f : Int), .int .u64 (ce : Int), .int .u64 (at_ : Int), .int .u64 (le : Int)] 32 (0, 0))
  hoD : W.ownsRow (ge + 1) 3 1 (.slice D dn dc) dn (nmv ds)
  hoA : W.ownsRow (ge + 1) 41 2 (.slice A an ac) an (fvs add)
  rb : RB gr w.heap.size bs ok W
theorem RdI.take {w : World} {g2 ge gr : Nat} {D : Option Addr} {dn dc : Nat} {ds : List Int} {A : Option Addr} {an ac : Nat} {add : List Fl} {lg f ce at_ le : Nat} {bs bs' : List UInt8} {ok ok' : Bool} {W W' : World}
    (h : RdI w g2 ge gr D dn dc ds A an ac add lg f ce at_ le bs ok W) (hr : RB gr w.heap.size bs' ok' W') (hK : Rg.Keeps (fun y => y = gr) W W') : RdI w g2 ge gr D dn dc ds A an ac add lg f ce at_ le bs' ok' W' := by
  obtain ⟨o1, o2, o3, up, hg, hge, hoD, hoA, A0, n0, c0, hb, -⟩ := h
  exact ⟨o1, o2, o3, keepsUp up (by omega) hK, (hK.block _ (Array.getElem?_eq_some_iff.1 hg).1 (by show ¬ g2 = gr; omega)).trans hg, (hK.block _ (Array.getElem?_eq_some_iff.1 hge).1 (by show ¬ ge = gr; omega)).trans hge,
    own_keepsT hoD hb (by decide) hK, own_keepsT hoA hb (by decide) hK, hr⟩
theorem RdI.pre {w : World} {g2 ge gr : Nat} {D : Option Addr} {dn dc : Nat} {ds : List Int} {A : Option Addr} {an ac : Nat} {add : List Fl} {lg f ce at_ le : Nat} {bs : List UInt8} {ok : Bool} {W : World}
    (h : RdI w g2 ge gr D dn dc ds A an ac add lg f ce at_ le bs ok W) : w.heap.size ≤ W.heap.size ∧ w.heap.size ≤ gr := ⟨h.up.size, by have := h.o1; have := h.o2; have := h.o3; omega⟩
theorem unGo_at : ∀ (k : Nat) (l : List UInt8) (a : Nat) (acc : List UInt64), a ≤ l.length → (unGo k l a acc).2.1 ≤ l.length
  | 0, l, a, acc, h => h
  | k + 1, l, a, acc, h => by
    rw [unGo]
    split
    · rename_i h1
      have h2 := takeL_ok h1
      rw [List.length_drop] at h2
      exact unGo_at k l _ _ (by omega)
    · exact Nat.zero_le _
theorem unlistL_at (l : List UInt8) (most : Int) : (unlistL l most).2.1 ≤ l.length := by
  unfold unlistL
  by_cases h1 : (takeL l).2.2 ≠ 0
  · rw [if_pos h1]; exact Nat.zero_le _
  · rw [if_neg h1]
    by_cases h2 : (if most < 0 then 0 else most) < ((takeL l).1 : Int)
    · rw [if_pos h2]; exact Nat.zero_le _
    · rw [if_neg h2]; exact unGo_at _ _ _ _ (takeL_ok (Decidable.not_not.1 h1)).2.2.1
theorem RdI.drew {w : World} {g2 ge gr : Nat} {D : Option Addr} {dn dc : Nat} {ds : List Int} {A : Option Addr} {an ac : Nat} {add : List Fl} {lg f ce at_ le : Nat} {bs : List UInt8} {ok : Bool} {W : World}
    (h : RdI w g2 ge gr D dn dc ds A an ac add lg f ce at_ le bs ok W) : RdI w g2 ge gr D dn dc ds A an ac add lg f ce at_ le bs ok W.drew :=
  ⟨h.o1, h.o2, h.o3, h.up.drew, h.hg, h.hge, h.hoD, h.hoA, h.rb⟩
theorem own_type {w : World} {base : Nat} {e t : TypeId} {sz n : Nat} {v : Value} {xs : List Value} {gx : Nat} {cs : Array Value} {fz : Nat × Nat} (h : w.ownsRow base e sz v n xs) (hh : w.heap[gx]? = some (.cells cs t fz)) (hne : e ≠ t) : some gx ≠ v.ownBlock := by
  intro e0
  rcases h.2 with ⟨rfl, _⟩ | ⟨g, cap, cur, rfl, hb, hg, r⟩
  · simp [Value.ownBlock] at e0
  · have e1 : gx = g := by simpa [Value.ownBlock] using e0
    rw [← e1, hh] at hg
    injection hg with hg
    injection hg with _ h2 _
    exact hne h2.symm
theorem RdI.upg {w : World} {g2 ge gr : Nat} {D : Option Addr} {dn dc : Nat} {ds : List Int} {A : Option Addr} {an ac : Nat} {add : List Fl} {lg f ce at_ le : Nat} {bs : List UInt8} {ok : Bool} {W W' : World}
    (h : RdI w g2 ge gr D dn dc ds A an ac add lg f ce at_ le bs ok W) (hu : Up W W') : RdI w g2 ge gr D dn dc ds A an ac add lg f ce at_ le bs ok W' :=
  ⟨h.o1, h.o2, h.o3, h.up.trans hu, (hu.block _ (Array.getElem?_eq_some_iff.1 h.hg).1).trans h.hg, (hu.block _ (Array.getElem?_eq_some_iff.1 h.hge).1).trans h.hge, own_up h.hoD hu, own_up h.hoA hu, h.rb.up h.up.size hu⟩
theorem RdI.set {w : World} {g2 ge gr : Nat} {D : Option Addr} {dn dc : Nat} {ds : List Int} {A : Option Addr} {an ac : Nat} {add : List Fl} {lg f ce at_ le : Nat} {bs : List UInt8} {ok : Bool} {W : World}
    (h : RdI w g2 ge gr D dn dc ds A an ac add lg f ce at_ le bs ok W) (j : Nat) (v : Value) (lg' f' ce' at' le' : Nat)
    (he : (#[.slice D dn dc, .slice A an ac, .int .i64 (lg : Int), .int .u64 (f : Int), .int .u64 (ce : Int), .int .u64 (at_ : Int), .int .u64 (le : Int)] : Array Value).setIfInBounds j v = #[.slice D dn dc, .slice A an ac, .int .i64 (lg' : Int), .int .u64 (f' : Int), .int .u64 (ce' : Int), .int .u64 (at' : Int), .int .u64 (le' : Int)]) :
    RdI w g2 ge gr D dn dc ds A an ac add lg' f' ce' at' le' bs ok (W.setCell ⟨ge, j, none⟩ v) := by
  obtain ⟨o1, o2, o3, up, hg, hge, hoD, hoA, hrb⟩ := h
  have hK := setc_keeps W W ge j v (Rg.Keeps.refl _ _)
  refine ⟨o1, o2, o3, keepsUp up (by omega) hK, (hK.block _ (Array.getElem?_eq_some_iff.1 hg).1 (by show ¬ g2 = ge; omega)).trans hg, ?_, own_keeps6 hoD (by omega) hK, own_keeps6 hoA (by omega) hK, hrb.keeps up.size (by omega) (by omega) hK⟩
  rw [setc_heap W ge j v _ _ hge, he]
theorem RdI.push {w : World} {g2 ge gr : Nat} {D : Option Addr} {dn dc : Nat} {ds : List Int} {A : Option Addr} {an ac : Nat} {add : List Fl} {lg f ce at_ le : Nat} {bs : List UInt8} {ok : Bool} {W : World}
    (h : RdI w g2 ge gr D dn dc ds A an ac add lg f ce at_ le bs ok W) (o : Obj) {W2 : World} {A2 : Option Addr} {n2 c2 : Nat} {add2 : List Fl} (hown : W2.ownsRow (ge + 1) 41 2 (.slice A2 n2 c2) n2 (fvs add2)) (hgr : (W.alloc o).grownBy W2 (Value.slice A an ac).ownBlock) :
    W2.cell? ⟨ge, 1, none⟩ = some (.slice A an ac) ∧ W2.frozen? ⟨ge, 1, none⟩ = false ∧ RdI w g2 ge gr D dn dc ds A2 n2 c2 add2 lg f ce at_ le bs ok (W2.setCell ⟨ge, 1, none⟩ (.slice A2 n2 c2)) := by
  have hu : Up W (W.alloc o) := (Up.refl W).alloc o
  obtain ⟨o1, o2, o3, up, hg, hge, hoD, hoA, hrb⟩ := h
  have hB := up.size
  have hg1 := (hu.block _ (Array.getElem?_eq_some_iff.1 hg).1).trans hg
  have hge1 := (hu.block _ (Array.getElem?_eq_some_iff.1 hge).1).trans hge
  have hoD1 := own_up hoD hu
  have hoA1 := own_up hoA hu
  obtain ⟨A0, n0, c0, b1, b2, b3, b4⟩ := hrb.up hB hu
  have hlo := hoA1.lt
  have hg2' := (hgr.block g2 (Array.getElem?_eq_some_iff.1 hg1).1 (fun e0 => by have := (hlo g2 e0.symm).1; omega)).trans hg1
  have hge2 := (hgr.block ge (Array.getElem?_eq_some_iff.1 hge1).1 (fun e0 => by have := (hlo ge e0.symm).1; omega)).trans hge1
  have hb2 := (hgr.block gr (Array.getElem?_eq_some_iff.1 b1).1 (own_type hoA1 b1 (by decide))).trans b1
  have hoD2 := own_far hoA1 hoD1 (by decide) hgr
  have hr2 : Rd W2 w.heap.size 1 A0 n0 (bvs bs) := b3.grown hgr (Nat.le_trans hB hu.size) (fun k0 e0 => by have := (hlo k0 e0).1; omega)
  have hup2 : Up w W2 := (up.trans hu).grown hgr (fun k0 e0 => by have := (hlo k0 e0).1; omega)
  have hK := setc_keeps W2 W2 ge 1 (.slice A2 n2 c2) (Rg.Keeps.refl _ _)
  refine ⟨blk_cell hge2 1, blk_free hge2 1, o1, o2, o3, keepsUp hup2 (by omega) hK, (hK.block _ (Array.getElem?_eq_some_iff.1 hg2').1 (by show ¬ g2 = ge; omega)).trans hg2', setc_heap W2 ge 1 _ _ _ hge2,
    own_keeps6 hoD2 (by omega) hK, own_keeps6 hown (by omega) hK, A0, n0, c0, (hK.block _ (Array.getElem?_eq_some_iff.1 hb2).1 (by show ¬ gr = ge; omega)).trans hb2, b2, hr2.keepsLt hup2.size (by omega) hK, b4⟩
theorem readE_eq {bs : List UInt8} {q : List UInt64} {qa m lg f ce at_ le : Nat} {s0 s3 s4 s5 s6 s7 st : RS} {add : List Fl} (hu : unlistL bs 40 = (q, qa, 0)) (h1 : m = (rtk 40 (bs.drop qa) true).1) (h2 : s0 = (rtk 40 (bs.drop qa) true).2)
    (h3 : rfiles m s0 = (add, st)) (h4 : lg = (rtk 1073741824 st.1 st.2).1) (h5 : s3 = (rtk 1073741824 st.1 st.2).2) (h6 : f = (rtk 281474976710656 s3.1 s3.2).1) (h7 : s4 = (rtk 281474976710656 s3.1 s3.2).2)
    (h8 : ce = (rtk 281474976710656 s4.1 s4.2).1) (h9 : s5 = (rtk 281474976710656 s4.1 s4.2).2) (h10 : at_ = (rtk 281474976710656 s5.1 s5.2).1) (h11 : s6 = (rtk 281474976710656 s5.1 s5.2).2) (h12 : le = (rtk 281474976710656 s6.1 s6.2).1) (h13 : s7 = (rtk 281474976710656 s6.1 s6.2).2) :
    readE bs = if s7.2 = true ∧ s7.1 = [] ∧ mayE (q.map minD) add lg f ce at_ le = true then some (q.map minD, add, (lg : Int), f, ce, at_, le) else none := by
  unfold readE
  simp only [hu, true_and]
  rw [← h1, ← h2, h3]
  simp only
  rw [← h4, ← h5, ← h6, ← h7, ← h8, ← h9, ← h10, ← h11, ← h12, ← h13]
/-- the loop over the dropped numbers: what holds ahead of round k -/
def DropInv (w : World) (g2 ge : Nat) (Q : Option Addr) (qn qc : Nat) (q : List UInt64) (k : Nat) (wr : World) : Prop :=
  ∃ (D : Option Addr) (dc : Nat), Up w wr ∧ wr.heap[g2]? = some (.cells #[.slice none 0 0, .slice none 0 0, .int .i64 0, .int .u64 0, .int .u64 0, .int .u64 0, .int .u64 0] 32 (0, 0)) ∧ wr.heap[ge]? = some (.cells #[.slice D k dc, .slice none 0 0, .int .i64 0, .int .u64 0, .int .u64 0, .int .u64 0, .int .u64 0] 32 (0, 0)) ∧
      wr.ownsRow (ge + 1) 3 1 (.slice D k dc) k (nmv ((q.take k).map minD)) ∧ OwnQ wr (ge + 1) Q qn qc q
set_option maxRecDepth 100000 in
set_option maxHeartbeats 16000000 in
theorem eread_any (A0 : Option Addr) (n c : Nat) (bs : List UInt8) (w : World) (hr : Rd w w.heap.size 1 A0 n (bvs bs)) (hn : n ≤ 549755813888) (hnc : n ≤ c) :
    Calls Try.prog 18 #[.slice A0 n c] w (RdPost (readE bs) w) := by
  obtain ⟨w2, hw2⟩ : ∃ w2, w2 = (w.alloc (.cells #[.slice none 0 0, .slice none 0 0, .int .i64 0, .int .u64 0, .int .u64 0, .int .u64 0, .int .u64 0] 32)).alloc (.cells #[.slice none 0 0, .slice none 0 0, .int .i64 0, .int .u64 0, .int .u64 0, .int .u64 0, .int .u64 0] 32) := ⟨_, rfl⟩
  have hup2 : Up w w2 := by rw [hw2]; exact ((Up.refl w).alloc _).alloc _
  have hg2 : w2.heap[w.heap.size]? = some (.cells #[.slice none 0 0, .slice none 0 0, .int .i64 0, .int .u64 0, .int .u64 0, .int .u64 0, .int .u64 0] 32 (0, 0)) := by
    rw [hw2, Below.heap_alloc _ _ _ (by simp)]; exact heap_alloc_new w _
  have hge2 : w2.heap[w.heap.size + 1]? = some (.cells #[.slice none 0 0, .slice none 0 0, .int .i64 0, .int .u64 0, .int .u64 0, .int .u64 0, .int .u64 0] 32 (0, 0)) := by
    rw [hw2]
    have h := heap_alloc_new (w.alloc (.cells #[.slice none 0 0, .slice none 0 0, .int .i64 0, .int .u64 0, .int .u64 0, .int .u64 0, .int .u64 0] 32)) (.cells #[.slice none 0 0, .slice none 0 0, .int .i64 0, .int .u64 0, .int .u64 0, .int .u64 0, .int .u64 0] 32)
    rwa [World.size_alloc] at h
  have HW := Lib.hid hw2
  clear hw2
  have hread : readE bs = readE bs := rfl
  obtain ⟨q, qa, qe, hu⟩ : ∃ q a e, unlistL bs 40 = (q, a, e) := ⟨_, _, _, rfl⟩
  have HU := Lib.hid hu
  clear hu hread
  go_enter Try.func18, Try.ntmps18
  go_wp2_with fail
  rw [← HW.out]
  clear HW
  have hgw : w.heap.size ≤ w.heap.size := Nat.le_refl _
  have hgge : w.heap.size < w.heap.size + 1 := by omega
  generalize hgeE : w.heap.size + 1 = ge at hge2 hgge ⊢
  generalize hg2E : w.heap.size = g2 at hg2 ⊢
  refine (unlist_any A0 n c bs 40 w2 (hr.up hup2) (by omega) hnc (by omega) (by omega)).mono ?_
  rintro e w3 ⟨Q, qn, qc, rfl, hoQ, hu3⟩
  rw [HU.out] at hoQ ⊢
  (try dsimp only at hoQ ⊢)
  have hqb : qn ≤ 549755813888 := by
    have h1 := hoQ.rd.qlen
    have h2 := unlistL_len bs 40
    rw [HU.out] at h2
    have h3 := hr.blen
    (try dsimp only at h2)
    omega
  have hg3 := (hu3.block _ (Array.getElem?_eq_some_iff.1 hg2).1).trans hg2
  have hge3 := (hu3.block _ (Array.getElem?_eq_some_iff.1 hge2).1).trans hge2
  have hup3 := hup2.trans hu3
  have hgl : ge + 1 ≤ w2.heap.size := (Array.getElem?_eq_some_iff.1 hge2).1
  clear hg2 hge2 hup2 hu3
  by_cases hqe : qe = 0
  · subst hqe
    have hrd0 := hr.below (Below.mono hup3 (Nat.le_refl _))
    go_wp2_with fail
    go_loopw [23] (fun i wr => ∃ k : Nat, i = .int .i64 (k : Int) ∧ k ≤ qn ∧ DropInv w g2 ge Q qn qc q k wr) (fun i _ => qn - (intOf i).toNat)
    case atStart => exact ⟨0, rfl, by omega, none, 0, hup3, hg3, hge3, World.ownsRow_nil _ _ _ _, own_base hoQ hgl⟩
    case round =>
      obtain ⟨k, rfl, hk, D, dc, hup, hg, hge, hoD, hq⟩ := hrel
      clear hg3 hge3 hup3 hoQ
      by_cases hlt : k < qn
      · obtain ⟨b, o, rfl, hbb, hck⟩ := hq.rd.num hlt
        have hkl : k < q.length := by have := hq.rd.qlen; omega
        have htk : (q.take (k + 1)).map minD = (q.take k).map minD ++ [(capN (q.getD k 0).toNat : Int)] := by
          rw [List.take_succ_eq_append_getElem hkl, List.map_append]
          simp [minD, List.getD, hkl]
        generalize (q.getD k 0).toNat = x at hck htk
        have t0 := blk_cell hge 0
        by_cases hx : 1073741825 < x
        · have hmx : capN x = 1073741825 := if_pos hx
          rw [hmx, show ((1073741825 : Nat) : Int) = 1073741825 from rfl] at htk
          have HT := Lib.hid htk
          have hx1 : (1073741825 : Int) < (x : Int) := by omega
          have hx2 : ¬ (x : Int) < 1073741825 := by omega
          clear htk hmx
          have hub : Up wr (wr.alloc (.cells #[.int .i64 (1073741825)] 3)) := (Up.refl wr).alloc _
          have hoD1 := own_up hoD hub
          have hq1 := own_up hq hub
          have hg1 := (hub.block _ (Array.getElem?_eq_some_iff.1 hg).1).trans hg
          have hge1 := (hub.block _ (Array.getElem?_eq_some_iff.1 hge).1).trans hge
          have hup1 := hup.trans hub
          have hlo := hoD1.lt
          go_wp2_with (at_builtin; refine wpList_append_rd _ intsT (news := nmv [1073741825]) hoD1 (Rd.box _ _ _) (by intro u hu; simp [nmv] at hu; subst hu; rfl) (by omega) (by omega) (by have := (Array.getElem?_eq_some_iff.1 hge1).1; omega) rfl rfl rfl rfl ?_; intro v5 w5 hown5 hg5 hat5; obtain ⟨D5, dc5, rfl⟩ := own_form hown5
                       have hg6 := (hg5.block g2 (Array.getElem?_eq_some_iff.1 hg1).1 (fun e0 => by have := (hlo g2 e0.symm).1; omega)).trans hg1
                       have hge6 := (hg5.block ge (Array.getElem?_eq_some_iff.1 hge1).1 (fun e0 => by have := (hlo ge e0.symm).1; omega)).trans hge1
                       have hup6 : Up w w5 := hup1.grown hg5 (fun k0 e0 => by have := (hlo k0 e0).1; omega)
                       have hq6 : OwnQ w5 (ge + 1) (some ⟨b, o, none⟩) qn qc q := own_far hoD1 hq1 (by decide) hg5
                       have r1 := blk_cell hge6 0
                       have r2 := blk_free hge6 0
                       have hge7 : (w5.setCell ⟨ge, 0, none⟩ (.slice D5 (k + 1) dc5)).heap[ge]? = some (.cells #[.slice D5 (k + 1) dc5, .slice none 0 0, .int .i64 0, .int .u64 0, .int .u64 0, .int .u64 0, .int .u64 0] 32 (0, 0)) := setc_heap w5 _ 0 _ _ _ hge6
                       have hK7 := setc_keeps w5 w5 ge 0 (.slice D5 (k + 1) dc5) (Rg.Keeps.refl _ _)
                       have hg7 := (hK7.block _ (Array.getElem?_eq_some_iff.1 hg6).1 (by omega)).trans hg6
                       have hoD7 := own_keeps6 hown5 (by omega) hK7
                       have hq7 := own_keeps6 hq6 (by omega) hK7
                       have hup7 := keepsUp hup6 (by omega) hK7
                       have HGE7 := Lib.hid hge7
                       have HG7 := Lib.hid hg7
                       have HOD7 := Lib.hid hoD7
                       have HQ7 := Lib.hid hq7
                       have HUP7 := Lib.hid hup7
                       clear hup7 hge7 hg7 hoD7 hq7 hK7 hg6 hge6 hup6 hq6 hown5 hg5 hat5 hub hoD1 hq1 hg1 hge1 hup1 hlo)
          clear t0 hck r1 r2
          generalize w5.setCell ⟨ge, 0, none⟩ (.slice D5 (k + 1) dc5) = w7 at *
          go_roundw
          case rel =>
            refine ⟨k + 1, by first | omega | go_num, by omega, D5, dc5, HUP7.out, HG7.out, HGE7.out, ?_, HQ7.out⟩
            rw [HT.out]
            have e : nmv ((q.take k).map minD ++ [1073741825]) = nmv ((q.take k).map minD) ++ nmv [1073741825] := by simp [nmv]
            rw [e]
            exact HOD7.out
          case measure => simp [intOf]; omega
        · have hmx : capN x = x := if_neg hx
          rw [hmx] at htk
          have HT := Lib.hid htk
          have hx1 : ¬ (1073741825 : Int) < (x : Int) := by omega
          have hxw : IntKind.i64.wrap (x : Int) = (x : Int) := IntWalk.i64_in _ (by omega)
          clear htk hmx
          have hub : Up wr (wr.alloc (.cells #[.int .i64 ((x : Int))] 3)) := (Up.refl wr).alloc _
          have hoD1 := own_up hoD hub
          have hq1 := own_up hq hub
          have hg1 := (hub.block _ (Array.getElem?_eq_some_iff.1 hg).1).trans hg
          have hge1 := (hub.block _ (Array.getElem?_eq_some_iff.1 hge).1).trans hge
          have hup1 := hup.trans hub
          have hlo := hoD1.lt
          go_wp2_with (at_builtin; refine wpList_append_rd _ intsT (news := nmv [(x : Int)]) hoD1 (Rd.box _ _ _) (by intro u hu; simp [nmv] at hu; subst hu; rfl) (by omega) (by omega) (by have := (Array.getElem?_eq_some_iff.1 hge1).1; omega) rfl rfl rfl rfl ?_; intro v5 w5 hown5 hg5 hat5; obtain ⟨D5, dc5, rfl⟩ := own_form hown5
                       have hg6 := (hg5.block g2 (Array.getElem?_eq_some_iff.1 hg1).1 (fun e0 => by have := (hlo g2 e0.symm).1; omega)).trans hg1
                       have hge6 := (hg5.block ge (Array.getElem?_eq_some_iff.1 hge1).1 (fun e0 => by have := (hlo ge e0.symm).1; omega)).trans hge1
                       have hup6 : Up w w5 := hup1.grown hg5 (fun k0 e0 => by have := (hlo k0 e0).1; omega)
                       have hq6 : OwnQ w5 (ge + 1) (some ⟨b, o, none⟩) qn qc q := own_far hoD1 hq1 (by decide) hg5
                       have r1 := blk_cell hge6 0
                       have r2 := blk_free hge6 0
                       have hge7 : (w5.setCell ⟨ge, 0, none⟩ (.slice D5 (k + 1) dc5)).heap[ge]? = some (.cells #[.slice D5 (k + 1) dc5, .slice none 0 0, .int .i64 0, .int .u64 0, .int .u64 0, .int .u64 0, .int .u64 0] 32 (0, 0)) := setc_heap w5 _ 0 _ _ _ hge6
                       have hK7 := setc_keeps w5 w5 ge 0 (.slice D5 (k + 1) dc5) (Rg.Keeps.refl _ _)
                       have hg7 := (hK7.block _ (Array.getElem?_eq_some_iff.1 hg6).1 (by omega)).trans hg6
                       have hoD7 := own_keeps6 hown5 (by omega) hK7
                       have hq7 := own_keeps6 hq6 (by omega) hK7
                       have hup7 := keepsUp hup6 (by omega) hK7
                       have HGE7 := Lib.hid hge7
                       have HG7 := Lib.hid hg7
                       have HOD7 := Lib.hid hoD7
                       have HQ7 := Lib.hid hq7
                       have HUP7 := Lib.hid hup7
                       clear hup7 hge7 hg7 hoD7 hq7 hK7 hg6 hge6 hup6 hq6 hown5 hg5 hat5 hub hoD1 hq1 hg1 hge1 hup1 hlo)
          clear t0 hck r1 r2
          generalize w5.setCell ⟨ge, 0, none⟩ (.slice D5 (k + 1) dc5) = w7 at *
          go_roundw
          case rel =>
            refine ⟨k + 1, by first | omega | go_num, by omega, D5, dc5, HUP7.out, HG7.out, HGE7.out, ?_, HQ7.out⟩
            rw [HT.out]
            have e : nmv ((q.take k).map minD ++ [(x : Int)]) = nmv ((q.take k).map minD) ++ nmv [(x : Int)] := by simp [nmv]
            rw [e]
            exact HOD7.out
          case measure => simp [intOf]; omega
      · have hkq : k = qn := by omega
        have hql : qn = q.length := hq.rd.qlen
        have hoD2 : wr.ownsRow (ge + 1) 3 1 (.slice D k dc) k (nmv (q.map minD)) := by
          have h := hoD
          rwa [List.take_of_length_le (by omega)] at h
        have hqa : qa ≤ n := by
          have h := unlistL_at bs 40
          rw [HU.out] at h
          have := hr.blen
          (try dsimp only at h)
          omega
        have hrW : Rd wr w.heap.size 1 A0 n (bvs bs) := hr.below hup
        have hfrom := hrW.bfrom hqa hnc
        have CUT := fun (W : World) (kl : IntKind) (l : Int) (h0 : 0 ≤ l) (h1 : l ≤ n) => cut_from_b W A0 n c kl l h0 h1
        have hqai : (qa : Int) ≤ (n : Int) := by omega
        have hub : Up wr (wr.alloc (.cells #[.slice (cutA A0 c qa 1) (n - qa) (c - qa), .bool true] 83)) := (Up.refl wr).alloc _
        have hI : RdI w g2 ge wr.heap.size D k dc (q.map minD) none 0 0 [] 0 0 0 0 0 (bs.drop qa) true (wr.alloc (.cells #[.slice (cutA A0 c qa 1) (n - qa) (c - qa), .bool true] 83)) :=
          ⟨by omega, by omega, (Array.getElem?_eq_some_iff.1 hge).1, hup.trans hub, (hub.block _ (Array.getElem?_eq_some_iff.1 hg).1).trans hg, (hub.block _ (Array.getElem?_eq_some_iff.1 hge).1).trans hge, own_up hoD2 hub, World.ownsRow_nil _ _ _ _,
            cutA A0 c qa 1, n - qa, c - qa, heap_alloc_new _ _, by omega, hfrom.stay hup.size hub, by omega⟩
        clear hoD2 hoD hq hg hge hrW hfrom hup hub hql hrd0 hgl hkq hgw hgeE hgge hg2E
        go_wp2_with fail
        generalize wr.alloc (.cells #[.slice (cutA A0 c qa 1) (n - qa) (c - qa), .bool true] 83) = w5 at *
        generalize wr.heap.size = gr at hI ⊢
        have hB := hI.pre
        refine (rtake_r gr w.heap.size (bs.drop qa) true 40 w5 hI.rb hB.1 hB.2 (by omega)).mono ?_
        rintro e w6 ⟨rfl, hrb6, hK6⟩
        have hI6 := hI.take hrb6 hK6
        have hm40 := rtk_le 40 (bs.drop qa) true
        obtain ⟨m, hm⟩ : ∃ m, m = (rtk 40 (bs.drop qa) true).1 := ⟨_, rfl⟩
        obtain ⟨s0, hs0⟩ : ∃ s0, s0 = (rtk 40 (bs.drop qa) true).2 := ⟨_, rfl⟩
        rw [← hm] at hm40 ⊢
        rw [← hs0] at hI6
        have HM := Lib.hid hm
        have HS0 := Lib.hid hs0
        clear hm hs0 hI hrb6 hK6 CUT
        go_wp2_with fail
        go_loopw [43] (fun i wr => ∃ (j : Nat) (A : Option Addr) (an ac : Nat) (add : List Fl) (st : RS), i = .int .u64 (j : Int) ∧ j ≤ m ∧ an = j ∧ RdI w g2 ge gr D k dc (q.map minD) A an ac add 0 0 0 0 0 st.1 st.2 wr ∧ Hid (rfiles j s0 = (add, st))) (fun i _ => m - (intOf i).toNat)
        case atStart => exact ⟨0, none, 0, 0, [], s0, rfl, by omega, rfl, hI6, rfl⟩
        case round =>
          obtain ⟨j, A, an, ac, add, st, rfl, hj, han, hI, hrf⟩ := hrel
          subst han
          clear hI6
          by_cases hlt2 : an < m
          · have hB := hI.pre
            go_wp2_with fail
            refine (rtake_r gr w.heap.size st.1 st.2 3 wr hI.rb hB.1 hB.2 (by omega)).mono ?_
            rintro e w7 ⟨rfl, hrb7, hK7⟩
            have hI7 := hI.take hrb7 hK7
            have hl3 := rtk_le 3 st.1 st.2
            obtain ⟨lv, hlv⟩ : ∃ lv, lv = (rtk 3 st.1 st.2).1 := ⟨_, rfl⟩
            obtain ⟨s1, hs1⟩ : ∃ s1, s1 = (rtk 3 st.1 st.2).2 := ⟨_, rfl⟩
            rw [← hlv] at hl3 ⊢
            rw [← hs1] at hI7
            have HLV := Lib.hid hlv
            have HS1 := Lib.hid hs1
            have hlw : IntKind.i64.wrap (lv : Int) = (lv : Int) := IntWalk.i64_in _ (by omega)
            clear hlv hs1 hI hrb7 hK7
            go_wp2_with fail
            have hId := hI7.drew
            have hBd := hId.pre
            have q0 := blk_cell hId.hge 1
            have hcallT := rtake_r gr w.heap.size s1.1 s1.2 1073741824 w7.drew hId.rb hBd.1 hBd.2 (by omega)
            have hnu := rtk_le 1073741824 s1.1 s1.2
            obtain ⟨nu, hnuE⟩ : ∃ nu, nu = (rtk 1073741824 s1.1 s1.2).1 := ⟨_, rfl⟩
            obtain ⟨s2, hs2⟩ : ∃ s2, s2 = (rtk 1073741824 s1.1 s1.2).2 := ⟨_, rfl⟩
            rw [← hnuE] at hcallT hnu
            rw [← hs2] at hcallT
            have HNU := Lib.hid hnuE
            have HS2 := Lib.hid hs2
            have hnw : IntKind.i64.wrap (nu : Int) = (nu : Int) := IntWalk.i64_in _ (by omega)
            have HID := Lib.hid hId
            have HCT := Lib.hid hcallT
            clear hnuE hs2 hI7 hId hcallT
            have mixed : Try.prog.follows .mixedOrders = true := by kernel_rfl
            go_region_law_o (first
              | (refine step_wp rfl ?_; go_simp; refine HCT.out.mono ?_; rintro e w8 ⟨rfl, hrb8, hK8⟩
                 have hI8 := HID.out.take hrb8 hK8
                 have q1 := blk_cell hI8.hge 1
                 have q2 := fun o => blk_cell ((((Up.refl w8).alloc o).block _ (Array.getElem?_eq_some_iff.1 hI8.hge).1).trans hI8.hge) 1)
              | (refine step_wp rfl ?_; refine wp_append_rd _ _ _ filesT rfl (v := .slice A an ac) (by simp [Act.eval, Act.put]) (A := some ⟨w8.heap.size, 0, none⟩) (c := 1) (m := 1) (by simp [Act.eval, Act.put]) (World.ownsRow.alloc hI8.hoA _) (Rd.made w8 #[.int .i64 (lv : Int), .int .i64 (nu : Int)] 41 rfl) (fvs_one [((lv : Int), (nu : Int))]) (by omega) (by omega) (by have := (Array.getElem?_eq_some_iff.1 hI8.hge).1; simp; omega) ?_; intro v5 w5 hown5 hg5 hat5; obtain ⟨A5, ac5, rfl⟩ := own_form hown5
                 have hown6 : w5.ownsRow (ge + 1) 41 2 (.slice A5 (an + 1) ac5) (an + 1) (fvs (add ++ [((lv : Int), (nu : Int))])) := by rw [fvs_append]; exact hown5
                 obtain ⟨r1, r2, hI9⟩ := hI8.push _ hown6 hg5
                 have HI9 := Lib.hid hI9
                 clear hI9 hown5 hown6 hg5 hat5))
            all_goals
              clear q0 q1 q2 r1 r2 HCT HID hI8 hrb8 hK8 hBd hB
              generalize w5.setCell ⟨ge, 1, none⟩ (.slice A5 (an + 1) ac5) = w9 at *
              go_wp2_with fail
              go_roundw
              case rel =>
                exact ⟨an + 1, A5, an + 1, ac5, add ++ [((lv : Int), (nu : Int))], s2, by first | omega | go_num, by omega, rfl, HI9.out, rfiles_succ hrf.out HLV.out HS1.out HNU.out HS2.out⟩
              case measure => simp [intOf]; omega
          · have han : an = m := by omega
            subst han
            have hI8 := hI
            have HAN := Lib.hid hm40
            clear hI hj hlt2 hm40
            go_wp2_with fail
            have hBx := hI8.pre
            refine (rtake_r gr w.heap.size st.1 st.2 1073741824 wr hI8.rb hBx.1 hBx.2 (by omega)).mono ?_
            rintro e wa ⟨rfl, hrbx, hKx⟩
            have hIa := hI8.take hrbx hKx
            have hlelg := rtk_le 1073741824 st.1 st.2
            obtain ⟨lg, hxE⟩ : ∃ x, x = (rtk 1073741824 st.1 st.2).1 := ⟨_, rfl⟩
            obtain ⟨s3, htE⟩ : ∃ x, x = (rtk 1073741824 st.1 st.2).2 := ⟨_, rfl⟩
            rw [← hxE] at hlelg ⊢
            rw [← htE] at hIa
            have HXlg := Lib.hid hxE
            have HTs3 := Lib.hid htE
            clear hxE htE hI8 hrbx hKx hBx
            have hlgw : IntKind.i64.wrap (lg : Int) = (lg : Int) := IntWalk.i64_in _ (by omega)
            have q2 := blk_cell hIa.hge 2
            have f2 := blk_free hIa.hge 2
            have hIb := hIa.set 2 (.int .i64 (lg : Int)) lg 0 0 0 0 rfl
            clear hIa
            go_wp2_with fail
            generalize wa.setCell ⟨ge, 2, none⟩ (.int .i64 (lg : Int)) = wb at *
            clear q2 f2
            have hBx := hIb.pre
            refine (rtake_r gr w.heap.size s3.1 s3.2 281474976710656 wb hIb.rb hBx.1 hBx.2 (by omega)).mono ?_
            rintro e wc ⟨rfl, hrbx, hKx⟩
            have hIc := hIb.take hrbx hKx
            have hlef := rtk_le 281474976710656 s3.1 s3.2
            obtain ⟨f, hxE⟩ : ∃ x, x = (rtk 281474976710656 s3.1 s3.2).1 := ⟨_, rfl⟩
            obtain ⟨s4, htE⟩ : ∃ x, x = (rtk 281474976710656 s3.1 s3.2).2 := ⟨_, rfl⟩
            rw [← hxE] at hlef ⊢
            rw [← htE] at hIc
            have HXf := Lib.hid hxE
            have HTs4 := Lib.hid htE
            clear hxE htE hIb hrbx hKx hBx
            go_wp2_with fail
            have hBx := hIc.pre
            refine (rtake_r gr w.heap.size s4.1 s4.2 281474976710656 wc hIc.rb hBx.1 hBx.2 (by omega)).mono ?_
            rintro e wd ⟨rfl, hrbx, hKx⟩
            have hId := hIc.take hrbx hKx
            have hlece := rtk_le 281474976710656 s4.1 s4.2
            obtain ⟨ce, hxE⟩ : ∃ x, x = (rtk 281474976710656 s4.1 s4.2).1 := ⟨_, rfl⟩
            obtain ⟨s5, htE⟩ : ∃ x, x = (rtk 281474976710656 s4.1 s4.2).2 := ⟨_, rfl⟩
            rw [← hxE] at hlece ⊢
            rw [← htE] at hId
            have HXce := Lib.hid hxE
            have HTs5 := Lib.hid htE
            clear hxE htE hIc hrbx hKx hBx
            have q3 := blk_cell hId.hge 3
            have f3 := blk_free hId.hge 3
            have q4 := blk_cell hId.hge 4
            have f4 := blk_free hId.hge 4
            have hIe := (hId.set 3 (.int .u64 (f : Int)) lg f 0 0 0 rfl).set 4 (.int .u64 (ce : Int)) lg f ce 0 0 rfl
            clear hId
            go_wp2_with fail
            generalize (wd.setCell ⟨ge, 3, none⟩ (.int .u64 (f : Int))).setCell ⟨ge, 4, none⟩ (.int .u64 (ce : Int)) = we at *
            clear q3 f3 q4 f4
            have hBx := hIe.pre
            refine (rtake_r gr w.heap.size s5.1 s5.2 281474976710656 we hIe.rb hBx.1 hBx.2 (by omega)).mono ?_
            rintro e wf ⟨rfl, hrbx, hKx⟩
            have hIf := hIe.take hrbx hKx
            have hleat_ := rtk_le 281474976710656 s5.1 s5.2
            obtain ⟨at_, hxE⟩ : ∃ x, x = (rtk 281474976710656 s5.1 s5.2).1 := ⟨_, rfl⟩
            obtain ⟨s6, htE⟩ : ∃ x, x = (rtk 281474976710656 s5.1 s5.2).2 := ⟨_, rfl⟩
            rw [← hxE] at hleat_ ⊢
            rw [← htE] at hIf
            have HXat_ := Lib.hid hxE
            have HTs6 := Lib.hid htE
            clear hxE htE hIe hrbx hKx hBx
            go_wp2_with fail
            have hBx := hIf.pre
            refine (rtake_r gr w.heap.size s6.1 s6.2 281474976710656 wf hIf.rb hBx.1 hBx.2 (by omega)).mono ?_
            rintro e wg ⟨rfl, hrbx, hKx⟩
            have hIg := hIf.take hrbx hKx
            have hlele := rtk_le 281474976710656 s6.1 s6.2
            obtain ⟨le, hxE⟩ : ∃ x, x = (rtk 281474976710656 s6.1 s6.2).1 := ⟨_, rfl⟩
            obtain ⟨s7, htE⟩ : ∃ x, x = (rtk 281474976710656 s6.1 s6.2).2 := ⟨_, rfl⟩
            rw [← hxE] at hlele ⊢
            rw [← htE] at hIg
            have HXle := Lib.hid hxE
            have HTs7 := Lib.hid htE
            clear hxE htE hIf hrbx hKx hBx
            have q3 := blk_cell hIg.hge 5
            have f3 := blk_free hIg.hge 5
            have q4 := blk_cell hIg.hge 6
            have f4 := blk_free hIg.hge 6
            have hIh := (hIg.set 5 (.int .u64 (at_ : Int)) lg f ce at_ 0 rfl).set 6 (.int .u64 (le : Int)) lg f ce at_ le rfl
            clear hIg
            obtain ⟨wh, hwh⟩ : ∃ x, x = (wg.setCell ⟨ge, 5, none⟩ (.int .u64 (at_ : Int))).setCell ⟨ge, 6, none⟩ (.int .u64 (le : Int)) := ⟨_, rfl⟩
            rw [← hwh] at hIh
            have hfold := hwh.symm
            clear hwh
            have hre := readE_eq HU.out HM.out HS0.out hrf.out HXlg.out HTs3.out HXf.out HTs4.out HXce.out HTs5.out HXat_.out HTs6.out HXle.out HTs7.out
            have HRE := Lib.hid hre
            clear hre
            obtain ⟨b7, o7⟩ := s7
            (try dsimp only at hIh HRE)
            have hIh1 := hIh
            obtain ⟨B7, n7, c7, hb7, hc7, hr7, -⟩ := hIh1.rb
            have p0 := blk_cell hb7 0
            have p1 := blk_cell hb7 1
            have hbl7 := hr7.blen
            have HBL7 := Lib.hid hbl7
            have hg9 := hIh.hg
            have hup9 := hIh.up
            have hgw9 := hIh.o1
            clear hbl7 hIh1 hb7 hr7
            cases o7
            · have HNO : Hid (readE bs = none) := by
                have h := HRE.out
                rw [if_neg (by simp)] at h
                exact h
              clear HRE hIh
              have t0 := blk_cell hg9 0
              have t1 := blk_cell hg9 1
              have t2 := blk_cell hg9 2
              have t3 := blk_cell hg9 3
              have t4 := blk_cell hg9 4
              have t5 := blk_cell hg9 5
              have t6 := blk_cell hg9 6
              have s0 := blk_free hg9 0
              have s1 := blk_free hg9 1
              have s2 := blk_free hg9 2
              have s3 := blk_free hg9 3
              have s4 := blk_free hg9 4
              have s5 := blk_free hg9 5
              have s6 := blk_free hg9 6
              have h7 := set7 _ g2 _ _ _ _ _ _ _ (.slice none 0 0) (.slice none 0 0) (.int .i64 0) (.int .u64 0) (.int .u64 0) (.int .u64 0) (.int .u64 0) _ hg9
              have hup10 := keepsUp hup9 hgw9 h7.2
              have H71 := Lib.hid h7.1
              have HUP := Lib.hid hup10
              clear h7 hup10 hup9 hg9
              go_wp2_with fail
              have u0 := blk_cell H71.out 0
              have u1 := blk_cell H71.out 1
              have u2 := blk_cell H71.out 2
              have u3 := blk_cell H71.out 3
              have u4 := blk_cell H71.out 4
              have u5 := blk_cell H71.out 5
              have u6 := blk_cell H71.out 6
              refine bodyPost_ret (v := .tuple #[.agg #[.slice none 0 0, .slice none 0 0, .int .i64 0, .int .u64 0, .int .u64 0, .int .u64 0, .int .u64 0], .int .i64 3]) (by simp [results, Try.results18, go_sem, u0, u1, u2, u3, u4, u5, u6]) rfl ?_
              rw [HNO.out]
              exact ⟨rfl, HUP.out⟩
            · by_cases hn7 : n7 = 0
              · subst hn7
                clear hg9 hup9
                have t0 := blk_cell hIh.hge 0
                have t1 := blk_cell hIh.hge 1
                have t2 := blk_cell hIh.hge 2
                have t3 := blk_cell hIh.hge 3
                have t4 := blk_cell hIh.hge 4
                have t5 := blk_cell hIh.hge 5
                have t6 := blk_cell hIh.hge 6
                have hod := Rd.own hIh.hoD
                have hoa := Rd.own hIh.hoA
                have hkb : k ≤ 9223372036854775807 := by omega
                have hab : an ≤ 9223372036854775807 := by have := HAN.out; omega
                obtain ⟨mb, hmb⟩ : ∃ x, x = mayE (q.map minD) add lg f ce at_ le := ⟨_, rfl⟩
                have HMB := Lib.hid hmb
                clear hmb
                have HOD1 := Lib.hid hod
                have HOA1 := Lib.hid hoa
                have HIH := Lib.hid hIh
                clear hod hoa hIh
                go_wp2_with fail
                refine (mayE_any D k dc (q.map minD) A an ac add lg f ce at_ le wh HOD1.out hkb HOA1.out hab).mono ?_
                rintro e wi ⟨rfl, hui⟩
                rw [← HMB.out]
                have hIj := HIH.out.upg hui
                clear t0 t1 t2 t3 t4 t5 t6 HOD1 HOA1 HIH hui p0 p1
                have hg9 := hIj.hg
                have hup9 := hIj.up
                cases mb
                · have HNO : Hid (readE bs = none) := by
                    have h := HRE.out
                    rw [if_neg (by rw [← HMB.out]; simp)] at h
                    exact h
                  clear HRE hIj
                  have t0 := blk_cell hg9 0
                  have t1 := blk_cell hg9 1
                  have t2 := blk_cell hg9 2
                  have t3 := blk_cell hg9 3
                  have t4 := blk_cell hg9 4
                  have t5 := blk_cell hg9 5
                  have t6 := blk_cell hg9 6
                  have s0 := blk_free hg9 0
                  have s1 := blk_free hg9 1
                  have s2 := blk_free hg9 2
                  have s3 := blk_free hg9 3
                  have s4 := blk_free hg9 4
                  have s5 := blk_free hg9 5
                  have s6 := blk_free hg9 6
                  have h7 := set7 _ g2 _ _ _ _ _ _ _ (.slice none 0 0) (.slice none 0 0) (.int .i64 0) (.int .u64 0) (.int .u64 0) (.int .u64 0) (.int .u64 0) _ hg9
                  have hup10 := keepsUp hup9 hgw9 h7.2
                  have H71 := Lib.hid h7.1
                  have HUP := Lib.hid hup10
                  clear h7 hup10 hup9 hg9
                  go_wp2_with fail
                  have u0 := blk_cell H71.out 0
                  have u1 := blk_cell H71.out 1
                  have u2 := blk_cell H71.out 2
                  have u3 := blk_cell H71.out 3
                  have u4 := blk_cell H71.out 4
                  have u5 := blk_cell H71.out 5
                  have u6 := blk_cell H71.out 6
                  refine bodyPost_ret (v := .tuple #[.agg #[.slice none 0 0, .slice none 0 0, .int .i64 0, .int .u64 0, .int .u64 0, .int .u64 0, .int .u64 0], .int .i64 3]) (by simp [results, Try.results18, go_sem, u0, u1, u2, u3, u4, u5, u6]) rfl ?_
                  rw [HNO.out]
                  exact ⟨rfl, HUP.out⟩
                · have HSO : Hid (readE bs = some (q.map minD, add, (lg : Int), f, ce, at_, le)) := by
                    have h := HRE.out
                    rw [if_pos ⟨by first | rfl | trivial, List.eq_nil_of_length_eq_zero HBL7.out.symm, HMB.out.symm⟩] at h
                    exact h
                  have t0 := blk_cell hIj.hge 0
                  have t1 := blk_cell hIj.hge 1
                  have t2 := blk_cell hIj.hge 2
                  have t3 := blk_cell hIj.hge 3
                  have t4 := blk_cell hIj.hge 4
                  have t5 := blk_cell hIj.hge 5
                  have t6 := blk_cell hIj.hge 6
                  have r0 := blk_cell hg9 0
                  have r1 := blk_cell hg9 1
                  have r2 := blk_cell hg9 2
                  have r3 := blk_cell hg9 3
                  have r4 := blk_cell hg9 4
                  have r5 := blk_cell hg9 5
                  have r6 := blk_cell hg9 6
                  have s0 := blk_free hg9 0
                  have s1 := blk_free hg9 1
                  have s2 := blk_free hg9 2
                  have s3 := blk_free hg9 3
                  have s4 := blk_free hg9 4
                  have s5 := blk_free hg9 5
                  have s6 := blk_free hg9 6
                  have h7 := set7 wi g2 _ _ _ _ _ _ _ (.slice D k dc) (.slice A an ac) (.int .i64 (lg : Int)) (.int .u64 (f : Int)) (.int .u64 (ce : Int)) (.int .u64 (at_ : Int)) (.int .u64 (le : Int)) _ hg9
                  have hg2e : g2 < ge + 1 := by have := hIj.o2; omega
                  have hod := Rd.own (own_keeps6 hIj.hoD hg2e h7.2)
                  have hoa := Rd.own (own_keeps6 hIj.hoA hg2e h7.2)
                  have hnd := own_cap hIj.hoD
                  have hna := own_cap hIj.hoA
                  have hup10 := keepsUp hup9 hgw9 h7.2
                  have H71 := Lib.hid h7.1
                  have HUP := Lib.hid hup10
                  have HOD := Lib.hid hod
                  have HOA := Lib.hid hoa
                  clear h7 hup10 hup9 hg9 hod hoa hIj HRE
                  go_wp2_with fail
                  have u0 := blk_cell H71.out 0
                  have u1 := blk_cell H71.out 1
                  have u2 := blk_cell H71.out 2
                  have u3 := blk_cell H71.out 3
                  have u4 := blk_cell H71.out 4
                  have u5 := blk_cell H71.out 5
                  have u6 := blk_cell H71.out 6
                  refine bodyPost_ret (v := .tuple #[.agg #[.slice D k dc, .slice A an ac, .int .i64 (lg : Int), .int .u64 (f : Int), .int .u64 (ce : Int), .int .u64 (at_ : Int), .int .u64 (le : Int)], .int .i64 0]) (by simp [results, Try.results18, go_sem, u0, u1, u2, u3, u4, u5, u6]) rfl ?_
                  rw [HSO.out]
                  exact ⟨D, k, dc, A, an, ac, rfl, HOD.out, hnd, HOA.out, hna, HUP.out⟩
              · have HNO : Hid (readE bs = none) := by
                  have h := HRE.out
                  rw [if_neg (by
                    intro h1
                    have h2 := HBL7.out
                    rw [h1.2.1] at h2
                    exact hn7 h2)] at h
                  exact h
                have hn7i : (0 : Int) < (n7 : Int) := by omega
                clear HRE hIh
                have t0 := blk_cell hg9 0
                have t1 := blk_cell hg9 1
                have t2 := blk_cell hg9 2
                have t3 := blk_cell hg9 3
                have t4 := blk_cell hg9 4
                have t5 := blk_cell hg9 5
                have t6 := blk_cell hg9 6
                have s0 := blk_free hg9 0
                have s1 := blk_free hg9 1
                have s2 := blk_free hg9 2
                have s3 := blk_free hg9 3
                have s4 := blk_free hg9 4
                have s5 := blk_free hg9 5
                have s6 := blk_free hg9 6
                have h7 := set7 _ g2 _ _ _ _ _ _ _ (.slice none 0 0) (.slice none 0 0) (.int .i64 0) (.int .u64 0) (.int .u64 0) (.int .u64 0) (.int .u64 0) _ hg9
                have hup10 := keepsUp hup9 hgw9 h7.2
                have H71 := Lib.hid h7.1
                have HUP := Lib.hid hup10
                clear h7 hup10 hup9 hg9
                go_wp2_with fail
                have u0 := blk_cell H71.out 0
                have u1 := blk_cell H71.out 1
                have u2 := blk_cell H71.out 2
                have u3 := blk_cell H71.out 3
                have u4 := blk_cell H71.out 4
                have u5 := blk_cell H71.out 5
                have u6 := blk_cell H71.out 6
                refine bodyPost_ret (v := .tuple #[.agg #[.slice none 0 0, .slice none 0 0, .int .i64 0, .int .u64 0, .int .u64 0, .int .u64 0, .int .u64 0], .int .i64 3]) (by simp [results, Try.results18, go_sem, u0, u1, u2, u3, u4, u5, u6]) rfl ?_
                rw [HNO.out]
                exact ⟨rfl, HUP.out⟩
  · have hqei : ¬ (qe : Int) = 0 := by omega
    have hqeb : ((qe : Int) != 0) = true := by simp; omega
    have hno : readE bs = none := by
      unfold readE
      rw [HU.out]
      exact if_neg (fun h => hqe h.1)
    have HNO := Lib.hid hno
    clear hno
    have hg9 := hg3
    have hup9 := hup3
    have hgw9 : w.heap.size ≤ g2 := by omega
    clear hg3 hup3 hge3
    have t0 := blk_cell hg9 0
    have t1 := blk_cell hg9 1
    have t2 := blk_cell hg9 2
    have t3 := blk_cell hg9 3
    have t4 := blk_cell hg9 4
    have t5 := blk_cell hg9 5
    have t6 := blk_cell hg9 6
    have s0 := blk_free hg9 0
    have s1 := blk_free hg9 1
    have s2 := blk_free hg9 2
    have s3 := blk_free hg9 3
    have s4 := blk_free hg9 4
    have s5 := blk_free hg9 5
    have s6 := blk_free hg9 6
    have h7 := set7 _ g2 _ _ _ _ _ _ _ (.slice none 0 0) (.slice none 0 0) (.int .i64 0) (.int .u64 0) (.int .u64 0) (.int .u64 0) (.int .u64 0) _ hg9
    have hup10 := keepsUp hup9 hgw9 h7.2
    have H71 := Lib.hid h7.1
    have HUP := Lib.hid hup10
    clear h7 hup10 hup9 hg9
    go_wp2_with fail
    have u0 := blk_cell H71.out 0
    have u1 := blk_cell H71.out 1
    have u2 := blk_cell H71.out 2
    have u3 := blk_cell H71.out 3
    have u4 := blk_cell H71.out 4
    have u5 := blk_cell H71.out 5
    have u6 := blk_cell H71.out 6
    refine bodyPost_ret (v := .tuple #[.agg #[.slice none 0 0, .slice none 0 0, .int .i64 0, .int .u64 0, .int .u64 0, .int .u64 0, .int .u64 0], .int .i64 3]) (by simp [results, Try.results18, go_sem, u0, u1, u2, u3, u4, u5, u6]) rfl ?_
    rw [HNO.out]
    exact ⟨rfl, HUP.out⟩
end Go.Proofs.Ytokcaoaclheiiaa

/-
  Frames one behind the other, folded: as Split has them, and one by one. Plain laws.
-/
namespace Go.Proofs.Ytokcaoaclheiiaa
open Go.RowKit
set_option linter.unusedVariables false
set_option linter.unusedSimpArgs false

section
variable {σ : Type} (step : σ → Nat → List UInt8 → Option σ)
/-- one by one: a torn frame ends it, any other error is none -/
def seqF (l : List UInt8) : Nat → Nat → σ → Option (σ × Nat)
  | 0, k, s => some (s, k)
  | f + 1, k, s => if k < l.length then
      (if (takeR (l.drop k)).1 = 0 then (match step s (takeR (l.drop k)).2.1 (takeR (l.drop k)).2.2.1 with | none => none | some s' => seqF l f (k + (takeR (l.drop k)).2.2.2) s')
       else if (takeR (l.drop k)).1 = 4 then some (s, k) else none)
    else some (s, k)
def foldF : σ → List Nat → List (List UInt8) → Option σ
  | s, k :: ks, b :: bs => match step s k b with | none => none | some s' => foldF s' ks bs
  | s, _, _ => some s
theorem splitG_acc (l : List UInt8) : ∀ (f k : Nat) (ks : List Nat) (bs : List (List UInt8)), splitG l f k ks bs = (ks ++ (splitG l f k [] []).1, bs ++ (splitG l f k [] []).2.1, (splitG l f k [] []).2.2.1, (splitG l f k [] []).2.2.2)
  | 0, k, ks, bs => by simp [splitG]
  | f + 1, k, ks, bs => by
    unfold splitG
    by_cases h1 : k < l.length
    · rw [if_pos h1, if_pos h1]
      by_cases h2 : (takeR (l.drop k)).1 = 0
      · rw [if_pos h2, if_pos h2, splitG_acc l f _ (ks ++ _) (bs ++ _), splitG_acc l f _ ([] ++ _) ([] ++ _)]
        simp
      · rw [if_neg h2, if_neg h2]; simp
    · rw [if_neg h1, if_neg h1]; simp
theorem seq_split (l : List UInt8) : ∀ (f k : Nat) (s : σ), seqF step l f k s = (if (splitG l f k [] []).2.2.2 = 0 ∨ (splitG l f k [] []).2.2.2 = 4 then (foldF step s (splitG l f k [] []).1 (splitG l f k [] []).2.1).map (fun x => (x, (splitG l f k [] []).2.2.1)) else none)
  | 0, k, s => by simp [seqF, splitG, foldF]
  | f + 1, k, s => by
    unfold seqF splitG
    by_cases h1 : k < l.length
    · simp only [if_pos h1]
      by_cases h2 : (takeR (l.drop k)).1 = 0
      · simp only [if_pos h2]
        rw [splitG_acc l f]
        simp only [List.nil_append, List.singleton_append, foldF]
        cases hs : step s (takeR (l.drop k)).2.1 (takeR (l.drop k)).2.2.1 with
        | none => simp
        | some s' => simp only []; exact seq_split l f _ s'
      · simp only [if_neg h2]
        by_cases h3 : (takeR (l.drop k)).1 = 4
        · rw [if_pos h3, if_pos (.inr h3)]; simp [foldF]
        · rw [if_neg h3, if_neg (by omega)]
    · simp only [if_neg h1]
      simp [foldF]
theorem foldF_append : ∀ (ks ks' : List Nat) (bs bs' : List (List UInt8)) (s : σ), ks.length = bs.length → foldF step s (ks ++ ks') (bs ++ bs') = (foldF step s ks bs).bind fun s' => foldF step s' ks' bs'
  | [], ks', [], bs', s, _ => rfl
  | k :: ks, ks', b :: bs, bs', s, h => by
    simp only [List.cons_append, foldF]
    cases step s k b with
    | none => rfl
    | some s' => exact foldF_append ks ks' bs bs' s' (by simpa using h)
theorem foldF_snoc {ks : List Nat} {bs : List (List UInt8)} {k : Nat} {b : List UInt8} {s s' : σ} (h : ks.length = bs.length) (hs : foldF step s ks bs = some s') : foldF step s (ks ++ [k]) (bs ++ [b]) = step s' k b := by
  rw [foldF_append step ks [k] bs [b] s h, hs]
  simp only [Option.bind_some, foldF]
  cases step s' k b <;> rfl
/-- what has failed stays so -/
theorem foldF_take_none {ks : List Nat} {bs : List (List UInt8)} {s : σ} (j : Nat) (h : ks.length = bs.length) (hn : foldF step s (ks.take j) (bs.take j) = none) : foldF step s ks bs = none := by
  have h2 := foldF_append step (ks.take j) (ks.drop j) (bs.take j) (bs.drop j) s (by simp [h])
  rw [List.take_append_drop, List.take_append_drop] at h2
  rw [h2, hn]; rfl
/-- the fold over what stands whole behind what was put before -/
theorem takeR_bd {r : List UInt8} (h : (takeR r).1 = 0) : 0 < (takeR r).2.2.2 := by have := (takeR_ok h).1; omega
theorem seqF_more (l : List UInt8) : ∀ (f f' k : Nat) (s : σ), l.length - k < f → l.length - k < f' → seqF step l f k s = seqF step l f' k s
  | 0, _, k, s, h, _ => absurd h (Nat.not_lt_zero _)
  | _ + 1, 0, k, s, _, h => absurd h (Nat.not_lt_zero _)
  | f + 1, f' + 1, k, s, h, h' => by
    unfold seqF
    by_cases h1 : k < l.length
    · rw [if_pos h1, if_pos h1]
      by_cases h2 : (takeR (l.drop k)).1 = 0
      · rw [if_pos h2, if_pos h2]
        have hb := takeR_bd h2
        cases step s (takeR (l.drop k)).2.1 (takeR (l.drop k)).2.2.1 with
        | none => rfl
        | some s' => exact seqF_more l f f' _ s' (by omega) (by omega)
      · rw [if_neg h2, if_neg h2]
    · rw [if_neg h1, if_neg h1]
end
theorem takeR_bl (r : List UInt8) : (takeR r).2.2.1.length ≤ r.length := by
  unfold takeR
  repeat' split
  all_goals first | exact Nat.zero_le _ | (simp only [List.length_take, List.length_drop]; omega)
theorem splitG_body (l : List UInt8) : ∀ (f k : Nat), ∀ b ∈ (splitG l f k [] []).2.1, b.length ≤ l.length
  | 0, k, b, hb => by simp [splitG] at hb
  | f + 1, k, b, hb => by
    unfold splitG at hb
    by_cases h1 : k < l.length
    · rw [if_pos h1] at hb
      by_cases h2 : (takeR (l.drop k)).1 = 0
      · rw [if_pos h2, splitG_acc l f] at hb
        simp only [List.nil_append, List.singleton_append, List.mem_cons] at hb
        rcases hb with e | hb
        · rw [e]
          have := takeR_bl (l.drop k)
          rw [List.length_drop] at this
          omega
        · exact splitG_body l f _ b hb
      · rw [if_neg h2] at hb; simp at hb
    · rw [if_neg h1] at hb; simp at hb
theorem splitL_body (l : List UInt8) : ∀ b ∈ (splitL l).2.1, b.length ≤ l.length := splitG_body l _ _
theorem splitG_lens (l : List UInt8) : ∀ (f k : Nat), (splitG l f k [] []).1.length = (splitG l f k [] []).2.1.length ∧ (splitG l f k [] []).1.length ≤ f
  | 0, k => by simp [splitG]
  | f + 1, k => by
    unfold splitG
    by_cases h1 : k < l.length
    · rw [if_pos h1]
      by_cases h2 : (takeR (l.drop k)).1 = 0
      · rw [if_pos h2, splitG_acc l f]
        have ih := splitG_lens l f (k + (takeR (l.drop k)).2.2.2)
        simp only [List.nil_append, List.singleton_append, List.length_cons]
        omega
      · rw [if_neg h2]; simp
    · rw [if_neg h1]; simp
theorem splitL_lens (l : List UInt8) : (splitL l).1.length = (splitL l).2.1.length ∧ (splitL l).1.length ≤ l.length + 1 := splitG_lens l _ _
end Go.Proofs.Ytokcaoaclheiiaa

/-
  The walks of edit.Views and edit.Replay.
-/
namespace Go.Proofs.Ytokcaoaclheiiaa
open Go.RowKit
set_option linter.unusedVariables false
set_option linter.unusedSimpArgs false

theorem keepsTE {X : Nat → Prop} {a b c : World} (h : Rg.Keeps X a b) (k : Rg.Keeps X b c) : Rg.Keeps X a c :=
  ⟨k.os.trans h.os, k.tape.trans h.tape, k.output.trans h.output, Nat.le_trans h.size k.size, fun j hj hx => (k.block j (Nat.lt_of_lt_of_le hj h.size) hx).trans (h.block j hj hx)⟩
theorem blk_upE {w w' : World} {g : Nat} {o : Obj} (hu : Up w w') (h : w.heap[g]? = some o) : w'.heap[g]? = some o := (hu.block _ (Array.getElem?_eq_some_iff.1 h).1).trans h
def applyE (v : VT) (e : ET) : Option VT := applyR v.1 v.2.1 v.2.2.1 v.2.2.2.1 v.2.2.2.2.1 v.2.2.2.2.2 e.1 e.2.1 e.2.2.1 e.2.2.2.1 e.2.2.2.2.1 e.2.2.2.2.2.1 e.2.2.2.2.2.2
/-- a view with one frame more -/
def stepV (v : VT) (k : Nat) (b : List UInt8) : Option VT := if k = 6 then (readE b).bind (applyE v) else none
theorem readE_len {bs : List UInt8} {x : ET} (h : readE bs = some x) : x.1.length ≤ 40 ∧ x.2.1.length ≤ 40 := by
  unfold readE at h
  simp only [] at h
  split at h
  · rename_i hc
    injection h with h
    subst h
    have hm := hc.2.2.2
    unfold mayE at hm
    simp only [Bool.and_eq_true, decide_eq_true_eq] at hm
    obtain ⟨h1, h2, -⟩ := hm
    exact ⟨h1, h2⟩
  · cases h
def v0 : VT := (0, [], 0, 0, 0, 0)
def viewsP (bs : List UInt8) : Option (VT × Nat × Nat) :=
  if ((splitL bs).2.2.2 ≠ 0 ∧ (splitL bs).2.2.2 ≠ 4) ∨ (splitL bs).2.1.length = 0 then none
  else (foldF stepV v0 (splitL bs).1 (splitL bs).2.1).map fun v => (v, (splitL bs).2.1.length, (splitL bs).2.2.1)
def vcs (v : VT) (A : Option Addr) (n c : Nat) : Array Value := #[.int .i64 v.1, .slice A n c, .int .u64 (v.2.2.1 : Int), .int .u64 (v.2.2.2.1 : Int), .int .u64 (v.2.2.2.2.1 : Int), .int .u64 (v.2.2.2.2.2 : Int)]
def ViewsPost (r : Option (VT × Nat × Nat)) (w : World) (e : Ending) (w' : World) : Prop :=
  match r with
  | none => e = .returned (.tuple #[.agg #[.int .i64 0, .slice none 0 0, .int .u64 0, .int .u64 0, .int .u64 0, .int .u64 0], .int .i64 0, .int .i64 0, .int .i64 9]) ∧ Up w w'
  | some x => ∃ R rn rc, e = .returned (.tuple #[.agg (vcs x.1 R rn rc), .int .i64 (x.2.1 : Int), .int .i64 (x.2.2 : Int), .int .i64 0]) ∧ Rd w' w'.heap.size 2 R rn (fvs x.1.2.1) ∧ rn ≤ rc ∧ rn ≤ 40 ∧ Up w w' ∧ ∀ a, R = some a → w.heap.size < a.block
/-- a view in a block of its own, and its files -/
structure VW (g : Nat) (v : VT) (A : Option Addr) (n c : Nat) (W : World) : Prop where
  blk : W.heap[g]? = some (.cells (vcs v A n c) 27 (0, 0))
  rd : Rd W W.heap.size 2 A n (fvs v.2.1)
  nc : n ≤ c
  le : n ≤ 40
  ne : ∀ a, A = some a → g < a.block
theorem VW.up {g : Nat} {v : VT} {A : Option Addr} {n c : Nat} {W W' : World} (h : VW g v A n c W) (hu : Up W W') : VW g v A n c W' := ⟨blk_upE hu h.blk, h.rd.up hu, h.nc, h.le, h.ne⟩
theorem viewOk_len {lg : Int} {l : List Fl} {f ce at_ le : Nat} (h : viewOk lg l f ce at_ le = true) : l.length ≤ 40 := (viewOk_iff lg l f ce at_ le).1 h |>.2.1
theorem applyE_len {v u : VT} {e : ET} (h : applyE v e = some u) : u.2.1.length ≤ 40 := by
  unfold applyE at h
  obtain ⟨lg, l, f, ce, at_, le⟩ := v
  obtain ⟨ds, add, elg, ef, ece, eat, ele⟩ := e
  have h2 : applyR lg l f ce at_ le ds add elg ef ece eat ele = some u := h
  unfold applyR at h2
  split at h2
  · cases h2
  · split at h2
    · rename_i hv
      injection h2 with h2
      subst h2
      exact viewOk_len hv
    · cases h2
set_option maxRecDepth 100000 in
set_option maxHeartbeats 6400000 in
theorem views_any (A : Option Addr) (n c : Nat) (bs : List UInt8) (w : World) (hr : Rd w w.heap.size 1 A n (bvs bs)) (hn : n ≤ 549755813888) (hnc : n ≤ c) :
    Calls Try.prog 48 #[.slice A n c] w (ViewsPost (viewsP bs) w) := by
  obtain ⟨w1, hw1⟩ : ∃ w1, w1 = w.alloc (.cells #[.int .i64 0, .slice none 0 0, .int .u64 0, .int .u64 0, .int .u64 0, .int .u64 0] 27) := ⟨_, rfl⟩
  have hup1 : Up w w1 := by rw [hw1]; exact (Up.refl w).alloc _
  have hg1 : w1.heap[w.heap.size]? = some (.cells #[.int .i64 0, .slice none 0 0, .int .u64 0, .int .u64 0, .int .u64 0, .int .u64 0] 27 (0, 0)) := by rw [hw1]; exact heap_alloc_new w _
  have hr1 := hr.up hup1
  have HW := Lib.hid hw1
  clear hw1 hr
  have hbl : bs.length = n := hr1.blen.symm
  have hbody := splitL_body bs
  have hlens := splitL_lens bs
  have hvp : viewsP bs = if ((splitL bs).2.2.2 ≠ 0 ∧ (splitL bs).2.2.2 ≠ 4) ∨ (splitL bs).2.1.length = 0 then none
      else (foldF stepV v0 (splitL bs).1 (splitL bs).2.1).map fun v => (v, (splitL bs).2.1.length, (splitL bs).2.2.1) := rfl
  have hsp := split_any A n c bs w1 hr1 hn hnc
  obtain ⟨ks, bd, en, er, hT⟩ : ∃ a b c d, splitL bs = (a, b, c, d) := ⟨_, _, _, _, rfl⟩
  rw [hT] at hbody hlens hvp hsp
  (try dsimp only at hbody hlens hvp hsp)
  rw [hbl] at hbody hlens
  have HVP := Lib.hid hvp
  have HSP := Lib.hid hsp
  have HBD := Lib.hid hbody
  have HLN := Lib.hid hlens
  clear hvp hsp hbody hlens hT hbl
  go_enter Try.func48, Try.ntmps48
  go_wp2_with fail
  rw [← HW.out]
  clear HW
  have hgw : w.heap.size ≤ w.heap.size := Nat.le_refl _
  generalize hg2 : w.heap.size = g2 at hg1 ⊢
  rw [hg2] at hgw
  have hgw : w.heap.size ≤ g2 := Nat.le_of_eq hg2
  clear hg2
  refine HSP.out.mono ?_
  rintro e w2 ⟨K, kn, kc, R, rn, rc, ps, rfl, hK, hR, hP, hu2⟩
  (try dsimp only at hK hR hP ⊢)
  have hg2b := blk_upE hu2 hg1
  have hup2 := hup1.trans hu2
  have hrn : rn = bd.length := by have h := hR.1; have h2 := congrArg List.length hP.1; rw [List.length_map] at h h2; omega
  have hkn : kn = ks.length := by have h := hK.1; unfold nvi at h; rw [List.length_map] at h; omega
  have hkr : kn = rn := by have := HLN.out.1; omega
  have hrb : rn ≤ n + 1 := by have := HLN.out.2; omega
  subst hkr
  have HRN := Lib.hid hrn
  have HKN := Lib.hid hkn
  have hlt := (Array.getElem?_eq_some_iff.1 hg1).1
  clear HSP hrn hkn hg1 hup1 hu2 hr1
  by_cases hbad : (er ≠ 0 ∧ er ≠ 4) ∨ bd.length = 0
  · have hbad2 : viewsP bs = none := by rw [HVP.out, if_pos hbad]
    have HBAD := Lib.hid hbad2
    have hrz := HRN.out
    clear hbad2 HVP HBD HLN hP
    by_cases hE : er ≠ 0 ∧ er ≠ 4
    · have d1 : ((er : Int) != 0) = true := by rw [bne_iff_ne]; omega
      have d2 : ((er : Int) != 4) = true := by rw [bne_iff_ne]; omega
      clear hbad hrz hE
      go_wp2_with (first
        | (with_reducible show wpList _ _ _ (⟨none, .store 27 _ _, _, _, _, none⟩ :: _) _ _
           refine wpList_store_all rfl 27 _ _ rfl (g := g2) (cells := #[.int .i64 0, .slice none 0 0, .int .u64 0, .int .u64 0, .int .u64 0, .int .u64 0]) rfl (by kernel_rfl) hg2b view_info6 rfl (by simp [Value.oneCell']) ?_
           intro w9 hgd hbut
           have hup9 := But.up hup2 hbut hgw
           clear hbut))
      have t0 := blk_cell hgd 0
      have t1 := blk_cell hgd 1
      have t2 := blk_cell hgd 2
      have t3 := blk_cell hgd 3
      have t4 := blk_cell hgd 4
      have t5 := blk_cell hgd 5
      refine bodyPost_ret (v := .tuple #[.agg #[.int .i64 0, .slice none 0 0, .int .u64 0, .int .u64 0, .int .u64 0, .int .u64 0], .int .i64 0, .int .i64 0, .int .i64 9]) (by simp [results, Try.results48, go_sem, t0, t1, t2, t3, t4, t5]) rfl ?_
      rw [HBAD.out]
      exact ⟨rfl, hup9⟩
    · have hz : kn = 0 := by rcases hbad with h | h; exact absurd h hE; omega
      subst hz
      clear hbad hrz
      by_cases hE0 : er = 0
      · have d1 : ((er : Int) != 0) = false := by rw [bne_eq_false_iff_eq]; omega
        clear hE hE0
        go_wp2_with (first
          | (with_reducible show wpList _ _ _ (⟨none, .store 27 _ _, _, _, _, none⟩ :: _) _ _
             refine wpList_store_all rfl 27 _ _ rfl (g := g2) (cells := #[.int .i64 0, .slice none 0 0, .int .u64 0, .int .u64 0, .int .u64 0, .int .u64 0]) rfl (by kernel_rfl) hg2b view_info6 rfl (by simp [Value.oneCell']) ?_
             intro w9 hgd hbut
             have hup9 := But.up hup2 hbut hgw
             clear hbut))
        have t0 := blk_cell hgd 0
        have t1 := blk_cell hgd 1
        have t2 := blk_cell hgd 2
        have t3 := blk_cell hgd 3
        have t4 := blk_cell hgd 4
        have t5 := blk_cell hgd 5
        refine bodyPost_ret (v := .tuple #[.agg #[.int .i64 0, .slice none 0 0, .int .u64 0, .int .u64 0, .int .u64 0, .int .u64 0], .int .i64 0, .int .i64 0, .int .i64 9]) (by simp [results, Try.results48, go_sem, t0, t1, t2, t3, t4, t5]) rfl ?_
        rw [HBAD.out]
        exact ⟨rfl, hup9⟩
      · have d1 : ((er : Int) != 0) = true := by rw [bne_iff_ne]; omega
        have d2 : ((er : Int) != 4) = false := by rw [bne_eq_false_iff_eq]; omega
        clear hE hE0
        go_wp2_with (first
          | (with_reducible show wpList _ _ _ (⟨none, .store 27 _ _, _, _, _, none⟩ :: _) _ _
             refine wpList_store_all rfl 27 _ _ rfl (g := g2) (cells := #[.int .i64 0, .slice none 0 0, .int .u64 0, .int .u64 0, .int .u64 0, .int .u64 0]) rfl (by kernel_rfl) hg2b view_info6 rfl (by simp [Value.oneCell']) ?_
             intro w9 hgd hbut
             have hup9 := But.up hup2 hbut hgw
             clear hbut))
        have t0 := blk_cell hgd 0
        have t1 := blk_cell hgd 1
        have t2 := blk_cell hgd 2
        have t3 := blk_cell hgd 3
        have t4 := blk_cell hgd 4
        have t5 := blk_cell hgd 5
        refine bodyPost_ret (v := .tuple #[.agg #[.int .i64 0, .slice none 0 0, .int .u64 0, .int .u64 0, .int .u64 0, .int .u64 0], .int .i64 0, .int .i64 0, .int .i64 9]) (by simp [results, Try.results48, go_sem, t0, t1, t2, t3, t4, t5]) rfl ?_
        rw [HBAD.out]
        exact ⟨rfl, hup9⟩
  · have hvp := HVP.out
    rw [if_neg hbad] at hvp
    have HV := Lib.hid hvp
    have hrz := HRN.out
    have hk0 : ¬ kn = 0 := by omega
    have hk1 : ((kn : Int) == 0) = false := by rw [beq_eq_false_iff_ne]; omega
    have hd : (((er : Int) != 0) = false) ∨ (((er : Int) != 0) = true ∧ ((er : Int) != 4) = false) := by
      by_cases h0 : er = 0
      · exact .inl (by rw [bne_eq_false_iff_eq]; omega)
      · exact .inr ⟨by rw [bne_iff_ne]; omega, by rw [bne_eq_false_iff_eq]; omega⟩
    clear hvp HVP hbad hrz
    go_upto_region 2 with fail
    go_cut [31] from 21 (fun s31 wc => s31 = .bool false ∧ wc = w2)
    case first =>
      rcases hd with d1 | ⟨d1, d2⟩
      · go_wp2_with fail
        go_meet
        case rel => exact ⟨rfl, rfl⟩
      · go_wp2_with fail
        go_meet
        case rel => exact ⟨rfl, rfl⟩
    obtain ⟨rfl, rfl⟩ := hcut
    go_wp2_with fail
    generalize wc = wq at *
    clear hd hk0 hk1
    go_loopw [4, 35] (fun ev i wr => ∃ (k : Nat) (v : VT) (A6 : Option Addr) (n6 c6 : Nat), i = .int .i64 (k : Int) ∧ ev = .int .i64 (en : Int) ∧ k ≤ kn ∧ VW g2 v A6 n6 c6 wr ∧ Hid (foldF stepV v0 (ks.take k) (bd.take k) = some v) ∧ Rg.Keeps (fun g => g = g2) wq wr) (fun _ i _ => kn - (intOf i).toNat)
    case atStart => exact ⟨0, v0, none, 0, 0, rfl, rfl, by omega, ⟨hg2b, Rd.empty, by omega, by omega, fun a ha => by cases ha⟩, rfl, Rg.Keeps.refl _ _⟩
    case round =>
      obtain ⟨k, v, A6, n6, c6, rfl, rfl, hk, hv, hfo, hKp⟩ := hrel
      have hupr := keepsUp hup2 hgw hKp
      obtain ⟨lg, l, f, ce, at_, le⟩ := v
      by_cases hkk : k < kn
      · have hK1 := own_keeps6 hK hlt hKp
        have hR1 := own_keeps6 hR hlt hKp
        have k1 : k < bd.length := by rw [← HRN.out]; exact hkk
        have k2 : k < ks.length := by rw [← HKN.out]; exact hkk
        have k3 : k < ps.length := by have h2 := congrArg List.length hP.1; rw [List.length_map] at h2; omega
        obtain ⟨bK, oK, rfl, hbK, hcK⟩ := (Rd.own hK1).2 (by omega)
        obtain ⟨bR, oR, rfl, hbR, hcR⟩ := (Rd.own hR1).2 (by omega)
        have e1 := hcK k (.int .i64 (ks[k] : Int)) (by unfold nvi; simp [k2])
        have e2 := hcR k ps[k].v (by rw [List.getElem?_map, List.getElem?_eq_getElem k3]; rfl)
        have ho : OwnB wr w1.heap.size ps[k].A ps[k].n ps[k].c ps[k].l := own_keeps6 (hP.2 ps[k] (List.getElem_mem _)) hlt hKp
        have hl : ps[k].l = bd[k] := by
          have h := congrArg (fun l => l[k]?) hP.1
          simp only [List.getElem?_map, List.getElem?_eq_getElem k3, List.getElem?_eq_getElem k1, Option.map_some] at h
          injection h
        have hbl := HBD.out bd[k] (List.getElem_mem _)
        have hst : foldF stepV v0 (ks.take (k + 1)) (bd.take (k + 1)) = stepV (lg, l, f, ce, at_, le) ks[k] bd[k] := by
          rw [List.take_succ_eq_append_getElem k2, List.take_succ_eq_append_getElem k1]
          exact foldF_snoc stepV (by simp; omega) hfo.out
        have hno : stepV (lg, l, f, ce, at_, le) ks[k] bd[k] = none → viewsP bs = none := fun h => by
          rw [HV.out, foldF_take_none stepV (k + 1) HLN.out.1 (hst.trans h)]; rfl
        rw [hl] at ho
        generalize ps[k] = p5 at *
        obtain ⟨pA, pn, pc, pl⟩ := p5
        simp only [Pt.v] at e2 ho
        generalize ks[k] = kk at *
        generalize bd[k] = bk at *
        have hrd := ho.rd
        have hpn := hrd.blen
        have hpc := own_cap ho
        have HNO := Lib.hid hno
        have HST := Lib.hid hst
        have hpb : pn ≤ 549755813888 := by omega
        clear hno hst hl hcK hcR k1 k2 k3 hK1 hR1 ho hbl hpn
        go_wp2_with fail
        refine (eread_any pA pn pc bk wr hrd hpb hpc).mono ?_
        intro e w3 hq
        have hsv : stepV (lg, l, f, ce, at_, le) kk bk = if kk = 6 then (readE bk).bind (applyE (lg, l, f, ce, at_, le)) else none := rfl
        have HSV := Lib.hid hsv
        clear hsv
        cases hre : readE bk with
        | none =>
          rw [hre] at hq
          obtain ⟨rfl, hu3⟩ := hq
          have hb := HNO.out (by rw [HSV.out, hre]; split <;> rfl)
          have HBAD := Lib.hid hb
          have hv3 := hv.up (hu3.trans ((Up.refl w3).alloc (.cells #[.slice none 0 0, .slice none 0 0, .int .i64 0, .int .u64 0, .int .u64 0, .int .u64 0, .int .u64 0] 32)))
          have hup3 := hupr.trans (hu3.trans ((Up.refl w3).alloc (.cells #[.slice none 0 0, .slice none 0 0, .int .i64 0, .int .u64 0, .int .u64 0, .int .u64 0, .int .u64 0] 32)))
          clear hb hre hv hupr hu3 e1 e2 hrd
          go_wp2_with (first
            | (with_reducible show wpList _ _ _ (⟨none, .store 27 _ _, _, _, _, none⟩ :: _) _ _
               refine wpList_store_all rfl 27 _ _ rfl (g := g2) (cells := #[.int .i64 0, .slice none 0 0, .int .u64 0, .int .u64 0, .int .u64 0, .int .u64 0]) rfl (by kernel_rfl) hv3.blk view_info6 rfl (by simp [Value.oneCell']) ?_
               intro w9 hgd hbut
               have hup9 := But.up hup3 hbut hgw
               clear hbut))
          have t0 := blk_cell hgd 0
          have t1 := blk_cell hgd 1
          have t2 := blk_cell hgd 2
          have t3 := blk_cell hgd 3
          have t4 := blk_cell hgd 4
          have t5 := blk_cell hgd 5
          refine bodyPost_ret (v := .tuple #[.agg #[.int .i64 0, .slice none 0 0, .int .u64 0, .int .u64 0, .int .u64 0, .int .u64 0], .int .i64 0, .int .i64 0, .int .i64 9]) (by simp [results, Try.results48, go_sem, t0, t1, t2, t3, t4, t5]) rfl ?_
          rw [HBAD.out]
          exact ⟨rfl, hup9⟩
        | some x =>
          obtain ⟨ds, add, elg, ef, ece, eat, ele⟩ := x
          rw [hre] at hq
          obtain ⟨D, dn, dc, A5, an, ac, rfl, hD, hdc, hA5, hac, hu3⟩ := hq
          (try dsimp only at hD hA5)
          have hub : Up w3 (w3.alloc (.cells #[.slice D dn dc, .slice A5 an ac, .int .i64 elg, .int .u64 (ef : Int), .int .u64 (ece : Int), .int .u64 (eat : Int), .int .u64 (ele : Int)] 32)) := (Up.refl w3).alloc _
          have hv3 := hv.up (hu3.trans hub)
          have hup3 := hupr.trans (hu3.trans hub)
          have e1 := ((hu3.trans hub).cell (p := ⟨bK, oK + k, none⟩) hbK).trans e1
          by_cases hk6 : kk = 6
          · have d6 : ((kk : Int) != 6) = false := by rw [bne_eq_false_iff_eq]; omega
            have hsv2 : stepV (lg, l, f, ce, at_, le) kk bk = applyR lg l f ce at_ le ds add elg ef ece eat ele := by rw [HSV.out, if_pos hk6, hre]; rfl
            have HSV2 := Lib.hid hsv2
            have he4 : (w3.alloc (.cells #[.slice D dn dc, .slice A5 an ac, .int .i64 elg, .int .u64 (ef : Int), .int .u64 (ece : Int), .int .u64 (eat : Int), .int .u64 (ele : Int)] 32)).heap[w3.heap.size]? = some (.cells #[.slice D dn dc, .slice A5 an ac, .int .i64 elg, .int .u64 (ef : Int), .int .u64 (ece : Int), .int .u64 (eat : Int), .int .u64 (ele : Int)] 32 (0, 0)) := heap_alloc_new w3 _
            have hD4 := hD.up hub
            have hA54 := hA5.up hub
            obtain ⟨hl1, hl2⟩ := readE_len hre
            (try dsimp only at hl1 hl2)
            clear hsv2 hre hv hupr e2 hrd hD hA5 hk6
            have t0 : ((w3.alloc (.cells #[.slice D dn dc, .slice A5 an ac, .int .i64 elg, .int .u64 (ef : Int), .int .u64 (ece : Int), .int .u64 (eat : Int), .int .u64 (ele : Int)] 32))).cell? ⟨g2, 0, none⟩ = some (.int .i64 lg) := blk_cell hv3.blk 0
            have t1 : ((w3.alloc (.cells #[.slice D dn dc, .slice A5 an ac, .int .i64 elg, .int .u64 (ef : Int), .int .u64 (ece : Int), .int .u64 (eat : Int), .int .u64 (ele : Int)] 32))).cell? ⟨g2, 1, none⟩ = some (.slice A6 n6 c6) := blk_cell hv3.blk 1
            have t2 : ((w3.alloc (.cells #[.slice D dn dc, .slice A5 an ac, .int .i64 elg, .int .u64 (ef : Int), .int .u64 (ece : Int), .int .u64 (eat : Int), .int .u64 (ele : Int)] 32))).cell? ⟨g2, 2, none⟩ = some (.int .u64 (f : Int)) := blk_cell hv3.blk 2
            have t3 : ((w3.alloc (.cells #[.slice D dn dc, .slice A5 an ac, .int .i64 elg, .int .u64 (ef : Int), .int .u64 (ece : Int), .int .u64 (eat : Int), .int .u64 (ele : Int)] 32))).cell? ⟨g2, 3, none⟩ = some (.int .u64 (ce : Int)) := blk_cell hv3.blk 3
            have t4 : ((w3.alloc (.cells #[.slice D dn dc, .slice A5 an ac, .int .i64 elg, .int .u64 (ef : Int), .int .u64 (ece : Int), .int .u64 (eat : Int), .int .u64 (ele : Int)] 32))).cell? ⟨g2, 4, none⟩ = some (.int .u64 (at_ : Int)) := blk_cell hv3.blk 4
            have t5 : ((w3.alloc (.cells #[.slice D dn dc, .slice A5 an ac, .int .i64 elg, .int .u64 (ef : Int), .int .u64 (ece : Int), .int .u64 (eat : Int), .int .u64 (ele : Int)] 32))).cell? ⟨g2, 5, none⟩ = some (.int .u64 (le : Int)) := blk_cell hv3.blk 5
            have u0 : (w3.alloc (.cells #[.slice D dn dc, .slice A5 an ac, .int .i64 elg, .int .u64 (ef : Int), .int .u64 (ece : Int), .int .u64 (eat : Int), .int .u64 (ele : Int)] 32)).cell? ⟨w3.heap.size, 0, none⟩ = some (.slice D dn dc) := blk_cell he4 0
            have u1 : (w3.alloc (.cells #[.slice D dn dc, .slice A5 an ac, .int .i64 elg, .int .u64 (ef : Int), .int .u64 (ece : Int), .int .u64 (eat : Int), .int .u64 (ele : Int)] 32)).cell? ⟨w3.heap.size, 1, none⟩ = some (.slice A5 an ac) := blk_cell he4 1
            have u2 : (w3.alloc (.cells #[.slice D dn dc, .slice A5 an ac, .int .i64 elg, .int .u64 (ef : Int), .int .u64 (ece : Int), .int .u64 (eat : Int), .int .u64 (ele : Int)] 32)).cell? ⟨w3.heap.size, 2, none⟩ = some (.int .i64 elg) := blk_cell he4 2
            have u3 : (w3.alloc (.cells #[.slice D dn dc, .slice A5 an ac, .int .i64 elg, .int .u64 (ef : Int), .int .u64 (ece : Int), .int .u64 (eat : Int), .int .u64 (ele : Int)] 32)).cell? ⟨w3.heap.size, 3, none⟩ = some (.int .u64 (ef : Int)) := blk_cell he4 3
            have u4 : (w3.alloc (.cells #[.slice D dn dc, .slice A5 an ac, .int .i64 elg, .int .u64 (ef : Int), .int .u64 (ece : Int), .int .u64 (eat : Int), .int .u64 (ele : Int)] 32)).cell? ⟨w3.heap.size, 4, none⟩ = some (.int .u64 (ece : Int)) := blk_cell he4 4
            have u5 : (w3.alloc (.cells #[.slice D dn dc, .slice A5 an ac, .int .i64 elg, .int .u64 (ef : Int), .int .u64 (ece : Int), .int .u64 (eat : Int), .int .u64 (ele : Int)] 32)).cell? ⟨w3.heap.size, 5, none⟩ = some (.int .u64 (eat : Int)) := blk_cell he4 5
            have u6 : (w3.alloc (.cells #[.slice D dn dc, .slice A5 an ac, .int .i64 elg, .int .u64 (ef : Int), .int .u64 (ece : Int), .int .u64 (eat : Int), .int .u64 (ele : Int)] 32)).cell? ⟨w3.heap.size, 6, none⟩ = some (.int .u64 (ele : Int)) := blk_cell he4 6
            have hu34 := hu3.trans hub
            go_wp2_with fail
            clear t0 t1 t2 t3 t4 t5 u0 u1 u2 u3 u4 u5 u6 he4 e1 hub hu3
            generalize (w3.alloc (.cells #[.slice D dn dc, .slice A5 an ac, .int .i64 elg, .int .u64 (ef : Int), .int .u64 (ece : Int), .int .u64 (eat : Int), .int .u64 (ele : Int)] 32)) = w4 at *
            generalize w3.heap.size = g3 at *
            refine (apply_any lg A6 n6 c6 l f ce at_ le D dn dc ds A5 an ac add elg ef ece eat ele w4 hv3.rd (by have := hv3.le; omega) hD4 (by have := hD4.1; rw [nmv_len] at this; omega) hA54 (by have := hA54.flen; omega)).mono ?_
            intro e w5 ha
            cases hap : applyR lg l f ce at_ le ds add elg ef ece eat ele with
            | none =>
              rw [hap] at ha
              obtain ⟨rfl, hu5⟩ := ha
              have hb := HNO.out (HSV2.out.trans hap)
              have HBAD := Lib.hid hb
              have hv5 := hv3.up (hu5.trans ((Up.refl w5).alloc (.cells #[.int .i64 0, .slice none 0 0, .int .u64 0, .int .u64 0, .int .u64 0, .int .u64 0] 27)))
              have hup5 := hup3.trans (hu5.trans ((Up.refl w5).alloc (.cells #[.int .i64 0, .slice none 0 0, .int .u64 0, .int .u64 0, .int .u64 0, .int .u64 0] 27)))
              clear hb hap hv3 hup3 hu5
              go_wp2_with (first
                | (with_reducible show wpList _ _ _ (⟨none, .store 27 _ _, _, _, _, none⟩ :: _) _ _
                   refine wpList_store_all rfl 27 _ _ rfl (g := g2) (cells := #[.int .i64 0, .slice none 0 0, .int .u64 0, .int .u64 0, .int .u64 0, .int .u64 0]) rfl (by kernel_rfl) hv5.blk view_info6 rfl (by simp [Value.oneCell']) ?_
                   intro w9 hgd hbut
                   have hup9 := But.up hup5 hbut hgw
                   clear hbut))
              have t0 := blk_cell hgd 0
              have t1 := blk_cell hgd 1
              have t2 := blk_cell hgd 2
              have t3 := blk_cell hgd 3
              have t4 := blk_cell hgd 4
              have t5 := blk_cell hgd 5
              refine bodyPost_ret (v := .tuple #[.agg #[.int .i64 0, .slice none 0 0, .int .u64 0, .int .u64 0, .int .u64 0, .int .u64 0], .int .i64 0, .int .i64 0, .int .i64 9]) (by simp [results, Try.results48, go_sem, t0, t1, t2, t3, t4, t5]) rfl ?_
              rw [HBAD.out]
              exact ⟨rfl, hup9⟩
            | some u =>
              have hlen : u.2.1.length ≤ 40 := applyE_len (v := (lg, l, f, ce, at_, le)) (e := (ds, add, elg, ef, ece, eat, ele)) hap
              rw [hap] at ha
              obtain ⟨R6, rn6, rfl, hR6, hu5, hfr⟩ := ha
              have hs2 := HST.out.trans (HSV2.out.trans hap)
              have HS2 := Lib.hid hs2
              obtain ⟨ulg, ul, uf, uce, uat, ule⟩ := u
              (try dsimp only at hR6 hlen ⊢)
              obtain ⟨w6, hw6⟩ : ∃ w6, w6 = w5.alloc (.cells #[.int .i64 ulg, .slice R6 rn6 rn6, .int .u64 (uf : Int), .int .u64 (uce : Int), .int .u64 (uat : Int), .int .u64 (ule : Int)] 27) := ⟨_, rfl⟩
              have hub6 : Up w5 w6 := by rw [hw6]; exact (Up.refl w5).alloc _
              have hb6 : w6.heap[w5.heap.size]? = some (.cells #[.int .i64 ulg, .slice R6 rn6 rn6, .int .u64 (uf : Int), .int .u64 (uce : Int), .int .u64 (uat : Int), .int .u64 (ule : Int)] 27 (0, 0)) := by rw [hw6]; exact heap_alloc_new w5 _
              have hv6 := hv3.up (hu5.trans hub6)
              have hup6 := hup3.trans (hu5.trans hub6)
              have hu36 := hu34.trans (hu5.trans hub6)
              have hR66 := hR6.up hub6
              have hgl : g2 < w4.heap.size := (Array.getElem?_eq_some_iff.1 hv3.blk).1
              have hne6 : ∀ a, R6 = some a → g2 < a.block := fun a ha => by have := hfr a ha; omega
              have q0 : w6.cell? ⟨w5.heap.size, 0, none⟩ = some (.int .i64 ulg) := blk_cell hb6 0
              have q1 : w6.cell? ⟨w5.heap.size, 1, none⟩ = some (.slice R6 rn6 rn6) := blk_cell hb6 1
              have q2 : w6.cell? ⟨w5.heap.size, 2, none⟩ = some (.int .u64 (uf : Int)) := blk_cell hb6 2
              have q3 : w6.cell? ⟨w5.heap.size, 3, none⟩ = some (.int .u64 (uce : Int)) := blk_cell hb6 3
              have q4 : w6.cell? ⟨w5.heap.size, 4, none⟩ = some (.int .u64 (uat : Int)) := blk_cell hb6 4
              have q5 : w6.cell? ⟨w5.heap.size, 5, none⟩ = some (.int .u64 (ule : Int)) := blk_cell hb6 5
              have HW6 := Lib.hid hw6
              clear hw6 hb6 hub6 hv3 hR6 hfr hap hs2 hD4 hA54 HNO HSV HSV2
              go_wp2_with (first
                | (with_reducible show wpList _ _ _ (⟨none, .store 27 _ _, _, _, _, none⟩ :: _) _ _
                   rw [← HW6.out]
                   refine wpList_store_all rfl 27 _ _ rfl (g := g2) (cells := #[.int .i64 ulg, .slice R6 rn6 rn6, .int .u64 (uf : Int), .int .u64 (uce : Int), .int .u64 (uat : Int), .int .u64 (ule : Int)]) rfl (by kernel_rfl) hv6.blk view_info6 rfl (by simp [Value.oneCell']) ?_
                   intro w9 hgd hbut))
              have hv9 : VW g2 (ulg, ul, uf, uce, uat, ule) R6 rn6 rn6 w9 := ⟨hgd, Rd.keepsNe hR66 (Nat.le_refl _) (fun a ha => by have := hne6 a ha; omega) hbut, Nat.le_refl _, by have := hR66.flen; omega, hne6⟩
              have hK9 : Rg.Keeps (fun g => g = g2) wq w9 := keepsTE hKp (keepsTE (Rg.Keeps.of_up hu36) hbut)
              go_roundw
              case rel => exact ⟨k + 1, (ulg, ul, uf, uce, uat, ule), R6, rn6, rn6, by go_num, rfl, by omega, hv9, HS2.out, hK9⟩
              case measure => simp [intOf] <;> omega
          · have d6 : ((kk : Int) != 6) = true := by rw [bne_iff_ne]; omega
            have hb := HNO.out (by rw [HSV.out, if_neg hk6])
            have HBAD := Lib.hid hb
            clear hb hre hv hupr hu3 e2 hrd hD hA5 hk6
            go_wp2_with (first
              | (with_reducible show wpList _ _ _ (⟨none, .store 27 _ _, _, _, _, none⟩ :: _) _ _
                 refine wpList_store_all rfl 27 _ _ rfl (g := g2) (cells := #[.int .i64 0, .slice none 0 0, .int .u64 0, .int .u64 0, .int .u64 0, .int .u64 0]) rfl (by kernel_rfl) hv3.blk view_info6 rfl (by simp [Value.oneCell']) ?_
                 intro w9 hgd hbut
                 have hup9 := But.up hup3 hbut hgw
                 clear hbut))
            have t0 := blk_cell hgd 0
            have t1 := blk_cell hgd 1
            have t2 := blk_cell hgd 2
            have t3 := blk_cell hgd 3
            have t4 := blk_cell hgd 4
            have t5 := blk_cell hgd 5
            refine bodyPost_ret (v := .tuple #[.agg #[.int .i64 0, .slice none 0 0, .int .u64 0, .int .u64 0, .int .u64 0, .int .u64 0], .int .i64 0, .int .i64 0, .int .i64 9]) (by simp [results, Try.results48, go_sem, t0, t1, t2, t3, t4, t5]) rfl ?_
            rw [HBAD.out]
            exact ⟨rfl, hup9⟩
      · have hke : k = kn := by omega
        subst hke
        have hf2 : foldF stepV v0 ks bd = some (lg, l, f, ce, at_, le) := by
          have h := hfo.out
          rw [List.take_of_length_le (by have := HKN.out; omega), List.take_of_length_le (by have := HRN.out; omega)] at h
          exact h
        have hres : viewsP bs = some ((lg, l, f, ce, at_, le), k, en) := by rw [HV.out, hf2, ← HRN.out]; rfl
        have HRES := Lib.hid hres
        have hcells : wr.heap[g2]? = some (.cells #[.int .i64 lg, .slice A6 n6 c6, .int .u64 (f : Int), .int .u64 (ce : Int), .int .u64 (at_ : Int), .int .u64 (le : Int)] 27 (0, 0)) := hv.blk
        have hnc6 := hv.nc
        have hle6 := hv.le
        have hrd6 := hv.rd
        have hne6 := hv.ne
        clear hf2 hres hfo hKp HV HBD HLN HRN HKN
        have t0 : (wr).cell? ⟨g2, 0, none⟩ = some (.int .i64 lg) := blk_cell hcells 0
        have t1 : (wr).cell? ⟨g2, 1, none⟩ = some (.slice A6 n6 c6) := blk_cell hcells 1
        have t2 : (wr).cell? ⟨g2, 2, none⟩ = some (.int .u64 (f : Int)) := blk_cell hcells 2
        have t3 : (wr).cell? ⟨g2, 3, none⟩ = some (.int .u64 (ce : Int)) := blk_cell hcells 3
        have t4 : (wr).cell? ⟨g2, 4, none⟩ = some (.int .u64 (at_ : Int)) := blk_cell hcells 4
        have t5 : (wr).cell? ⟨g2, 5, none⟩ = some (.int .u64 (le : Int)) := blk_cell hcells 5
        go_wp2_with (first
          | (with_reducible show wpList _ _ _ (⟨none, .store 27 _ _, _, _, _, none⟩ :: _) _ _
             refine wpList_store_all rfl 27 _ _ rfl (g := g2) (cells := #[.int .i64 lg, .slice A6 n6 c6, .int .u64 (f : Int), .int .u64 (ce : Int), .int .u64 (at_ : Int), .int .u64 (le : Int)]) rfl (by kernel_rfl) hcells view_info6 rfl (by simp [Value.oneCell']) ?_
             intro w9 hgd hbut))
        clear t0 t1 t2 t3 t4 t5
        have hup9 := But.up hupr hbut hgw
        have t0 : (w9).cell? ⟨g2, 0, none⟩ = some (.int .i64 lg) := blk_cell hgd 0
        have t1 : (w9).cell? ⟨g2, 1, none⟩ = some (.slice A6 n6 c6) := blk_cell hgd 1
        have t2 : (w9).cell? ⟨g2, 2, none⟩ = some (.int .u64 (f : Int)) := blk_cell hgd 2
        have t3 : (w9).cell? ⟨g2, 3, none⟩ = some (.int .u64 (ce : Int)) := blk_cell hgd 3
        have t4 : (w9).cell? ⟨g2, 4, none⟩ = some (.int .u64 (at_ : Int)) := blk_cell hgd 4
        have t5 : (w9).cell? ⟨g2, 5, none⟩ = some (.int .u64 (le : Int)) := blk_cell hgd 5
        refine bodyPost_ret (v := .tuple #[.agg #[.int .i64 lg, .slice A6 n6 c6, .int .u64 (f : Int), .int .u64 (ce : Int), .int .u64 (at_ : Int), .int .u64 (le : Int)], .int .i64 (k : Int), .int .i64 (en : Int), .int .i64 0]) (by simp [results, Try.results48, go_sem, t0, t1, t2, t3, t4, t5]) rfl ?_
        rw [HRES.out]
        exact ⟨A6, n6, c6, rfl, Rd.keepsNe hrd6 (Nat.le_refl _) (fun a ha => by have := hne6 a ha; omega) hbut, hnc6, hle6, hup9, fun a ha => by have := hne6 a ha; omega⟩
def replP (bs : List UInt8) : Option (VT × Nat) := (viewsP bs).map fun x => (x.1, x.2.2)
def ReplPost (r : Option (VT × Nat)) (w : World) (e : Ending) (w' : World) : Prop :=
  match r with
  | none => e = .returned (.tuple #[.agg #[.int .i64 0, .slice none 0 0, .int .u64 0, .int .u64 0, .int .u64 0, .int .u64 0], .int .i64 0, .int .i64 9]) ∧ Up w w'
  | some x => ∃ R rn rc, e = .returned (.tuple #[.agg (vcs x.1 R rn rc), .int .i64 (x.2 : Int), .int .i64 0]) ∧ Rd w' w'.heap.size 2 R rn (fvs x.1.2.1) ∧ rn ≤ rc ∧ rn ≤ 40 ∧ Up w w'
set_option maxRecDepth 100000 in
set_option maxHeartbeats 1600000 in
theorem replay_any (A : Option Addr) (n c : Nat) (bs : List UInt8) (w : World) (hr : Rd w w.heap.size 1 A n (bvs bs)) (hn : n ≤ 549755813888) (hnc : n ≤ c) :
    Calls Try.prog 24 #[.slice A n c] w (ReplPost (replP bs) w) := by
  obtain ⟨w1, hw1⟩ : ∃ w1, w1 = w.alloc (.cells #[.int .i64 0, .slice none 0 0, .int .u64 0, .int .u64 0, .int .u64 0, .int .u64 0] 27) := ⟨_, rfl⟩
  have hup1 : Up w w1 := by rw [hw1]; exact (Up.refl w).alloc _
  have hg1 : w1.heap[w.heap.size]? = some (.cells #[.int .i64 0, .slice none 0 0, .int .u64 0, .int .u64 0, .int .u64 0, .int .u64 0] 27 (0, 0)) := by rw [hw1]; exact heap_alloc_new w _
  have hr1 := hr.up hup1
  have HW := Lib.hid hw1
  clear hw1 hr
  go_enter Try.func24, Try.ntmps24
  go_wp2_with fail
  rw [← HW.out]
  clear HW
  have hgw : w.heap.size ≤ w.heap.size := Nat.le_refl _
  generalize hg2 : w.heap.size = g2 at hg1 ⊢
  have hgw : w.heap.size ≤ g2 := Nat.le_of_eq hg2
  clear hg2
  refine (views_any A n c bs w1 hr1 hn hnc).mono ?_
  intro e w2 hv
  cases hvp : viewsP bs with
  | none =>
    rw [hvp] at hv
    obtain ⟨rfl, hu2⟩ := hv
    have hb2 := blk_upE hu2 hg1
    have hup2 := hup1.trans hu2
    have HR : Hid (replP bs = none) := by show _ = _; unfold replP; rw [hvp]; rfl
    clear hvp hg1 hu2
    go_wp2_with (first
      | (with_reducible show wpList _ _ _ (⟨none, .store 27 _ _, _, _, _, none⟩ :: _) _ _
         refine wpList_store_all rfl 27 _ _ rfl (g := g2) (cells := #[.int .i64 0, .slice none 0 0, .int .u64 0, .int .u64 0, .int .u64 0, .int .u64 0]) rfl (by kernel_rfl) hb2 view_info6 rfl (by simp [Value.oneCell']) ?_
         intro w8 hg8 hbut8
         have e0 := blk_cell hg8 0
         have e1 := blk_cell hg8 1
         have e2 := blk_cell hg8 2
         have e3 := blk_cell hg8 3
         have e4 := blk_cell hg8 4
         have e5 := blk_cell hg8 5)
      | (with_reducible show wpList _ _ _ (⟨none, .store 27 _ _, _, _, _, none⟩ :: _) _ _
         refine wpList_store_all rfl 27 _ _ rfl (g := g2) (cells := #[.int .i64 0, .slice none 0 0, .int .u64 0, .int .u64 0, .int .u64 0, .int .u64 0]) rfl (by kernel_rfl) hg8 view_info6 rfl (by simp [Value.oneCell']) ?_
         intro w9 hgd hbut9))
    have hup9 := But.up (But.up hup2 hbut8 hgw) hbut9 hgw
    have t0 := blk_cell hgd 0
    have t1 := blk_cell hgd 1
    have t2 := blk_cell hgd 2
    have t3 := blk_cell hgd 3
    have t4 := blk_cell hgd 4
    have t5 := blk_cell hgd 5
    refine bodyPost_ret (v := .tuple #[.agg #[.int .i64 0, .slice none 0 0, .int .u64 0, .int .u64 0, .int .u64 0, .int .u64 0], .int .i64 0, .int .i64 9]) (by simp [results, Try.results24, go_sem, t0, t1, t2, t3, t4, t5]) rfl ?_
    rw [HR.out]
    exact ⟨rfl, hup9⟩
  | some x =>
    obtain ⟨⟨lg, l, f, ce, at_, le⟩, nn, en⟩ := x
    rw [hvp] at hv
    obtain ⟨R, rn, rc, rfl, hR, hrc, hr40, hu2, hfr⟩ := hv
    (try dsimp only at hR)
    have hb2 := blk_upE hu2 hg1
    have hup2 := hup1.trans hu2
    have hgl := (Array.getElem?_eq_some_iff.1 hg1).1
    have HR : Hid (replP bs = some ((lg, l, f, ce, at_, le), en)) := by show _ = _; unfold replP; rw [hvp]; rfl
    have hne : ∀ a, R = some a → a.block ≠ g2 := fun a ha => by have := hfr a ha; omega
    clear hvp hg1 hu2
    show _
    go_wp2_with (first
      | (with_reducible show wpList _ _ _ (⟨none, .store 27 _ _, _, _, _, none⟩ :: _) _ _
         refine wpList_store_all rfl 27 _ _ rfl (g := g2) (cells := #[.int .i64 lg, .slice R rn rc, .int .u64 (f : Int), .int .u64 (ce : Int), .int .u64 (at_ : Int), .int .u64 (le : Int)]) rfl (by kernel_rfl) hb2 view_info6 rfl (by simp [Value.oneCell']) ?_
         intro w8 hg8 hbut8
         have e0 := blk_cell hg8 0
         have e1 := blk_cell hg8 1
         have e2 := blk_cell hg8 2
         have e3 := blk_cell hg8 3
         have e4 := blk_cell hg8 4
         have e5 := blk_cell hg8 5)
      | (with_reducible show wpList _ _ _ (⟨none, .store 27 _ _, _, _, _, none⟩ :: _) _ _
         refine wpList_store_all rfl 27 _ _ rfl (g := g2) (cells := #[.int .i64 lg, .slice R rn rc, .int .u64 (f : Int), .int .u64 (ce : Int), .int .u64 (at_ : Int), .int .u64 (le : Int)]) rfl (by kernel_rfl) hg8 view_info6 rfl (by simp [Value.oneCell']) ?_
         intro w9 hgd hbut9))
    have hup9 := But.up (But.up hup2 hbut8 hgw) hbut9 hgw
    have t0 := blk_cell hgd 0
    have t1 := blk_cell hgd 1
    have t2 := blk_cell hgd 2
    have t3 := blk_cell hgd 3
    have t4 := blk_cell hgd 4
    have t5 := blk_cell hgd 5
    refine bodyPost_ret (v := .tuple #[.agg #[.int .i64 lg, .slice R rn rc, .int .u64 (f : Int), .int .u64 (ce : Int), .int .u64 (at_ : Int), .int .u64 (le : Int)], .int .i64 (en : Int), .int .i64 0]) (by simp [results, Try.results24, go_sem, t0, t1, t2, t3, t4, t5]) rfl ?_
    rw [HR.out]
    exact ⟨R, rn, rc, rfl, Rd.keepsNe (Rd.keepsNe hR (Nat.le_refl _) hne hbut8) (Nat.le_refl _) hne hbut9, hrc, hr40, hup9⟩
end Go.Proofs.Ytokcaoaclheiiaa

/-
  The walk of the document's answer for lists of numbers: Unlist.
-/
namespace Go.Proofs.Ytokcaoaclheiiaa
open Go.RowKit
set_option linter.unusedVariables false

theorem ext_str {s : ByteArray} {l : List UInt8} (hs : s.data.toList = l) (a : Nat) : (s.extract a s.size).data.toList = l.drop a := by
  subst hs
  rw [ByteArray.data_extract, Array.toList_extract, List.extract_eq_take_drop]
  exact List.take_of_length_le (by rw [List.length_drop, Array.length_toList]; exact Nat.le_refl _)

set_option maxRecDepth 100000 in
set_option maxHeartbeats 1600000 in
theorem runlist_any (s : ByteArray) (bs : List UInt8) (most : Int) (w : World) (hs : s.data.toList = bs) (hn : s.size ≤ 1099511627776)
    (hm1 : -9223372036854775808 ≤ most) (hm2 : most ≤ 9223372036854775807) :
    Calls Try.prog 43 #[.string s, .int .i64 most] w fun e w' => ∃ A' n' c', e = .returned (.tuple #[.slice A' n' c', .int .i64 ((unlistL bs most).2.1 : Int), .int .i64 ((unlistL bs most).2.2 : Int)]) ∧ OwnQ w' w.heap.size A' n' c' (unlistL bs most).1 ∧ Up w w' := by
  have hl := size_str hs
  have HS := Lib.hid hs
  have HL := Lib.hid hl
  clear hl hs
  have hq0 : ∀ w0, OwnQ w0 w.heap.size none 0 0 [] := fun w0 => World.ownsRow_nil _ _ _ _
  have HQ0 := Lib.hid hq0
  clear hq0
  obtain ⟨x, at_, er, ht⟩ : ∃ x a e, takeL bs = (x, a, e) := ⟨_, _, _, rfl⟩
  have hu : unlistL bs most = if er ≠ 0 then ([], 0, er) else if (if most < 0 then 0 else most) < (x : Int) then ([], 0, 2) else unGo x bs at_ [] := by unfold unlistL; rw [ht]
  have HU := Lib.hid hu
  have HT := Lib.hid ht
  clear hu ht
  go_enter Try.func43, Try.ntmps43
  go_wp2_with fail
  refine (rtake_any s bs w HS.out (by omega)).mono ?_
  rintro e w1 ⟨rfl, rfl⟩
  rw [HT.out]
  by_cases he : er = 0
  · subst he
    have ⟨hx, ha1, ha2, ha3⟩ : x < 18446744073709551616 ∧ 1 ≤ at_ ∧ at_ ≤ bs.length ∧ at_ ≤ 10 := by have := takeL_ok (l := bs) (by rw [HT.out]); rw [HT.out] at this; exact this
    by_cases hbig : (if most < 0 then 0 else most) < (x : Int)
    · have HF : Hid (unlistL bs most = ([], 0, 2)) := by show _ = _; rw [HU.out, if_neg (by simp), if_pos hbig]
      clear HU
      by_cases hm0 : most < 0
      all_goals
        simp only [hm0, if_true, if_false] at hbig
        go_wp2_with fail
        go_ret3
        rw [HF.out]
        exact ⟨none, 0, 0, rfl, HQ0.out _, Up.refl _⟩
    · have HF : Hid (unGo x bs at_ [] = unlistL bs most) := by show _ = _; rw [HU.out, if_neg (by simp), if_neg hbig]
      clear HU
      by_cases hm0 : most < 0
      all_goals
        simp only [hm0, if_true, if_false] at hbig
        have hxi : (x : Int) ≤ 18446744073709551615 := by omega
        clear hx
        go_wp2_with fail
        go_loopw [8, 10, 11] (fun p v i wr => ∃ (k at_ : Nat) (Q : Option Addr) (m d : Nat) (acc : List UInt64), i = .int .u64 (k : Int) ∧ p = .int .i64 (at_ : Int) ∧ v = .slice Q m d ∧ k ≤ x ∧ at_ ≤ s.size ∧ m ≤ at_ ∧ OwnQ wr w.heap.size Q m d acc ∧ Up w wr ∧ Hid (unGo (x - k) bs at_ acc = unlistL bs most))
          (fun _ _ i _ => x - (intOf i).toNat)
        case atStart => exact ⟨0, at_, none, 0, 0, [], rfl, rfl, rfl, by omega, by have := HL.out; omega, by omega, HQ0.out _, Up.refl _, HF.out⟩
        case round =>
          clear HF
          obtain ⟨k, at_, Q, m, d, acc, rfl, rfl, rfl, hk, hat, hm, hown, hu, hun⟩ := hrel
          by_cases hlt : k < x
          · try (exfalso; omega)
            all_goals
              have hex := ext_str HS.out at_
              have HE := Lib.hid hex
              clear hex
              go_wp2_with fail
              refine (rtake_any _ (bs.drop at_) wr HE.out (by simp [ByteArray.size_extract]; omega)).mono ?_
              rintro e w2 ⟨rfl, rfl⟩
              have htk : ∃ y s e2, takeL (bs.drop at_) = (y, s, e2) := ⟨_, _, _, rfl⟩
              obtain ⟨y, sz, e2, htk⟩ := htk
              rw [htk]
              have hun' : Hid (unlistL bs most = if e2 = 0 then unGo (x - k - 1) bs (at_ + sz) (acc ++ [UInt64.ofNat y]) else ([], 0, e2)) := by
                show _ = _
                rw [← hun.out, show x - k = (x - k - 1) + 1 by omega, unGo, htk]
                simp
              clear hun
              by_cases he : e2 = 0
              · subst he
                have ⟨hy, hs1, hs2⟩ : (y : Int) ≤ 18446744073709551615 ∧ 1 ≤ sz ∧ sz ≤ s.size - at_ := by
                  have := takeL_ok (l := bs.drop at_) (by rw [htk])
                  rw [htk] at this
                  have h3 := HL.out
                  simp only [List.length_drop] at this
                  omega
                have HB : Hid (Value.int .u64 (y : Int) = qv (UInt64.ofNat y)) := by
                  show _ = _
                  rw [qv_ofNat]; congr 1; omega
                clear htk
                go_wp2_with (at_builtin; refine wpList_append_rd _ numsT (news := qvs [UInt64.ofNat y]) (hown.alloc _) (Rd.boxq _ _ HB.out) (qvs_one _) (by omega) (by omega) (by simp; have := hu.size; omega) rfl rfl rfl rfl ?_; intro v2 w2 hown2 hg2 hat2)
                obtain ⟨A2, c2, rfl⟩ := own_form hown2
                go_roundw
                case rel =>
                  refine ⟨k + 1, at_ + sz, A2, _, c2, acc ++ [UInt64.ofNat y], by go_num, by go_num, rfl, by omega, by omega, by omega, ?_, hu.alloc _ |>.grown hg2 (fun k hk => (hown.lt k hk).1), ?_⟩
                  · show World.ownsRow _ _ _ _ _ _ _
                    rw [qvs_append]; exact hown2
                  · show _ = _
                    rw [hun'.out, if_pos (by trivial), show x - (k + 1) = x - k - 1 by omega]
                case measure => simp [intOf]; omega
              · have hb : ((e2 : Int) != 0) = true := by rw [bne_iff_ne]; omega
                clear htk
                go_wp2
                go_ret3
                rw [hun'.out, if_neg he]
                exact ⟨none, 0, 0, rfl, HQ0.out _, hu⟩
          · go_wp2
            go_ret3
            have hk' : k = x := by omega
            have h := hun.out
            rw [hk', Nat.sub_self, unGo] at h
            rw [← h]
            exact ⟨Q, m, d, rfl, hown, hu⟩
  · have hb : ((er : Int) != 0) = true := by rw [bne_iff_ne]; omega
    go_wp2_with fail
    go_ret3
    rw [HU.out, if_pos he]
    exact ⟨none, 0, 0, rfl, HQ0.out _, Up.refl _⟩
end Go.Proofs.Ytokcaoaclheiiaa

/-
  The walk of the document's ReadEdit.
-/
namespace Go.Proofs.Ytokcaoaclheiiaa
open Go.RowKit
set_option linter.unusedVariables false
set_option linter.unusedSimpArgs false

/-- numbers one behind the other, each at most 2^48 -/
def rdGo : Nat → List UInt8 → Nat → List UInt64 → Option (List UInt64 × Nat)
  | 0, _, a, acc => some (acc, a)
  | k + 1, l, a, acc => if (takeL (l.drop a)).2.2 = 0 ∧ (takeL (l.drop a)).1 ≤ 281474976710656 then rdGo k l (a + (takeL (l.drop a)).2.1) (acc ++ [UInt64.ofNat (takeL (l.drop a)).1]) else none
def gI (l : List UInt64) (i : Nat) : Nat := (l.getD i 0).toNat
def prs (l : List UInt64) (k : Nat) : List Fl := (List.range k).map fun i => ((gI l (2 * i) : Int), (gI l (2 * i + 1) : Int))
theorem prs_succ (l : List UInt64) (k : Nat) : prs l (k + 1) = prs l k ++ [((gI l (2 * k) : Int), (gI l (2 * k + 1) : Int))] := by simp [prs, List.range_succ]
def idD (x : UInt64) : Int := (x.toNat : Int)
def endR (bs : List UInt8) (ds : List Int) (n : Nat) (p : List UInt64 × Nat) : Option ET :=
  if p.2 = bs.length ∧ mayE ds (prs p.1 n) (gI p.1 (2 * n)) (gI p.1 (2 * n + 1)) (gI p.1 (2 * n + 2)) (gI p.1 (2 * n + 3)) (gI p.1 (2 * n + 4)) = true then
    some (ds, prs p.1 n, (gI p.1 (2 * n) : Int), gI p.1 (2 * n + 1), gI p.1 (2 * n + 2), gI p.1 (2 * n + 3), gI p.1 (2 * n + 4)) else none
/-- the document's ReadEdit -/
def readR (bs : List UInt8) : Option ET :=
  let u := unlistL bs 40
  if u.2.2 ≠ 0 then none else if (u.1.any fun x => decide (1073741824 < x.toNat)) = true then none else
  let t := takeL (bs.drop u.2.1)
  if t.2.2 ≠ 0 ∨ 40 < t.1 then none else
  (rdGo (2 * t.1 + 5) bs (u.2.1 + t.2.1) []).bind (endR bs (u.1.map idD) t.1)
/-- what is known of all that ReadEdit has made -/
structure RdE (w : World) (g2 ge : Nat) (D : Option Addr) (dn dc : Nat) (ds : List Int) (A : Option Addr) (an ac : Nat) (add : List Fl) (lg f ce at_ le : Nat) (W : World) : Prop where
  o1 : w.heap.size ≤ g2
  o2 : g2 < ge
  up : Up w W
  hg : W.heap[g2]? = some (.cells #[.slice none 0 0, .slice none 0 0, .int .i64 0, .int .u64 0, .int .u64 0, .int .u64 0, .int .u64 0] 32 (0, 0))
  hge : W.heap[ge]? = some (.cells #[.slice D dn dc, .slice A an ac, .int .i64 (lg : Int), .int .u64 (f : Int), .int .u64 (ce : Int), .int .u64 (at_ : Int), .int .u64 (le : Int)] 32 (0, 0))
  hoD : W.ownsRow (ge + 1) 3 1 (.slice D dn dc) dn (nmv ds)
  hoA : W.ownsRow (ge + 1) 41 2 (.slice A an ac) an (fvs add)
theorem RdE.upg {w : World} {g2 ge : Nat} {D : Option Addr} {dn dc : Nat} {ds : List Int} {A : Option Addr} {an ac : Nat} {add : List Fl} {lg f ce at_ le : Nat} {W W' : World} (h : RdE w g2 ge D dn dc ds A an ac add lg f ce at_ le W) (hu : Up W W') : RdE w g2 ge D dn dc ds A an ac add lg f ce at_ le W' :=
  ⟨h.o1, h.o2, h.up.trans hu, (hu.block _ (Array.getElem?_eq_some_iff.1 h.hg).1).trans h.hg, (hu.block _ (Array.getElem?_eq_some_iff.1 h.hge).1).trans h.hge, own_up h.hoD hu, own_up h.hoA hu⟩
theorem RdE.drew {w : World} {g2 ge : Nat} {D : Option Addr} {dn dc : Nat} {ds : List Int} {A : Option Addr} {an ac : Nat} {add : List Fl} {lg f ce at_ le : Nat} {W : World} (h : RdE w g2 ge D dn dc ds A an ac add lg f ce at_ le W) : RdE w g2 ge D dn dc ds A an ac add lg f ce at_ le W.drew := ⟨h.o1, h.o2, h.up.drew, h.hg, h.hge, h.hoD, h.hoA⟩
theorem RdE.far {w : World} {g2 ge : Nat} {D : Option Addr} {dn dc : Nat} {ds : List Int} {A : Option Addr} {an ac : Nat} {add : List Fl} {lg f ce at_ le : Nat} {W W2 : World} (h : RdE w g2 ge D dn dc ds A an ac add lg f ce at_ le W) {L : Value} {n : Nat} {xs : List Value} (hl : W.ownsRow (ge + 1) 22 1 L n xs) (hgr : W.grownBy W2 L.ownBlock) : RdE w g2 ge D dn dc ds A an ac add lg f ce at_ le W2 := by
  have hlo := hl.lt
  exact ⟨h.o1, h.o2, h.up.grown hgr (fun k0 e0 => by have := (hlo k0 e0).1; have := h.o1; have := h.o2; omega), (hgr.block g2 (Array.getElem?_eq_some_iff.1 h.hg).1 (fun e0 => by have := (hlo g2 e0.symm).1; have := h.o2; omega)).trans h.hg,
    (hgr.block ge (Array.getElem?_eq_some_iff.1 h.hge).1 (fun e0 => by have := (hlo ge e0.symm).1; omega)).trans h.hge, own_far hl h.hoD (by decide) hgr, own_far hl h.hoA (by decide) hgr⟩
theorem RdE.set {w : World} {g2 ge : Nat} {D : Option Addr} {dn dc : Nat} {ds : List Int} {A : Option Addr} {an ac : Nat} {add : List Fl} {lg f ce at_ le : Nat} {W : World} (h : RdE w g2 ge D dn dc ds A an ac add lg f ce at_ le W) (j : Nat) (v : Value) (lg' f' ce' at' le' : Nat)
    (he : (#[.slice D dn dc, .slice A an ac, .int .i64 (lg : Int), .int .u64 (f : Int), .int .u64 (ce : Int), .int .u64 (at_ : Int), .int .u64 (le : Int)] : Array Value).setIfInBounds j v = #[.slice D dn dc, .slice A an ac, .int .i64 (lg' : Int), .int .u64 (f' : Int), .int .u64 (ce' : Int), .int .u64 (at' : Int), .int .u64 (le' : Int)]) :
    RdE w g2 ge D dn dc ds A an ac add lg' f' ce' at' le' (W.setCell ⟨ge, j, none⟩ v) := by
  obtain ⟨o1, o2, up, hg, hge, hoD, hoA⟩ := h
  have hK := setc_keeps W W ge j v (Rg.Keeps.refl _ _)
  refine ⟨o1, o2, keepsUp up (by omega) hK, (hK.block _ (Array.getElem?_eq_some_iff.1 hg).1 (by show ¬ g2 = ge; omega)).trans hg, ?_, own_keeps6 hoD (by omega) hK, own_keeps6 hoA (by omega) hK⟩
  rw [setc_heap W ge j v _ _ hge, he]
theorem RdE.kp {w : World} {g2 ge : Nat} {D : Option Addr} {dn dc : Nat} {ds : List Int} {A : Option Addr} {an ac : Nat} {add : List Fl} {lg f ce at_ le : Nat} {W W2 : World} (h : RdE w g2 ge D dn dc ds A an ac add lg f ce at_ le W) (hK : Rg.Keeps (fun g => g = ge) W W2) {lg' f' ce' at' le' : Nat} (hb : W2.heap[ge]? = some (.cells #[.slice D dn dc, .slice A an ac, .int .i64 (lg' : Int), .int .u64 (f' : Int), .int .u64 (ce' : Int), .int .u64 (at' : Int), .int .u64 (le' : Int)] 32 (0, 0))) : RdE w g2 ge D dn dc ds A an ac add lg' f' ce' at' le' W2 := by
  obtain ⟨o1, o2, up, hg, hge, hoD, hoA⟩ := h
  exact ⟨o1, o2, keepsUp up (by omega) hK, (hK.block _ (Array.getElem?_eq_some_iff.1 hg).1 (by show ¬ g2 = ge; omega)).trans hg, hb, own_keeps6 hoD (by omega) hK, own_keeps6 hoA (by omega) hK⟩
theorem RdE.pushD {w : World} {g2 ge : Nat} {D : Option Addr} {dn dc : Nat} {ds : List Int} {A : Option Addr} {an ac : Nat} {add : List Fl} {lg f ce at_ le : Nat} {W : World} (h : RdE w g2 ge D dn dc ds A an ac add lg f ce at_ le W) (o : Obj) {W2 : World} {D2 : Option Addr} {n2 c2 : Nat} {ds2 : List Int} (hown : W2.ownsRow (ge + 1) 3 1 (.slice D2 n2 c2) n2 (nmv ds2)) (hgr : (W.alloc o).grownBy W2 (Value.slice D dn dc).ownBlock) {B n : Nat} {Q : Option Addr} {xs : List Value} (hq : Rd W B 1 Q n xs) (hB : B ≤ ge) :
    W2.cell? ⟨ge, 0, none⟩ = some (.slice D dn dc) ∧ W2.frozen? ⟨ge, 0, none⟩ = false ∧ RdE w g2 ge D2 n2 c2 ds2 A an ac add lg f ce at_ le (W2.setCell ⟨ge, 0, none⟩ (.slice D2 n2 c2)) ∧ Rd (W2.setCell ⟨ge, 0, none⟩ (.slice D2 n2 c2)) B 1 Q n xs := by
  have hu : Up W (W.alloc o) := (Up.refl W).alloc o
  obtain ⟨o1, o2, up, hg, hge, hoD, hoA⟩ := h
  have hBW : B ≤ W.heap.size := by have := (Array.getElem?_eq_some_iff.1 hge).1; omega
  have hg1 := (hu.block _ (Array.getElem?_eq_some_iff.1 hg).1).trans hg
  have hge1 := (hu.block _ (Array.getElem?_eq_some_iff.1 hge).1).trans hge
  have hoD1 := own_up hoD hu
  have hoA1 := own_up hoA hu
  have hq1 := hq.stay hBW hu
  have hlo := hoD1.lt
  have hg2' := (hgr.block g2 (Array.getElem?_eq_some_iff.1 hg1).1 (fun e0 => by have := (hlo g2 e0.symm).1; omega)).trans hg1
  have hge2 := (hgr.block ge (Array.getElem?_eq_some_iff.1 hge1).1 (fun e0 => by have := (hlo ge e0.symm).1; omega)).trans hge1
  have hoA2 := own_far hoD1 hoA1 (by decide) hgr
  have hq2 : Rd W2 B 1 Q n xs := hq1.grown hgr (Nat.le_trans hBW hu.size) (fun k0 e0 => by have := (hlo k0 e0).1; omega)
  have hup2 : Up w W2 := (up.trans hu).grown hgr (fun k0 e0 => by have := (hlo k0 e0).1; omega)
  have hK := setc_keeps W2 W2 ge 0 (.slice D2 n2 c2) (Rg.Keeps.refl _ _)
  have hBW2 : B ≤ W2.heap.size := by have := (Array.getElem?_eq_some_iff.1 hge2).1; omega
  exact ⟨blk_cell hge2 0, blk_free hge2 0, ⟨o1, o2, keepsUp hup2 (by omega) hK, (hK.block _ (Array.getElem?_eq_some_iff.1 hg2').1 (by show ¬ g2 = ge; omega)).trans hg2', setc_heap W2 ge 0 _ _ _ hge2,
    own_keeps6 hown (by omega) hK, own_keeps6 hoA2 (by omega) hK⟩, hq2.keepsLt hBW2 hB hK⟩
theorem RdE.pushA {w : World} {g2 ge : Nat} {D : Option Addr} {dn dc : Nat} {ds : List Int} {A : Option Addr} {an ac : Nat} {add : List Fl} {lg f ce at_ le : Nat} {W : World} (h : RdE w g2 ge D dn dc ds A an ac add lg f ce at_ le W) (o : Obj) {W2 : World} {A2 : Option Addr} {n2 c2 : Nat} {add2 : List Fl} (hown : W2.ownsRow (ge + 1) 41 2 (.slice A2 n2 c2) n2 (fvs add2)) (hgr : (W.alloc o).grownBy W2 (Value.slice A an ac).ownBlock) {L : Value} {n : Nat} {xs : List Value} (hl : W.ownsRow (ge + 1) 22 1 L n xs) :
    W2.cell? ⟨ge, 1, none⟩ = some (.slice A an ac) ∧ W2.frozen? ⟨ge, 1, none⟩ = false ∧ RdE w g2 ge D dn dc ds A2 n2 c2 add2 lg f ce at_ le (W2.setCell ⟨ge, 1, none⟩ (.slice A2 n2 c2)) ∧ (W2.setCell ⟨ge, 1, none⟩ (.slice A2 n2 c2)).ownsRow (ge + 1) 22 1 L n xs := by
  have hu : Up W (W.alloc o) := (Up.refl W).alloc o
  obtain ⟨o1, o2, up, hg, hge, hoD, hoA⟩ := h
  have hg1 := (hu.block _ (Array.getElem?_eq_some_iff.1 hg).1).trans hg
  have hge1 := (hu.block _ (Array.getElem?_eq_some_iff.1 hge).1).trans hge
  have hoD1 := own_up hoD hu
  have hoA1 := own_up hoA hu
  have hl1 := own_up hl hu
  have hlo := hoA1.lt
  have hg2' := (hgr.block g2 (Array.getElem?_eq_some_iff.1 hg1).1 (fun e0 => by have := (hlo g2 e0.symm).1; omega)).trans hg1
  have hge2 := (hgr.block ge (Array.getElem?_eq_some_iff.1 hge1).1 (fun e0 => by have := (hlo ge e0.symm).1; omega)).trans hge1
  have hoD2 := own_far hoA1 hoD1 (by decide) hgr
  have hl2 := own_far hoA1 hl1 (by decide) hgr
  have hup2 : Up w W2 := (up.trans hu).grown hgr (fun k0 e0 => by have := (hlo k0 e0).1; omega)
  have hK := setc_keeps W2 W2 ge 1 (.slice A2 n2 c2) (Rg.Keeps.refl _ _)
  exact ⟨blk_cell hge2 1, blk_free hge2 1, ⟨o1, o2, keepsUp hup2 (by omega) hK, (hK.block _ (Array.getElem?_eq_some_iff.1 hg2').1 (by show ¬ g2 = ge; omega)).trans hg2', setc_heap W2 ge 1 _ _ _ hge2,
    own_keeps6 hoD2 (by omega) hK, own_keeps6 hown (by omega) hK⟩, own_keeps6 hl2 (by omega) hK⟩
theorem u64_nat0 {x : Nat} (h : x ≤ 281474976710656) : (UInt64.ofNat x).toNat = x := by
  rw [UInt64.toNat_ofNat_of_lt']; show x < 18446744073709551616; omega
set_option maxRecDepth 100000 in
set_option maxHeartbeats 16000000 in
theorem rread_any (s : ByteArray) (bs : List UInt8) (w : World) (hs : s.data.toList = bs) (hn : s.size ≤ 549755813888) :
    Calls Try.prog 19 #[.string s] w (RdPost (readR bs) w) := by
  have hl := size_str hs
  have HS := Lib.hid hs
  have HL := Lib.hid hl
  clear hl hs
  obtain ⟨w1, hw1⟩ : ∃ w1, w1 = w.alloc (.cells #[.slice none 0 0, .slice none 0 0, .int .i64 0, .int .u64 0, .int .u64 0, .int .u64 0, .int .u64 0] 32) := ⟨_, rfl⟩
  have hup1 : Up w w1 := by rw [hw1]; exact (Up.refl w).alloc _
  have hg1 : w1.heap[w.heap.size]? = some (.cells #[.slice none 0 0, .slice none 0 0, .int .i64 0, .int .u64 0, .int .u64 0, .int .u64 0, .int .u64 0] 32 (0, 0)) := by rw [hw1]; exact heap_alloc_new w _
  have HW := Lib.hid hw1
  clear hw1
  obtain ⟨q, qa, qe, hu⟩ : ∃ q a e, unlistL bs 40 = (q, a, e) := ⟨_, _, _, rfl⟩
  have HU := Lib.hid hu
  clear hu
  have hgw9 : w.heap.size ≤ w.heap.size := Nat.le_refl _
  go_enter Try.func19, Try.ntmps19
  go_wp2_with fail
  rw [← HW.out]
  clear HW
  generalize hg2E : w.heap.size = g2 at hg1 hgw9 ⊢
  rw [← hg2E] at hgw9
  have hgw9 : w.heap.size ≤ g2 := by omega
  refine (runlist_any s bs 40 w1 HS.out (by omega) (by omega) (by omega)).mono ?_
  rintro e w3 ⟨Q, qn, qc, rfl, hoQ, hu3⟩
  rw [HU.out] at hoQ ⊢
  (try dsimp only at hoQ ⊢)
  have hqb : qn ≤ 549755813888 := by
    have h1 := hoQ.rd.qlen
    have h2 := unlistL_len bs 40
    rw [HU.out] at h2
    have h3 := HL.out
    (try dsimp only at h2)
    omega
  have hg3 := (hu3.block _ (Array.getElem?_eq_some_iff.1 hg1).1).trans hg1
  have hup3 := hup1.trans hu3
  clear hg1 hup1 hu3
  by_cases hqe : qe = 0
  · subst hqe
    rw [show ((0 : Nat) : Int) = (0 : Int) from rfl]
    have hqa : qa ≤ s.size := by
      have h := unlistL_at bs 40
      rw [HU.out] at h
      have := HL.out
      (try dsimp only at h)
      omega
    have hub : Up w3 (w3.alloc (.cells #[.slice none 0 0, .slice none 0 0, .int .i64 0, .int .u64 0, .int .u64 0, .int .u64 0, .int .u64 0] 32)) := (Up.refl w3).alloc _
    have hI0 : RdE w g2 w3.heap.size none 0 0 [] none 0 0 [] 0 0 0 0 0 (w3.alloc (.cells #[.slice none 0 0, .slice none 0 0, .int .i64 0, .int .u64 0, .int .u64 0, .int .u64 0, .int .u64 0] 32)) :=
      ⟨hgw9, (Array.getElem?_eq_some_iff.1 hg3).1, hup3.trans hub, (hub.block _ (Array.getElem?_eq_some_iff.1 hg3).1).trans hg3, heap_alloc_new _ _, World.ownsRow_nil _ _ _ _, World.ownsRow_nil _ _ _ _⟩
    have hq0 : Rd (w3.alloc (.cells #[.slice none 0 0, .slice none 0 0, .int .i64 0, .int .u64 0, .int .u64 0, .int .u64 0, .int .u64 0] 32)) w3.heap.size 1 Q qn (qvs q) := hoQ.rd.stay (Nat.le_refl _) hub
    clear hub hg3 hup3 hoQ hg2E
    go_wp2_with fail
    generalize w3.alloc (.cells #[.slice none 0 0, .slice none 0 0, .int .i64 0, .int .u64 0, .int .u64 0, .int .u64 0, .int .u64 0] 32) = w4 at *
    generalize w3.heap.size = ge at hI0 hq0 ⊢
    go_loopw [8] (fun i wr => ∃ (k : Nat) (D : Option Addr) (dc : Nat), i = .int .i64 (k : Int) ∧ k ≤ qn ∧ RdE w g2 ge D k dc ((q.take k).map idD) none 0 0 [] 0 0 0 0 0 wr ∧ Rd wr ge 1 Q qn (qvs q) ∧ Hid (∀ x ∈ q.take k, x.toNat ≤ 1073741824)) (fun i _ => qn - (intOf i).toNat)
    case atStart => exact ⟨0, none, 0, rfl, by omega, hI0, hq0, fun x hx => by simp at hx⟩
    case round =>
      obtain ⟨k, D, dc, rfl, hk, hI, hq, hall⟩ := hrel
      clear hI0 hq0
      by_cases hlt : k < qn
      · obtain ⟨b, o, rfl, hbb, hck⟩ := hq.num hlt
        have hkl : k < q.length := by have := hq.qlen; omega
        obtain ⟨x, hx⟩ : ∃ x, x = q[k] := ⟨_, rfl⟩
        have hxg : q.getD k 0 = x := by rw [hx]; simp [List.getD, hkl]
        have htk : q.take (k + 1) = q.take k ++ [x] := by rw [List.take_succ_eq_append_getElem hkl, ← hx]
        have hxm : x ∈ q := by rw [hx]; exact List.getElem_mem hkl
        rw [hxg] at hck
        have HT := Lib.hid htk
        have HXM := Lib.hid hxm
        clear htk hxm hxg hx
        obtain ⟨xn, hxn⟩ : ∃ n, n = x.toNat := ⟨_, rfl⟩
        rw [← hxn] at hck
        have HXN := Lib.hid hxn
        clear hxn
        by_cases hxb : 1073741824 < xn
        · have HNO : Hid (readR bs = none) := by
            show _ = _
            unfold readR
            rw [HU.out]
            (try dsimp only)
            rw [if_neg (by simp), if_pos (by rw [List.any_eq_true]; exact ⟨x, HXM.out, by rw [← HXN.out]; simpa using hxb⟩)]
          have hxi : (1073741824 : Int) < (xn : Int) := by omega
          have hg9 := hI.hg
          have hup9 := hI.up
          clear hI hq
          have t0 := blk_cell hg9 0
          have t1 := blk_cell hg9 1
          have t2 := blk_cell hg9 2
          have t3 := blk_cell hg9 3
          have t4 := blk_cell hg9 4
          have t5 := blk_cell hg9 5
          have t6 := blk_cell hg9 6
          have s0 := blk_free hg9 0
          have s1 := blk_free hg9 1
          have s2 := blk_free hg9 2
          have s3 := blk_free hg9 3
          have s4 := blk_free hg9 4
          have s5 := blk_free hg9 5
          have s6 := blk_free hg9 6
          have h7 := set7 _ g2 _ _ _ _ _ _ _ (.slice none 0 0) (.slice none 0 0) (.int .i64 0) (.int .u64 0) (.int .u64 0) (.int .u64 0) (.int .u64 0) _ hg9
          have hup10 := keepsUp hup9 hgw9 h7.2
          have H71 := Lib.hid h7.1
          have HUP := Lib.hid hup10
          clear h7 hup10 hup9 hg9
          go_wp2_with fail
          have u0 := blk_cell H71.out 0
          have u1 := blk_cell H71.out 1
          have u2 := blk_cell H71.out 2
          have u3 := blk_cell H71.out 3
          have u4 := blk_cell H71.out 4
          have u5 := blk_cell H71.out 5
          have u6 := blk_cell H71.out 6
          refine bodyPost_ret (v := .tuple #[.agg #[.slice none 0 0, .slice none 0 0, .int .i64 0, .int .u64 0, .int .u64 0, .int .u64 0, .int .u64 0], .int .i64 3]) (by simp [results, Try.results19, go_sem, u0, u1, u2, u3, u4, u5, u6]) rfl ?_
          rw [HNO.out]
          exact ⟨rfl, HUP.out⟩
        · have hxi : ¬ (1073741824 : Int) < (xn : Int) := by omega
          have hxw : IntKind.i64.wrap (xn : Int) = (xn : Int) := IntWalk.i64_in _ (by omega)
          have hI2 := hI.drew
          have hq2 : Rd wr.drew ge 1 (some ⟨b, o, none⟩) qn (qvs q) := hq
          have hck2 : wr.drew.cell? ⟨b, o + k, none⟩ = some (.int .u64 (xn : Int)) := hck
          have t0 := blk_cell hI2.hge 0
          have t1 : ∀ o, (wr.alloc o).drew.cell? ⟨ge, 0, none⟩ = some (.slice D k dc) := fun o => blk_cell ((((Up.refl wr.drew).alloc o).block _ (Array.getElem?_eq_some_iff.1 hI2.hge).1).trans hI2.hge) 0
          have hbw : b < wr.drew.heap.size := by have := (Array.getElem?_eq_some_iff.1 hI2.hge).1; omega
          have t2 : ∀ ob, (wr.alloc ob).drew.cell? ⟨b, o + k, none⟩ = some (.int .u64 (xn : Int)) := fun ob => (((Up.refl wr.drew).alloc ob).cell (p := ⟨b, o + k, none⟩) hbw).trans hck2
          have hne : nmv ((q.take k ++ [x]).map idD) = nmv ((q.take k).map idD) ++ nmv [(xn : Int)] := by simp [nmv, idD, HXN.out]
          have HNE := Lib.hid hne
          clear hne
          have HI2 := Lib.hid hI2
          have HQ2 := Lib.hid hq2
          clear hI hI2 hq2 hq
          go_wp2_with fail
          have mixed : Try.prog.follows .mixedOrders = true := by kernel_rfl
          go_region_law_o (first
            | (refine step_wp rfl ?_; refine wp_append_rd _ _ _ intsT rfl (v := .slice D k dc) (by simp [Act.eval, Act.put]) (A := some ⟨wr.drew.heap.size, 0, none⟩) (c := 1) (m := 1) (by simp [Act.eval, Act.put]) (World.ownsRow.alloc HI2.out.hoD _) (Rd.made wr.drew #[.int .i64 (xn : Int)] 3 rfl) (news := nmv [(xn : Int)]) (by intro u hu; simp [nmv] at hu; subst hu; rfl) (by omega) (by omega) (by have := (Array.getElem?_eq_some_iff.1 HI2.out.hge).1; simp at *; omega) ?_; intro v5 w5 hown5 hg5 hat5; obtain ⟨D5, dc5, rfl⟩ := own_form hown5
               have hown6 : w5.ownsRow (ge + 1) 3 1 (.slice D5 (k + 1) dc5) (k + 1) (nmv ((q.take (k + 1)).map idD)) := by rw [HT.out, HNE.out]; exact hown5
               obtain ⟨r1, r2, hI9, hq9⟩ := HI2.out.pushD _ hown6 hg5 HQ2.out (Nat.le_refl _)
               have HI9 := Lib.hid hI9
               have HQ9 := Lib.hid hq9
               clear hI9 hq9 hown5 hown6 hg5 hat5))
          all_goals
            clear t0 t1 t2 r1 r2 hck2 HI2 HQ2
            generalize w5.setCell ⟨ge, 0, none⟩ (.slice D5 (k + 1) dc5) = w9 at *
            go_wp2_with fail
            go_roundw
            case rel =>
              exact ⟨k + 1, D5, dc5, by go_num, by omega, HI9.out, HQ9.out, fun y hy => by
                rw [HT.out] at hy
                rcases List.mem_append.1 hy with h | h
                · exact hall.out y h
                · simp at h; subst h; rw [← HXN.out]; omega⟩
            case measure => simp [intOf]; omega
      · have hkq : k = qn := by omega
        subst hkq
        have hql : k = q.length := hq.qlen
        have hmin : (q.take k).map idD = q.map idD := by rw [List.take_of_length_le (by omega)]
        rw [hmin] at hI
        have hany : (q.any fun x => decide (1073741824 < x.toNat)) = false := by
          rw [List.any_eq_false]
          intro x hx
          have h := hall.out x (by rw [List.take_of_length_le (by omega)]; exact hx)
          simp; omega
        have hex := ext_str HS.out qa
        have HE := Lib.hid hex
        obtain ⟨tn, ts, te, ht⟩ : ∃ a b c, takeL (bs.drop qa) = (a, b, c) := ⟨_, _, _, rfl⟩
        have HT := Lib.hid ht
        have hrr : readR bs = if te ≠ 0 ∨ 40 < tn then none else (rdGo (2 * tn + 5) bs (qa + ts) []).bind (endR bs (q.map idD) tn) := by
          unfold readR
          simp only [HU.out, hany, ht]
          simp
        have HRR := Lib.hid hrr
        have hqai : (qa : Int) ≤ (s.size : Int) := by omega
        clear hmin hany hex ht hrr hall hql hq hlt hk
        go_wp2_with fail
        refine (rtake_any _ (bs.drop qa) wr HE.out (by simp [ByteArray.size_extract]; omega)).mono ?_
        rintro e w6 ⟨rfl, rfl⟩
        rw [HT.out]
        (try dsimp only)
        by_cases hte : te = 0
        · subst hte
          rw [show ((0 : Nat) : Int) = (0 : Int) from rfl]
          by_cases hbig : 40 < tn
          · have HNO : Hid (readR bs = none) := by
              show _ = _
              rw [HRR.out, if_pos (.inr hbig)]
            have hbi : (40 : Int) < (tn : Int) := by omega
            have hg9 := hI.hg
            have hup9 := hI.up
            clear hI HRR
            have t0 := blk_cell hg9 0
            have t1 := blk_cell hg9 1
            have t2 := blk_cell hg9 2
            have t3 := blk_cell hg9 3
            have t4 := blk_cell hg9 4
            have t5 := blk_cell hg9 5
            have t6 := blk_cell hg9 6
            have s0 := blk_free hg9 0
            have s1 := blk_free hg9 1
            have s2 := blk_free hg9 2
            have s3 := blk_free hg9 3
            have s4 := blk_free hg9 4
            have s5 := blk_free hg9 5
            have s6 := blk_free hg9 6
            have h7 := set7 _ g2 _ _ _ _ _ _ _ (.slice none 0 0) (.slice none 0 0) (.int .i64 0) (.int .u64 0) (.int .u64 0) (.int .u64 0) (.int .u64 0) _ hg9
            have hup10 := keepsUp hup9 hgw9 h7.2
            have H71 := Lib.hid h7.1
            have HUP := Lib.hid hup10
            clear h7 hup10 hup9 hg9
            go_wp2_with fail
            have u0 := blk_cell H71.out 0
            have u1 := blk_cell H71.out 1
            have u2 := blk_cell H71.out 2
            have u3 := blk_cell H71.out 3
            have u4 := blk_cell H71.out 4
            have u5 := blk_cell H71.out 5
            have u6 := blk_cell H71.out 6
            refine bodyPost_ret (v := .tuple #[.agg #[.slice none 0 0, .slice none 0 0, .int .i64 0, .int .u64 0, .int .u64 0, .int .u64 0, .int .u64 0], .int .i64 3]) (by simp [results, Try.results19, go_sem, u0, u1, u2, u3, u4, u5, u6]) rfl ?_
            rw [HNO.out]
            exact ⟨rfl, HUP.out⟩
          · have hbi : ¬ (40 : Int) < (tn : Int) := by omega
            have hok := takeL_ok (l := bs.drop qa) (by rw [HT.out])
            rw [HT.out, List.length_drop, ← HL.out] at hok
            (try dsimp only at hok)
            have HR2 : Hid (readR bs = (rdGo (2 * tn + 5) bs (qa + ts) []).bind (endR bs (q.map idD) tn)) := by
              show _ = _
              rw [HRR.out, if_neg (by rintro (h | h); exact h rfl; omega)]
            have hw0 : IntKind.i64.wrap ((qa : Int) + (ts : Int)) = (qa : Int) + (ts : Int) := IntWalk.i64_in _ (by omega)
            have hw1 : IntKind.u64.wrap (2 * (tn : Int)) = 2 * (tn : Int) := IntWalk.u64_in _ (by omega)
            have hw2 : IntKind.i64.wrap (2 * (tn : Int)) = 2 * (tn : Int) := IntWalk.i64_in _ (by omega)
            have hw3 : IntKind.i64.wrap (2 * (tn : Int) + 5) = 2 * (tn : Int) + 5 := IntWalk.i64_in _ (by omega)
            have hw4 : IntKind.i64.wrap (tn : Int) = (tn : Int) := IntWalk.i64_in _ (by omega)
            clear HRR
            have hwr := hI
            clear hI
            go_wp2_with fail
            go_loopw [5, 12, 13] (fun p v i wr => ∃ (j at_ : Nat) (L : Option Addr) (lc : Nat) (acc : List UInt64), i = .int .i64 (j : Int) ∧ p = .int .i64 (at_ : Int) ∧ v = .slice L j lc ∧ j ≤ 2 * tn + 5 ∧ at_ ≤ s.size ∧ RdE w g2 ge D k dc (q.map idD) none 0 0 [] 0 0 0 0 0 wr ∧ wr.ownsRow (ge + 1) 22 1 (.slice L j lc) j (qvs acc) ∧ Hid (rdGo (2 * tn + 5 - j) bs at_ acc = rdGo (2 * tn + 5) bs (qa + ts) []) ∧ Hid (∀ x ∈ acc, x.toNat ≤ 281474976710656)) (fun _ _ i _ => 2 * tn + 5 - (intOf i).toNat)
            case atStart => exact ⟨0, qa + ts, none, 0, [], rfl, by simp, rfl, by omega, by omega, hwr, World.ownsRow_nil _ _ _ _, rfl, fun x hx => by simp at hx⟩
            case round =>
              obtain ⟨j, at_, L, lc, acc, rfl, rfl, rfl, hj, hat, hI, hl, hgo, hall⟩ := hrel
              clear hwr
              by_cases hlt : j < 2 * tn + 5
              · have hlti : (j : Int) < 2 * (tn : Int) + 5 := by omega
                have hex2 := ext_str HS.out at_
                have HE2 := Lib.hid hex2
                obtain ⟨y, sz, e2, ht2⟩ : ∃ a b c, takeL (bs.drop at_) = (a, b, c) := ⟨_, _, _, rfl⟩
                have HT2 := Lib.hid ht2
                have hgo2 : Hid (rdGo (2 * tn + 5) bs (qa + ts) [] = if e2 = 0 ∧ y ≤ 281474976710656 then rdGo (2 * tn + 5 - (j + 1)) bs (at_ + sz) (acc ++ [UInt64.ofNat y]) else none) := by
                  show _ = _
                  rw [← hgo.out, show 2 * tn + 5 - j = (2 * tn + 5 - (j + 1)) + 1 by omega, rdGo, ht2]
                have hati : (at_ : Int) ≤ (s.size : Int) := by omega
                clear hex2 ht2 hgo
                go_wp2_with fail
                refine (rtake_any _ (bs.drop at_) wr HE2.out (by simp [ByteArray.size_extract]; omega)).mono ?_
                rintro e w6 ⟨rfl, rfl⟩
                rw [HT2.out]
                (try dsimp only)
                by_cases he2 : e2 = 0
                · subst he2
                  rw [show ((0 : Nat) : Int) = (0 : Int) from rfl]
                  by_cases hy : y ≤ 281474976710656
                  · have hyi : ¬ (281474976710656 : Int) < (y : Int) := by omega
                    have hok2 := takeL_ok (l := bs.drop at_) (by rw [HT2.out])
                    rw [HT2.out, List.length_drop, ← HL.out] at hok2
                    (try dsimp only at hok2)
                    have hwa : IntKind.i64.wrap ((at_ : Int) + (sz : Int)) = (at_ : Int) + (sz : Int) := IntWalk.i64_in _ (by omega)
                    have HB : Hid (Value.int .u64 (y : Int) = qv (UInt64.ofNat y)) := by
                      show _ = _
                      rw [qv_ofNat]; congr 1; omega
                    have HIa := Lib.hid hI
                    have HLa := Lib.hid hl
                    clear hI hl
                    go_wp2_with (at_builtin; refine wpList_append_rd _ numsT (news := qvs [UInt64.ofNat y]) (HLa.out.alloc _) (Rd.boxq _ _ HB.out) (qvs_one _) (by omega) (by omega) (by simp; have := (Array.getElem?_eq_some_iff.1 HIa.out.hge).1; omega) rfl rfl rfl rfl ?_; intro v7 w7 hown7 hg7 hat7
                                 have hI7 := (HIa.out.upg ((Up.refl wr).alloc _)).far (own_up HLa.out ((Up.refl wr).alloc _)) hg7
                                 have HI7 := Lib.hid hI7
                                 obtain ⟨L7, lc7, rfl⟩ := own_form hown7
                                 clear hI7 hg7 hat7)
                    go_roundw
                    case rel =>
                      refine ⟨j + 1, at_ + sz, L7, lc7, acc ++ [UInt64.ofNat y], by go_num, by first | rfl | go_num, rfl, by omega, by omega, HI7.out, by rw [qvs_append]; exact hown7, ?_, ?_⟩
                      · show _ = _
                        rw [hgo2.out, if_pos ⟨rfl, hy⟩]
                      · intro x hx
                        rcases List.mem_append.1 hx with h | h
                        · exact hall.out x h
                        · simp at h; subst h; rw [u64_nat0 hy]; exact hy
                    case measure => simp [intOf]; omega
                  · have hyi : (281474976710656 : Int) < (y : Int) := by omega
                    have HNO : Hid (readR bs = none) := by
                      show _ = _
                      rw [HR2.out, hgo2.out, if_neg (fun h => hy h.2)]; rfl
                    have hg9 := hI.hg
                    have hup9 := hI.up
                    clear hI hl HR2 hgo2
                    have t0 := blk_cell hg9 0
                    have t1 := blk_cell hg9 1
                    have t2 := blk_cell hg9 2
                    have t3 := blk_cell hg9 3
                    have t4 := blk_cell hg9 4
                    have t5 := blk_cell hg9 5
                    have t6 := blk_cell hg9 6
                    have s0 := blk_free hg9 0
                    have s1 := blk_free hg9 1
                    have s2 := blk_free hg9 2
                    have s3 := blk_free hg9 3
                    have s4 := blk_free hg9 4
                    have s5 := blk_free hg9 5
                    have s6 := blk_free hg9 6
                    have h7 := set7 _ g2 _ _ _ _ _ _ _ (.slice none 0 0) (.slice none 0 0) (.int .i64 0) (.int .u64 0) (.int .u64 0) (.int .u64 0) (.int .u64 0) _ hg9
                    have hup10 := keepsUp hup9 hgw9 h7.2
                    have H71 := Lib.hid h7.1
                    have HUP := Lib.hid hup10
                    clear h7 hup10 hup9 hg9
                    go_wp2_with fail
                    have u0 := blk_cell H71.out 0
                    have u1 := blk_cell H71.out 1
                    have u2 := blk_cell H71.out 2
                    have u3 := blk_cell H71.out 3
                    have u4 := blk_cell H71.out 4
                    have u5 := blk_cell H71.out 5
                    have u6 := blk_cell H71.out 6
                    refine bodyPost_ret (v := .tuple #[.agg #[.slice none 0 0, .slice none 0 0, .int .i64 0, .int .u64 0, .int .u64 0, .int .u64 0, .int .u64 0], .int .i64 3]) (by simp [results, Try.results19, go_sem, u0, u1, u2, u3, u4, u5, u6]) rfl ?_
                    rw [HNO.out]
                    exact ⟨rfl, HUP.out⟩
                · have hei : ¬ (e2 : Int) = 0 := by omega
                  have heb : ((e2 : Int) != 0) = true := by simp; omega
                  have HNO : Hid (readR bs = none) := by
                    show _ = _
                    rw [HR2.out, hgo2.out, if_neg (fun h => he2 h.1)]; rfl
                  have hg9 := hI.hg
                  have hup9 := hI.up
                  clear hI hl HR2 hgo2
                  have t0 := blk_cell hg9 0
                  have t1 := blk_cell hg9 1
                  have t2 := blk_cell hg9 2
                  have t3 := blk_cell hg9 3
                  have t4 := blk_cell hg9 4
                  have t5 := blk_cell hg9 5
                  have t6 := blk_cell hg9 6
                  have s0 := blk_free hg9 0
                  have s1 := blk_free hg9 1
                  have s2 := blk_free hg9 2
                  have s3 := blk_free hg9 3
                  have s4 := blk_free hg9 4
                  have s5 := blk_free hg9 5
                  have s6 := blk_free hg9 6
                  have h7 := set7 _ g2 _ _ _ _ _ _ _ (.slice none 0 0) (.slice none 0 0) (.int .i64 0) (.int .u64 0) (.int .u64 0) (.int .u64 0) (.int .u64 0) _ hg9
                  have hup10 := keepsUp hup9 hgw9 h7.2
                  have H71 := Lib.hid h7.1
                  have HUP := Lib.hid hup10
                  clear h7 hup10 hup9 hg9
                  go_wp2_with fail
                  have u0 := blk_cell H71.out 0
                  have u1 := blk_cell H71.out 1
                  have u2 := blk_cell H71.out 2
                  have u3 := blk_cell H71.out 3
                  have u4 := blk_cell H71.out 4
                  have u5 := blk_cell H71.out 5
                  have u6 := blk_cell H71.out 6
                  refine bodyPost_ret (v := .tuple #[.agg #[.slice none 0 0, .slice none 0 0, .int .i64 0, .int .u64 0, .int .u64 0, .int .u64 0, .int .u64 0], .int .i64 3]) (by simp [results, Try.results19, go_sem, u0, u1, u2, u3, u4, u5, u6]) rfl ?_
                  rw [HNO.out]
                  exact ⟨rfl, HUP.out⟩
              · have hjj : j = 2 * tn + 5 := by omega
                subst hjj
                have HR3 : Hid (readR bs = endR bs (q.map idD) tn (acc, at_)) := by
                  show _ = _
                  rw [HR2.out, ← hgo.out, Nat.sub_self]; rfl
                have hlti : ¬ ((2 * tn + 5 : Nat) : Int) < 2 * (tn : Int) + 5 := by omega
                clear HR2 hgo hw3 hw0 hj
                have hI8 := hI
                have hl8 := hl
                clear hI hl
                generalize hln : 2 * tn + 5 = ln at *
                have HLN := Lib.hid hln
                clear hln hlt
                go_wp2_with fail
                go_loopw [17] (fun i wr => ∃ (j : Nat) (A : Option Addr) (ac : Nat), i = .int .i64 (j : Int) ∧ j ≤ tn ∧ RdE w g2 ge D k dc (q.map idD) A j ac (prs acc j) 0 0 0 0 0 wr ∧ wr.ownsRow (ge + 1) 22 1 (.slice L ln lc) ln (qvs acc)) (fun i _ => tn - (intOf i).toNat)
                case atStart => exact ⟨0, none, 0, rfl, by omega, hI8, hl8⟩
                case round =>
                  obtain ⟨j, A, ac, rfl, hj, hI, hl⟩ := hrel
                  clear hI8 hl8
                  have hI2 := hI.drew
                  have hl2 : wr.drew.ownsRow (ge + 1) 22 1 (.slice L ln lc) ln (qvs acc) := hl
                  by_cases hlt : j < tn
                  · have i0 : 2 * j < ln := by have := HLN.out; omega
                    have i1 : 2 * j + 1 < ln := by have := HLN.out; omega
                    obtain ⟨b, o, rfl, hbb, c0⟩ := (Rd.own hl2).num i0
                    obtain ⟨b', o', hbo, -, c1⟩ := (Rd.own hl2).num i1
                    injection hbo with hbo
                    injection hbo with h1 h2
                    subst h1; subst h2
                    have hps := prs_succ acc j
                    have x0b : gI acc (2 * j) ≤ 281474976710656 := by
                      have hql := (Rd.own hl2).qlen
                      have hlt2 : 2 * j < acc.length := by omega
                      have e : acc.getD (2 * j) 0 = acc[2 * j] := by simp [List.getD, hlt2]
                      unfold gI; rw [e]; exact hall.out _ (List.getElem_mem hlt2)
                    have x1b : gI acc (2 * j + 1) ≤ 281474976710656 := by
                      have hql := (Rd.own hl2).qlen
                      have hlt2 : 2 * j + 1 < acc.length := by omega
                      have e : acc.getD (2 * j + 1) 0 = acc[2 * j + 1] := by simp [List.getD, hlt2]
                      unfold gI; rw [e]; exact hall.out _ (List.getElem_mem hlt2)
                    replace c0 : wr.drew.cell? ⟨b, o + 2 * j, none⟩ = some (.int .u64 (gI acc (2 * j) : Int)) := c0
                    replace c1 : wr.drew.cell? ⟨b, o + (2 * j + 1), none⟩ = some (.int .u64 (gI acc (2 * j + 1) : Int)) := c1
                    generalize gI acc (2 * j) = x0 at *
                    generalize gI acc (2 * j + 1) = x1 at *
                    have HPS := Lib.hid hps
                    have hji : (j : Int) < (tn : Int) := by omega
                    have v0 : IntKind.i64.wrap (2 * (j : Int)) = 2 * (j : Int) := IntWalk.i64_in _ (by omega)
                    have v1 : IntKind.i64.wrap (2 * (j : Int) + 1) = 2 * (j : Int) + 1 := IntWalk.i64_in _ (by omega)
                    have v2 : IntKind.i64.wrap (x0 : Int) = (x0 : Int) := IntWalk.i64_in _ (by omega)
                    have v3 : IntKind.i64.wrap (x1 : Int) = (x1 : Int) := IntWalk.i64_in _ (by omega)
                    have v4 : (2 * (j : Int)).toNat = 2 * j := by omega
                    have v5 : (2 * (j : Int) + 1).toNat = 2 * j + 1 := by omega
                    have v6 : (0 : Int) ≤ 2 * (j : Int) := by omega
                    have v7 : 2 * (j : Int) < (ln : Int) := by omega
                    have v8 : (0 : Int) ≤ 2 * (j : Int) + 1 := by omega
                    have v9 : 2 * (j : Int) + 1 < (ln : Int) := by omega
                    have t0 := blk_cell hI2.hge 1
                    have t1 : ∀ ob, (wr.alloc ob).drew.cell? ⟨ge, 1, none⟩ = some (.slice A j ac) := fun ob => blk_cell ((((Up.refl wr.drew).alloc ob).block _ (Array.getElem?_eq_some_iff.1 hI2.hge).1).trans hI2.hge) 1
                    have t2 : ∀ ob, (wr.alloc ob).drew.cell? ⟨b, o + 2 * j, none⟩ = some (.int .u64 (x0 : Int)) := fun ob => (((Up.refl wr.drew).alloc ob).cell (p := ⟨b, o + 2 * j, none⟩) hbb).trans c0
                    have t3 : ∀ ob, (wr.alloc ob).drew.cell? ⟨b, o + (2 * j + 1), none⟩ = some (.int .u64 (x1 : Int)) := fun ob => (((Up.refl wr.drew).alloc ob).cell (p := ⟨b, o + (2 * j + 1), none⟩) hbb).trans c1
                    have HI2 := Lib.hid hI2
                    have HL2 := Lib.hid hl2
                    clear hI hI2 hl hl2 hps
                    go_wp2_with fail
                    have mixed : Try.prog.follows .mixedOrders = true := by kernel_rfl
                    go_region_law_o (first
                      | (refine step_wp rfl ?_; refine wp_append_rd _ _ _ filesT rfl (v := .slice A j ac) (by simp [Act.eval, Act.put]) (A := some ⟨wr.drew.heap.size, 0, none⟩) (c := 1) (m := 1) (by simp [Act.eval, Act.put]) (World.ownsRow.alloc HI2.out.hoA _) (Rd.made wr.drew #[.int .i64 (x0 : Int), .int .i64 (x1 : Int)] 41 rfl) (fvs_one [((x0 : Int), (x1 : Int))]) (by omega) (by omega) (by have := (Array.getElem?_eq_some_iff.1 HI2.out.hge).1; simp at *; omega) ?_; intro v5 w5 hown5 hg5 hat5; obtain ⟨A5, ac5, rfl⟩ := own_form hown5
                         have hown6 : w5.ownsRow (ge + 1) 41 2 (.slice A5 (j + 1) ac5) (j + 1) (fvs (prs acc (j + 1))) := by rw [HPS.out, fvs_append]; exact hown5
                         obtain ⟨r1, r2, hI9, hl9⟩ := HI2.out.pushA _ hown6 hg5 HL2.out
                         have HI9 := Lib.hid hI9
                         have HL9 := Lib.hid hl9
                         clear hI9 hl9 hown5 hown6 hg5 hat5))
                    all_goals
                      clear t0 t1 t2 t3 r1 r2 c0 c1 HI2 HL2
                      generalize w5.setCell ⟨ge, 1, none⟩ (.slice A5 (j + 1) ac5) = w9 at *
                      go_wp2_with fail
                      go_roundw
                      case rel => exact ⟨j + 1, A5, ac5, by go_num, by omega, HI9.out, HL9.out⟩
                      case measure => simp [intOf]; omega
                  · have hjt : j = tn := by omega
                    subst hjt
                    have hji : ¬ (j : Int) < (j : Int) := by omega
                    clear hj hlt hl
                    have hb := fun (i : Nat) (hi : i < 5) => show 2 * j + i < ln by have := HLN.out; omega
                    obtain ⟨b, o, rfl, hbb, c0⟩ := (Rd.own hl2).num (hb 0 (by omega))
                    have cc : ∀ i, i < 5 → wr.drew.cell? ⟨b, o + (2 * j + i), none⟩ = some (.int .u64 (gI acc (2 * j + i) : Int)) := fun i hi => by
                      obtain ⟨b', o', hbo, -, c1⟩ := (Rd.own hl2).num (hb i hi)
                      injection hbo with hbo
                      injection hbo with h1 h2
                      subst h1; subst h2
                      exact c1
                    have xb : ∀ i, i < 5 → gI acc (2 * j + i) ≤ 281474976710656 := fun i hi => by
                      have hql := (Rd.own hl2).qlen
                      have hlt2 : 2 * j + i < acc.length := by have := hb i hi; omega
                      have e : acc.getD (2 * j + i) 0 = acc[2 * j + i] := by simp [List.getD, hlt2]
                      unfold gI; rw [e]; exact hall.out _ (List.getElem_mem hlt2)
                    have k0 := cc 0 (by omega)
                    have k1 := cc 1 (by omega)
                    have k2 := cc 2 (by omega)
                    have k3 := cc 3 (by omega)
                    have k4 := cc 4 (by omega)
                    rw [Nat.add_zero] at k0
                    have xb0 := xb 0 (by omega)
                    rw [Nat.add_zero] at xb0
                    have HR4 := HR3
                    (try unfold endR at HR4)
                    generalize gI acc (2 * j) = x0 at *
                    generalize gI acc (2 * j + 1) = x1 at *
                    generalize gI acc (2 * j + 2) = x2 at *
                    generalize gI acc (2 * j + 3) = x3 at *
                    generalize gI acc (2 * j + 4) = x4 at *
                    (try dsimp only at HR4)
                    have hge0 := hI2.hge
                    have hgl := (Array.getElem?_eq_some_iff.1 hge0).1
                    have hbne : ge ≠ b := by rcases hl2.lt b rfl with ⟨hx, -⟩; omega
                    have v2 : IntKind.i64.wrap (x0 : Int) = (x0 : Int) := IntWalk.i64_in _ (by omega)
                    have vt := fun (i : Nat) (hi : i < 5) => show (2 * (j : Int) + (i : Int)).toNat = 2 * j + i by omega
                    have vl := fun (i : Nat) (hi : i < 5) => show 2 * (j : Int) + (i : Int) < (ln : Int) by have := HLN.out; omega
                    have z0 : (2 * (j : Int)).toNat = 2 * j := by omega
                    have z1 : (2 * (j : Int) + 1).toNat = 2 * j + 1 := vt 1 (by omega)
                    have z2 : (2 * (j : Int) + 2).toNat = 2 * j + 2 := vt 2 (by omega)
                    have z3 : (2 * (j : Int) + 3).toNat = 2 * j + 3 := vt 3 (by omega)
                    have z4 : (2 * (j : Int) + 4).toNat = 2 * j + 4 := vt 4 (by omega)
                    have l0 : 2 * (j : Int) < (ln : Int) := by have := vl 0 (by omega); omega
                    have l1 : 2 * (j : Int) + 1 < (ln : Int) := vl 1 (by omega)
                    have l2 : 2 * (j : Int) + 2 < (ln : Int) := vl 2 (by omega)
                    have l3 : 2 * (j : Int) + 3 < (ln : Int) := vl 3 (by omega)
                    have l4 : 2 * (j : Int) + 4 < (ln : Int) := vl 4 (by omega)
                    have p0 : (0 : Int) ≤ 2 * (j : Int) := by omega
                    have p1 : (0 : Int) ≤ 2 * (j : Int) + 1 := by omega
                    have p2 : (0 : Int) ≤ 2 * (j : Int) + 2 := by omega
                    have p3 : (0 : Int) ≤ 2 * (j : Int) + 3 := by omega
                    have p4 : (0 : Int) ≤ 2 * (j : Int) + 4 := by omega
                    have y1 : IntKind.i64.wrap (2 * (j : Int) + 1) = 2 * (j : Int) + 1 := IntWalk.i64_in _ (by omega)
                    have y2 : IntKind.i64.wrap (2 * (j : Int) + 2) = 2 * (j : Int) + 2 := IntWalk.i64_in _ (by omega)
                    have y3 : IntKind.i64.wrap (2 * (j : Int) + 3) = 2 * (j : Int) + 3 := IntWalk.i64_in _ (by omega)
                    have y4 : IntKind.i64.wrap (2 * (j : Int) + 4) = 2 * (j : Int) + 4 := IntWalk.i64_in _ (by omega)
                    have hKS : ∀ w1, Rg.Keeps (fun g => g = ge) wr.drew w1 → (w1.cell? ⟨b, o + 2 * j, none⟩ = some (.int .u64 (x0 : Int)) ∧ w1.cell? ⟨b, o + (2 * j + 1), none⟩ = some (.int .u64 (x1 : Int)) ∧ w1.cell? ⟨b, o + (2 * j + 2), none⟩ = some (.int .u64 (x2 : Int)) ∧ w1.cell? ⟨b, o + (2 * j + 3), none⟩ = some (.int .u64 (x3 : Int)) ∧ w1.cell? ⟨b, o + (2 * j + 4), none⟩ = some (.int .u64 (x4 : Int))) := fun w1 hK => by
                      have hc := hK.block b hbb (fun e0 => hbne e0.symm)
                      exact ⟨(World.cell?_of_block hc).trans k0, (World.cell?_of_block hc).trans k1, (World.cell?_of_block hc).trans k2, (World.cell?_of_block hc).trans k3, (World.cell?_of_block hc).trans k4⟩
                    have HI := Lib.hid hI2
                    clear hI hI2 hl2 cc xb hb c0 k0 k1 k2 k3 k4 vt vl HR3 hall
                    go_wp2_with fail
                    apply Rg.region_own 35 _ (fun g => g = ge) (fun W => W.heap[ge]? = some (.cells #[.slice D k dc, .slice A j ac, .int .i64 ((0 : Nat) : Int), .int .u64 ((0 : Nat) : Int), .int .u64 ((0 : Nat) : Int), .int .u64 ((0 : Nat) : Int), .int .u64 ((0 : Nat) : Int)] 32 (0, 0))) rfl (by kernel_rfl) (by kernel_rfl) (by rintro g rfl; exact hgl) hge0 (fun w1 w2 h hs => (hs.block ge (Array.getElem?_eq_some_iff.1 h).1 (.inr rfl)).trans h) hKS
                    · intro QN hQN
                      iterate 26 (apply Rg.RK.ok; (· intro vs w1 hS; go_simp; with_reducible rfl); (· rfl); simp only [Act.put, List.setIfInBounds_toArray, List.set_cons_zero, List.set_cons_succ, Nat.reduceAdd])
                      apply Rg.RK.opn (fun _ W => W.heap[ge]? = some (.cells #[.slice D k dc, .slice A j ac, .int .i64 (x0 : Int), .int .u64 ((0 : Nat) : Int), .int .u64 ((0 : Nat) : Int), .int .u64 ((0 : Nat) : Int), .int .u64 ((0 : Nat) : Int)] 32 (0, 0))) (fun _ g => g = ge) [35] [35]
                      · exact fun v W1 W2 h hs => (hs.block ge (Array.getElem?_eq_some_iff.1 h).1 (.inr rfl)).trans h
                      · rfl
                      · intro vs w4 hK hS hf K hKK
                        obtain ⟨hblk, -⟩ := hf
                        have hblk2 : w4.heap[ge]? = some (.cells #[.slice D k dc, .slice A j ac, .int .i64 ((0 : Nat) : Int), .int .u64 ((0 : Nat) : Int), .int .u64 ((0 : Nat) : Int), .int .u64 ((0 : Nat) : Int), .int .u64 ((0 : Nat) : Int)] 32 (0, 0)) := hblk
                        have t0 := blk_cell hblk2 2
                        have s0 := blk_free hblk2 2
                        (try dsimp only at hKK ⊢)
                        go_simp
                        refine hKK.out undef _ (setc_heap w4 ge 2 _ _ _ hblk2) (Keeps.weak (setc_keeps w4 w4 ge 2 _ (Rg.Keeps.refl _ _)) fun y hy => ⟨35, List.mem_singleton.2 rfl, hy⟩) (fun y hy => ⟨?_, .inr ⟨35, List.mem_singleton.2 rfl, hy⟩⟩)
                        have hyy : y = ge := hy
                        rw [hyy]
                        exact (Array.getElem?_eq_some_iff.1 (setc_heap w4 ge 2 _ _ _ hblk2)).1
                      simp only [Act.put, List.setIfInBounds_toArray, List.set_cons_zero, List.set_cons_succ, Nat.reduceAdd]
                      iterate 1 (apply Rg.RK.ok; (· intro vs w1 hS; go_simp; with_reducible rfl); (· rfl); simp only [Act.put, List.setIfInBounds_toArray, List.set_cons_zero, List.set_cons_succ, Nat.reduceAdd])
                      apply Rg.RK.opn (fun _ W => W.heap[ge]? = some (.cells #[.slice D k dc, .slice A j ac, .int .i64 (x0 : Int), .int .u64 (x1 : Int), .int .u64 ((0 : Nat) : Int), .int .u64 ((0 : Nat) : Int), .int .u64 ((0 : Nat) : Int)] 32 (0, 0))) (fun _ g => g = ge) [26] [26]
                      · exact fun v W1 W2 h hs => (hs.block ge (Array.getElem?_eq_some_iff.1 h).1 (.inr rfl)).trans h
                      · rfl
                      · intro vs w4 hK hS hf K hKK
                        obtain ⟨hblk, -⟩ := hf
                        have hblk2 : w4.heap[ge]? = some (.cells #[.slice D k dc, .slice A j ac, .int .i64 (x0 : Int), .int .u64 ((0 : Nat) : Int), .int .u64 ((0 : Nat) : Int), .int .u64 ((0 : Nat) : Int), .int .u64 ((0 : Nat) : Int)] 32 (0, 0)) := hblk
                        have t0 := blk_cell hblk2 3
                        have s0 := blk_free hblk2 3
                        (try dsimp only at hKK ⊢)
                        go_simp
                        refine hKK.out undef _ (setc_heap w4 ge 3 _ _ _ hblk2) (Keeps.weak (setc_keeps w4 w4 ge 3 _ (Rg.Keeps.refl _ _)) fun y hy => ⟨26, List.mem_singleton.2 rfl, hy⟩) (fun y hy => ⟨?_, .inr ⟨26, List.mem_singleton.2 rfl, hy⟩⟩)
                        have hyy : y = ge := hy
                        rw [hyy]
                        exact (Array.getElem?_eq_some_iff.1 (setc_heap w4 ge 3 _ _ _ hblk2)).1
                      simp only [Act.put, List.setIfInBounds_toArray, List.set_cons_zero, List.set_cons_succ, Nat.reduceAdd]
                      iterate 1 (apply Rg.RK.ok; (· intro vs w1 hS; go_simp; with_reducible rfl); (· rfl); simp only [Act.put, List.setIfInBounds_toArray, List.set_cons_zero, List.set_cons_succ, Nat.reduceAdd])
                      apply Rg.RK.opn (fun _ W => W.heap[ge]? = some (.cells #[.slice D k dc, .slice A j ac, .int .i64 (x0 : Int), .int .u64 (x1 : Int), .int .u64 (x2 : Int), .int .u64 ((0 : Nat) : Int), .int .u64 ((0 : Nat) : Int)] 32 (0, 0))) (fun _ g => g = ge) [28] [28]
                      · exact fun v W1 W2 h hs => (hs.block ge (Array.getElem?_eq_some_iff.1 h).1 (.inr rfl)).trans h
                      · rfl
                      · intro vs w4 hK hS hf K hKK
                        obtain ⟨hblk, -⟩ := hf
                        have hblk2 : w4.heap[ge]? = some (.cells #[.slice D k dc, .slice A j ac, .int .i64 (x0 : Int), .int .u64 (x1 : Int), .int .u64 ((0 : Nat) : Int), .int .u64 ((0 : Nat) : Int), .int .u64 ((0 : Nat) : Int)] 32 (0, 0)) := hblk
                        have t0 := blk_cell hblk2 4
                        have s0 := blk_free hblk2 4
                        (try dsimp only at hKK ⊢)
                        go_simp
                        refine hKK.out undef _ (setc_heap w4 ge 4 _ _ _ hblk2) (Keeps.weak (setc_keeps w4 w4 ge 4 _ (Rg.Keeps.refl _ _)) fun y hy => ⟨28, List.mem_singleton.2 rfl, hy⟩) (fun y hy => ⟨?_, .inr ⟨28, List.mem_singleton.2 rfl, hy⟩⟩)
                        have hyy : y = ge := hy
                        rw [hyy]
                        exact (Array.getElem?_eq_some_iff.1 (setc_heap w4 ge 4 _ _ _ hblk2)).1
                      simp only [Act.put, List.setIfInBounds_toArray, List.set_cons_zero, List.set_cons_succ, Nat.reduceAdd]
                      iterate 1 (apply Rg.RK.ok; (· intro vs w1 hS; go_simp; with_reducible rfl); (· rfl); simp only [Act.put, List.setIfInBounds_toArray, List.set_cons_zero, List.set_cons_succ, Nat.reduceAdd])
                      apply Rg.RK.opn (fun _ W => W.heap[ge]? = some (.cells #[.slice D k dc, .slice A j ac, .int .i64 (x0 : Int), .int .u64 (x1 : Int), .int .u64 (x2 : Int), .int .u64 (x3 : Int), .int .u64 ((0 : Nat) : Int)] 32 (0, 0))) (fun _ g => g = ge) [30] [30]
                      · exact fun v W1 W2 h hs => (hs.block ge (Array.getElem?_eq_some_iff.1 h).1 (.inr rfl)).trans h
                      · rfl
                      · intro vs w4 hK hS hf K hKK
                        obtain ⟨hblk, -⟩ := hf
                        have hblk2 : w4.heap[ge]? = some (.cells #[.slice D k dc, .slice A j ac, .int .i64 (x0 : Int), .int .u64 (x1 : Int), .int .u64 (x2 : Int), .int .u64 ((0 : Nat) : Int), .int .u64 ((0 : Nat) : Int)] 32 (0, 0)) := hblk
                        have t0 := blk_cell hblk2 5
                        have s0 := blk_free hblk2 5
                        (try dsimp only at hKK ⊢)
                        go_simp
                        refine hKK.out undef _ (setc_heap w4 ge 5 _ _ _ hblk2) (Keeps.weak (setc_keeps w4 w4 ge 5 _ (Rg.Keeps.refl _ _)) fun y hy => ⟨30, List.mem_singleton.2 rfl, hy⟩) (fun y hy => ⟨?_, .inr ⟨30, List.mem_singleton.2 rfl, hy⟩⟩)
                        have hyy : y = ge := hy
                        rw [hyy]
                        exact (Array.getElem?_eq_some_iff.1 (setc_heap w4 ge 5 _ _ _ hblk2)).1
                      simp only [Act.put, List.setIfInBounds_toArray, List.set_cons_zero, List.set_cons_succ, Nat.reduceAdd]
                      iterate 1 (apply Rg.RK.ok; (· intro vs w1 hS; go_simp; with_reducible rfl); (· rfl); simp only [Act.put, List.setIfInBounds_toArray, List.set_cons_zero, List.set_cons_succ, Nat.reduceAdd])
                      apply Rg.RK.opn (fun _ W => W.heap[ge]? = some (.cells #[.slice D k dc, .slice A j ac, .int .i64 (x0 : Int), .int .u64 (x1 : Int), .int .u64 (x2 : Int), .int .u64 (x3 : Int), .int .u64 (x4 : Int)] 32 (0, 0))) (fun _ g => g = ge) [32] [32]
                      · exact fun v W1 W2 h hs => (hs.block ge (Array.getElem?_eq_some_iff.1 h).1 (.inr rfl)).trans h
                      · rfl
                      · intro vs w4 hK hS hf K hKK
                        obtain ⟨hblk, -⟩ := hf
                        have hblk2 : w4.heap[ge]? = some (.cells #[.slice D k dc, .slice A j ac, .int .i64 (x0 : Int), .int .u64 (x1 : Int), .int .u64 (x2 : Int), .int .u64 (x3 : Int), .int .u64 ((0 : Nat) : Int)] 32 (0, 0)) := hblk
                        have t0 := blk_cell hblk2 6
                        have s0 := blk_free hblk2 6
                        (try dsimp only at hKK ⊢)
                        go_simp
                        refine hKK.out undef _ (setc_heap w4 ge 6 _ _ _ hblk2) (Keeps.weak (setc_keeps w4 w4 ge 6 _ (Rg.Keeps.refl _ _)) fun y hy => ⟨32, List.mem_singleton.2 rfl, hy⟩) (fun y hy => ⟨?_, .inr ⟨32, List.mem_singleton.2 rfl, hy⟩⟩)
                        have hyy : y = ge := hy
                        rw [hyy]
                        exact (Array.getElem?_eq_some_iff.1 (setc_heap w4 ge 6 _ _ _ hblk2)).1
                      simp only [Act.put, List.setIfInBounds_toArray, List.set_cons_zero, List.set_cons_succ, Nat.reduceAdd]
                      apply Rg.RK.fin [34]
                      intro vs w4 hK hS hf
                      obtain ⟨hblk, -⟩ := hf
                      refine hQN.out _ _ ?_
                      clear hQN
                      have hblk2 : w4.heap[ge]? = some (.cells #[.slice D k dc, .slice A j ac, .int .i64 (x0 : Int), .int .u64 (x1 : Int), .int .u64 (x2 : Int), .int .u64 (x3 : Int), .int .u64 (x4 : Int)] 32 (0, 0)) := hblk
                      have hI9 := HI.out.kp hK hblk2
                      clear hblk hS hK hgl hge0 hbne HI
                      by_cases hat9 : at_ = s.size
                      · subst hat9
                        clear hKS
                        have t0 := blk_cell hI9.hge 0
                        have t1 := blk_cell hI9.hge 1
                        have t2 := blk_cell hI9.hge 2
                        have t3 := blk_cell hI9.hge 3
                        have t4 := blk_cell hI9.hge 4
                        have t5 := blk_cell hI9.hge 5
                        have t6 := blk_cell hI9.hge 6
                        have hod := Rd.own hI9.hoD
                        have hoa := Rd.own hI9.hoA
                        have HOD1 := Lib.hid hod
                        have HOA1 := Lib.hid hoa
                        have HIH := Lib.hid hI9
                        obtain ⟨mb, hmb⟩ : ∃ x, x = mayE (q.map idD) (prs acc j) x0 x1 x2 x3 x4 := ⟨_, rfl⟩
                        have HMB := Lib.hid hmb
                        have hkb9 : k ≤ 9223372036854775807 := by omega
                        have hjb9 : j ≤ 9223372036854775807 := by omega
                        clear hod hoa hI9 hmb
                        go_wp2_with fail
                        refine (rmay_any D k dc (q.map idD) A j ac (prs acc j) x0 x1 x2 x3 x4 w4 HOD1.out hkb9 HOA1.out hjb9).mono ?_
                        rintro e wi ⟨rfl, hui⟩
                        rw [← HMB.out]
                        have hIj := HIH.out.upg hui
                        clear t0 t1 t2 t3 t4 t5 t6 HOD1 HOA1 HIH hui
                        have hg9 := hIj.hg
                        have hup9 := hIj.up
                        cases mb
                        · have HNO : Hid (readR bs = none) := by
                            show _ = _
                            rw [HR4.out, if_neg (by rw [← HMB.out]; simp)]
                          have hm1 : ((mayN false : Nat) : Int) = 1 := rfl
                          clear HR4 hIj
                          have t0 := blk_cell hg9 0
                          have t1 := blk_cell hg9 1
                          have t2 := blk_cell hg9 2
                          have t3 := blk_cell hg9 3
                          have t4 := blk_cell hg9 4
                          have t5 := blk_cell hg9 5
                          have t6 := blk_cell hg9 6
                          have s0 := blk_free hg9 0
                          have s1 := blk_free hg9 1
                          have s2 := blk_free hg9 2
                          have s3 := blk_free hg9 3
                          have s4 := blk_free hg9 4
                          have s5 := blk_free hg9 5
                          have s6 := blk_free hg9 6
                          have h7 := set7 _ g2 _ _ _ _ _ _ _ (.slice none 0 0) (.slice none 0 0) (.int .i64 0) (.int .u64 0) (.int .u64 0) (.int .u64 0) (.int .u64 0) _ hg9
                          have hup10 := keepsUp hup9 hgw9 h7.2
                          have H71 := Lib.hid h7.1
                          have HUP := Lib.hid hup10
                          clear h7 hup10 hup9 hg9
                          go_wp2_with fail
                          have u0 := blk_cell H71.out 0
                          have u1 := blk_cell H71.out 1
                          have u2 := blk_cell H71.out 2
                          have u3 := blk_cell H71.out 3
                          have u4 := blk_cell H71.out 4
                          have u5 := blk_cell H71.out 5
                          have u6 := blk_cell H71.out 6
                          refine bodyPost_ret (v := .tuple #[.agg #[.slice none 0 0, .slice none 0 0, .int .i64 0, .int .u64 0, .int .u64 0, .int .u64 0, .int .u64 0], .int .i64 3]) (by simp [results, Try.results19, go_sem, u0, u1, u2, u3, u4, u5, u6]) rfl ?_
                          rw [HNO.out]
                          exact ⟨rfl, HUP.out⟩
                        · have HSO : Hid (readR bs = some (q.map idD, prs acc j, (x0 : Int), x1, x2, x3, x4)) := by
                            show _ = _
                            rw [HR4.out, if_pos ⟨HL.out, HMB.out.symm⟩]
                          have hm1 : ((mayN true : Nat) : Int) = 0 := rfl
                          have t0 := blk_cell hIj.hge 0
                          have t1 := blk_cell hIj.hge 1
                          have t2 := blk_cell hIj.hge 2
                          have t3 := blk_cell hIj.hge 3
                          have t4 := blk_cell hIj.hge 4
                          have t5 := blk_cell hIj.hge 5
                          have t6 := blk_cell hIj.hge 6
                          have r0 := blk_cell hg9 0
                          have r1 := blk_cell hg9 1
                          have r2 := blk_cell hg9 2
                          have r3 := blk_cell hg9 3
                          have r4 := blk_cell hg9 4
                          have r5 := blk_cell hg9 5
                          have r6 := blk_cell hg9 6
                          have s0 := blk_free hg9 0
                          have s1 := blk_free hg9 1
                          have s2 := blk_free hg9 2
                          have s3 := blk_free hg9 3
                          have s4 := blk_free hg9 4
                          have s5 := blk_free hg9 5
                          have s6 := blk_free hg9 6
                          have h7 := set7 wi g2 _ _ _ _ _ _ _ (.slice D k dc) (.slice A j ac) (.int .i64 (x0 : Int)) (.int .u64 (x1 : Int)) (.int .u64 (x2 : Int)) (.int .u64 (x3 : Int)) (.int .u64 (x4 : Int)) _ hg9
                          have hg2e : g2 < ge + 1 := by have := hIj.o2; omega
                          have hod := Rd.own (own_keeps6 hIj.hoD hg2e h7.2)
                          have hoa := Rd.own (own_keeps6 hIj.hoA hg2e h7.2)
                          have hnd := own_cap hIj.hoD
                          have hna := own_cap hIj.hoA
                          have hup10 := keepsUp hup9 hgw9 h7.2
                          have H71 := Lib.hid h7.1
                          have HUP := Lib.hid hup10
                          have HOD := Lib.hid hod
                          have HOA := Lib.hid hoa
                          clear h7 hup10 hup9 hg9 hod hoa hIj HR4
                          go_wp2_with fail
                          have u0 := blk_cell H71.out 0
                          have u1 := blk_cell H71.out 1
                          have u2 := blk_cell H71.out 2
                          have u3 := blk_cell H71.out 3
                          have u4 := blk_cell H71.out 4
                          have u5 := blk_cell H71.out 5
                          have u6 := blk_cell H71.out 6
                          refine bodyPost_ret (v := .tuple #[.agg #[.slice D k dc, .slice A j ac, .int .i64 (x0 : Int), .int .u64 (x1 : Int), .int .u64 (x2 : Int), .int .u64 (x3 : Int), .int .u64 (x4 : Int)], .int .i64 0]) (by simp [results, Try.results19, go_sem, u0, u1, u2, u3, u4, u5, u6]) rfl ?_
                          rw [HSO.out]
                          exact ⟨D, k, dc, A, j, ac, rfl, HOD.out, hnd, HOA.out, hna, HUP.out⟩
                      · have hai : ¬ (at_ : Int) = (s.size : Int) := by omega
                        have hab : ((at_ : Int) != (s.size : Int)) = true := by simp; omega
                        have HNO : Hid (readR bs = none) := by
                          show _ = _
                          rw [HR4.out, if_neg (fun h => hat9 (h.1.trans HL.out.symm))]
                        have hg9 := hI9.hg
                        have hup9 := hI9.up
                        clear hI9 HR4
                        have t0 := blk_cell hg9 0
                        have t1 := blk_cell hg9 1
                        have t2 := blk_cell hg9 2
                        have t3 := blk_cell hg9 3
                        have t4 := blk_cell hg9 4
                        have t5 := blk_cell hg9 5
                        have t6 := blk_cell hg9 6
                        have s0 := blk_free hg9 0
                        have s1 := blk_free hg9 1
                        have s2 := blk_free hg9 2
                        have s3 := blk_free hg9 3
                        have s4 := blk_free hg9 4
                        have s5 := blk_free hg9 5
                        have s6 := blk_free hg9 6
                        have h7 := set7 _ g2 _ _ _ _ _ _ _ (.slice none 0 0) (.slice none 0 0) (.int .i64 0) (.int .u64 0) (.int .u64 0) (.int .u64 0) (.int .u64 0) _ hg9
                        have hup10 := keepsUp hup9 hgw9 h7.2
                        have H71 := Lib.hid h7.1
                        have HUP := Lib.hid hup10
                        clear h7 hup10 hup9 hg9
                        go_wp2_with fail
                        have u0 := blk_cell H71.out 0
                        have u1 := blk_cell H71.out 1
                        have u2 := blk_cell H71.out 2
                        have u3 := blk_cell H71.out 3
                        have u4 := blk_cell H71.out 4
                        have u5 := blk_cell H71.out 5
                        have u6 := blk_cell H71.out 6
                        refine bodyPost_ret (v := .tuple #[.agg #[.slice none 0 0, .slice none 0 0, .int .i64 0, .int .u64 0, .int .u64 0, .int .u64 0, .int .u64 0], .int .i64 3]) (by simp [results, Try.results19, go_sem, u0, u1, u2, u3, u4, u5, u6]) rfl ?_
                        rw [HNO.out]
                        exact ⟨rfl, HUP.out⟩
                    · kernel_rfl
        · have hei : ¬ (te : Int) = 0 := by omega
          have heb : ((te : Int) != 0) = true := by simp; omega
          have HNO : Hid (readR bs = none) := by
            show _ = _
            rw [HRR.out, if_pos (.inl hte)]
          have hg9 := hI.hg
          have hup9 := hI.up
          clear hI HRR
          have t0 := blk_cell hg9 0
          have t1 := blk_cell hg9 1
          have t2 := blk_cell hg9 2
          have t3 := blk_cell hg9 3
          have t4 := blk_cell hg9 4
          have t5 := blk_cell hg9 5
          have t6 := blk_cell hg9 6
          have s0 := blk_free hg9 0
          have s1 := blk_free hg9 1
          have s2 := blk_free hg9 2
          have s3 := blk_free hg9 3
          have s4 := blk_free hg9 4
          have s5 := blk_free hg9 5
          have s6 := blk_free hg9 6
          have h7 := set7 _ g2 _ _ _ _ _ _ _ (.slice none 0 0) (.slice none 0 0) (.int .i64 0) (.int .u64 0) (.int .u64 0) (.int .u64 0) (.int .u64 0) _ hg9
          have hup10 := keepsUp hup9 hgw9 h7.2
          have H71 := Lib.hid h7.1
          have HUP := Lib.hid hup10
          clear h7 hup10 hup9 hg9
          go_wp2_with fail
          have u0 := blk_cell H71.out 0
          have u1 := blk_cell H71.out 1
          have u2 := blk_cell H71.out 2
          have u3 := blk_cell H71.out 3
          have u4 := blk_cell H71.out 4
          have u5 := blk_cell H71.out 5
          have u6 := blk_cell H71.out 6
          refine bodyPost_ret (v := .tuple #[.agg #[.slice none 0 0, .slice none 0 0, .int .i64 0, .int .u64 0, .int .u64 0, .int .u64 0, .int .u64 0], .int .i64 3]) (by simp [results, Try.results19, go_sem, u0, u1, u2, u3, u4, u5, u6]) rfl ?_
          rw [HNO.out]
          exact ⟨rfl, HUP.out⟩
  · have hqei : ¬ (qe : Int) = 0 := by omega
    have hqeb : ((qe : Int) != 0) = true := by simp; omega
    have HNO : Hid (readR bs = none) := by
      show _ = _
      unfold readR
      rw [HU.out]
      exact if_pos hqe
    have hg9 := hg3
    have hup9 := hup3
    clear hg3 hup3 hoQ hg2E
    have t0 := blk_cell hg9 0
    have t1 := blk_cell hg9 1
    have t2 := blk_cell hg9 2
    have t3 := blk_cell hg9 3
    have t4 := blk_cell hg9 4
    have t5 := blk_cell hg9 5
    have t6 := blk_cell hg9 6
    have s0 := blk_free hg9 0
    have s1 := blk_free hg9 1
    have s2 := blk_free hg9 2
    have s3 := blk_free hg9 3
    have s4 := blk_free hg9 4
    have s5 := blk_free hg9 5
    have s6 := blk_free hg9 6
    have h7 := set7 _ g2 _ _ _ _ _ _ _ (.slice none 0 0) (.slice none 0 0) (.int .i64 0) (.int .u64 0) (.int .u64 0) (.int .u64 0) (.int .u64 0) _ hg9
    have hup10 := keepsUp hup9 hgw9 h7.2
    have H71 := Lib.hid h7.1
    have HUP := Lib.hid hup10
    clear h7 hup10 hup9 hg9
    go_wp2_with fail
    have u0 := blk_cell H71.out 0
    have u1 := blk_cell H71.out 1
    have u2 := blk_cell H71.out 2
    have u3 := blk_cell H71.out 3
    have u4 := blk_cell H71.out 4
    have u5 := blk_cell H71.out 5
    have u6 := blk_cell H71.out 6
    refine bodyPost_ret (v := .tuple #[.agg #[.slice none 0 0, .slice none 0 0, .int .i64 0, .int .u64 0, .int .u64 0, .int .u64 0, .int .u64 0], .int .i64 3]) (by simp [results, Try.results19, go_sem, u0, u1, u2, u3, u4, u5, u6]) rfl ?_
    rw [HNO.out]
    exact ⟨rfl, HUP.out⟩
end Go.Proofs.Ytokcaoaclheiiaa

/-
  Plain law: the edit that was put in bytes is read.
-/
namespace Go.Proofs.Ytokcaoaclheiiaa
open Go.RowKit
set_option linter.unusedVariables false

theorem rtk_numB {most x : Nat} (r : List UInt8) (hx : x ≤ most) (hm : most < 18446744073709551616) : rtk most (numB x ++ r) true = (x, r, true) := by
  unfold rtk
  have h := takeL_numB x r (by omega)
  rw [h]
  simp [hx]
theorem fileOk_b {f : Fl} (h : fileOk f = true) : 0 ≤ f.1 ∧ f.1 ≤ 3 ∧ 1 ≤ f.2 ∧ f.2 ≤ 1073741824 := by
  simp only [fileOk, numOk, Bool.and_eq_true, decide_eq_true_eq] at h
  omega
theorem rfiles_files (add : List Fl) (r : List UInt8) (hall : ∀ f ∈ add, fileOk f = true) : ∀ k, k ≤ add.length → rfiles k (filesB add ++ r, true) = (add.take k, (filesB (add.drop k) ++ r, true))
  | 0, _ => by simp [rfiles]
  | k + 1, hk => by
    have ih := rfiles_files add r hall k (by omega)
    have hkl : k < add.length := by omega
    have hb := fileOk_b (hall (add[k]) (List.getElem_mem hkl))
    have hd : add.drop k = add[k] :: add.drop (k + 1) := List.drop_eq_getElem_cons hkl
    have e1 : filesB (add.drop k) ++ r = numB (add[k]).1.toNat ++ (numB (add[k]).2.toNat ++ (filesB (add.drop (k + 1)) ++ r)) := by
      rw [hd]
      simp only [filesB, List.flatMap_cons, List.append_assoc]
    have e2 : rtk 3 (filesB (add.drop k) ++ r) true = ((add[k]).1.toNat, numB (add[k]).2.toNat ++ (filesB (add.drop (k + 1)) ++ r), true) := by
      rw [e1]; exact rtk_numB _ (by omega) (by decide)
    have e3 : rtk 1073741824 (numB (add[k]).2.toNat ++ (filesB (add.drop (k + 1)) ++ r)) true = ((add[k]).2.toNat, filesB (add.drop (k + 1)) ++ r, true) := rtk_numB _ (by omega) (by decide)
    simp only [rfiles, ih, e2, e3]
    rw [List.take_succ_eq_append_getElem hkl]
    have e4 : (((add[k]).1.toNat : Int), ((add[k]).2.toNat : Int)) = add[k] := by
      apply Prod.ext
      · show ((add[k]).1.toNat : Int) = _; omega
      · show ((add[k]).2.toNat : Int) = _; omega
    rw [e4]
theorem dq_min (ds : List Int) (hall : ∀ x ∈ ds, numOk x = true) : (dq ds).map minD = ds := by
  unfold dq
  rw [List.map_map]
  conv => rhs; rw [← List.map_id' ds]
  apply List.map_congr_left
  intro x hx
  have h := hall x hx
  simp only [numOk, decide_eq_true_eq] at h
  show ((capN (UInt64.ofNat x.toNat).toNat : Nat) : Int) = x
  have e : (UInt64.ofNat x.toNat).toNat = x.toNat := by
    rw [UInt64.toNat_ofNat_of_lt']; show x.toNat < 18446744073709551616; omega
  rw [e]
  unfold capN
  rw [if_neg (by omega)]
  omega
theorem readE_editB {ds : List Int} {add : List Fl} {lg : Int} {f ce at_ le : Nat} (hm : mayE ds add lg f ce at_ le = true) : readE (editB ds add lg f ce at_ le) = some (ds, add, lg, f, ce, at_, le) := by
  have hm0 := hm
  simp only [mayE, Bool.and_eq_true, decide_eq_true_eq, List.all_cons, List.all_nil, verOk, Bool.and_true] at hm
  obtain ⟨m1, m2, m3, m4, ⟨m5a, m5b, m5c, m5d⟩, m6, m7⟩ := hm
  have h1 : unlistL (editB ds add lg f ce at_ le) 40 = (dq ds, (listB (dq ds)).length, 0) := by
    have h := unlist_full (dq ds) (numB add.length ++ (filesB add ++ numsL [lg.toNat, f, ce, at_, le])) 40 (by rw [dq_len]; omega) (by rw [dq_len]; omega)
    unfold editB
    rw [List.append_assoc, List.append_assoc]
    exact h
  have h2 : (editB ds add lg f ce at_ le).drop (listB (dq ds)).length = numB add.length ++ (filesB add ++ numsL [lg.toNat, f, ce, at_, le]) := by
    unfold editB
    rw [List.append_assoc, List.append_assoc, List.drop_left]
  have h3 : rtk 40 ((editB ds add lg f ce at_ le).drop (listB (dq ds)).length) true = (add.length, (filesB add ++ numsL [lg.toNat, f, ce, at_, le]), true) := by
    rw [h2]; exact rtk_numB _ m2 (by decide)
  have h4 : rfiles add.length (filesB add ++ numsL [lg.toNat, f, ce, at_, le], true) = (add, (numsL [lg.toNat, f, ce, at_, le], true)) := by
    have h := rfiles_files add (numsL [lg.toNat, f, ce, at_, le]) (List.all_eq_true.1 m7) add.length (Nat.le_refl _)
    rw [h]
    simp [filesB]
  have n0 : numsL [lg.toNat, f, ce, at_, le] = numB lg.toNat ++ (numB f ++ (numB ce ++ (numB at_ ++ (numB le ++ [])))) := by simp [numsL]
  have h5 : rtk 1073741824 (numsL [lg.toNat, f, ce, at_, le]) true = (lg.toNat, numB f ++ (numB ce ++ (numB at_ ++ (numB le ++ []))), true) := by rw [n0]; exact rtk_numB _ (by omega) (by decide)
  have h6 := rtk_numB (most := 281474976710656) (x := f) (numB ce ++ (numB at_ ++ (numB le ++ []))) (by omega) (by decide)
  have h7 := rtk_numB (most := 281474976710656) (x := ce) (numB at_ ++ (numB le ++ [])) (by omega) (by decide)
  have h8 := rtk_numB (most := 281474976710656) (x := at_) (numB le ++ []) (by omega) (by decide)
  have h9 := rtk_numB (most := 281474976710656) (x := le) [] (by omega) (by decide)
  have hl : ((lg.toNat : Nat) : Int) = lg := by omega
  unfold readE
  simp only [h1, h3, h4, h5, h6, h7, h8, h9, dq_min ds (List.all_eq_true.1 m6), hl, hm0]
  simp
end Go.Proofs.Ytokcaoaclheiiaa
