/-
  The walk of edit.Read.
-/
import Derived.Test.YtokcaoaclheiiaaEditW12
import Derived.Test.YtokcaoaclheiiaaEditW7
import Derived.Test.YtokcaoaclheiiaaNumW5
import Derived.Test.YtokcaoaclheiiaaNumLaw
import Derived.Test.YtokcaoaclheiiaaFrameW7
import Derived.IntWalk
namespace Go.Proofs.Ytokcaoaclheiiaa
open Go.RowKit
set_option linter.unusedVariables false
set_option linter.unusedSimpArgs false

abbrev RS := List UInt8 × Bool
def rfiles : Nat → RS → List Fl × RS
  | 0, s => ([], s)
  | k + 1, s =>
    let t := rfiles k s
    let a := rtk 3 t.2.1 t.2.2
    let b := rtk 1073741824 a.2.1 a.2.2
    (t.1 ++ [((a.1 : Int), (b.1 : Int))], b.2)
theorem rfiles_succ {k : Nat} {s : RS} {add : List Fl} {st s1 s2 : RS} {lv nu : Nat} (h : rfiles k s = (add, st)) (h1 : lv = (rtk 3 st.1 st.2).1) (h2 : s1 = (rtk 3 st.1 st.2).2) (h3 : nu = (rtk 1073741824 s1.1 s1.2).1) (h4 : s2 = (rtk 1073741824 s1.1 s1.2).2) :
    rfiles (k + 1) s = (add ++ [((lv : Int), (nu : Int))], s2) := by
  subst h4; subst h3; subst h2; subst h1
  simp only [rfiles, h]
def capN (x : Nat) : Nat := if 1073741825 < x then 1073741825 else x
def minD (x : UInt64) : Int := (capN x.toNat : Int)
abbrev ET := List Int × List Fl × Int × Nat × Nat × Nat × Nat
/-- the edit of a frame's body -/
def readE (bs : List UInt8) : Option ET :=
  let u := unlistL bs 40
  let c := rtk 40 (bs.drop u.2.1) true
  let fs := rfiles c.1 c.2
  let l := rtk 1073741824 fs.2.1 fs.2.2
  let a := rtk 281474976710656 l.2.1 l.2.2
  let b := rtk 281474976710656 a.2.1 a.2.2
  let d := rtk 281474976710656 b.2.1 b.2.2
  let e := rtk 281474976710656 d.2.1 d.2.2
  if u.2.2 = 0 ∧ e.2.2 = true ∧ e.2.1 = [] ∧ mayE (u.1.map minD) fs.1 l.1 a.1 b.1 d.1 e.1 = true then some (u.1.map minD, fs.1, (l.1 : Int), a.1, b.1, d.1, e.1) else none
theorem own_keepsT {w w2 : World} {base gx : Nat} {e t : TypeId} {sz n : Nat} {v : Value} {xs : List Value} {cs : Array Value} {fz : Nat × Nat} (h : w.ownsRow base e sz v n xs) (hh : w.heap[gx]? = some (.cells cs t fz)) (hne : e ≠ t) (hK : Rg.Keeps (fun g => g = gx) w w2) : w2.ownsRow base e sz v n xs := by
  refine ⟨h.1, ?_⟩
  rcases h.2 with h2 | ⟨g, cap, cur, hv, hb, hg, r⟩
  · exact .inl h2
  · refine .inr ⟨g, cap, cur, hv, hb, (hK.block g (Array.getElem?_eq_some_iff.1 hg).1 (fun e0 => ?_)).trans hg, r⟩
    have e1 : g = gx := e0
    rw [e1, hh] at hg
    injection hg with hg
    injection hg with _ h2 _
    exact hne h2.symm

theorem step_wp {P : Program} {ops : Array Oper} {o : Oper} {a : Act} {w : World} {K : Act → World → Prop} {Q : Exit → Act → World → Prop} {E : Prop} (hg : o.guard = none) (h : Oper.wp P o a w K Q) :
    if Region.wanted o (yielded ops a.tmps) = true then Oper.wp P o a w K Q else E := by
  rw [if_pos (by simp [Region.wanted, hg])]; exact h
def RdPost (r : Option ET) (w : World) (e : Ending) (w' : World) : Prop :=
  match r with
  | none => e = .returned (.tuple #[.agg #[.slice none 0 0, .slice none 0 0, .int .i64 0, .int .u64 0, .int .u64 0, .int .u64 0, .int .u64 0], .int .i64 3]) ∧ Up w w'
  | some x => ∃ D dn dc A an ac, e = .returned (.tuple #[.agg #[.slice D dn dc, .slice A an ac, .int .i64 x.2.2.1, .int .u64 (x.2.2.2.1 : Int), .int .u64 (x.2.2.2.2.1 : Int), .int .u64 (x.2.2.2.2.2.1 : Int), .int .u64 (x.2.2.2.2.2.2 : Int)], .int .i64 0]) ∧
      Rd w' w'.heap.size 1 D dn (nmv x.1) ∧ dn ≤ dc ∧ Rd w' w'.heap.size 2 A an (fvs x.2.1) ∧ an ≤ ac ∧ Up w w'
/-- what is known of all that Read has made -/
structure RdI (w : World) (g2 ge gr : Nat) (D : Option Addr) (dn dc : Nat) (ds : List Int) (A : Option Addr) (an ac : Nat) (add : List Fl) (lg f ce at_ le : Nat) (bs : List UInt8) (ok : Bool) (W : World) : Prop where
  o1 : w.heap.size ≤ g2
  o2 : g2 < ge
  o3 : ge < gr
  up : Up w W
  hg : W.heap[g2]? = some (.cells #[.slice none 0 0, .slice none 0 0, .int .i64 0, .int .u64 0, .int .u64 0, .int .u64 0, .int .u64 0] 32 (0, 0))
  hge : W.heap[ge]? = some (.cells #[.slice D dn dc, .slice A an ac, .int .i64 (lg : Int), .int .u64 (f : Int), .int .u64 (ce : Int), .int .u64 (at_ : Int), .int .u64 (le : Int)] 32 (0, 0))
  hoD : W.ownsRow (ge + 1) 3 1 (.slice D dn dc) dn (nmv ds)
  hoA : W.ownsRow (ge + 1) 41 2 (.slice A an ac) an (fvs add)
  rb : RB gr w.heap.size bs ok W
theorem RdI.take {w : World} {g2 ge gr : Nat} {D : Option Addr} {dn dc : Nat} {ds : List Int} {A : Option Addr} {an ac : Nat} {add : List Fl} {lg f ce at_ le : Nat} {bs bs' : List UInt8} {ok ok' : Bool} {W W' : World}
    (h : RdI w g2 ge gr D dn dc ds A an ac add lg f ce at_ le bs ok W) (hr : RB gr w.heap.size bs' ok' W') (hK : Rg.Keeps (fun y => y = gr) W W') : RdI w g2 ge gr D dn dc ds A an ac add lg f ce at_ le bs' ok' W' := by
  obtain ⟨o1, o2, o3, up, hg, hge, hoD, hoA, A0, n0, c0, hb, -⟩ := h
  exact ⟨o1, o2, o3, keepsUp up (by omega) hK, (hK.block _ (Array.getElem?_eq_some_iff.1 hg).1 (by show ¬ g2 = gr; omega)).trans hg, (hK.block _ (Array.getElem?_eq_some_iff.1 hge).1 (by show ¬ ge = gr; omega)).trans hge,
    own_keepsT hoD hb (by decide) hK, own_keepsT hoA hb (by decide) hK, hr⟩
theorem RdI.pre {w : World} {g2 ge gr : Nat} {D : Option Addr} {dn dc : Nat} {ds : List Int} {A : Option Addr} {an ac : Nat} {add : List Fl} {lg f ce at_ le : Nat} {bs : List UInt8} {ok : Bool} {W : World}
    (h : RdI w g2 ge gr D dn dc ds A an ac add lg f ce at_ le bs ok W) : w.heap.size ≤ W.heap.size ∧ w.heap.size ≤ gr := ⟨h.up.size, by have := h.o1; have := h.o2; have := h.o3; omega⟩
theorem unGo_at : ∀ (k : Nat) (l : List UInt8) (a : Nat) (acc : List UInt64), a ≤ l.length → (unGo k l a acc).2.1 ≤ l.length
  | 0, l, a, acc, h => h
  | k + 1, l, a, acc, h => by
    rw [unGo]
    split
    · rename_i h1
      have h2 := takeL_ok h1
      rw [List.length_drop] at h2
      exact unGo_at k l _ _ (by omega)
    · exact Nat.zero_le _
theorem unlistL_at (l : List UInt8) (most : Int) : (unlistL l most).2.1 ≤ l.length := by
  unfold unlistL
  by_cases h1 : (takeL l).2.2 ≠ 0
  · rw [if_pos h1]; exact Nat.zero_le _
  · rw [if_neg h1]
    by_cases h2 : (if most < 0 then 0 else most) < ((takeL l).1 : Int)
    · rw [if_pos h2]; exact Nat.zero_le _
    · rw [if_neg h2]; exact unGo_at _ _ _ _ (takeL_ok (Decidable.not_not.1 h1)).2.2.1
theorem RdI.drew {w : World} {g2 ge gr : Nat} {D : Option Addr} {dn dc : Nat} {ds : List Int} {A : Option Addr} {an ac : Nat} {add : List Fl} {lg f ce at_ le : Nat} {bs : List UInt8} {ok : Bool} {W : World}
    (h : RdI w g2 ge gr D dn dc ds A an ac add lg f ce at_ le bs ok W) : RdI w g2 ge gr D dn dc ds A an ac add lg f ce at_ le bs ok W.drew :=
  ⟨h.o1, h.o2, h.o3, h.up.drew, h.hg, h.hge, h.hoD, h.hoA, h.rb⟩
theorem own_type {w : World} {base : Nat} {e t : TypeId} {sz n : Nat} {v : Value} {xs : List Value} {gx : Nat} {cs : Array Value} {fz : Nat × Nat} (h : w.ownsRow base e sz v n xs) (hh : w.heap[gx]? = some (.cells cs t fz)) (hne : e ≠ t) : some gx ≠ v.ownBlock := by
  intro e0
  rcases h.2 with ⟨rfl, _⟩ | ⟨g, cap, cur, rfl, hb, hg, r⟩
  · simp [Value.ownBlock] at e0
  · have e1 : gx = g := by simpa [Value.ownBlock] using e0
    rw [← e1, hh] at hg
    injection hg with hg
    injection hg with _ h2 _
    exact hne h2.symm
theorem RdI.upg {w : World} {g2 ge gr : Nat} {D : Option Addr} {dn dc : Nat} {ds : List Int} {A : Option Addr} {an ac : Nat} {add : List Fl} {lg f ce at_ le : Nat} {bs : List UInt8} {ok : Bool} {W W' : World}
    (h : RdI w g2 ge gr D dn dc ds A an ac add lg f ce at_ le bs ok W) (hu : Up W W') : RdI w g2 ge gr D dn dc ds A an ac add lg f ce at_ le bs ok W' :=
  ⟨h.o1, h.o2, h.o3, h.up.trans hu, (hu.block _ (Array.getElem?_eq_some_iff.1 h.hg).1).trans h.hg, (hu.block _ (Array.getElem?_eq_some_iff.1 h.hge).1).trans h.hge, own_up h.hoD hu, own_up h.hoA hu, h.rb.up h.up.size hu⟩
theorem RdI.set {w : World} {g2 ge gr : Nat} {D : Option Addr} {dn dc : Nat} {ds : List Int} {A : Option Addr} {an ac : Nat} {add : List Fl} {lg f ce at_ le : Nat} {bs : List UInt8} {ok : Bool} {W : World}
    (h : RdI w g2 ge gr D dn dc ds A an ac add lg f ce at_ le bs ok W) (j : Nat) (v : Value) (lg' f' ce' at' le' : Nat)
    (he : (#[.slice D dn dc, .slice A an ac, .int .i64 (lg : Int), .int .u64 (f : Int), .int .u64 (ce : Int), .int .u64 (at_ : Int), .int .u64 (le : Int)] : Array Value).setIfInBounds j v = #[.slice D dn dc, .slice A an ac, .int .i64 (lg' : Int), .int .u64 (f' : Int), .int .u64 (ce' : Int), .int .u64 (at' : Int), .int .u64 (le' : Int)]) :
    RdI w g2 ge gr D dn dc ds A an ac add lg' f' ce' at' le' bs ok (W.setCell ⟨ge, j, none⟩ v) := by
  obtain ⟨o1, o2, o3, up, hg, hge, hoD, hoA, hrb⟩ := h
  have hK := setc_keeps W W ge j v (Rg.Keeps.refl _ _)
  refine ⟨o1, o2, o3, keepsUp up (by omega) hK, (hK.block _ (Array.getElem?_eq_some_iff.1 hg).1 (by show ¬ g2 = ge; omega)).trans hg, ?_, own_keeps6 hoD (by omega) hK, own_keeps6 hoA (by omega) hK, hrb.keeps up.size (by omega) (by omega) hK⟩
  rw [setc_heap W ge j v _ _ hge, he]
theorem RdI.push {w : World} {g2 ge gr : Nat} {D : Option Addr} {dn dc : Nat} {ds : List Int} {A : Option Addr} {an ac : Nat} {add : List Fl} {lg f ce at_ le : Nat} {bs : List UInt8} {ok : Bool} {W : World}
    (h : RdI w g2 ge gr D dn dc ds A an ac add lg f ce at_ le bs ok W) (o : Obj) {W2 : World} {A2 : Option Addr} {n2 c2 : Nat} {add2 : List Fl} (hown : W2.ownsRow (ge + 1) 41 2 (.slice A2 n2 c2) n2 (fvs add2)) (hgr : (W.alloc o).grownBy W2 (Value.slice A an ac).ownBlock) :
    W2.cell? ⟨ge, 1, none⟩ = some (.slice A an ac) ∧ W2.frozen? ⟨ge, 1, none⟩ = false ∧ RdI w g2 ge gr D dn dc ds A2 n2 c2 add2 lg f ce at_ le bs ok (W2.setCell ⟨ge, 1, none⟩ (.slice A2 n2 c2)) := by
  have hu : Up W (W.alloc o) := (Up.refl W).alloc o
  obtain ⟨o1, o2, o3, up, hg, hge, hoD, hoA, hrb⟩ := h
  have hB := up.size
  have hg1 := (hu.block _ (Array.getElem?_eq_some_iff.1 hg).1).trans hg
  have hge1 := (hu.block _ (Array.getElem?_eq_some_iff.1 hge).1).trans hge
  have hoD1 := own_up hoD hu
  have hoA1 := own_up hoA hu
  obtain ⟨A0, n0, c0, b1, b2, b3, b4⟩ := hrb.up hB hu
  have hlo := hoA1.lt
  have hg2' := (hgr.block g2 (Array.getElem?_eq_some_iff.1 hg1).1 (fun e0 => by have := (hlo g2 e0.symm).1; omega)).trans hg1
  have hge2 := (hgr.block ge (Array.getElem?_eq_some_iff.1 hge1).1 (fun e0 => by have := (hlo ge e0.symm).1; omega)).trans hge1
  have hb2 := (hgr.block gr (Array.getElem?_eq_some_iff.1 b1).1 (own_type hoA1 b1 (by decide))).trans b1
  have hoD2 := own_far hoA1 hoD1 (by decide) hgr
  have hr2 : Rd W2 w.heap.size 1 A0 n0 (bvs bs) := b3.grown hgr (Nat.le_trans hB hu.size) (fun k0 e0 => by have := (hlo k0 e0).1; omega)
  have hup2 : Up w W2 := (up.trans hu).grown hgr (fun k0 e0 => by have := (hlo k0 e0).1; omega)
  have hK := setc_keeps W2 W2 ge 1 (.slice A2 n2 c2) (Rg.Keeps.refl _ _)
  refine ⟨blk_cell hge2 1, blk_free hge2 1, o1, o2, o3, keepsUp hup2 (by omega) hK, (hK.block _ (Array.getElem?_eq_some_iff.1 hg2').1 (by show ¬ g2 = ge; omega)).trans hg2', setc_heap W2 ge 1 _ _ _ hge2,
    own_keeps6 hoD2 (by omega) hK, own_keeps6 hown (by omega) hK, A0, n0, c0, (hK.block _ (Array.getElem?_eq_some_iff.1 hb2).1 (by show ¬ gr = ge; omega)).trans hb2, b2, hr2.keepsLt hup2.size (by omega) hK, b4⟩
theorem readE_eq {bs : List UInt8} {q : List UInt64} {qa m lg f ce at_ le : Nat} {s0 s3 s4 s5 s6 s7 st : RS} {add : List Fl} (hu : unlistL bs 40 = (q, qa, 0)) (h1 : m = (rtk 40 (bs.drop qa) true).1) (h2 : s0 = (rtk 40 (bs.drop qa) true).2)
    (h3 : rfiles m s0 = (add, st)) (h4 : lg = (rtk 1073741824 st.1 st.2).1) (h5 : s3 = (rtk 1073741824 st.1 st.2).2) (h6 : f = (rtk 281474976710656 s3.1 s3.2).1) (h7 : s4 = (rtk 281474976710656 s3.1 s3.2).2)
    (h8 : ce = (rtk 281474976710656 s4.1 s4.2).1) (h9 : s5 = (rtk 281474976710656 s4.1 s4.2).2) (h10 : at_ = (rtk 281474976710656 s5.1 s5.2).1) (h11 : s6 = (rtk 281474976710656 s5.1 s5.2).2) (h12 : le = (rtk 281474976710656 s6.1 s6.2).1) (h13 : s7 = (rtk 281474976710656 s6.1 s6.2).2) :
    readE bs = if s7.2 = true ∧ s7.1 = [] ∧ mayE (q.map minD) add lg f ce at_ le = true then some (q.map minD, add, (lg : Int), f, ce, at_, le) else none := by
  unfold readE
  simp only [hu, true_and]
  rw [← h1, ← h2, h3]
  simp only
  rw [← h4, ← h5, ← h6, ← h7, ← h8, ← h9, ← h10, ← h11, ← h12, ← h13]
/-- the loop over the dropped numbers: what holds ahead of round k -/
def DropInv (w : World) (g2 ge : Nat) (Q : Option Addr) (qn qc : Nat) (q : List UInt64) (k : Nat) (wr : World) : Prop :=
  ∃ (D : Option Addr) (dc : Nat), Up w wr ∧ wr.heap[g2]? = some (.cells #[.slice none 0 0, .slice none 0 0, .int .i64 0, .int .u64 0, .int .u64 0, .int .u64 0, .int .u64 0] 32 (0, 0)) ∧ wr.heap[ge]? = some (.cells #[.slice D k dc, .slice none 0 0, .int .i64 0, .int .u64 0, .int .u64 0, .int .u64 0, .int .u64 0] 32 (0, 0)) ∧
      wr.ownsRow (ge + 1) 3 1 (.slice D k dc) k (nmv ((q.take k).map minD)) ∧ OwnQ wr (ge + 1) Q qn qc q
set_option maxRecDepth 100000 in
set_option maxHeartbeats 16000000 in
theorem eread_any (A0 : Option Addr) (n c : Nat) (bs : List UInt8) (w : World) (hr : Rd w w.heap.size 1 A0 n (bvs bs)) (hn : n ≤ 549755813888) (hnc : n ≤ c) :
    Calls Try.prog 18 #[.slice A0 n c] w (RdPost (readE bs) w) := by
  obtain ⟨w2, hw2⟩ : ∃ w2, w2 = (w.alloc (.cells #[.slice none 0 0, .slice none 0 0, .int .i64 0, .int .u64 0, .int .u64 0, .int .u64 0, .int .u64 0] 32)).alloc (.cells #[.slice none 0 0, .slice none 0 0, .int .i64 0, .int .u64 0, .int .u64 0, .int .u64 0, .int .u64 0] 32) := ⟨_, rfl⟩
  have hup2 : Up w w2 := by rw [hw2]; exact ((Up.refl w).alloc _).alloc _
  have hg2 : w2.heap[w.heap.size]? = some (.cells #[.slice none 0 0, .slice none 0 0, .int .i64 0, .int .u64 0, .int .u64 0, .int .u64 0, .int .u64 0] 32 (0, 0)) := by
    rw [hw2, Below.heap_alloc _ _ _ (by simp)]; exact heap_alloc_new w _
  have hge2 : w2.heap[w.heap.size + 1]? = some (.cells #[.slice none 0 0, .slice none 0 0, .int .i64 0, .int .u64 0, .int .u64 0, .int .u64 0, .int .u64 0] 32 (0, 0)) := by
    rw [hw2]
    have h := heap_alloc_new (w.alloc (.cells #[.slice none 0 0, .slice none 0 0, .int .i64 0, .int .u64 0, .int .u64 0, .int .u64 0, .int .u64 0] 32)) (.cells #[.slice none 0 0, .slice none 0 0, .int .i64 0, .int .u64 0, .int .u64 0, .int .u64 0, .int .u64 0] 32)
    rwa [World.size_alloc] at h
  have HW := Lib.hid hw2
  clear hw2
  have hread : readE bs = readE bs := rfl
  obtain ⟨q, qa, qe, hu⟩ : ∃ q a e, unlistL bs 40 = (q, a, e) := ⟨_, _, _, rfl⟩
  have HU := Lib.hid hu
  clear hu hread
  go_enter Try.func18, Try.ntmps18
  go_wp2_with fail
  rw [← HW.out]
  clear HW
  have hgw : w.heap.size ≤ w.heap.size := Nat.le_refl _
  have hgge : w.heap.size < w.heap.size + 1 := by omega
  generalize hgeE : w.heap.size + 1 = ge at hge2 hgge ⊢
  generalize hg2E : w.heap.size = g2 at hg2 ⊢
  refine (unlist_any A0 n c bs 40 w2 (hr.up hup2) (by omega) hnc (by omega) (by omega)).mono ?_
  rintro e w3 ⟨Q, qn, qc, rfl, hoQ, hu3⟩
  rw [HU.out] at hoQ ⊢
  (try dsimp only at hoQ ⊢)
  have hqb : qn ≤ 549755813888 := by
    have h1 := hoQ.rd.qlen
    have h2 := unlistL_len bs 40
    rw [HU.out] at h2
    have h3 := hr.blen
    (try dsimp only at h2)
    omega
  have hg3 := (hu3.block _ (Array.getElem?_eq_some_iff.1 hg2).1).trans hg2
  have hge3 := (hu3.block _ (Array.getElem?_eq_some_iff.1 hge2).1).trans hge2
  have hup3 := hup2.trans hu3
  have hgl : ge + 1 ≤ w2.heap.size := (Array.getElem?_eq_some_iff.1 hge2).1
  clear hg2 hge2 hup2 hu3
  by_cases hqe : qe = 0
  · subst hqe
    have hrd0 := hr.below (Below.mono hup3 (Nat.le_refl _))
    go_wp2_with fail
    go_loopw [23] (fun i wr => ∃ k : Nat, i = .int .i64 (k : Int) ∧ k ≤ qn ∧ DropInv w g2 ge Q qn qc q k wr) (fun i _ => qn - (intOf i).toNat)
    case atStart => exact ⟨0, rfl, by omega, none, 0, hup3, hg3, hge3, World.ownsRow_nil _ _ _ _, own_base hoQ hgl⟩
    case round =>
      obtain ⟨k, rfl, hk, D, dc, hup, hg, hge, hoD, hq⟩ := hrel
      clear hg3 hge3 hup3 hoQ
      by_cases hlt : k < qn
      · obtain ⟨b, o, rfl, hbb, hck⟩ := hq.rd.num hlt
        have hkl : k < q.length := by have := hq.rd.qlen; omega
        have htk : (q.take (k + 1)).map minD = (q.take k).map minD ++ [(capN (q.getD k 0).toNat : Int)] := by
          rw [List.take_succ_eq_append_getElem hkl, List.map_append]
          simp [minD, List.getD, hkl]
        generalize (q.getD k 0).toNat = x at hck htk
        have t0 := blk_cell hge 0
        by_cases hx : 1073741825 < x
        · have hmx : capN x = 1073741825 := if_pos hx
          rw [hmx, show ((1073741825 : Nat) : Int) = 1073741825 from rfl] at htk
          have HT := Lib.hid htk
          have hx1 : (1073741825 : Int) < (x : Int) := by omega
          have hx2 : ¬ (x : Int) < 1073741825 := by omega
          clear htk hmx
          have hub : Up wr (wr.alloc (.cells #[.int .i64 (1073741825)] 3)) := (Up.refl wr).alloc _
          have hoD1 := own_up hoD hub
          have hq1 := own_up hq hub
          have hg1 := (hub.block _ (Array.getElem?_eq_some_iff.1 hg).1).trans hg
          have hge1 := (hub.block _ (Array.getElem?_eq_some_iff.1 hge).1).trans hge
          have hup1 := hup.trans hub
          have hlo := hoD1.lt
          go_wp2_with (at_builtin; refine wpList_append_rd _ intsT (news := nmv [1073741825]) hoD1 (Rd.box _ _ _) (by intro u hu; simp [nmv] at hu; subst hu; rfl) (by omega) (by omega) (by have := (Array.getElem?_eq_some_iff.1 hge1).1; omega) rfl rfl rfl rfl ?_; intro v5 w5 hown5 hg5 hat5; obtain ⟨D5, dc5, rfl⟩ := own_form hown5
                       have hg6 := (hg5.block g2 (Array.getElem?_eq_some_iff.1 hg1).1 (fun e0 => by have := (hlo g2 e0.symm).1; omega)).trans hg1
                       have hge6 := (hg5.block ge (Array.getElem?_eq_some_iff.1 hge1).1 (fun e0 => by have := (hlo ge e0.symm).1; omega)).trans hge1
                       have hup6 : Up w w5 := hup1.grown hg5 (fun k0 e0 => by have := (hlo k0 e0).1; omega)
                       have hq6 : OwnQ w5 (ge + 1) (some ⟨b, o, none⟩) qn qc q := own_far hoD1 hq1 (by decide) hg5
                       have r1 := blk_cell hge6 0
                       have r2 := blk_free hge6 0
                       have hge7 : (w5.setCell ⟨ge, 0, none⟩ (.slice D5 (k + 1) dc5)).heap[ge]? = some (.cells #[.slice D5 (k + 1) dc5, .slice none 0 0, .int .i64 0, .int .u64 0, .int .u64 0, .int .u64 0, .int .u64 0] 32 (0, 0)) := setc_heap w5 _ 0 _ _ _ hge6
                       have hK7 := setc_keeps w5 w5 ge 0 (.slice D5 (k + 1) dc5) (Rg.Keeps.refl _ _)
                       have hg7 := (hK7.block _ (Array.getElem?_eq_some_iff.1 hg6).1 (by omega)).trans hg6
                       have hoD7 := own_keeps6 hown5 (by omega) hK7
                       have hq7 := own_keeps6 hq6 (by omega) hK7
                       have hup7 := keepsUp hup6 (by omega) hK7
                       have HGE7 := Lib.hid hge7
                       have HG7 := Lib.hid hg7
                       have HOD7 := Lib.hid hoD7
                       have HQ7 := Lib.hid hq7
                       have HUP7 := Lib.hid hup7
                       clear hup7 hge7 hg7 hoD7 hq7 hK7 hg6 hge6 hup6 hq6 hown5 hg5 hat5 hub hoD1 hq1 hg1 hge1 hup1 hlo)
          clear t0 hck r1 r2
          generalize w5.setCell ⟨ge, 0, none⟩ (.slice D5 (k + 1) dc5) = w7 at *
          go_roundw
          case rel =>
            refine ⟨k + 1, by first | omega | go_num, by omega, D5, dc5, HUP7.out, HG7.out, HGE7.out, ?_, HQ7.out⟩
            rw [HT.out]
            have e : nmv ((q.take k).map minD ++ [1073741825]) = nmv ((q.take k).map minD) ++ nmv [1073741825] := by simp [nmv]
            rw [e]
            exact HOD7.out
          case measure => simp [intOf]; omega
        · have hmx : capN x = x := if_neg hx
          rw [hmx] at htk
          have HT := Lib.hid htk
          have hx1 : ¬ (1073741825 : Int) < (x : Int) := by omega
          have hxw : IntKind.i64.wrap (x : Int) = (x : Int) := IntWalk.i64_in _ (by omega)
          clear htk hmx
          have hub : Up wr (wr.alloc (.cells #[.int .i64 ((x : Int))] 3)) := (Up.refl wr).alloc _
          have hoD1 := own_up hoD hub
          have hq1 := own_up hq hub
          have hg1 := (hub.block _ (Array.getElem?_eq_some_iff.1 hg).1).trans hg
          have hge1 := (hub.block _ (Array.getElem?_eq_some_iff.1 hge).1).trans hge
          have hup1 := hup.trans hub
          have hlo := hoD1.lt
          go_wp2_with (at_builtin; refine wpList_append_rd _ intsT (news := nmv [(x : Int)]) hoD1 (Rd.box _ _ _) (by intro u hu; simp [nmv] at hu; subst hu; rfl) (by omega) (by omega) (by have := (Array.getElem?_eq_some_iff.1 hge1).1; omega) rfl rfl rfl rfl ?_; intro v5 w5 hown5 hg5 hat5; obtain ⟨D5, dc5, rfl⟩ := own_form hown5
                       have hg6 := (hg5.block g2 (Array.getElem?_eq_some_iff.1 hg1).1 (fun e0 => by have := (hlo g2 e0.symm).1; omega)).trans hg1
                       have hge6 := (hg5.block ge (Array.getElem?_eq_some_iff.1 hge1).1 (fun e0 => by have := (hlo ge e0.symm).1; omega)).trans hge1
                       have hup6 : Up w w5 := hup1.grown hg5 (fun k0 e0 => by have := (hlo k0 e0).1; omega)
                       have hq6 : OwnQ w5 (ge + 1) (some ⟨b, o, none⟩) qn qc q := own_far hoD1 hq1 (by decide) hg5
                       have r1 := blk_cell hge6 0
                       have r2 := blk_free hge6 0
                       have hge7 : (w5.setCell ⟨ge, 0, none⟩ (.slice D5 (k + 1) dc5)).heap[ge]? = some (.cells #[.slice D5 (k + 1) dc5, .slice none 0 0, .int .i64 0, .int .u64 0, .int .u64 0, .int .u64 0, .int .u64 0] 32 (0, 0)) := setc_heap w5 _ 0 _ _ _ hge6
                       have hK7 := setc_keeps w5 w5 ge 0 (.slice D5 (k + 1) dc5) (Rg.Keeps.refl _ _)
                       have hg7 := (hK7.block _ (Array.getElem?_eq_some_iff.1 hg6).1 (by omega)).trans hg6
                       have hoD7 := own_keeps6 hown5 (by omega) hK7
                       have hq7 := own_keeps6 hq6 (by omega) hK7
                       have hup7 := keepsUp hup6 (by omega) hK7
                       have HGE7 := Lib.hid hge7
                       have HG7 := Lib.hid hg7
                       have HOD7 := Lib.hid hoD7
                       have HQ7 := Lib.hid hq7
                       have HUP7 := Lib.hid hup7
                       clear hup7 hge7 hg7 hoD7 hq7 hK7 hg6 hge6 hup6 hq6 hown5 hg5 hat5 hub hoD1 hq1 hg1 hge1 hup1 hlo)
          clear t0 hck r1 r2
          generalize w5.setCell ⟨ge, 0, none⟩ (.slice D5 (k + 1) dc5) = w7 at *
          go_roundw
          case rel =>
            refine ⟨k + 1, by first | omega | go_num, by omega, D5, dc5, HUP7.out, HG7.out, HGE7.out, ?_, HQ7.out⟩
            rw [HT.out]
            have e : nmv ((q.take k).map minD ++ [(x : Int)]) = nmv ((q.take k).map minD) ++ nmv [(x : Int)] := by simp [nmv]
            rw [e]
            exact HOD7.out
          case measure => simp [intOf]; omega
      · have hkq : k = qn := by omega
        have hql : qn = q.length := hq.rd.qlen
        have hoD2 : wr.ownsRow (ge + 1) 3 1 (.slice D k dc) k (nmv (q.map minD)) := by
          have h := hoD
          rwa [List.take_of_length_le (by omega)] at h
        have hqa : qa ≤ n := by
          have h := unlistL_at bs 40
          rw [HU.out] at h
          have := hr.blen
          (try dsimp only at h)
          omega
        have hrW : Rd wr w.heap.size 1 A0 n (bvs bs) := hr.below hup
        have hfrom := hrW.bfrom hqa hnc
        have CUT := fun (W : World) (kl : IntKind) (l : Int) (h0 : 0 ≤ l) (h1 : l ≤ n) => cut_from_b W A0 n c kl l h0 h1
        have hqai : (qa : Int) ≤ (n : Int) := by omega
        have hub : Up wr (wr.alloc (.cells #[.slice (cutA A0 c qa 1) (n - qa) (c - qa), .bool true] 83)) := (Up.refl wr).alloc _
        have hI : RdI w g2 ge wr.heap.size D k dc (q.map minD) none 0 0 [] 0 0 0 0 0 (bs.drop qa) true (wr.alloc (.cells #[.slice (cutA A0 c qa 1) (n - qa) (c - qa), .bool true] 83)) :=
          ⟨by omega, by omega, (Array.getElem?_eq_some_iff.1 hge).1, hup.trans hub, (hub.block _ (Array.getElem?_eq_some_iff.1 hg).1).trans hg, (hub.block _ (Array.getElem?_eq_some_iff.1 hge).1).trans hge, own_up hoD2 hub, World.ownsRow_nil _ _ _ _,
            cutA A0 c qa 1, n - qa, c - qa, heap_alloc_new _ _, by omega, hfrom.stay hup.size hub, by omega⟩
        clear hoD2 hoD hq hg hge hrW hfrom hup hub hql hrd0 hgl hkq hgw hgeE hgge hg2E
        go_wp2_with fail
        generalize wr.alloc (.cells #[.slice (cutA A0 c qa 1) (n - qa) (c - qa), .bool true] 83) = w5 at *
        generalize wr.heap.size = gr at hI ⊢
        have hB := hI.pre
        refine (rtake_r gr w.heap.size (bs.drop qa) true 40 w5 hI.rb hB.1 hB.2 (by omega)).mono ?_
        rintro e w6 ⟨rfl, hrb6, hK6⟩
        have hI6 := hI.take hrb6 hK6
        have hm40 := rtk_le 40 (bs.drop qa) true
        obtain ⟨m, hm⟩ : ∃ m, m = (rtk 40 (bs.drop qa) true).1 := ⟨_, rfl⟩
        obtain ⟨s0, hs0⟩ : ∃ s0, s0 = (rtk 40 (bs.drop qa) true).2 := ⟨_, rfl⟩
        rw [← hm] at hm40 ⊢
        rw [← hs0] at hI6
        have HM := Lib.hid hm
        have HS0 := Lib.hid hs0
        clear hm hs0 hI hrb6 hK6 CUT
        go_wp2_with fail
        go_loopw [43] (fun i wr => ∃ (j : Nat) (A : Option Addr) (an ac : Nat) (add : List Fl) (st : RS), i = .int .u64 (j : Int) ∧ j ≤ m ∧ an = j ∧ RdI w g2 ge gr D k dc (q.map minD) A an ac add 0 0 0 0 0 st.1 st.2 wr ∧ Hid (rfiles j s0 = (add, st))) (fun i _ => m - (intOf i).toNat)
        case atStart => exact ⟨0, none, 0, 0, [], s0, rfl, by omega, rfl, hI6, rfl⟩
        case round =>
          obtain ⟨j, A, an, ac, add, st, rfl, hj, han, hI, hrf⟩ := hrel
          subst han
          clear hI6
          by_cases hlt2 : an < m
          · have hB := hI.pre
            go_wp2_with fail
            refine (rtake_r gr w.heap.size st.1 st.2 3 wr hI.rb hB.1 hB.2 (by omega)).mono ?_
            rintro e w7 ⟨rfl, hrb7, hK7⟩
            have hI7 := hI.take hrb7 hK7
            have hl3 := rtk_le 3 st.1 st.2
            obtain ⟨lv, hlv⟩ : ∃ lv, lv = (rtk 3 st.1 st.2).1 := ⟨_, rfl⟩
            obtain ⟨s1, hs1⟩ : ∃ s1, s1 = (rtk 3 st.1 st.2).2 := ⟨_, rfl⟩
            rw [← hlv] at hl3 ⊢
            rw [← hs1] at hI7
            have HLV := Lib.hid hlv
            have HS1 := Lib.hid hs1
            have hlw : IntKind.i64.wrap (lv : Int) = (lv : Int) := IntWalk.i64_in _ (by omega)
            clear hlv hs1 hI hrb7 hK7
            go_wp2_with fail
            have hId := hI7.drew
            have hBd := hId.pre
            have q0 := blk_cell hId.hge 1
            have hcallT := rtake_r gr w.heap.size s1.1 s1.2 1073741824 w7.drew hId.rb hBd.1 hBd.2 (by omega)
            have hnu := rtk_le 1073741824 s1.1 s1.2
            obtain ⟨nu, hnuE⟩ : ∃ nu, nu = (rtk 1073741824 s1.1 s1.2).1 := ⟨_, rfl⟩
            obtain ⟨s2, hs2⟩ : ∃ s2, s2 = (rtk 1073741824 s1.1 s1.2).2 := ⟨_, rfl⟩
            rw [← hnuE] at hcallT hnu
            rw [← hs2] at hcallT
            have HNU := Lib.hid hnuE
            have HS2 := Lib.hid hs2
            have hnw : IntKind.i64.wrap (nu : Int) = (nu : Int) := IntWalk.i64_in _ (by omega)
            have HID := Lib.hid hId
            have HCT := Lib.hid hcallT
            clear hnuE hs2 hI7 hId hcallT
            have mixed : Try.prog.follows .mixedOrders = true := by kernel_rfl
            go_region_law_o (first
              | (refine step_wp rfl ?_; go_simp; refine HCT.out.mono ?_; rintro e w8 ⟨rfl, hrb8, hK8⟩
                 have hI8 := HID.out.take hrb8 hK8
                 have q1 := blk_cell hI8.hge 1
                 have q2 := fun o => blk_cell ((((Up.refl w8).alloc o).block _ (Array.getElem?_eq_some_iff.1 hI8.hge).1).trans hI8.hge) 1)
              | (refine step_wp rfl ?_; refine wp_append_rd _ _ _ filesT rfl (v := .slice A an ac) (by simp [Act.eval, Act.put]) (A := some ⟨w8.heap.size, 0, none⟩) (c := 1) (m := 1) (by simp [Act.eval, Act.put]) (World.ownsRow.alloc hI8.hoA _) (Rd.made w8 #[.int .i64 (lv : Int), .int .i64 (nu : Int)] 41 rfl) (fvs_one [((lv : Int), (nu : Int))]) (by omega) (by omega) (by have := (Array.getElem?_eq_some_iff.1 hI8.hge).1; simp; omega) ?_; intro v5 w5 hown5 hg5 hat5; obtain ⟨A5, ac5, rfl⟩ := own_form hown5
                 have hown6 : w5.ownsRow (ge + 1) 41 2 (.slice A5 (an + 1) ac5) (an + 1) (fvs (add ++ [((lv : Int), (nu : Int))])) := by rw [fvs_append]; exact hown5
                 obtain ⟨r1, r2, hI9⟩ := hI8.push _ hown6 hg5
                 have HI9 := Lib.hid hI9
                 clear hI9 hown5 hown6 hg5 hat5))
            all_goals
              clear q0 q1 q2 r1 r2 HCT HID hI8 hrb8 hK8 hBd hB
              generalize w5.setCell ⟨ge, 1, none⟩ (.slice A5 (an + 1) ac5) = w9 at *
              go_wp2_with fail
              go_roundw
              case rel =>
                exact ⟨an + 1, A5, an + 1, ac5, add ++ [((lv : Int), (nu : Int))], s2, by first | omega | go_num, by omega, rfl, HI9.out, rfiles_succ hrf.out HLV.out HS1.out HNU.out HS2.out⟩
              case measure => simp [intOf]; omega
          · have han : an = m := by omega
            subst han
            have hI8 := hI
            have HAN := Lib.hid hm40
            clear hI hj hlt2 hm40
            go_wp2_with fail
            have hBx := hI8.pre
            refine (rtake_r gr w.heap.size st.1 st.2 1073741824 wr hI8.rb hBx.1 hBx.2 (by omega)).mono ?_
            rintro e wa ⟨rfl, hrbx, hKx⟩
            have hIa := hI8.take hrbx hKx
            have hlelg := rtk_le 1073741824 st.1 st.2
            obtain ⟨lg, hxE⟩ : ∃ x, x = (rtk 1073741824 st.1 st.2).1 := ⟨_, rfl⟩
            obtain ⟨s3, htE⟩ : ∃ x, x = (rtk 1073741824 st.1 st.2).2 := ⟨_, rfl⟩
            rw [← hxE] at hlelg ⊢
            rw [← htE] at hIa
            have HXlg := Lib.hid hxE
            have HTs3 := Lib.hid htE
            clear hxE htE hI8 hrbx hKx hBx
            have hlgw : IntKind.i64.wrap (lg : Int) = (lg : Int) := IntWalk.i64_in _ (by omega)
            have q2 := blk_cell hIa.hge 2
            have f2 := blk_free hIa.hge 2
            have hIb := hIa.set 2 (.int .i64 (lg : Int)) lg 0 0 0 0 rfl
            clear hIa
            go_wp2_with fail
            generalize wa.setCell ⟨ge, 2, none⟩ (.int .i64 (lg : Int)) = wb at *
            clear q2 f2
            have hBx := hIb.pre
            refine (rtake_r gr w.heap.size s3.1 s3.2 281474976710656 wb hIb.rb hBx.1 hBx.2 (by omega)).mono ?_
            rintro e wc ⟨rfl, hrbx, hKx⟩
            have hIc := hIb.take hrbx hKx
            have hlef := rtk_le 281474976710656 s3.1 s3.2
            obtain ⟨f, hxE⟩ : ∃ x, x = (rtk 281474976710656 s3.1 s3.2).1 := ⟨_, rfl⟩
            obtain ⟨s4, htE⟩ : ∃ x, x = (rtk 281474976710656 s3.1 s3.2).2 := ⟨_, rfl⟩
            rw [← hxE] at hlef ⊢
            rw [← htE] at hIc
            have HXf := Lib.hid hxE
            have HTs4 := Lib.hid htE
            clear hxE htE hIb hrbx hKx hBx
            go_wp2_with fail
            have hBx := hIc.pre
            refine (rtake_r gr w.heap.size s4.1 s4.2 281474976710656 wc hIc.rb hBx.1 hBx.2 (by omega)).mono ?_
            rintro e wd ⟨rfl, hrbx, hKx⟩
            have hId := hIc.take hrbx hKx
            have hlece := rtk_le 281474976710656 s4.1 s4.2
            obtain ⟨ce, hxE⟩ : ∃ x, x = (rtk 281474976710656 s4.1 s4.2).1 := ⟨_, rfl⟩
            obtain ⟨s5, htE⟩ : ∃ x, x = (rtk 281474976710656 s4.1 s4.2).2 := ⟨_, rfl⟩
            rw [← hxE] at hlece ⊢
            rw [← htE] at hId
            have HXce := Lib.hid hxE
            have HTs5 := Lib.hid htE
            clear hxE htE hIc hrbx hKx hBx
            have q3 := blk_cell hId.hge 3
            have f3 := blk_free hId.hge 3
            have q4 := blk_cell hId.hge 4
            have f4 := blk_free hId.hge 4
            have hIe := (hId.set 3 (.int .u64 (f : Int)) lg f 0 0 0 rfl).set 4 (.int .u64 (ce : Int)) lg f ce 0 0 rfl
            clear hId
            go_wp2_with fail
            generalize (wd.setCell ⟨ge, 3, none⟩ (.int .u64 (f : Int))).setCell ⟨ge, 4, none⟩ (.int .u64 (ce : Int)) = we at *
            clear q3 f3 q4 f4
            have hBx := hIe.pre
            refine (rtake_r gr w.heap.size s5.1 s5.2 281474976710656 we hIe.rb hBx.1 hBx.2 (by omega)).mono ?_
            rintro e wf ⟨rfl, hrbx, hKx⟩
            have hIf := hIe.take hrbx hKx
            have hleat_ := rtk_le 281474976710656 s5.1 s5.2
            obtain ⟨at_, hxE⟩ : ∃ x, x = (rtk 281474976710656 s5.1 s5.2).1 := ⟨_, rfl⟩
            obtain ⟨s6, htE⟩ : ∃ x, x = (rtk 281474976710656 s5.1 s5.2).2 := ⟨_, rfl⟩
            rw [← hxE] at hleat_ ⊢
            rw [← htE] at hIf
            have HXat_ := Lib.hid hxE
            have HTs6 := Lib.hid htE
            clear hxE htE hIe hrbx hKx hBx
            go_wp2_with fail
            have hBx := hIf.pre
            refine (rtake_r gr w.heap.size s6.1 s6.2 281474976710656 wf hIf.rb hBx.1 hBx.2 (by omega)).mono ?_
            rintro e wg ⟨rfl, hrbx, hKx⟩
            have hIg := hIf.take hrbx hKx
            have hlele := rtk_le 281474976710656 s6.1 s6.2
            obtain ⟨le, hxE⟩ : ∃ x, x = (rtk 281474976710656 s6.1 s6.2).1 := ⟨_, rfl⟩
            obtain ⟨s7, htE⟩ : ∃ x, x = (rtk 281474976710656 s6.1 s6.2).2 := ⟨_, rfl⟩
            rw [← hxE] at hlele ⊢
            rw [← htE] at hIg
            have HXle := Lib.hid hxE
            have HTs7 := Lib.hid htE
            clear hxE htE hIf hrbx hKx hBx
            have q3 := blk_cell hIg.hge 5
            have f3 := blk_free hIg.hge 5
            have q4 := blk_cell hIg.hge 6
            have f4 := blk_free hIg.hge 6
            have hIh := (hIg.set 5 (.int .u64 (at_ : Int)) lg f ce at_ 0 rfl).set 6 (.int .u64 (le : Int)) lg f ce at_ le rfl
            clear hIg
            obtain ⟨wh, hwh⟩ : ∃ x, x = (wg.setCell ⟨ge, 5, none⟩ (.int .u64 (at_ : Int))).setCell ⟨ge, 6, none⟩ (.int .u64 (le : Int)) := ⟨_, rfl⟩
            rw [← hwh] at hIh
            have hfold := hwh.symm
            clear hwh
            have hre := readE_eq HU.out HM.out HS0.out hrf.out HXlg.out HTs3.out HXf.out HTs4.out HXce.out HTs5.out HXat_.out HTs6.out HXle.out HTs7.out
            have HRE := Lib.hid hre
            clear hre
            obtain ⟨b7, o7⟩ := s7
            (try dsimp only at hIh HRE)
            have hIh1 := hIh
            obtain ⟨B7, n7, c7, hb7, hc7, hr7, -⟩ := hIh1.rb
            have p0 := blk_cell hb7 0
            have p1 := blk_cell hb7 1
            have hbl7 := hr7.blen
            have HBL7 := Lib.hid hbl7
            have hg9 := hIh.hg
            have hup9 := hIh.up
            have hgw9 := hIh.o1
            clear hbl7 hIh1 hb7 hr7
            cases o7
            · have HNO : Hid (readE bs = none) := by
                have h := HRE.out
                rw [if_neg (by simp)] at h
                exact h
              clear HRE hIh
              have t0 := blk_cell hg9 0
              have t1 := blk_cell hg9 1
              have t2 := blk_cell hg9 2
              have t3 := blk_cell hg9 3
              have t4 := blk_cell hg9 4
              have t5 := blk_cell hg9 5
              have t6 := blk_cell hg9 6
              have s0 := blk_free hg9 0
              have s1 := blk_free hg9 1
              have s2 := blk_free hg9 2
              have s3 := blk_free hg9 3
              have s4 := blk_free hg9 4
              have s5 := blk_free hg9 5
              have s6 := blk_free hg9 6
              have h7 := set7 _ g2 _ _ _ _ _ _ _ (.slice none 0 0) (.slice none 0 0) (.int .i64 0) (.int .u64 0) (.int .u64 0) (.int .u64 0) (.int .u64 0) _ hg9
              have hup10 := keepsUp hup9 hgw9 h7.2
              have H71 := Lib.hid h7.1
              have HUP := Lib.hid hup10
              clear h7 hup10 hup9 hg9
              go_wp2_with fail
              have u0 := blk_cell H71.out 0
              have u1 := blk_cell H71.out 1
              have u2 := blk_cell H71.out 2
              have u3 := blk_cell H71.out 3
              have u4 := blk_cell H71.out 4
              have u5 := blk_cell H71.out 5
              have u6 := blk_cell H71.out 6
              refine bodyPost_ret (v := .tuple #[.agg #[.slice none 0 0, .slice none 0 0, .int .i64 0, .int .u64 0, .int .u64 0, .int .u64 0, .int .u64 0], .int .i64 3]) (by simp [results, Try.results18, go_sem, u0, u1, u2, u3, u4, u5, u6]) rfl ?_
              rw [HNO.out]
              exact ⟨rfl, HUP.out⟩
            · by_cases hn7 : n7 = 0
              · subst hn7
                clear hg9 hup9
                have t0 := blk_cell hIh.hge 0
                have t1 := blk_cell hIh.hge 1
                have t2 := blk_cell hIh.hge 2
                have t3 := blk_cell hIh.hge 3
                have t4 := blk_cell hIh.hge 4
                have t5 := blk_cell hIh.hge 5
                have t6 := blk_cell hIh.hge 6
                have hod := Rd.own hIh.hoD
                have hoa := Rd.own hIh.hoA
                have hkb : k ≤ 9223372036854775807 := by omega
                have hab : an ≤ 9223372036854775807 := by have := HAN.out; omega
                obtain ⟨mb, hmb⟩ : ∃ x, x = mayE (q.map minD) add lg f ce at_ le := ⟨_, rfl⟩
                have HMB := Lib.hid hmb
                clear hmb
                have HOD1 := Lib.hid hod
                have HOA1 := Lib.hid hoa
                have HIH := Lib.hid hIh
                clear hod hoa hIh
                go_wp2_with fail
                refine (mayE_any D k dc (q.map minD) A an ac add lg f ce at_ le wh HOD1.out hkb HOA1.out hab).mono ?_
                rintro e wi ⟨rfl, hui⟩
                rw [← HMB.out]
                have hIj := HIH.out.upg hui
                clear t0 t1 t2 t3 t4 t5 t6 HOD1 HOA1 HIH hui p0 p1
                have hg9 := hIj.hg
                have hup9 := hIj.up
                cases mb
                · have HNO : Hid (readE bs = none) := by
                    have h := HRE.out
                    rw [if_neg (by rw [← HMB.out]; simp)] at h
                    exact h
                  clear HRE hIj
                  have t0 := blk_cell hg9 0
                  have t1 := blk_cell hg9 1
                  have t2 := blk_cell hg9 2
                  have t3 := blk_cell hg9 3
                  have t4 := blk_cell hg9 4
                  have t5 := blk_cell hg9 5
                  have t6 := blk_cell hg9 6
                  have s0 := blk_free hg9 0
                  have s1 := blk_free hg9 1
                  have s2 := blk_free hg9 2
                  have s3 := blk_free hg9 3
                  have s4 := blk_free hg9 4
                  have s5 := blk_free hg9 5
                  have s6 := blk_free hg9 6
                  have h7 := set7 _ g2 _ _ _ _ _ _ _ (.slice none 0 0) (.slice none 0 0) (.int .i64 0) (.int .u64 0) (.int .u64 0) (.int .u64 0) (.int .u64 0) _ hg9
                  have hup10 := keepsUp hup9 hgw9 h7.2
                  have H71 := Lib.hid h7.1
                  have HUP := Lib.hid hup10
                  clear h7 hup10 hup9 hg9
                  go_wp2_with fail
                  have u0 := blk_cell H71.out 0
                  have u1 := blk_cell H71.out 1
                  have u2 := blk_cell H71.out 2
                  have u3 := blk_cell H71.out 3
                  have u4 := blk_cell H71.out 4
                  have u5 := blk_cell H71.out 5
                  have u6 := blk_cell H71.out 6
                  refine bodyPost_ret (v := .tuple #[.agg #[.slice none 0 0, .slice none 0 0, .int .i64 0, .int .u64 0, .int .u64 0, .int .u64 0, .int .u64 0], .int .i64 3]) (by simp [results, Try.results18, go_sem, u0, u1, u2, u3, u4, u5, u6]) rfl ?_
                  rw [HNO.out]
                  exact ⟨rfl, HUP.out⟩
                · have HSO : Hid (readE bs = some (q.map minD, add, (lg : Int), f, ce, at_, le)) := by
                    have h := HRE.out
                    rw [if_pos ⟨by first | rfl | trivial, List.eq_nil_of_length_eq_zero HBL7.out.symm, HMB.out.symm⟩] at h
                    exact h
                  have t0 := blk_cell hIj.hge 0
                  have t1 := blk_cell hIj.hge 1
                  have t2 := blk_cell hIj.hge 2
                  have t3 := blk_cell hIj.hge 3
                  have t4 := blk_cell hIj.hge 4
                  have t5 := blk_cell hIj.hge 5
                  have t6 := blk_cell hIj.hge 6
                  have r0 := blk_cell hg9 0
                  have r1 := blk_cell hg9 1
                  have r2 := blk_cell hg9 2
                  have r3 := blk_cell hg9 3
                  have r4 := blk_cell hg9 4
                  have r5 := blk_cell hg9 5
                  have r6 := blk_cell hg9 6
                  have s0 := blk_free hg9 0
                  have s1 := blk_free hg9 1
                  have s2 := blk_free hg9 2
                  have s3 := blk_free hg9 3
                  have s4 := blk_free hg9 4
                  have s5 := blk_free hg9 5
                  have s6 := blk_free hg9 6
                  have h7 := set7 wi g2 _ _ _ _ _ _ _ (.slice D k dc) (.slice A an ac) (.int .i64 (lg : Int)) (.int .u64 (f : Int)) (.int .u64 (ce : Int)) (.int .u64 (at_ : Int)) (.int .u64 (le : Int)) _ hg9
                  have hg2e : g2 < ge + 1 := by have := hIj.o2; omega
                  have hod := Rd.own (own_keeps6 hIj.hoD hg2e h7.2)
                  have hoa := Rd.own (own_keeps6 hIj.hoA hg2e h7.2)
                  have hnd := own_cap hIj.hoD
                  have hna := own_cap hIj.hoA
                  have hup10 := keepsUp hup9 hgw9 h7.2
                  have H71 := Lib.hid h7.1
                  have HUP := Lib.hid hup10
                  have HOD := Lib.hid hod
                  have HOA := Lib.hid hoa
                  clear h7 hup10 hup9 hg9 hod hoa hIj HRE
                  go_wp2_with fail
                  have u0 := blk_cell H71.out 0
                  have u1 := blk_cell H71.out 1
                  have u2 := blk_cell H71.out 2
                  have u3 := blk_cell H71.out 3
                  have u4 := blk_cell H71.out 4
                  have u5 := blk_cell H71.out 5
                  have u6 := blk_cell H71.out 6
                  refine bodyPost_ret (v := .tuple #[.agg #[.slice D k dc, .slice A an ac, .int .i64 (lg : Int), .int .u64 (f : Int), .int .u64 (ce : Int), .int .u64 (at_ : Int), .int .u64 (le : Int)], .int .i64 0]) (by simp [results, Try.results18, go_sem, u0, u1, u2, u3, u4, u5, u6]) rfl ?_
                  rw [HSO.out]
                  exact ⟨D, k, dc, A, an, ac, rfl, HOD.out, hnd, HOA.out, hna, HUP.out⟩
              · have HNO : Hid (readE bs = none) := by
                  have h := HRE.out
                  rw [if_neg (by
                    intro h1
                    have h2 := HBL7.out
                    rw [h1.2.1] at h2
                    exact hn7 h2)] at h
                  exact h
                have hn7i : (0 : Int) < (n7 : Int) := by omega
                clear HRE hIh
                have t0 := blk_cell hg9 0
                have t1 := blk_cell hg9 1
                have t2 := blk_cell hg9 2
                have t3 := blk_cell hg9 3
                have t4 := blk_cell hg9 4
                have t5 := blk_cell hg9 5
                have t6 := blk_cell hg9 6
                have s0 := blk_free hg9 0
                have s1 := blk_free hg9 1
                have s2 := blk_free hg9 2
                have s3 := blk_free hg9 3
                have s4 := blk_free hg9 4
                have s5 := blk_free hg9 5
                have s6 := blk_free hg9 6
                have h7 := set7 _ g2 _ _ _ _ _ _ _ (.slice none 0 0) (.slice none 0 0) (.int .i64 0) (.int .u64 0) (.int .u64 0) (.int .u64 0) (.int .u64 0) _ hg9
                have hup10 := keepsUp hup9 hgw9 h7.2
                have H71 := Lib.hid h7.1
                have HUP := Lib.hid hup10
                clear h7 hup10 hup9 hg9
                go_wp2_with fail
                have u0 := blk_cell H71.out 0
                have u1 := blk_cell H71.out 1
                have u2 := blk_cell H71.out 2
                have u3 := blk_cell H71.out 3
                have u4 := blk_cell H71.out 4
                have u5 := blk_cell H71.out 5
                have u6 := blk_cell H71.out 6
                refine bodyPost_ret (v := .tuple #[.agg #[.slice none 0 0, .slice none 0 0, .int .i64 0, .int .u64 0, .int .u64 0, .int .u64 0, .int .u64 0], .int .i64 3]) (by simp [results, Try.results18, go_sem, u0, u1, u2, u3, u4, u5, u6]) rfl ?_
                rw [HNO.out]
                exact ⟨rfl, HUP.out⟩
  · have hqei : ¬ (qe : Int) = 0 := by omega
    have hqeb : ((qe : Int) != 0) = true := by simp; omega
    have hno : readE bs = none := by
      unfold readE
      rw [HU.out]
      exact if_neg (fun h => hqe h.1)
    have HNO := Lib.hid hno
    clear hno
    have hg9 := hg3
    have hup9 := hup3
    have hgw9 : w.heap.size ≤ g2 := by omega
    clear hg3 hup3 hge3
    have t0 := blk_cell hg9 0
    have t1 := blk_cell hg9 1
    have t2 := blk_cell hg9 2
    have t3 := blk_cell hg9 3
    have t4 := blk_cell hg9 4
    have t5 := blk_cell hg9 5
    have t6 := blk_cell hg9 6
    have s0 := blk_free hg9 0
    have s1 := blk_free hg9 1
    have s2 := blk_free hg9 2
    have s3 := blk_free hg9 3
    have s4 := blk_free hg9 4
    have s5 := blk_free hg9 5
    have s6 := blk_free hg9 6
    have h7 := set7 _ g2 _ _ _ _ _ _ _ (.slice none 0 0) (.slice none 0 0) (.int .i64 0) (.int .u64 0) (.int .u64 0) (.int .u64 0) (.int .u64 0) _ hg9
    have hup10 := keepsUp hup9 hgw9 h7.2
    have H71 := Lib.hid h7.1
    have HUP := Lib.hid hup10
    clear h7 hup10 hup9 hg9
    go_wp2_with fail
    have u0 := blk_cell H71.out 0
    have u1 := blk_cell H71.out 1
    have u2 := blk_cell H71.out 2
    have u3 := blk_cell H71.out 3
    have u4 := blk_cell H71.out 4
    have u5 := blk_cell H71.out 5
    have u6 := blk_cell H71.out 6
    refine bodyPost_ret (v := .tuple #[.agg #[.slice none 0 0, .slice none 0 0, .int .i64 0, .int .u64 0, .int .u64 0, .int .u64 0, .int .u64 0], .int .i64 3]) (by simp [results, Try.results18, go_sem, u0, u1, u2, u3, u4, u5, u6]) rfl ?_
    rw [HNO.out]
    exact ⟨rfl, HUP.out⟩
end Go.Proofs.Ytokcaoaclheiiaa
