/-
  The walk of edit.Apply.
-/
import Derived.Test.YtokcaoaclheiiaaEditW3
namespace Go.Proofs.Ytokcaoaclheiiaa
open Go.RowKit
set_option linter.unusedVariables false
set_option linter.unusedSimpArgs false

def nmv (l : List Int) : List Value := l.map fun n => .int .i64 n
theorem nmv_len (l : List Int) : (nmv l).length = l.length := by simp [nmv]
/-- one number's file taken out -/
def dropF (l : List Fl) (n : Int) : Option (List Fl) := if l.findIdx (fun f => decide (f.2 = n)) < l.length then some (l.eraseIdx (l.findIdx fun f => decide (f.2 = n))) else none
def dropsF : List Fl → List Int → Option (List Fl)
  | l, [] => some l
  | l, n :: ns => (dropF l n).bind fun l' => dropsF l' ns
def updN (x y : Nat) : Nat := if y = 0 then x else y
def selN (j k x y : Nat) : Nat := if j < k then updN x y else x
def updI (x y : Int) : Int := if y = 0 then x else y

theorem own_keeps6 {w w2 : World} {base gx : Nat} {e : TypeId} {sz n : Nat} {v : Value} {xs : List Value} (h : w.ownsRow base e sz v n xs) (hg : gx < base) (hK : Rg.Keeps (fun g => g = gx) w w2) : w2.ownsRow base e sz v n xs := by
  refine ⟨h.1, ?_⟩
  rcases h.2 with h2 | ⟨g, cap, cur, hv, hb, hh, r⟩
  · exact .inl h2
  · exact .inr ⟨g, cap, cur, hv, hb, (hK.block g (Array.getElem?_eq_some_iff.1 hh).1 (by show ¬ g = gx; omega)).trans hh, r⟩
theorem keepsUp {w wq w2 : World} {gx : Nat} (hu : Up w wq) (hg : w.heap.size ≤ gx) (hK : Rg.Keeps (fun g => g = gx) wq w2) : Up w w2 :=
  ⟨hK.os.trans hu.os, hK.tape.trans hu.tape, hK.output.trans hu.output, Nat.le_trans hu.size hK.size, fun k hk => (hK.block k (Nat.lt_of_lt_of_le hk hu.size) (by show ¬ k = gx; omega)).trans (hu.block k hk)⟩

/-- a view with a change: what it comes to -/
def applyR (lg : Int) (l : List Fl) (f ce at_ le : Nat) (ds : List Int) (add : List Fl) (elg : Int) (ef ece eat ele : Nat) : Option (Int × List Fl × Nat × Nat × Nat × Nat) :=
  match dropsF l ds with
  | none => none
  | some k => if viewOk (updI lg elg) (k ++ add) (updN f ef) (updN ce ece) (updN at_ eat) (updN le ele) = true then some (updI lg elg, k ++ add, updN f ef, updN ce ece, updN at_ eat, updN le ele) else none
def ApPost (r : Option (Int × List Fl × Nat × Nat × Nat × Nat)) (w : World) (e : Ending) (w' : World) : Prop :=
  match r with
  | none => e = .returned (.tuple #[.agg #[.int .i64 0, .slice none 0 0, .int .u64 0, .int .u64 0, .int .u64 0, .int .u64 0], .bool false]) ∧ Up w w'
  | some x => ∃ R rn, e = .returned (.tuple #[.agg #[.int .i64 x.1, .slice R rn rn, .int .u64 (x.2.2.1 : Int), .int .u64 (x.2.2.2.1 : Int), .int .u64 (x.2.2.2.2.1 : Int), .int .u64 (x.2.2.2.2.2 : Int)], .bool true]) ∧ Rd w' w'.heap.size 2 R rn (fvs x.2.1) ∧ Up w w' ∧ ∀ a, R = some a → w.heap.size ≤ a.block ∧ a.block < w'.heap.size
theorem own_fresh {w : World} {base : Nat} {e : TypeId} {sz n c : Nat} {A : Option Addr} {xs : List Value} (h : w.ownsRow base e sz (.slice A n c) n xs) : ∀ a, A = some a → base ≤ a.block ∧ a.block < w.heap.size := by
  rintro a rfl
  rcases h.2 with ⟨hv, _⟩ | ⟨g, cap, cur, hv, hb, hg, _⟩
  · cases hv
  · injection hv with hA _ _
    injection hA with hA
    rw [hA]
    exact ⟨hb, (Array.getElem?_eq_some_iff.1 hg).1⟩
/-- six cells stored one by one -/
theorem set6 (w : World) (g : Nat) (a0 a1 a2 a3 a4 a5 v0 v1 v2 v3 v4 v5 : Value) (t : TypeId) (h : w.heap[g]? = some (.cells #[a0, a1, a2, a3, a4, a5] t (0, 0))) :
    ((((((w.setCell ⟨g, 0, none⟩ v0).setCell ⟨g, 1, none⟩ v1).setCell ⟨g, 2, none⟩ v2).setCell ⟨g, 3, none⟩ v3).setCell ⟨g, 4, none⟩ v4).setCell ⟨g, 5, none⟩ v5).heap[g]? = some (.cells #[v0, v1, v2, v3, v4, v5] t (0, 0)) ∧
    Rg.Keeps (fun x => x = g) w ((((((w.setCell ⟨g, 0, none⟩ v0).setCell ⟨g, 1, none⟩ v1).setCell ⟨g, 2, none⟩ v2).setCell ⟨g, 3, none⟩ v3).setCell ⟨g, 4, none⟩ v4).setCell ⟨g, 5, none⟩ v5) := by
  refine ⟨?_, setc_keeps _ _ _ _ _ (setc_keeps _ _ _ _ _ (setc_keeps _ _ _ _ _ (setc_keeps _ _ _ _ _ (setc_keeps _ _ _ _ _ (setc_keeps _ _ _ _ _ (Rg.Keeps.refl _ _))))))⟩
  have h1 := setc_heap _ g 5 v5 _ _ (setc_heap _ g 4 v4 _ _ (setc_heap _ g 3 v3 _ _ (setc_heap _ g 2 v2 _ _ (setc_heap _ g 1 v1 _ _ (setc_heap w g 0 v0 _ _ h)))))
  exact h1

theorem filesT : SlT Try.prog 25 41 2 16 := SlT.mk' Try.underlying25 (by kernel_rfl) (z := .agg #[.int .i64 0, .int .i64 0]) rfl (by decide)
set_option maxRecDepth 100000 in
theorem clip_any (A : Option Addr) (n c : Nat) (w : World) (h : n ≤ c) : Calls Try.prog 29 #[.slice A n c] w fun e w' => e = .returned (.slice A n n) ∧ w = w' := by
  have z1 : (n : Int) ≤ (c : Int) := by omega
  go_enter Try.func29, Try.ntmps29
  go_wp2_with fail
  go_ret
  first | exact ⟨rfl, rfl⟩ | (split <;> exact ⟨rfl, rfl⟩)
set_option maxRecDepth 100000 in
theorem apply1_any (gp : Nat) (x y : Int) (z : Int) (w : World) (hg : gp < w.heap.size) (hc : w.cell? ⟨gp, 0, none⟩ = some (.int .i64 z)) :
    Calls Try.prog 27 #[.agg #[.int .i64 x, .int .i64 y], .pointer (some ⟨gp, 0, none⟩)] w fun e w' => e = .returned (.bool (decide (y = z))) ∧ Up w w' := by
  have h0 : Up w (w.alloc (.cells #[.int .i64 x, .int .i64 y] 41)) := (Up.refl w).alloc _
  have hc2 := (h0.cell (p := ⟨gp, 0, none⟩) hg).trans hc
  have hc1 : (w.alloc (.cells #[.int .i64 x, .int .i64 y] 41)).cell? ⟨w.heap.size, 1, none⟩ = some (.int .i64 y) := by simp
  go_enter Try.func27, Try.ntmps27
  go_wp2_with fail
  go_ret
  exact ⟨rfl, h0⟩

set_option maxRecDepth 100000 in
set_option maxHeartbeats 1600000 in
theorem apply_any (lg : Int) (A : Option Addr) (n c : Nat) (l : List Fl) (f ce at_ le : Nat) (D : Option Addr) (dn dc : Nat) (ds : List Int) (A2 : Option Addr) (an ac : Nat) (add : List Fl) (elg : Int) (ef ece eat ele : Nat) (w : World)
    (hr : Rd w w.heap.size 2 A n (fvs l)) (hn : n ≤ 1099511627776) (hd : Rd w w.heap.size 1 D dn (nmv ds)) (hdn : dn ≤ 1099511627776) (ha : Rd w w.heap.size 2 A2 an (fvs add)) (han : an ≤ 1099511627776) :
    Calls Try.prog 9 #[.agg #[.int .i64 lg, .slice A n c, .int .u64 (f : Int), .int .u64 (ce : Int), .int .u64 (at_ : Int), .int .u64 (le : Int)], .agg #[.slice D dn dc, .slice A2 an ac, .int .i64 elg, .int .u64 (ef : Int), .int .u64 (ece : Int), .int .u64 (eat : Int), .int .u64 (ele : Int)]] w
      (ApPost (applyR lg l f ce at_ le ds add elg ef ece eat ele) w) := by
  obtain ⟨w4, hw4⟩ : ∃ w4, w4 = (((w.alloc (.cells #[.int .i64 lg, .slice A n c, .int .u64 (f : Int), .int .u64 (ce : Int), .int .u64 (at_ : Int), .int .u64 (le : Int)] 27)).alloc (.cells #[.slice D dn dc, .slice A2 an ac, .int .i64 elg, .int .u64 (ef : Int), .int .u64 (ece : Int), .int .u64 (eat : Int), .int .u64 (ele : Int)] 32)).alloc
    (.cells #[.int .i64 0, .slice none 0 0, .int .u64 0, .int .u64 0, .int .u64 0, .int .u64 0] 27)).alloc (.cells #[.int .i64 lg, .slice A n c, .int .u64 (f : Int), .int .u64 (ce : Int), .int .u64 (at_ : Int), .int .u64 (le : Int)] 27) := ⟨_, rfl⟩
  have hup4 : Up w w4 := by rw [hw4]; exact ((((Up.refl w).alloc _).alloc _).alloc _).alloc _
  have hsz4 : w4.heap.size = w.heap.size + 4 := by rw [hw4]; simp
  have hed4 : w4.heap[w.heap.size + 1]? = some (.cells #[.slice D dn dc, .slice A2 an ac, .int .i64 elg, .int .u64 (ef : Int), .int .u64 (ece : Int), .int .u64 (eat : Int), .int .u64 (ele : Int)] 32 (0, 0)) := by
    rw [hw4, Below.heap_alloc _ _ _ (by simp), Below.heap_alloc _ _ _ (by simp)]
    have h := heap_alloc_new (w.alloc (.cells #[.int .i64 lg, .slice A n c, .int .u64 (f : Int), .int .u64 (ce : Int), .int .u64 (at_ : Int), .int .u64 (le : Int)] 27)) (.cells #[.slice D dn dc, .slice A2 an ac, .int .i64 elg, .int .u64 (ef : Int), .int .u64 (ece : Int), .int .u64 (eat : Int), .int .u64 (ele : Int)] 32)
    rwa [World.size_alloc] at h
  have hgr4 : w4.heap[w.heap.size + 1 + 1]? = some (.cells #[.int .i64 0, .slice none 0 0, .int .u64 0, .int .u64 0, .int .u64 0, .int .u64 0] 27 (0, 0)) := by
    rw [hw4, Below.heap_alloc _ _ _ (by simp)]
    have h := heap_alloc_new ((w.alloc (.cells #[.int .i64 lg, .slice A n c, .int .u64 (f : Int), .int .u64 (ce : Int), .int .u64 (at_ : Int), .int .u64 (le : Int)] 27)).alloc (.cells #[.slice D dn dc, .slice A2 an ac, .int .i64 elg, .int .u64 (ef : Int), .int .u64 (ece : Int), .int .u64 (eat : Int), .int .u64 (ele : Int)] 32)) (.cells #[.int .i64 0, .slice none 0 0, .int .u64 0, .int .u64 0, .int .u64 0, .int .u64 0] 27)
    rwa [World.size_alloc, World.size_alloc] at h
  have hgo4 : w4.heap[w.heap.size + 1 + 1 + 1]? = some (.cells #[.int .i64 lg, .slice A n c, .int .u64 (f : Int), .int .u64 (ce : Int), .int .u64 (at_ : Int), .int .u64 (le : Int)] 27 (0, 0)) := by
    rw [hw4]
    have h := heap_alloc_new (((w.alloc (.cells #[.int .i64 lg, .slice A n c, .int .u64 (f : Int), .int .u64 (ce : Int), .int .u64 (at_ : Int), .int .u64 (le : Int)] 27)).alloc (.cells #[.slice D dn dc, .slice A2 an ac, .int .i64 elg, .int .u64 (ef : Int), .int .u64 (ece : Int), .int .u64 (eat : Int), .int .u64 (ele : Int)] 32)).alloc (.cells #[.int .i64 0, .slice none 0 0, .int .u64 0, .int .u64 0, .int .u64 0, .int .u64 0] 27))
      (.cells #[.int .i64 lg, .slice A n c, .int .u64 (f : Int), .int .u64 (ce : Int), .int .u64 (at_ : Int), .int .u64 (le : Int)] 27)
    rwa [World.size_alloc, World.size_alloc, World.size_alloc] at h
  have HW4 := Lib.hid hw4
  clear hw4
  have hr4 := hr.up hup4
  clear hr
  go_enter Try.func9, Try.ntmps9
  go_wp2_with (at_builtin; rw [← HW4.out]; refine wpList_append_rd _ filesT (World.ownsRow_nil _ (w.heap.size + 4) _ _) hr4 (fvs_one _) (by omega) (by omega) (by omega) rfl rfl rfl rfl ?_; intro v5 w5 hown5 hg5 hat5; obtain ⟨R5, rc5, rfl⟩ := own_form hown5
               rw [Nat.zero_add, List.nil_append] at hown5
               simp only [Nat.zero_add]
               have hu45 : Up w4 w5 := (Up.refl w4).grown hg5 (by intro k h; cases h)
               have hed5 := (hu45.block _ (by omega)).trans hed4
               have hgr5 := (hu45.block _ (by omega)).trans hgr4
               have hgo5 := (hu45.block _ (by omega)).trans hgo4
               have r1 := blk_cell hgo5 1
               have r2 := blk_free hgo5 1
               have hgo6 : (w5.setCell ⟨w.heap.size + 1 + 1 + 1, 1, none⟩ (.slice R5 n rc5)).heap[w.heap.size + 1 + 1 + 1]? = some (.cells #[.int .i64 lg, .slice R5 n rc5, .int .u64 (f : Int), .int .u64 (ce : Int), .int .u64 (at_ : Int), .int .u64 (le : Int)] 27 (0, 0)) := setc_heap w5 _ 1 _ _ _ hgo5
               have hK6 := setc_keeps w5 w5 (w.heap.size + 1 + 1 + 1) 1 (.slice R5 n rc5) (Rg.Keeps.refl _ _)
               have hed6 := (hK6.block _ (Array.getElem?_eq_some_iff.1 hed5).1 (by omega)).trans hed5
               have hgr6 := (hK6.block _ (Array.getElem?_eq_some_iff.1 hgr5).1 (by omega)).trans hgr5
               have hown6 : (w5.setCell ⟨w.heap.size + 1 + 1 + 1, 1, none⟩ (.slice R5 n rc5)).ownsRow (w.heap.size + 4) 41 2 (.slice R5 n rc5) n (fvs l) := own_keeps6 hown5 (by omega) hK6
               have hup6 : Up w (w5.setCell ⟨w.heap.size + 1 + 1 + 1, 1, none⟩ (.slice R5 n rc5)) := keepsUp (hup4.trans hu45) (by omega) hK6
               have r3 := blk_cell hed6 0)
  clear r1 r2 r3 hed5 hgr5 hgo5 hK6 hown5 hg5 hat5 hed4 hgr4 hgo4 hr4 hu45 HW4
  have hgeE : w.heap.size + 4 = w.heap.size + 1 + 1 + 1 + 1 := rfl
  rw [hgeE] at hown6
  generalize w5.setCell ⟨w.heap.size + 1 + 1 + 1, 1, none⟩ (.slice R5 n rc5) = w6 at *
  have o1 : w.heap.size < w.heap.size + 1 := by omega
  have o2 : w.heap.size + 1 < w.heap.size + 1 + 1 := by omega
  have o3 : w.heap.size + 1 + 1 < w.heap.size + 1 + 1 + 1 := by omega
  clear hup4 hsz4 hgeE
  generalize w.heap.size + 1 + 1 + 1 = go at *
  generalize w.heap.size + 1 + 1 = gr at *
  generalize w.heap.size + 1 = ge at *
  go_loopw [20] (fun i wr => ∃ (k : Nat) (cur : List Fl) (R : Option Addr) (rn rc : Nat), i = .int .i64 (k : Int) ∧ k ≤ dn ∧ rn ≤ n ∧ Up w wr ∧ wr.heap[ge]? = some (.cells #[.slice D dn dc, .slice A2 an ac, .int .i64 elg, .int .u64 (ef : Int), .int .u64 (ece : Int), .int .u64 (eat : Int), .int .u64 (ele : Int)] 32 (0, 0)) ∧
    wr.heap[gr]? = some (.cells #[.int .i64 0, .slice none 0 0, .int .u64 0, .int .u64 0, .int .u64 0, .int .u64 0] 27 (0, 0)) ∧ wr.heap[go]? = some (.cells #[.int .i64 lg, .slice R rn rc, .int .u64 (f : Int), .int .u64 (ce : Int), .int .u64 (at_ : Int), .int .u64 (le : Int)] 27 (0, 0)) ∧
    wr.ownsRow (go + 1) 41 2 (.slice R rn rc) rn (fvs cur) ∧ Hid (dropsF cur (ds.drop k) = dropsF l ds)) (fun i _ => dn - (intOf i).toNat)
  case atStart => exact ⟨0, l, R5, n, rc5, rfl, by omega, by omega, hup6, hed6, hgr6, hgo6, hown6, rfl⟩
  case round =>
    obtain ⟨k, cur, R, rn, rc, rfl, hk, hrn, hup, hed, hgr, hgo, hown, hdr⟩ := hrel
    clear hup6 hed6 hgr6 hgo6 hown6
    by_cases hlt : k < dn
    · have hdl : dn = ds.length := by have := hd.1; rw [nmv_len] at this; omega
      obtain ⟨b, o, rfl, hb, hc⟩ := hd.2 (by omega)
      have hck : wr.cell? ⟨b, o + k, none⟩ = some (.int .i64 (ds[k]'(by omega))) := (hup.cell (p := ⟨b, o + k, none⟩) hb).trans (hc k _ (by simp [nmv, show k < ds.length by omega]))
      have hdk : ds.drop k = ds[k]'(by omega) :: ds.drop (k + 1) := List.drop_eq_getElem_cons (by omega)
      generalize ds[k]'(by omega) = x at hck hdk
      have HDK := Lib.hid hdk
      clear hc hdk hdl
      have hub : Up wr (wr.alloc (.cells #[.int .i64 x] 3)) := (Up.refl wr).alloc _
      have hcb : (wr.alloc (.cells #[.int .i64 x] 3)).cell? ⟨wr.heap.size, 0, none⟩ = some (.int .i64 x) := by simp
      have hlb : wr.heap.size < (wr.alloc (.cells #[.int .i64 x] 3)).heap.size := by simp
      have q1 : (wr.alloc (.cells #[.int .i64 x] 3)).cell? ⟨go, 1, none⟩ = some (.slice R rn rc) := (hub.cell (p := ⟨go, 1, none⟩) (Array.getElem?_eq_some_iff.1 hgo).1).trans (blk_cell hgo 1)
      have hcall := ixf_any 27 #[.pointer (some ⟨wr.heap.size, 0, none⟩)] (fun f => decide (f.2 = x)) R rn rc cur (wr.alloc (.cells #[.int .i64 x] 3)) ((Rd.own hown).up hub) (by omega) (fun _ _ => rfl)
        (fun W y hW => apply1_any wr.heap.size y.1 y.2 x W (by have := hW.size; omega) ((hW.cell (p := ⟨wr.heap.size, 0, none⟩) hlb).trans hcb))
      go_wp2_with fail
      clear q1
      refine hcall.mono ?_
      rintro e w7 ⟨rfl, hu7⟩
      have hu17 := hub.trans hu7
      clear hcall hcb hlb hub hu7 hck
      have hed7 := (hu17.block _ (Array.getElem?_eq_some_iff.1 hed).1).trans hed
      have hgr7 := (hu17.block _ (Array.getElem?_eq_some_iff.1 hgr).1).trans hgr
      have hgo7 := (hu17.block _ (Array.getElem?_eq_some_iff.1 hgo).1).trans hgo
      have hown7 := own_up hown hu17
      have hup7 := hup.trans hu17
      clear hed hgr hgo hown hup hu17
      by_cases hfi : cur.findIdx (fun f => decide (f.2 = x)) < cur.length
      · have hix : ixI (fun f : Fl => decide (f.2 = x)) cur = ((cur.findIdx (fun f => decide (f.2 = x)) : Nat) : Int) := by unfold ixI; rw [if_pos hfi]
        have hdf : dropF cur x = some (cur.eraseIdx (cur.findIdx fun f => decide (f.2 = x))) := by unfold dropF; rw [if_pos hfi]
        rw [hix]
        clear hix
        have HDF := Lib.hid hdf
        clear hdf
        generalize cur.findIdx (fun f => decide (f.2 = x)) = j at *
        have hlen : rn = cur.length := by have := hown7.1; rw [fvs_length] at this; omega
        obtain ⟨g, rfl, hgb, hgl⟩ := own_some hown7 (by omega)
        have q1 := blk_cell hgo7 1
        have q2 := blk_free hgo7 1
        have hjl : j < rn := by omega
        clear hlen hfi
        go_wp2_with fail
        refine (delete_any g rn rc (go + 1) cur j w7 hown7 hjl).mono ?_
        rintro e w8 ⟨rfl, hown8, hK8⟩
        clear q1 q2
        have hed8 := (hK8.block _ (Array.getElem?_eq_some_iff.1 hed7).1 (by omega)).trans hed7
        have hgr8 := (hK8.block _ (Array.getElem?_eq_some_iff.1 hgr7).1 (by omega)).trans hgr7
        have hgo8 := (hK8.block _ (Array.getElem?_eq_some_iff.1 hgo7).1 (by omega)).trans hgo7
        have hup8 : Up w w8 := keepsUp hup7 (by omega) hK8
        clear hed7 hgr7 hgo7 hown7 hup7 hK8
        have q1 := blk_cell hgo8 1
        have q2 := blk_free hgo8 1
        have hgo9 : (w8.setCell ⟨go, 1, none⟩ (.slice (some ⟨g, 0, none⟩) (rn - 1) rc)).heap[go]? = some (.cells #[.int .i64 lg, .slice (some ⟨g, 0, none⟩) (rn - 1) rc, .int .u64 (f : Int), .int .u64 (ce : Int), .int .u64 (at_ : Int), .int .u64 (le : Int)] 27 (0, 0)) := setc_heap w8 _ 1 _ _ _ hgo8
        have hK9 := setc_keeps w8 w8 go 1 (.slice (some ⟨g, 0, none⟩) (rn - 1) rc) (Rg.Keeps.refl _ _)
        have hed9 := (hK9.block _ (Array.getElem?_eq_some_iff.1 hed8).1 (by omega)).trans hed8
        have hgr9 := (hK9.block _ (Array.getElem?_eq_some_iff.1 hgr8).1 (by omega)).trans hgr8
        have hown9 := own_keeps6 hown8 (by omega) hK9
        have hup9 := keepsUp hup8 (by omega) hK9
        clear hK9
        go_wp2_with fail
        clear q1 q2
        generalize w8.setCell ⟨go, 1, none⟩ (.slice (some ⟨g, 0, none⟩) (rn - 1) rc) = w9 at *
        go_roundw
        case rel =>
          refine ⟨k + 1, cur.eraseIdx j, some ⟨g, 0, none⟩, rn - 1, rc, by go_num, by omega, by omega, hup9, hed9, hgr9, hgo9, hown9, ?_⟩
          show _ = _
          rw [← hdr.out, HDK.out]
          show _ = (dropF cur x).bind _
          rw [HDF.out]; rfl
        case measure => simp [intOf]; omega
      · have hix : ixI (fun f : Fl => decide (f.2 = x)) cur = -1 := by unfold ixI; rw [if_neg hfi]
        have hdf : dropF cur x = none := by unfold dropF; rw [if_neg hfi]
        rw [hix]
        clear hix hfi
        have hno : dropsF l ds = none := by
          rw [← hdr.out, HDK.out]
          show (dropF cur x).bind _ = _
          rw [hdf]; rfl
        have HNO := Lib.hid hno
        clear hno hdf
        have t0 := blk_cell hgr7 0
        have t1 := blk_cell hgr7 1
        have t2 := blk_cell hgr7 2
        have t3 := blk_cell hgr7 3
        have t4 := blk_cell hgr7 4
        have t5 := blk_cell hgr7 5
        have s0 := blk_free hgr7 0
        have s1 := blk_free hgr7 1
        have s2 := blk_free hgr7 2
        have s3 := blk_free hgr7 3
        have s4 := blk_free hgr7 4
        have s5 := blk_free hgr7 5
        have h6 := set6 w7 gr _ _ _ _ _ _ (.int .i64 0) (.slice none 0 0) (.int .u64 0) (.int .u64 0) (.int .u64 0) (.int .u64 0) _ hgr7
        go_wp2_with fail
        clear t0 t1 t2 t3 t4 t5 s0 s1 s2 s3 s4 s5
        generalize (((((w7.setCell ⟨gr, 0, none⟩ (.int .i64 0)).setCell ⟨gr, 1, none⟩ (.slice none 0 0)).setCell ⟨gr, 2, none⟩ (.int .u64 0)).setCell ⟨gr, 3, none⟩ (.int .u64 0)).setCell ⟨gr, 4, none⟩ (.int .u64 0)).setCell ⟨gr, 5, none⟩ (.int .u64 0) = w8 at *
        obtain ⟨h6, hK8⟩ := h6
        have t0 := blk_cell h6 0
        have t1 := blk_cell h6 1
        have t2 := blk_cell h6 2
        have t3 := blk_cell h6 3
        have t4 := blk_cell h6 4
        have t5 := blk_cell h6 5
        have hup8 : Up w w8 := keepsUp hup7 (by omega) hK8
        refine bodyPost_ret (v := .tuple #[.agg #[.int .i64 0, .slice none 0 0, .int .u64 0, .int .u64 0, .int .u64 0, .int .u64 0], .bool false]) (by simp [results, Try.results9, go_sem, t0, t1, t2, t3, t4, t5]) rfl ?_
        have hR : applyR lg l f ce at_ le ds add elg ef ece eat ele = none := by unfold applyR; rw [HNO.out]
        rw [hR]
        exact ⟨rfl, hup8⟩
    · have hkd : k = ds.length := by have := hd.1; rw [nmv_len] at this; omega
      have hdrop : dropsF l ds = some cur := by rw [← hdr.out, hkd, List.drop_length]; rfl
      have HDR := Lib.hid hdrop
      clear hkd hdrop hdr
      have ha7 := ha.up hup
      have hlo := hown.lt
      have q1 := blk_cell hgo 1
      have q2 := blk_cell hed 1
      go_wp2_with (first
        | (at_builtin; refine wpList_append_rd _ filesT hown ha7 (fvs_one _) (by omega) (by omega) (by have := (Array.getElem?_eq_some_iff.1 hgo).1; omega) rfl rfl rfl rfl ?_; intro v5 w5 hown5 hg5 hat5; obtain ⟨R5, rc5, rfl⟩ := own_form hown5
           rw [← fvs_append] at hown5
           have hed5 := (hg5.block ge (Array.getElem?_eq_some_iff.1 hed).1 (fun e0 => by have := (hlo ge e0.symm).1; omega)).trans hed
           have hgr5 := (hg5.block gr (Array.getElem?_eq_some_iff.1 hgr).1 (fun e0 => by have := (hlo gr e0.symm).1; omega)).trans hgr
           have hgo5 := (hg5.block go (Array.getElem?_eq_some_iff.1 hgo).1 (fun e0 => by have := (hlo go e0.symm).1; omega)).trans hgo
           have hup5 : Up w w5 := hup.grown hg5 (fun k0 e0 => by have := (hlo k0 e0).1; omega)
           have hrc5 := own_cap hown5)
        | fail)
      refine (clip_any R5 (rn + an) rc5 w5 hrc5).mono ?_
      rintro e w6 ⟨rfl, rfl⟩
      have r1 := blk_cell hgo5 1
      have r2 := blk_free hgo5 1
      have hgo6 : (w5.setCell ⟨go, 1, none⟩ (.slice R5 (rn + an) (rn + an))).heap[go]? = some (.cells #[.int .i64 lg, .slice R5 (rn + an) (rn + an), .int .u64 (f : Int), .int .u64 (ce : Int), .int .u64 (at_ : Int), .int .u64 (le : Int)] 27 (0, 0)) := setc_heap w5 _ 1 _ _ _ hgo5
      have hK6 := setc_keeps w5 w5 go 1 (.slice R5 (rn + an) (rn + an)) (Rg.Keeps.refl _ _)
      have hed6 := (hK6.block _ (Array.getElem?_eq_some_iff.1 hed5).1 (by omega)).trans hed5
      have hgr6 := (hK6.block _ (Array.getElem?_eq_some_iff.1 hgr5).1 (by omega)).trans hgr5
      have hown6 := own_keeps6 hown5 (by omega) hK6
      have hup6 := keepsUp hup5 (by omega) hK6
      clear hK6 hed5 hgr5 hgo5 hown5 hup5 hed hgr hgo hown hup q1 q2 ha7 hlo hat5 hg5
      have r3 := blk_cell hed6 2
      have r4 := blk_cell hed6 3
      have r5 := blk_cell hed6 4
      have r6 := blk_cell hed6 5
      have r7 := blk_cell hed6 6
      by_cases hel : elg = 0
      · have hLG : updI lg elg = lg := by unfold updI; rw [if_pos hel]
        have helb : (elg != 0) = false := by simp [hel]
        have hsz8 : (w5.setCell ⟨go, 1, none⟩ (.slice R5 (rn + an) (rn + an))).heap.size = w5.heap.size := by simp [World.setCell]
        go_wp2_with fail
        clear r1 r2 r3 r4 r5 r6 r7
        generalize w5.setCell ⟨go, 1, none⟩ (.slice R5 (rn + an) (rn + an)) = w8 at *
        have HLG := Lib.hid hLG
        clear hLG
        have hL9 : (w8.alloc (.cells #[.int .u64 (ef : Int), .pointer (some ⟨go, 2, none⟩), .int .u64 (ece : Int), .pointer (some ⟨go, 3, none⟩), .int .u64 (eat : Int), .pointer (some ⟨go, 4, none⟩), .int .u64 (ele : Int), .pointer (some ⟨go, 5, none⟩)] 69)).heap[w8.heap.size]? =
          some (.cells #[.int .u64 (ef : Int), .pointer (some ⟨go, 2, none⟩), .int .u64 (ece : Int), .pointer (some ⟨go, 3, none⟩), .int .u64 (eat : Int), .pointer (some ⟨go, 4, none⟩), .int .u64 (ele : Int), .pointer (some ⟨go, 5, none⟩)] 69 (0, 0)) := heap_alloc_new _ _
        have hu9 : Up w8 (w8.alloc (.cells #[.int .u64 (ef : Int), .pointer (some ⟨go, 2, none⟩), .int .u64 (ece : Int), .pointer (some ⟨go, 3, none⟩), .int .u64 (eat : Int), .pointer (some ⟨go, 4, none⟩), .int .u64 (ele : Int), .pointer (some ⟨go, 5, none⟩)] 69)) := (Up.refl w8).alloc _
        have hgr9 := (hu9.block _ (Array.getElem?_eq_some_iff.1 hgr6).1).trans hgr6
        have hgo9 := (hu9.block _ (Array.getElem?_eq_some_iff.1 hgo6).1).trans hgo6
        have hown9 := own_up hown6 hu9
        have hup9 := hup6.trans hu9
        have hgoL : ¬ w8.heap.size = go := by have := (Array.getElem?_eq_some_iff.1 hgo6).1; omega
        generalize w8.alloc (.cells #[.int .u64 (ef : Int), .pointer (some ⟨go, 2, none⟩), .int .u64 (ece : Int), .pointer (some ⟨go, 3, none⟩), .int .u64 (eat : Int), .pointer (some ⟨go, 4, none⟩), .int .u64 (ele : Int), .pointer (some ⟨go, 5, none⟩)] 69) = w9 at *
        rw [hsz8] at hL9 hgoL
        generalize w5.heap.size = gL at *
        clear hsz8 hgr6 hgo6 hown6 hup6 hed6 hu9
        go_loopw [70] (fun i wr => ∃ k : Nat, i = .int .i64 (k : Int) ∧ k ≤ 4 ∧ Up w wr ∧ wr.heap[gr]? = some (.cells #[.int .i64 0, .slice none 0 0, .int .u64 0, .int .u64 0, .int .u64 0, .int .u64 0] 27 (0, 0)) ∧
          wr.heap[go]? = some (.cells #[.int .i64 lg, .slice R5 (rn + an) (rn + an), .int .u64 ((selN 0 k f ef : Nat) : Int), .int .u64 ((selN 1 k ce ece : Nat) : Int), .int .u64 ((selN 2 k at_ eat : Nat) : Int), .int .u64 ((selN 3 k le ele : Nat) : Int)] 27 (0, 0)) ∧
          wr.heap[gL]? = some (.cells #[.int .u64 (ef : Int), .pointer (some ⟨go, 2, none⟩), .int .u64 (ece : Int), .pointer (some ⟨go, 3, none⟩), .int .u64 (eat : Int), .pointer (some ⟨go, 4, none⟩), .int .u64 (ele : Int), .pointer (some ⟨go, 5, none⟩)] 69 (0, 0)) ∧ wr.ownsRow (go + 1) 41 2 (.slice R5 (rn + an) rc5) (rn + an) (fvs (cur ++ add))) (fun i _ => 4 - (intOf i).toNat)
        case atStart => exact ⟨0, rfl, by omega, hup9, hgr9, hgo9, hL9, hown9⟩
        case round =>
          obtain ⟨k, rfl, hk4, hup, hgr, hgo, hL, hown⟩ := hrel
          clear hup9 hgr9 hgo9 hL9 hown9
          have hcases : k = 0 ∨ k = 1 ∨ k = 2 ∨ k = 3 ∨ k = 4 := by omega
          rcases hcases with rfl | rfl | rfl | rfl | rfl
          · have hgo0 : wr.heap[go]? = some (.cells #[.int .i64 lg, .slice R5 (rn + an) (rn + an), .int .u64 ((f : Nat) : Int), .int .u64 ((ce : Nat) : Int), .int .u64 ((at_ : Nat) : Int), .int .u64 ((le : Nat) : Int)] 27 (0, 0)) := hgo
            clear hgo
            have q0 := blk_cell hL 0
            have q1 := blk_cell hL 1
            have hub : Up wr (wr.alloc (.cells #[.int .u64 (ef : Int), .pointer (some ⟨go, 2, none⟩)] 69)) := (Up.refl wr).alloc _
            have hbn : (wr.alloc (.cells #[.int .u64 (ef : Int), .pointer (some ⟨go, 2, none⟩)] 69)).heap[wr.heap.size]? = some (.cells #[.int .u64 (ef : Int), .pointer (some ⟨go, 2, none⟩)] 69 (0, 0)) := heap_alloc_new _ _
            have q2 := blk_cell hbn 0
            have q3 := blk_cell hbn 1
            have hgr1 := (hub.block _ (Array.getElem?_eq_some_iff.1 hgr).1).trans hgr
            have hgo1 := (hub.block _ (Array.getElem?_eq_some_iff.1 hgo0).1).trans hgo0
            have hL1 := (hub.block _ (Array.getElem?_eq_some_iff.1 hL).1).trans hL
            have hown1 := own_up hown hub
            have hup1 := hup.trans hub
            by_cases hz : ef = 0
            · have hzb : ((ef : Int) != 0) = false := by simp [hz]
              have hzb2 : (ef != 0) = false := by simp [hz]
              have eu : updN f ef = f := by unfold updN; rw [if_pos hz]
              have HZ := Lib.hid hz
              have EU := Lib.hid eu
              clear hz eu
              go_wp2_with fail
              clear q0 q1 q2 q3
              go_roundw
              case rel =>
                refine ⟨0 + 1, by go_num, by omega, hup1, hgr1, ?_, hL1, hown1⟩
                show _ = some (Obj.cells #[.int .i64 lg, .slice R5 (rn + an) (rn + an), .int .u64 (((updN f ef) : Nat) : Int), .int .u64 ((ce : Nat) : Int), .int .u64 ((at_ : Nat) : Int), .int .u64 ((le : Nat) : Int)] 27 (0, 0))
                rw [EU.out]
                exact hgo1
              case measure => simp [intOf]
            · have hzb : ((ef : Int) != 0) = true := by simp [hz]
              have hzb2 : (ef != 0) = true := by simp [hz]
              have eu : updN f ef = ef := by unfold updN; rw [if_neg hz]
              have HZ := Lib.hid hz
              have EU := Lib.hid eu
              clear hz eu
              have q4 := blk_cell hgo1 2
              have q5 := blk_free hgo1 2
              have hgo2 : ((wr.alloc (.cells #[.int .u64 (ef : Int), .pointer (some ⟨go, 2, none⟩)] 69)).setCell ⟨go, 2, none⟩ (.int .u64 (ef : Int))).heap[go]? = some (.cells #[.int .i64 lg, .slice R5 (rn + an) (rn + an), .int .u64 ((ef : Nat) : Int), .int .u64 ((ce : Nat) : Int), .int .u64 ((at_ : Nat) : Int), .int .u64 ((le : Nat) : Int)] 27 (0, 0)) := setc_heap _ _ 2 _ _ _ hgo1
              have hK2 := setc_keeps (wr.alloc (.cells #[.int .u64 (ef : Int), .pointer (some ⟨go, 2, none⟩)] 69)) (wr.alloc (.cells #[.int .u64 (ef : Int), .pointer (some ⟨go, 2, none⟩)] 69)) go 2 (.int .u64 (ef : Int)) (Rg.Keeps.refl _ _)
              have hgr2 := (hK2.block _ (Array.getElem?_eq_some_iff.1 hgr1).1 (by omega)).trans hgr1
              have hL2 := (hK2.block _ (Array.getElem?_eq_some_iff.1 hL1).1 hgoL).trans hL1
              have hown2 := own_keeps6 hown1 (by omega) hK2
              have hup2 := keepsUp hup1 (by omega) hK2
              go_wp2_with fail
              clear q0 q1 q2 q3 q4 q5
              go_roundw
              case rel =>
                refine ⟨0 + 1, by go_num, by omega, hup2, hgr2, ?_, hL2, hown2⟩
                show _ = some (Obj.cells #[.int .i64 lg, .slice R5 (rn + an) (rn + an), .int .u64 (((updN f ef) : Nat) : Int), .int .u64 ((ce : Nat) : Int), .int .u64 ((at_ : Nat) : Int), .int .u64 ((le : Nat) : Int)] 27 (0, 0))
                rw [EU.out]
                exact hgo2
              case measure => simp [intOf]
          · have hgo0 : wr.heap[go]? = some (.cells #[.int .i64 lg, .slice R5 (rn + an) (rn + an), .int .u64 (((updN f ef) : Nat) : Int), .int .u64 ((ce : Nat) : Int), .int .u64 ((at_ : Nat) : Int), .int .u64 ((le : Nat) : Int)] 27 (0, 0)) := hgo
            clear hgo
            have q0 := blk_cell hL 2
            have q1 := blk_cell hL 3
            have hub : Up wr (wr.alloc (.cells #[.int .u64 (ece : Int), .pointer (some ⟨go, 3, none⟩)] 69)) := (Up.refl wr).alloc _
            have hbn : (wr.alloc (.cells #[.int .u64 (ece : Int), .pointer (some ⟨go, 3, none⟩)] 69)).heap[wr.heap.size]? = some (.cells #[.int .u64 (ece : Int), .pointer (some ⟨go, 3, none⟩)] 69 (0, 0)) := heap_alloc_new _ _
            have q2 := blk_cell hbn 0
            have q3 := blk_cell hbn 1
            have hgr1 := (hub.block _ (Array.getElem?_eq_some_iff.1 hgr).1).trans hgr
            have hgo1 := (hub.block _ (Array.getElem?_eq_some_iff.1 hgo0).1).trans hgo0
            have hL1 := (hub.block _ (Array.getElem?_eq_some_iff.1 hL).1).trans hL
            have hown1 := own_up hown hub
            have hup1 := hup.trans hub
            by_cases hz : ece = 0
            · have hzb : ((ece : Int) != 0) = false := by simp [hz]
              have hzb2 : (ece != 0) = false := by simp [hz]
              have eu : updN ce ece = ce := by unfold updN; rw [if_pos hz]
              have HZ := Lib.hid hz
              have EU := Lib.hid eu
              clear hz eu
              go_wp2_with fail
              clear q0 q1 q2 q3
              go_roundw
              case rel =>
                refine ⟨1 + 1, by go_num, by omega, hup1, hgr1, ?_, hL1, hown1⟩
                show _ = some (Obj.cells #[.int .i64 lg, .slice R5 (rn + an) (rn + an), .int .u64 (((updN f ef) : Nat) : Int), .int .u64 (((updN ce ece) : Nat) : Int), .int .u64 ((at_ : Nat) : Int), .int .u64 ((le : Nat) : Int)] 27 (0, 0))
                rw [EU.out]
                exact hgo1
              case measure => simp [intOf]
            · have hzb : ((ece : Int) != 0) = true := by simp [hz]
              have hzb2 : (ece != 0) = true := by simp [hz]
              have eu : updN ce ece = ece := by unfold updN; rw [if_neg hz]
              have HZ := Lib.hid hz
              have EU := Lib.hid eu
              clear hz eu
              have q4 := blk_cell hgo1 3
              have q5 := blk_free hgo1 3
              have hgo2 : ((wr.alloc (.cells #[.int .u64 (ece : Int), .pointer (some ⟨go, 3, none⟩)] 69)).setCell ⟨go, 3, none⟩ (.int .u64 (ece : Int))).heap[go]? = some (.cells #[.int .i64 lg, .slice R5 (rn + an) (rn + an), .int .u64 (((updN f ef) : Nat) : Int), .int .u64 ((ece : Nat) : Int), .int .u64 ((at_ : Nat) : Int), .int .u64 ((le : Nat) : Int)] 27 (0, 0)) := setc_heap _ _ 3 _ _ _ hgo1
              have hK2 := setc_keeps (wr.alloc (.cells #[.int .u64 (ece : Int), .pointer (some ⟨go, 3, none⟩)] 69)) (wr.alloc (.cells #[.int .u64 (ece : Int), .pointer (some ⟨go, 3, none⟩)] 69)) go 3 (.int .u64 (ece : Int)) (Rg.Keeps.refl _ _)
              have hgr2 := (hK2.block _ (Array.getElem?_eq_some_iff.1 hgr1).1 (by omega)).trans hgr1
              have hL2 := (hK2.block _ (Array.getElem?_eq_some_iff.1 hL1).1 hgoL).trans hL1
              have hown2 := own_keeps6 hown1 (by omega) hK2
              have hup2 := keepsUp hup1 (by omega) hK2
              go_wp2_with fail
              clear q0 q1 q2 q3 q4 q5
              go_roundw
              case rel =>
                refine ⟨1 + 1, by go_num, by omega, hup2, hgr2, ?_, hL2, hown2⟩
                show _ = some (Obj.cells #[.int .i64 lg, .slice R5 (rn + an) (rn + an), .int .u64 (((updN f ef) : Nat) : Int), .int .u64 (((updN ce ece) : Nat) : Int), .int .u64 ((at_ : Nat) : Int), .int .u64 ((le : Nat) : Int)] 27 (0, 0))
                rw [EU.out]
                exact hgo2
              case measure => simp [intOf]
          · have hgo0 : wr.heap[go]? = some (.cells #[.int .i64 lg, .slice R5 (rn + an) (rn + an), .int .u64 (((updN f ef) : Nat) : Int), .int .u64 (((updN ce ece) : Nat) : Int), .int .u64 ((at_ : Nat) : Int), .int .u64 ((le : Nat) : Int)] 27 (0, 0)) := hgo
            clear hgo
            have q0 := blk_cell hL 4
            have q1 := blk_cell hL 5
            have hub : Up wr (wr.alloc (.cells #[.int .u64 (eat : Int), .pointer (some ⟨go, 4, none⟩)] 69)) := (Up.refl wr).alloc _
            have hbn : (wr.alloc (.cells #[.int .u64 (eat : Int), .pointer (some ⟨go, 4, none⟩)] 69)).heap[wr.heap.size]? = some (.cells #[.int .u64 (eat : Int), .pointer (some ⟨go, 4, none⟩)] 69 (0, 0)) := heap_alloc_new _ _
            have q2 := blk_cell hbn 0
            have q3 := blk_cell hbn 1
            have hgr1 := (hub.block _ (Array.getElem?_eq_some_iff.1 hgr).1).trans hgr
            have hgo1 := (hub.block _ (Array.getElem?_eq_some_iff.1 hgo0).1).trans hgo0
            have hL1 := (hub.block _ (Array.getElem?_eq_some_iff.1 hL).1).trans hL
            have hown1 := own_up hown hub
            have hup1 := hup.trans hub
            by_cases hz : eat = 0
            · have hzb : ((eat : Int) != 0) = false := by simp [hz]
              have hzb2 : (eat != 0) = false := by simp [hz]
              have eu : updN at_ eat = at_ := by unfold updN; rw [if_pos hz]
              have HZ := Lib.hid hz
              have EU := Lib.hid eu
              clear hz eu
              go_wp2_with fail
              clear q0 q1 q2 q3
              go_roundw
              case rel =>
                refine ⟨2 + 1, by go_num, by omega, hup1, hgr1, ?_, hL1, hown1⟩
                show _ = some (Obj.cells #[.int .i64 lg, .slice R5 (rn + an) (rn + an), .int .u64 (((updN f ef) : Nat) : Int), .int .u64 (((updN ce ece) : Nat) : Int), .int .u64 (((updN at_ eat) : Nat) : Int), .int .u64 ((le : Nat) : Int)] 27 (0, 0))
                rw [EU.out]
                exact hgo1
              case measure => simp [intOf]
            · have hzb : ((eat : Int) != 0) = true := by simp [hz]
              have hzb2 : (eat != 0) = true := by simp [hz]
              have eu : updN at_ eat = eat := by unfold updN; rw [if_neg hz]
              have HZ := Lib.hid hz
              have EU := Lib.hid eu
              clear hz eu
              have q4 := blk_cell hgo1 4
              have q5 := blk_free hgo1 4
              have hgo2 : ((wr.alloc (.cells #[.int .u64 (eat : Int), .pointer (some ⟨go, 4, none⟩)] 69)).setCell ⟨go, 4, none⟩ (.int .u64 (eat : Int))).heap[go]? = some (.cells #[.int .i64 lg, .slice R5 (rn + an) (rn + an), .int .u64 (((updN f ef) : Nat) : Int), .int .u64 (((updN ce ece) : Nat) : Int), .int .u64 ((eat : Nat) : Int), .int .u64 ((le : Nat) : Int)] 27 (0, 0)) := setc_heap _ _ 4 _ _ _ hgo1
              have hK2 := setc_keeps (wr.alloc (.cells #[.int .u64 (eat : Int), .pointer (some ⟨go, 4, none⟩)] 69)) (wr.alloc (.cells #[.int .u64 (eat : Int), .pointer (some ⟨go, 4, none⟩)] 69)) go 4 (.int .u64 (eat : Int)) (Rg.Keeps.refl _ _)
              have hgr2 := (hK2.block _ (Array.getElem?_eq_some_iff.1 hgr1).1 (by omega)).trans hgr1
              have hL2 := (hK2.block _ (Array.getElem?_eq_some_iff.1 hL1).1 hgoL).trans hL1
              have hown2 := own_keeps6 hown1 (by omega) hK2
              have hup2 := keepsUp hup1 (by omega) hK2
              go_wp2_with fail
              clear q0 q1 q2 q3 q4 q5
              go_roundw
              case rel =>
                refine ⟨2 + 1, by go_num, by omega, hup2, hgr2, ?_, hL2, hown2⟩
                show _ = some (Obj.cells #[.int .i64 lg, .slice R5 (rn + an) (rn + an), .int .u64 (((updN f ef) : Nat) : Int), .int .u64 (((updN ce ece) : Nat) : Int), .int .u64 (((updN at_ eat) : Nat) : Int), .int .u64 ((le : Nat) : Int)] 27 (0, 0))
                rw [EU.out]
                exact hgo2
              case measure => simp [intOf]
          · have hgo0 : wr.heap[go]? = some (.cells #[.int .i64 lg, .slice R5 (rn + an) (rn + an), .int .u64 (((updN f ef) : Nat) : Int), .int .u64 (((updN ce ece) : Nat) : Int), .int .u64 (((updN at_ eat) : Nat) : Int), .int .u64 ((le : Nat) : Int)] 27 (0, 0)) := hgo
            clear hgo
            have q0 := blk_cell hL 6
            have q1 := blk_cell hL 7
            have hub : Up wr (wr.alloc (.cells #[.int .u64 (ele : Int), .pointer (some ⟨go, 5, none⟩)] 69)) := (Up.refl wr).alloc _
            have hbn : (wr.alloc (.cells #[.int .u64 (ele : Int), .pointer (some ⟨go, 5, none⟩)] 69)).heap[wr.heap.size]? = some (.cells #[.int .u64 (ele : Int), .pointer (some ⟨go, 5, none⟩)] 69 (0, 0)) := heap_alloc_new _ _
            have q2 := blk_cell hbn 0
            have q3 := blk_cell hbn 1
            have hgr1 := (hub.block _ (Array.getElem?_eq_some_iff.1 hgr).1).trans hgr
            have hgo1 := (hub.block _ (Array.getElem?_eq_some_iff.1 hgo0).1).trans hgo0
            have hL1 := (hub.block _ (Array.getElem?_eq_some_iff.1 hL).1).trans hL
            have hown1 := own_up hown hub
            have hup1 := hup.trans hub
            by_cases hz : ele = 0
            · have hzb : ((ele : Int) != 0) = false := by simp [hz]
              have hzb2 : (ele != 0) = false := by simp [hz]
              have eu : updN le ele = le := by unfold updN; rw [if_pos hz]
              have HZ := Lib.hid hz
              have EU := Lib.hid eu
              clear hz eu
              go_wp2_with fail
              clear q0 q1 q2 q3
              go_roundw
              case rel =>
                refine ⟨3 + 1, by go_num, by omega, hup1, hgr1, ?_, hL1, hown1⟩
                show _ = some (Obj.cells #[.int .i64 lg, .slice R5 (rn + an) (rn + an), .int .u64 (((updN f ef) : Nat) : Int), .int .u64 (((updN ce ece) : Nat) : Int), .int .u64 (((updN at_ eat) : Nat) : Int), .int .u64 (((updN le ele) : Nat) : Int)] 27 (0, 0))
                rw [EU.out]
                exact hgo1
              case measure => simp [intOf]
            · have hzb : ((ele : Int) != 0) = true := by simp [hz]
              have hzb2 : (ele != 0) = true := by simp [hz]
              have eu : updN le ele = ele := by unfold updN; rw [if_neg hz]
              have HZ := Lib.hid hz
              have EU := Lib.hid eu
              clear hz eu
              have q4 := blk_cell hgo1 5
              have q5 := blk_free hgo1 5
              have hgo2 : ((wr.alloc (.cells #[.int .u64 (ele : Int), .pointer (some ⟨go, 5, none⟩)] 69)).setCell ⟨go, 5, none⟩ (.int .u64 (ele : Int))).heap[go]? = some (.cells #[.int .i64 lg, .slice R5 (rn + an) (rn + an), .int .u64 (((updN f ef) : Nat) : Int), .int .u64 (((updN ce ece) : Nat) : Int), .int .u64 (((updN at_ eat) : Nat) : Int), .int .u64 ((ele : Nat) : Int)] 27 (0, 0)) := setc_heap _ _ 5 _ _ _ hgo1
              have hK2 := setc_keeps (wr.alloc (.cells #[.int .u64 (ele : Int), .pointer (some ⟨go, 5, none⟩)] 69)) (wr.alloc (.cells #[.int .u64 (ele : Int), .pointer (some ⟨go, 5, none⟩)] 69)) go 5 (.int .u64 (ele : Int)) (Rg.Keeps.refl _ _)
              have hgr2 := (hK2.block _ (Array.getElem?_eq_some_iff.1 hgr1).1 (by omega)).trans hgr1
              have hL2 := (hK2.block _ (Array.getElem?_eq_some_iff.1 hL1).1 hgoL).trans hL1
              have hown2 := own_keeps6 hown1 (by omega) hK2
              have hup2 := keepsUp hup1 (by omega) hK2
              go_wp2_with fail
              clear q0 q1 q2 q3 q4 q5
              go_roundw
              case rel =>
                refine ⟨3 + 1, by go_num, by omega, hup2, hgr2, ?_, hL2, hown2⟩
                show _ = some (Obj.cells #[.int .i64 lg, .slice R5 (rn + an) (rn + an), .int .u64 (((updN f ef) : Nat) : Int), .int .u64 (((updN ce ece) : Nat) : Int), .int .u64 (((updN at_ eat) : Nat) : Int), .int .u64 (((updN le ele) : Nat) : Int)] 27 (0, 0))
                rw [EU.out]
                exact hgo2
              case measure => simp [intOf]
          · have hgo0 : wr.heap[go]? = some (.cells #[.int .i64 lg, .slice R5 (rn + an) (rn + an), .int .u64 ((updN f ef : Nat) : Int), .int .u64 ((updN ce ece : Nat) : Int), .int .u64 ((updN at_ eat : Nat) : Int), .int .u64 ((updN le ele : Nat) : Int)] 27 (0, 0)) := hgo
            clear hgo
            have q0 := blk_cell hgo0 0
            have q1 := blk_cell hgo0 1
            have q2 := blk_cell hgo0 2
            have q3 := blk_cell hgo0 3
            have q4 := blk_cell hgo0 4
            have q5 := blk_cell hgo0 5
            go_wp2_with fail
            clear q0 q1 q2 q3 q4 q5
            refine (vok_any lg R5 (rn + an) (rn + an) (cur ++ add) (updN f ef) (updN ce ece) (updN at_ eat) (updN le ele) wr (Rd.own hown) (Nat.le_refl _) (by omega)).mono ?_
            rintro e w10 ⟨rfl, hu10⟩
            have hgr10 := (hu10.block _ (Array.getElem?_eq_some_iff.1 hgr).1).trans hgr
            have hgo10 := (hu10.block _ (Array.getElem?_eq_some_iff.1 hgo0).1).trans hgo0
            have hown10 := own_up hown hu10
            have hup10 := hup.trans hu10
            clear hgr hgo0 hown hup hu10 hL
            obtain ⟨bo, hbo⟩ : ∃ bo, bo = viewOk lg (cur ++ add) (updN f ef) (updN ce ece) (updN at_ eat) (updN le ele) := ⟨_, rfl⟩
            rw [← hbo]
            have HBO := Lib.hid hbo
            clear hbo
            cases bo
            · clear hgo10 hown10
              have h6 := set6 w10 gr _ _ _ _ _ _ (.int .i64 0) (.slice none 0 0) (.int .u64 0) (.int .u64 0) (.int .u64 0) (.int .u64 0) _ hgr10
              have t0 := blk_cell hgr10 0
              have t1 := blk_cell hgr10 1
              have t2 := blk_cell hgr10 2
              have t3 := blk_cell hgr10 3
              have t4 := blk_cell hgr10 4
              have t5 := blk_cell hgr10 5
              have s0 := blk_free hgr10 0
              have s1 := blk_free hgr10 1
              have s2 := blk_free hgr10 2
              have s3 := blk_free hgr10 3
              have s4 := blk_free hgr10 4
              have s5 := blk_free hgr10 5
              go_wp2_with fail
              clear t0 s0 t1 s1 t2 s2 t3 s3 t4 s4 t5 s5
              generalize (((((w10.setCell ⟨gr, 0, none⟩ (.int .i64 0)).setCell ⟨gr, 1, none⟩ (.slice none 0 0)).setCell ⟨gr, 2, none⟩ (.int .u64 0)).setCell ⟨gr, 3, none⟩ (.int .u64 0)).setCell ⟨gr, 4, none⟩ (.int .u64 0)).setCell ⟨gr, 5, none⟩ (.int .u64 0) = w11 at *
              obtain ⟨h6, hK11⟩ := h6
              have t0 := blk_cell h6 0
              have t1 := blk_cell h6 1
              have t2 := blk_cell h6 2
              have t3 := blk_cell h6 3
              have t4 := blk_cell h6 4
              have t5 := blk_cell h6 5
              have hup11 : Up w w11 := keepsUp hup10 (by omega) hK11
              refine bodyPost_ret (v := .tuple #[.agg #[.int .i64 0, .slice none 0 0, .int .u64 0, .int .u64 0, .int .u64 0, .int .u64 0], .bool false]) (by simp [results, Try.results9, go_sem, t0, t1, t2, t3, t4, t5]) rfl ?_
              have hR : applyR lg l f ce at_ le ds add elg ef ece eat ele = none := by
                unfold applyR
                rw [HDR.out]
                simp only []
                rw [HLG.out, ← HBO.out]; rfl
              rw [hR]
              exact ⟨rfl, hup11⟩
            · 
              have h6 := set6 w10 gr _ _ _ _ _ _ (.int .i64 lg) (.slice R5 (rn + an) (rn + an)) (.int .u64 ((updN f ef : Nat) : Int)) (.int .u64 ((updN ce ece : Nat) : Int)) (.int .u64 ((updN at_ eat : Nat) : Int)) (.int .u64 ((updN le ele : Nat) : Int)) _ hgr10
              have t0 := blk_cell hgr10 0
              have t1 := blk_cell hgr10 1
              have t2 := blk_cell hgr10 2
              have t3 := blk_cell hgr10 3
              have t4 := blk_cell hgr10 4
              have t5 := blk_cell hgr10 5
              have s0 := blk_free hgr10 0
              have s1 := blk_free hgr10 1
              have s2 := blk_free hgr10 2
              have s3 := blk_free hgr10 3
              have s4 := blk_free hgr10 4
              have s5 := blk_free hgr10 5
              have g0 := blk_cell hgo10 0
              have g1 := blk_cell hgo10 1
              have g2 := blk_cell hgo10 2
              have g3 := blk_cell hgo10 3
              have g4 := blk_cell hgo10 4
              have g5 := blk_cell hgo10 5
              go_wp2_with fail
              clear t0 s0 t1 s1 t2 s2 t3 s3 t4 s4 t5 s5 g0 g1 g2 g3 g4 g5
              generalize (((((w10.setCell ⟨gr, 0, none⟩ (.int .i64 lg)).setCell ⟨gr, 1, none⟩ (.slice R5 (rn + an) (rn + an))).setCell ⟨gr, 2, none⟩ (.int .u64 ((updN f ef : Nat) : Int))).setCell ⟨gr, 3, none⟩ (.int .u64 ((updN ce ece : Nat) : Int))).setCell ⟨gr, 4, none⟩ (.int .u64 ((updN at_ eat : Nat) : Int))).setCell ⟨gr, 5, none⟩ (.int .u64 ((updN le ele : Nat) : Int)) = w11 at *
              obtain ⟨h6, hK11⟩ := h6
              have t0 := blk_cell h6 0
              have t1 := blk_cell h6 1
              have t2 := blk_cell h6 2
              have t3 := blk_cell h6 3
              have t4 := blk_cell h6 4
              have t5 := blk_cell h6 5
              have hup11 : Up w w11 := keepsUp hup10 (by omega) hK11
              have hown11 := own_keeps6 hown10 (by omega) hK11
              refine bodyPost_ret (v := .tuple #[.agg #[.int .i64 lg, .slice R5 (rn + an) (rn + an), .int .u64 ((updN f ef : Nat) : Int), .int .u64 ((updN ce ece : Nat) : Int), .int .u64 ((updN at_ eat : Nat) : Int), .int .u64 ((updN le ele : Nat) : Int)], .bool true]) (by simp [results, Try.results9, go_sem, t0, t1, t2, t3, t4, t5]) rfl ?_
              have hR : applyR lg l f ce at_ le ds add elg ef ece eat ele = some (lg, cur ++ add, updN f ef, updN ce ece, updN at_ eat, updN le ele) := by
                unfold applyR
                rw [HDR.out]
                simp only []
                rw [HLG.out, ← HBO.out]; rfl
              rw [hR]
              exact ⟨R5, rn + an, rfl, Rd.own hown11, hup11, fun a ha => by have := own_fresh hown11 a ha; omega⟩
      · have hLG : updI lg elg = elg := by unfold updI; rw [if_neg hel]
        have helb : (elg != 0) = true := by simp [hel]
        have hsz8 : ((w5.setCell ⟨go, 1, none⟩ (.slice R5 (rn + an) (rn + an))).setCell ⟨go, 0, none⟩ (.int .i64 elg)).heap.size = w5.heap.size := by simp [World.setCell]
        have u1 := blk_cell hgo6 0
        have u2 := blk_free hgo6 0
        have hgo7 : ((w5.setCell ⟨go, 1, none⟩ (.slice R5 (rn + an) (rn + an))).setCell ⟨go, 0, none⟩ (.int .i64 elg)).heap[go]? = some (.cells #[.int .i64 elg, .slice R5 (rn + an) (rn + an), .int .u64 (f : Int), .int .u64 (ce : Int), .int .u64 (at_ : Int), .int .u64 (le : Int)] 27 (0, 0)) := setc_heap _ _ 0 _ _ _ hgo6
        have hK7 := setc_keeps (w5.setCell ⟨go, 1, none⟩ (.slice R5 (rn + an) (rn + an))) (w5.setCell ⟨go, 1, none⟩ (.slice R5 (rn + an) (rn + an))) go 0 (.int .i64 elg) (Rg.Keeps.refl _ _)
        have hed7 := (hK7.block _ (Array.getElem?_eq_some_iff.1 hed6).1 (by omega)).trans hed6
        have hgr7 := (hK7.block _ (Array.getElem?_eq_some_iff.1 hgr6).1 (by omega)).trans hgr6
        have hown7 := own_keeps6 hown6 (by omega) hK7
        have hup7 := keepsUp hup6 (by omega) hK7
        clear hed6 hgr6 hgo6 hown6 hup6 hK7
        have r4 := blk_cell hed7 3
        have r5 := blk_cell hed7 4
        have r6 := blk_cell hed7 5
        have r7 := blk_cell hed7 6
        go_wp2_with fail
        clear r1 r2 r3 r4 r5 r6 r7 u1 u2
        generalize (w5.setCell ⟨go, 1, none⟩ (.slice R5 (rn + an) (rn + an))).setCell ⟨go, 0, none⟩ (.int .i64 elg) = w8 at *
        have hed6 := hed7
        have hgr6 := hgr7
        have hgo6 := hgo7
        have hown6 := hown7
        have hup6 := hup7
        clear hed7 hgr7 hgo7 hown7 hup7
        have HLG := Lib.hid hLG
        clear hLG
        have hL9 : (w8.alloc (.cells #[.int .u64 (ef : Int), .pointer (some ⟨go, 2, none⟩), .int .u64 (ece : Int), .pointer (some ⟨go, 3, none⟩), .int .u64 (eat : Int), .pointer (some ⟨go, 4, none⟩), .int .u64 (ele : Int), .pointer (some ⟨go, 5, none⟩)] 69)).heap[w8.heap.size]? =
          some (.cells #[.int .u64 (ef : Int), .pointer (some ⟨go, 2, none⟩), .int .u64 (ece : Int), .pointer (some ⟨go, 3, none⟩), .int .u64 (eat : Int), .pointer (some ⟨go, 4, none⟩), .int .u64 (ele : Int), .pointer (some ⟨go, 5, none⟩)] 69 (0, 0)) := heap_alloc_new _ _
        have hu9 : Up w8 (w8.alloc (.cells #[.int .u64 (ef : Int), .pointer (some ⟨go, 2, none⟩), .int .u64 (ece : Int), .pointer (some ⟨go, 3, none⟩), .int .u64 (eat : Int), .pointer (some ⟨go, 4, none⟩), .int .u64 (ele : Int), .pointer (some ⟨go, 5, none⟩)] 69)) := (Up.refl w8).alloc _
        have hgr9 := (hu9.block _ (Array.getElem?_eq_some_iff.1 hgr6).1).trans hgr6
        have hgo9 := (hu9.block _ (Array.getElem?_eq_some_iff.1 hgo6).1).trans hgo6
        have hown9 := own_up hown6 hu9
        have hup9 := hup6.trans hu9
        have hgoL : ¬ w8.heap.size = go := by have := (Array.getElem?_eq_some_iff.1 hgo6).1; omega
        generalize w8.alloc (.cells #[.int .u64 (ef : Int), .pointer (some ⟨go, 2, none⟩), .int .u64 (ece : Int), .pointer (some ⟨go, 3, none⟩), .int .u64 (eat : Int), .pointer (some ⟨go, 4, none⟩), .int .u64 (ele : Int), .pointer (some ⟨go, 5, none⟩)] 69) = w9 at *
        rw [hsz8] at hL9 hgoL
        generalize w5.heap.size = gL at *
        clear hsz8 hgr6 hgo6 hown6 hup6 hed6 hu9
        go_loopw [70] (fun i wr => ∃ k : Nat, i = .int .i64 (k : Int) ∧ k ≤ 4 ∧ Up w wr ∧ wr.heap[gr]? = some (.cells #[.int .i64 0, .slice none 0 0, .int .u64 0, .int .u64 0, .int .u64 0, .int .u64 0] 27 (0, 0)) ∧
          wr.heap[go]? = some (.cells #[.int .i64 elg, .slice R5 (rn + an) (rn + an), .int .u64 ((selN 0 k f ef : Nat) : Int), .int .u64 ((selN 1 k ce ece : Nat) : Int), .int .u64 ((selN 2 k at_ eat : Nat) : Int), .int .u64 ((selN 3 k le ele : Nat) : Int)] 27 (0, 0)) ∧
          wr.heap[gL]? = some (.cells #[.int .u64 (ef : Int), .pointer (some ⟨go, 2, none⟩), .int .u64 (ece : Int), .pointer (some ⟨go, 3, none⟩), .int .u64 (eat : Int), .pointer (some ⟨go, 4, none⟩), .int .u64 (ele : Int), .pointer (some ⟨go, 5, none⟩)] 69 (0, 0)) ∧ wr.ownsRow (go + 1) 41 2 (.slice R5 (rn + an) rc5) (rn + an) (fvs (cur ++ add))) (fun i _ => 4 - (intOf i).toNat)
        case atStart => exact ⟨0, rfl, by omega, hup9, hgr9, hgo9, hL9, hown9⟩
        case round =>
          obtain ⟨k, rfl, hk4, hup, hgr, hgo, hL, hown⟩ := hrel
          clear hup9 hgr9 hgo9 hL9 hown9
          have hcases : k = 0 ∨ k = 1 ∨ k = 2 ∨ k = 3 ∨ k = 4 := by omega
          rcases hcases with rfl | rfl | rfl | rfl | rfl
          · have hgo0 : wr.heap[go]? = some (.cells #[.int .i64 elg, .slice R5 (rn + an) (rn + an), .int .u64 ((f : Nat) : Int), .int .u64 ((ce : Nat) : Int), .int .u64 ((at_ : Nat) : Int), .int .u64 ((le : Nat) : Int)] 27 (0, 0)) := hgo
            clear hgo
            have q0 := blk_cell hL 0
            have q1 := blk_cell hL 1
            have hub : Up wr (wr.alloc (.cells #[.int .u64 (ef : Int), .pointer (some ⟨go, 2, none⟩)] 69)) := (Up.refl wr).alloc _
            have hbn : (wr.alloc (.cells #[.int .u64 (ef : Int), .pointer (some ⟨go, 2, none⟩)] 69)).heap[wr.heap.size]? = some (.cells #[.int .u64 (ef : Int), .pointer (some ⟨go, 2, none⟩)] 69 (0, 0)) := heap_alloc_new _ _
            have q2 := blk_cell hbn 0
            have q3 := blk_cell hbn 1
            have hgr1 := (hub.block _ (Array.getElem?_eq_some_iff.1 hgr).1).trans hgr
            have hgo1 := (hub.block _ (Array.getElem?_eq_some_iff.1 hgo0).1).trans hgo0
            have hL1 := (hub.block _ (Array.getElem?_eq_some_iff.1 hL).1).trans hL
            have hown1 := own_up hown hub
            have hup1 := hup.trans hub
            by_cases hz : ef = 0
            · have hzb : ((ef : Int) != 0) = false := by simp [hz]
              have hzb2 : (ef != 0) = false := by simp [hz]
              have eu : updN f ef = f := by unfold updN; rw [if_pos hz]
              have HZ := Lib.hid hz
              have EU := Lib.hid eu
              clear hz eu
              go_wp2_with fail
              clear q0 q1 q2 q3
              go_roundw
              case rel =>
                refine ⟨0 + 1, by go_num, by omega, hup1, hgr1, ?_, hL1, hown1⟩
                show _ = some (Obj.cells #[.int .i64 elg, .slice R5 (rn + an) (rn + an), .int .u64 (((updN f ef) : Nat) : Int), .int .u64 ((ce : Nat) : Int), .int .u64 ((at_ : Nat) : Int), .int .u64 ((le : Nat) : Int)] 27 (0, 0))
                rw [EU.out]
                exact hgo1
              case measure => simp [intOf]
            · have hzb : ((ef : Int) != 0) = true := by simp [hz]
              have hzb2 : (ef != 0) = true := by simp [hz]
              have eu : updN f ef = ef := by unfold updN; rw [if_neg hz]
              have HZ := Lib.hid hz
              have EU := Lib.hid eu
              clear hz eu
              have q4 := blk_cell hgo1 2
              have q5 := blk_free hgo1 2
              have hgo2 : ((wr.alloc (.cells #[.int .u64 (ef : Int), .pointer (some ⟨go, 2, none⟩)] 69)).setCell ⟨go, 2, none⟩ (.int .u64 (ef : Int))).heap[go]? = some (.cells #[.int .i64 elg, .slice R5 (rn + an) (rn + an), .int .u64 ((ef : Nat) : Int), .int .u64 ((ce : Nat) : Int), .int .u64 ((at_ : Nat) : Int), .int .u64 ((le : Nat) : Int)] 27 (0, 0)) := setc_heap _ _ 2 _ _ _ hgo1
              have hK2 := setc_keeps (wr.alloc (.cells #[.int .u64 (ef : Int), .pointer (some ⟨go, 2, none⟩)] 69)) (wr.alloc (.cells #[.int .u64 (ef : Int), .pointer (some ⟨go, 2, none⟩)] 69)) go 2 (.int .u64 (ef : Int)) (Rg.Keeps.refl _ _)
              have hgr2 := (hK2.block _ (Array.getElem?_eq_some_iff.1 hgr1).1 (by omega)).trans hgr1
              have hL2 := (hK2.block _ (Array.getElem?_eq_some_iff.1 hL1).1 hgoL).trans hL1
              have hown2 := own_keeps6 hown1 (by omega) hK2
              have hup2 := keepsUp hup1 (by omega) hK2
              go_wp2_with fail
              clear q0 q1 q2 q3 q4 q5
              go_roundw
              case rel =>
                refine ⟨0 + 1, by go_num, by omega, hup2, hgr2, ?_, hL2, hown2⟩
                show _ = some (Obj.cells #[.int .i64 elg, .slice R5 (rn + an) (rn + an), .int .u64 (((updN f ef) : Nat) : Int), .int .u64 ((ce : Nat) : Int), .int .u64 ((at_ : Nat) : Int), .int .u64 ((le : Nat) : Int)] 27 (0, 0))
                rw [EU.out]
                exact hgo2
              case measure => simp [intOf]
          · have hgo0 : wr.heap[go]? = some (.cells #[.int .i64 elg, .slice R5 (rn + an) (rn + an), .int .u64 (((updN f ef) : Nat) : Int), .int .u64 ((ce : Nat) : Int), .int .u64 ((at_ : Nat) : Int), .int .u64 ((le : Nat) : Int)] 27 (0, 0)) := hgo
            clear hgo
            have q0 := blk_cell hL 2
            have q1 := blk_cell hL 3
            have hub : Up wr (wr.alloc (.cells #[.int .u64 (ece : Int), .pointer (some ⟨go, 3, none⟩)] 69)) := (Up.refl wr).alloc _
            have hbn : (wr.alloc (.cells #[.int .u64 (ece : Int), .pointer (some ⟨go, 3, none⟩)] 69)).heap[wr.heap.size]? = some (.cells #[.int .u64 (ece : Int), .pointer (some ⟨go, 3, none⟩)] 69 (0, 0)) := heap_alloc_new _ _
            have q2 := blk_cell hbn 0
            have q3 := blk_cell hbn 1
            have hgr1 := (hub.block _ (Array.getElem?_eq_some_iff.1 hgr).1).trans hgr
            have hgo1 := (hub.block _ (Array.getElem?_eq_some_iff.1 hgo0).1).trans hgo0
            have hL1 := (hub.block _ (Array.getElem?_eq_some_iff.1 hL).1).trans hL
            have hown1 := own_up hown hub
            have hup1 := hup.trans hub
            by_cases hz : ece = 0
            · have hzb : ((ece : Int) != 0) = false := by simp [hz]
              have hzb2 : (ece != 0) = false := by simp [hz]
              have eu : updN ce ece = ce := by unfold updN; rw [if_pos hz]
              have HZ := Lib.hid hz
              have EU := Lib.hid eu
              clear hz eu
              go_wp2_with fail
              clear q0 q1 q2 q3
              go_roundw
              case rel =>
                refine ⟨1 + 1, by go_num, by omega, hup1, hgr1, ?_, hL1, hown1⟩
                show _ = some (Obj.cells #[.int .i64 elg, .slice R5 (rn + an) (rn + an), .int .u64 (((updN f ef) : Nat) : Int), .int .u64 (((updN ce ece) : Nat) : Int), .int .u64 ((at_ : Nat) : Int), .int .u64 ((le : Nat) : Int)] 27 (0, 0))
                rw [EU.out]
                exact hgo1
              case measure => simp [intOf]
            · have hzb : ((ece : Int) != 0) = true := by simp [hz]
              have hzb2 : (ece != 0) = true := by simp [hz]
              have eu : updN ce ece = ece := by unfold updN; rw [if_neg hz]
              have HZ := Lib.hid hz
              have EU := Lib.hid eu
              clear hz eu
              have q4 := blk_cell hgo1 3
              have q5 := blk_free hgo1 3
              have hgo2 : ((wr.alloc (.cells #[.int .u64 (ece : Int), .pointer (some ⟨go, 3, none⟩)] 69)).setCell ⟨go, 3, none⟩ (.int .u64 (ece : Int))).heap[go]? = some (.cells #[.int .i64 elg, .slice R5 (rn + an) (rn + an), .int .u64 (((updN f ef) : Nat) : Int), .int .u64 ((ece : Nat) : Int), .int .u64 ((at_ : Nat) : Int), .int .u64 ((le : Nat) : Int)] 27 (0, 0)) := setc_heap _ _ 3 _ _ _ hgo1
              have hK2 := setc_keeps (wr.alloc (.cells #[.int .u64 (ece : Int), .pointer (some ⟨go, 3, none⟩)] 69)) (wr.alloc (.cells #[.int .u64 (ece : Int), .pointer (some ⟨go, 3, none⟩)] 69)) go 3 (.int .u64 (ece : Int)) (Rg.Keeps.refl _ _)
              have hgr2 := (hK2.block _ (Array.getElem?_eq_some_iff.1 hgr1).1 (by omega)).trans hgr1
              have hL2 := (hK2.block _ (Array.getElem?_eq_some_iff.1 hL1).1 hgoL).trans hL1
              have hown2 := own_keeps6 hown1 (by omega) hK2
              have hup2 := keepsUp hup1 (by omega) hK2
              go_wp2_with fail
              clear q0 q1 q2 q3 q4 q5
              go_roundw
              case rel =>
                refine ⟨1 + 1, by go_num, by omega, hup2, hgr2, ?_, hL2, hown2⟩
                show _ = some (Obj.cells #[.int .i64 elg, .slice R5 (rn + an) (rn + an), .int .u64 (((updN f ef) : Nat) : Int), .int .u64 (((updN ce ece) : Nat) : Int), .int .u64 ((at_ : Nat) : Int), .int .u64 ((le : Nat) : Int)] 27 (0, 0))
                rw [EU.out]
                exact hgo2
              case measure => simp [intOf]
          · have hgo0 : wr.heap[go]? = some (.cells #[.int .i64 elg, .slice R5 (rn + an) (rn + an), .int .u64 (((updN f ef) : Nat) : Int), .int .u64 (((updN ce ece) : Nat) : Int), .int .u64 ((at_ : Nat) : Int), .int .u64 ((le : Nat) : Int)] 27 (0, 0)) := hgo
            clear hgo
            have q0 := blk_cell hL 4
            have q1 := blk_cell hL 5
            have hub : Up wr (wr.alloc (.cells #[.int .u64 (eat : Int), .pointer (some ⟨go, 4, none⟩)] 69)) := (Up.refl wr).alloc _
            have hbn : (wr.alloc (.cells #[.int .u64 (eat : Int), .pointer (some ⟨go, 4, none⟩)] 69)).heap[wr.heap.size]? = some (.cells #[.int .u64 (eat : Int), .pointer (some ⟨go, 4, none⟩)] 69 (0, 0)) := heap_alloc_new _ _
            have q2 := blk_cell hbn 0
            have q3 := blk_cell hbn 1
            have hgr1 := (hub.block _ (Array.getElem?_eq_some_iff.1 hgr).1).trans hgr
            have hgo1 := (hub.block _ (Array.getElem?_eq_some_iff.1 hgo0).1).trans hgo0
            have hL1 := (hub.block _ (Array.getElem?_eq_some_iff.1 hL).1).trans hL
            have hown1 := own_up hown hub
            have hup1 := hup.trans hub
            by_cases hz : eat = 0
            · have hzb : ((eat : Int) != 0) = false := by simp [hz]
              have hzb2 : (eat != 0) = false := by simp [hz]
              have eu : updN at_ eat = at_ := by unfold updN; rw [if_pos hz]
              have HZ := Lib.hid hz
              have EU := Lib.hid eu
              clear hz eu
              go_wp2_with fail
              clear q0 q1 q2 q3
              go_roundw
              case rel =>
                refine ⟨2 + 1, by go_num, by omega, hup1, hgr1, ?_, hL1, hown1⟩
                show _ = some (Obj.cells #[.int .i64 elg, .slice R5 (rn + an) (rn + an), .int .u64 (((updN f ef) : Nat) : Int), .int .u64 (((updN ce ece) : Nat) : Int), .int .u64 (((updN at_ eat) : Nat) : Int), .int .u64 ((le : Nat) : Int)] 27 (0, 0))
                rw [EU.out]
                exact hgo1
              case measure => simp [intOf]
            · have hzb : ((eat : Int) != 0) = true := by simp [hz]
              have hzb2 : (eat != 0) = true := by simp [hz]
              have eu : updN at_ eat = eat := by unfold updN; rw [if_neg hz]
              have HZ := Lib.hid hz
              have EU := Lib.hid eu
              clear hz eu
              have q4 := blk_cell hgo1 4
              have q5 := blk_free hgo1 4
              have hgo2 : ((wr.alloc (.cells #[.int .u64 (eat : Int), .pointer (some ⟨go, 4, none⟩)] 69)).setCell ⟨go, 4, none⟩ (.int .u64 (eat : Int))).heap[go]? = some (.cells #[.int .i64 elg, .slice R5 (rn + an) (rn + an), .int .u64 (((updN f ef) : Nat) : Int), .int .u64 (((updN ce ece) : Nat) : Int), .int .u64 ((eat : Nat) : Int), .int .u64 ((le : Nat) : Int)] 27 (0, 0)) := setc_heap _ _ 4 _ _ _ hgo1
              have hK2 := setc_keeps (wr.alloc (.cells #[.int .u64 (eat : Int), .pointer (some ⟨go, 4, none⟩)] 69)) (wr.alloc (.cells #[.int .u64 (eat : Int), .pointer (some ⟨go, 4, none⟩)] 69)) go 4 (.int .u64 (eat : Int)) (Rg.Keeps.refl _ _)
              have hgr2 := (hK2.block _ (Array.getElem?_eq_some_iff.1 hgr1).1 (by omega)).trans hgr1
              have hL2 := (hK2.block _ (Array.getElem?_eq_some_iff.1 hL1).1 hgoL).trans hL1
              have hown2 := own_keeps6 hown1 (by omega) hK2
              have hup2 := keepsUp hup1 (by omega) hK2
              go_wp2_with fail
              clear q0 q1 q2 q3 q4 q5
              go_roundw
              case rel =>
                refine ⟨2 + 1, by go_num, by omega, hup2, hgr2, ?_, hL2, hown2⟩
                show _ = some (Obj.cells #[.int .i64 elg, .slice R5 (rn + an) (rn + an), .int .u64 (((updN f ef) : Nat) : Int), .int .u64 (((updN ce ece) : Nat) : Int), .int .u64 (((updN at_ eat) : Nat) : Int), .int .u64 ((le : Nat) : Int)] 27 (0, 0))
                rw [EU.out]
                exact hgo2
              case measure => simp [intOf]
          · have hgo0 : wr.heap[go]? = some (.cells #[.int .i64 elg, .slice R5 (rn + an) (rn + an), .int .u64 (((updN f ef) : Nat) : Int), .int .u64 (((updN ce ece) : Nat) : Int), .int .u64 (((updN at_ eat) : Nat) : Int), .int .u64 ((le : Nat) : Int)] 27 (0, 0)) := hgo
            clear hgo
            have q0 := blk_cell hL 6
            have q1 := blk_cell hL 7
            have hub : Up wr (wr.alloc (.cells #[.int .u64 (ele : Int), .pointer (some ⟨go, 5, none⟩)] 69)) := (Up.refl wr).alloc _
            have hbn : (wr.alloc (.cells #[.int .u64 (ele : Int), .pointer (some ⟨go, 5, none⟩)] 69)).heap[wr.heap.size]? = some (.cells #[.int .u64 (ele : Int), .pointer (some ⟨go, 5, none⟩)] 69 (0, 0)) := heap_alloc_new _ _
            have q2 := blk_cell hbn 0
            have q3 := blk_cell hbn 1
            have hgr1 := (hub.block _ (Array.getElem?_eq_some_iff.1 hgr).1).trans hgr
            have hgo1 := (hub.block _ (Array.getElem?_eq_some_iff.1 hgo0).1).trans hgo0
            have hL1 := (hub.block _ (Array.getElem?_eq_some_iff.1 hL).1).trans hL
            have hown1 := own_up hown hub
            have hup1 := hup.trans hub
            by_cases hz : ele = 0
            · have hzb : ((ele : Int) != 0) = false := by simp [hz]
              have hzb2 : (ele != 0) = false := by simp [hz]
              have eu : updN le ele = le := by unfold updN; rw [if_pos hz]
              have HZ := Lib.hid hz
              have EU := Lib.hid eu
              clear hz eu
              go_wp2_with fail
              clear q0 q1 q2 q3
              go_roundw
              case rel =>
                refine ⟨3 + 1, by go_num, by omega, hup1, hgr1, ?_, hL1, hown1⟩
                show _ = some (Obj.cells #[.int .i64 elg, .slice R5 (rn + an) (rn + an), .int .u64 (((updN f ef) : Nat) : Int), .int .u64 (((updN ce ece) : Nat) : Int), .int .u64 (((updN at_ eat) : Nat) : Int), .int .u64 (((updN le ele) : Nat) : Int)] 27 (0, 0))
                rw [EU.out]
                exact hgo1
              case measure => simp [intOf]
            · have hzb : ((ele : Int) != 0) = true := by simp [hz]
              have hzb2 : (ele != 0) = true := by simp [hz]
              have eu : updN le ele = ele := by unfold updN; rw [if_neg hz]
              have HZ := Lib.hid hz
              have EU := Lib.hid eu
              clear hz eu
              have q4 := blk_cell hgo1 5
              have q5 := blk_free hgo1 5
              have hgo2 : ((wr.alloc (.cells #[.int .u64 (ele : Int), .pointer (some ⟨go, 5, none⟩)] 69)).setCell ⟨go, 5, none⟩ (.int .u64 (ele : Int))).heap[go]? = some (.cells #[.int .i64 elg, .slice R5 (rn + an) (rn + an), .int .u64 (((updN f ef) : Nat) : Int), .int .u64 (((updN ce ece) : Nat) : Int), .int .u64 (((updN at_ eat) : Nat) : Int), .int .u64 ((ele : Nat) : Int)] 27 (0, 0)) := setc_heap _ _ 5 _ _ _ hgo1
              have hK2 := setc_keeps (wr.alloc (.cells #[.int .u64 (ele : Int), .pointer (some ⟨go, 5, none⟩)] 69)) (wr.alloc (.cells #[.int .u64 (ele : Int), .pointer (some ⟨go, 5, none⟩)] 69)) go 5 (.int .u64 (ele : Int)) (Rg.Keeps.refl _ _)
              have hgr2 := (hK2.block _ (Array.getElem?_eq_some_iff.1 hgr1).1 (by omega)).trans hgr1
              have hL2 := (hK2.block _ (Array.getElem?_eq_some_iff.1 hL1).1 hgoL).trans hL1
              have hown2 := own_keeps6 hown1 (by omega) hK2
              have hup2 := keepsUp hup1 (by omega) hK2
              go_wp2_with fail
              clear q0 q1 q2 q3 q4 q5
              go_roundw
              case rel =>
                refine ⟨3 + 1, by go_num, by omega, hup2, hgr2, ?_, hL2, hown2⟩
                show _ = some (Obj.cells #[.int .i64 elg, .slice R5 (rn + an) (rn + an), .int .u64 (((updN f ef) : Nat) : Int), .int .u64 (((updN ce ece) : Nat) : Int), .int .u64 (((updN at_ eat) : Nat) : Int), .int .u64 (((updN le ele) : Nat) : Int)] 27 (0, 0))
                rw [EU.out]
                exact hgo2
              case measure => simp [intOf]
          · have hgo0 : wr.heap[go]? = some (.cells #[.int .i64 elg, .slice R5 (rn + an) (rn + an), .int .u64 ((updN f ef : Nat) : Int), .int .u64 ((updN ce ece : Nat) : Int), .int .u64 ((updN at_ eat : Nat) : Int), .int .u64 ((updN le ele : Nat) : Int)] 27 (0, 0)) := hgo
            clear hgo
            have q0 := blk_cell hgo0 0
            have q1 := blk_cell hgo0 1
            have q2 := blk_cell hgo0 2
            have q3 := blk_cell hgo0 3
            have q4 := blk_cell hgo0 4
            have q5 := blk_cell hgo0 5
            go_wp2_with fail
            clear q0 q1 q2 q3 q4 q5
            refine (vok_any elg R5 (rn + an) (rn + an) (cur ++ add) (updN f ef) (updN ce ece) (updN at_ eat) (updN le ele) wr (Rd.own hown) (Nat.le_refl _) (by omega)).mono ?_
            rintro e w10 ⟨rfl, hu10⟩
            have hgr10 := (hu10.block _ (Array.getElem?_eq_some_iff.1 hgr).1).trans hgr
            have hgo10 := (hu10.block _ (Array.getElem?_eq_some_iff.1 hgo0).1).trans hgo0
            have hown10 := own_up hown hu10
            have hup10 := hup.trans hu10
            clear hgr hgo0 hown hup hu10 hL
            obtain ⟨bo, hbo⟩ : ∃ bo, bo = viewOk elg (cur ++ add) (updN f ef) (updN ce ece) (updN at_ eat) (updN le ele) := ⟨_, rfl⟩
            rw [← hbo]
            have HBO := Lib.hid hbo
            clear hbo
            cases bo
            · clear hgo10 hown10
              have h6 := set6 w10 gr _ _ _ _ _ _ (.int .i64 0) (.slice none 0 0) (.int .u64 0) (.int .u64 0) (.int .u64 0) (.int .u64 0) _ hgr10
              have t0 := blk_cell hgr10 0
              have t1 := blk_cell hgr10 1
              have t2 := blk_cell hgr10 2
              have t3 := blk_cell hgr10 3
              have t4 := blk_cell hgr10 4
              have t5 := blk_cell hgr10 5
              have s0 := blk_free hgr10 0
              have s1 := blk_free hgr10 1
              have s2 := blk_free hgr10 2
              have s3 := blk_free hgr10 3
              have s4 := blk_free hgr10 4
              have s5 := blk_free hgr10 5
              go_wp2_with fail
              clear t0 s0 t1 s1 t2 s2 t3 s3 t4 s4 t5 s5
              generalize (((((w10.setCell ⟨gr, 0, none⟩ (.int .i64 0)).setCell ⟨gr, 1, none⟩ (.slice none 0 0)).setCell ⟨gr, 2, none⟩ (.int .u64 0)).setCell ⟨gr, 3, none⟩ (.int .u64 0)).setCell ⟨gr, 4, none⟩ (.int .u64 0)).setCell ⟨gr, 5, none⟩ (.int .u64 0) = w11 at *
              obtain ⟨h6, hK11⟩ := h6
              have t0 := blk_cell h6 0
              have t1 := blk_cell h6 1
              have t2 := blk_cell h6 2
              have t3 := blk_cell h6 3
              have t4 := blk_cell h6 4
              have t5 := blk_cell h6 5
              have hup11 : Up w w11 := keepsUp hup10 (by omega) hK11
              refine bodyPost_ret (v := .tuple #[.agg #[.int .i64 0, .slice none 0 0, .int .u64 0, .int .u64 0, .int .u64 0, .int .u64 0], .bool false]) (by simp [results, Try.results9, go_sem, t0, t1, t2, t3, t4, t5]) rfl ?_
              have hR : applyR lg l f ce at_ le ds add elg ef ece eat ele = none := by
                unfold applyR
                rw [HDR.out]
                simp only []
                rw [HLG.out, ← HBO.out]; rfl
              rw [hR]
              exact ⟨rfl, hup11⟩
            · 
              have h6 := set6 w10 gr _ _ _ _ _ _ (.int .i64 elg) (.slice R5 (rn + an) (rn + an)) (.int .u64 ((updN f ef : Nat) : Int)) (.int .u64 ((updN ce ece : Nat) : Int)) (.int .u64 ((updN at_ eat : Nat) : Int)) (.int .u64 ((updN le ele : Nat) : Int)) _ hgr10
              have t0 := blk_cell hgr10 0
              have t1 := blk_cell hgr10 1
              have t2 := blk_cell hgr10 2
              have t3 := blk_cell hgr10 3
              have t4 := blk_cell hgr10 4
              have t5 := blk_cell hgr10 5
              have s0 := blk_free hgr10 0
              have s1 := blk_free hgr10 1
              have s2 := blk_free hgr10 2
              have s3 := blk_free hgr10 3
              have s4 := blk_free hgr10 4
              have s5 := blk_free hgr10 5
              have g0 := blk_cell hgo10 0
              have g1 := blk_cell hgo10 1
              have g2 := blk_cell hgo10 2
              have g3 := blk_cell hgo10 3
              have g4 := blk_cell hgo10 4
              have g5 := blk_cell hgo10 5
              go_wp2_with fail
              clear t0 s0 t1 s1 t2 s2 t3 s3 t4 s4 t5 s5 g0 g1 g2 g3 g4 g5
              generalize (((((w10.setCell ⟨gr, 0, none⟩ (.int .i64 elg)).setCell ⟨gr, 1, none⟩ (.slice R5 (rn + an) (rn + an))).setCell ⟨gr, 2, none⟩ (.int .u64 ((updN f ef : Nat) : Int))).setCell ⟨gr, 3, none⟩ (.int .u64 ((updN ce ece : Nat) : Int))).setCell ⟨gr, 4, none⟩ (.int .u64 ((updN at_ eat : Nat) : Int))).setCell ⟨gr, 5, none⟩ (.int .u64 ((updN le ele : Nat) : Int)) = w11 at *
              obtain ⟨h6, hK11⟩ := h6
              have t0 := blk_cell h6 0
              have t1 := blk_cell h6 1
              have t2 := blk_cell h6 2
              have t3 := blk_cell h6 3
              have t4 := blk_cell h6 4
              have t5 := blk_cell h6 5
              have hup11 : Up w w11 := keepsUp hup10 (by omega) hK11
              have hown11 := own_keeps6 hown10 (by omega) hK11
              refine bodyPost_ret (v := .tuple #[.agg #[.int .i64 elg, .slice R5 (rn + an) (rn + an), .int .u64 ((updN f ef : Nat) : Int), .int .u64 ((updN ce ece : Nat) : Int), .int .u64 ((updN at_ eat : Nat) : Int), .int .u64 ((updN le ele : Nat) : Int)], .bool true]) (by simp [results, Try.results9, go_sem, t0, t1, t2, t3, t4, t5]) rfl ?_
              have hR : applyR lg l f ce at_ le ds add elg ef ece eat ele = some (elg, cur ++ add, updN f ef, updN ce ece, updN at_ eat, updN le ele) := by
                unfold applyR
                rw [HDR.out]
                simp only []
                rw [HLG.out, ← HBO.out]; rfl
              rw [hR]
              exact ⟨R5, rn + an, rfl, Rd.own hown11, hup11, fun a ha => by have := own_fresh hown11 a ha; omega⟩
end Go.Proofs.Ytokcaoaclheiiaa
