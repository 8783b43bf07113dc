/-
  Texts of this claim, joined: EditW4, EditW8, BaseQ, Num, NumW1, NumW2, NumW3, NumW4, FrameW1, FrameW2, FrameW3, FrameW4, FrameW5, EditW9, RefW1, RefW2, NumW5, NumW6.
-/
import Derived.Lib.AppendZeros
import Derived.Laws.MakeOwn
import Derived.Test.YtokcaoaclheiiaaZ1
/-
  The walk of edit.Apply.
-/
namespace Go.Proofs.Ytokcaoaclheiiaa
open Go.RowKit
set_option linter.unusedVariables false
set_option linter.unusedSimpArgs false

def nmv (l : List Int) : List Value := l.map fun n => .int .i64 n
theorem nmv_len (l : List Int) : (nmv l).length = l.length := by simp [nmv]
/-- one number's file taken out -/
def dropF (l : List Fl) (n : Int) : Option (List Fl) := if l.findIdx (fun f => decide (f.2 = n)) < l.length then some (l.eraseIdx (l.findIdx fun f => decide (f.2 = n))) else none
def dropsF : List Fl → List Int → Option (List Fl)
  | l, [] => some l
  | l, n :: ns => (dropF l n).bind fun l' => dropsF l' ns
def updN (x y : Nat) : Nat := if y = 0 then x else y
def selN (j k x y : Nat) : Nat := if j < k then updN x y else x
def updI (x y : Int) : Int := if y = 0 then x else y

theorem own_keeps6 {w w2 : World} {base gx : Nat} {e : TypeId} {sz n : Nat} {v : Value} {xs : List Value} (h : w.ownsRow base e sz v n xs) (hg : gx < base) (hK : Rg.Keeps (fun g => g = gx) w w2) : w2.ownsRow base e sz v n xs := by
  refine ⟨h.1, ?_⟩
  rcases h.2 with h2 | ⟨g, cap, cur, hv, hb, hh, r⟩
  · exact .inl h2
  · exact .inr ⟨g, cap, cur, hv, hb, (hK.block g (Array.getElem?_eq_some_iff.1 hh).1 (by show ¬ g = gx; omega)).trans hh, r⟩
theorem keepsUp {w wq w2 : World} {gx : Nat} (hu : Up w wq) (hg : w.heap.size ≤ gx) (hK : Rg.Keeps (fun g => g = gx) wq w2) : Up w w2 :=
  ⟨hK.os.trans hu.os, hK.tape.trans hu.tape, hK.output.trans hu.output, Nat.le_trans hu.size hK.size, fun k hk => (hK.block k (Nat.lt_of_lt_of_le hk hu.size) (by show ¬ k = gx; omega)).trans (hu.block k hk)⟩

/-- a view with a change: what it comes to -/
def applyR (lg : Int) (l : List Fl) (f ce at_ le : Nat) (ds : List Int) (add : List Fl) (elg : Int) (ef ece eat ele : Nat) : Option (Int × List Fl × Nat × Nat × Nat × Nat) :=
  match dropsF l ds with
  | none => none
  | some k => if viewOk (updI lg elg) (k ++ add) (updN f ef) (updN ce ece) (updN at_ eat) (updN le ele) = true then some (updI lg elg, k ++ add, updN f ef, updN ce ece, updN at_ eat, updN le ele) else none
def ApPost (r : Option (Int × List Fl × Nat × Nat × Nat × Nat)) (w : World) (e : Ending) (w' : World) : Prop :=
  match r with
  | none => e = .returned (.tuple #[.agg #[.int .i64 0, .slice none 0 0, .int .u64 0, .int .u64 0, .int .u64 0, .int .u64 0], .bool false]) ∧ Up w w'
  | some x => ∃ R rn, e = .returned (.tuple #[.agg #[.int .i64 x.1, .slice R rn rn, .int .u64 (x.2.2.1 : Int), .int .u64 (x.2.2.2.1 : Int), .int .u64 (x.2.2.2.2.1 : Int), .int .u64 (x.2.2.2.2.2 : Int)], .bool true]) ∧ Rd w' w'.heap.size 2 R rn (fvs x.2.1) ∧ Up w w' ∧ ∀ a, R = some a → w.heap.size ≤ a.block ∧ a.block < w'.heap.size
theorem own_fresh {w : World} {base : Nat} {e : TypeId} {sz n c : Nat} {A : Option Addr} {xs : List Value} (h : w.ownsRow base e sz (.slice A n c) n xs) : ∀ a, A = some a → base ≤ a.block ∧ a.block < w.heap.size := by
  rintro a rfl
  rcases h.2 with ⟨hv, _⟩ | ⟨g, cap, cur, hv, hb, hg, _⟩
  · cases hv
  · injection hv with hA _ _
    injection hA with hA
    rw [hA]
    exact ⟨hb, (Array.getElem?_eq_some_iff.1 hg).1⟩
/-- six cells stored one by one -/
theorem set6 (w : World) (g : Nat) (a0 a1 a2 a3 a4 a5 v0 v1 v2 v3 v4 v5 : Value) (t : TypeId) (h : w.heap[g]? = some (.cells #[a0, a1, a2, a3, a4, a5] t (0, 0))) :
    ((((((w.setCell ⟨g, 0, none⟩ v0).setCell ⟨g, 1, none⟩ v1).setCell ⟨g, 2, none⟩ v2).setCell ⟨g, 3, none⟩ v3).setCell ⟨g, 4, none⟩ v4).setCell ⟨g, 5, none⟩ v5).heap[g]? = some (.cells #[v0, v1, v2, v3, v4, v5] t (0, 0)) ∧
    Rg.Keeps (fun x => x = g) w ((((((w.setCell ⟨g, 0, none⟩ v0).setCell ⟨g, 1, none⟩ v1).setCell ⟨g, 2, none⟩ v2).setCell ⟨g, 3, none⟩ v3).setCell ⟨g, 4, none⟩ v4).setCell ⟨g, 5, none⟩ v5) := by
  refine ⟨?_, setc_keeps _ _ _ _ _ (setc_keeps _ _ _ _ _ (setc_keeps _ _ _ _ _ (setc_keeps _ _ _ _ _ (setc_keeps _ _ _ _ _ (setc_keeps _ _ _ _ _ (Rg.Keeps.refl _ _))))))⟩
  have h1 := setc_heap _ g 5 v5 _ _ (setc_heap _ g 4 v4 _ _ (setc_heap _ g 3 v3 _ _ (setc_heap _ g 2 v2 _ _ (setc_heap _ g 1 v1 _ _ (setc_heap w g 0 v0 _ _ h)))))
  exact h1

theorem filesT : SlT Try.prog 25 41 2 16 := SlT.mk' Try.underlying25 (by kernel_rfl) (z := .agg #[.int .i64 0, .int .i64 0]) rfl (by decide)
set_option maxRecDepth 100000 in
theorem clip_any (A : Option Addr) (n c : Nat) (w : World) (h : n ≤ c) : Calls Try.prog 29 #[.slice A n c] w fun e w' => e = .returned (.slice A n n) ∧ w = w' := by
  have z1 : (n : Int) ≤ (c : Int) := by omega
  go_enter Try.func29, Try.ntmps29
  go_wp2_with fail
  go_ret
  first | exact ⟨rfl, rfl⟩ | (split <;> exact ⟨rfl, rfl⟩)
set_option maxRecDepth 100000 in
theorem apply1_any (gp : Nat) (x y : Int) (z : Int) (w : World) (hg : gp < w.heap.size) (hc : w.cell? ⟨gp, 0, none⟩ = some (.int .i64 z)) :
    Calls Try.prog 27 #[.agg #[.int .i64 x, .int .i64 y], .pointer (some ⟨gp, 0, none⟩)] w fun e w' => e = .returned (.bool (decide (y = z))) ∧ Up w w' := by
  have h0 : Up w (w.alloc (.cells #[.int .i64 x, .int .i64 y] 41)) := (Up.refl w).alloc _
  have hc2 := (h0.cell (p := ⟨gp, 0, none⟩) hg).trans hc
  have hc1 : (w.alloc (.cells #[.int .i64 x, .int .i64 y] 41)).cell? ⟨w.heap.size, 1, none⟩ = some (.int .i64 y) := by simp
  go_enter Try.func27, Try.ntmps27
  go_wp2_with fail
  go_ret
  exact ⟨rfl, h0⟩

set_option maxRecDepth 100000 in
set_option maxHeartbeats 1600000 in
theorem apply_any (lg : Int) (A : Option Addr) (n c : Nat) (l : List Fl) (f ce at_ le : Nat) (D : Option Addr) (dn dc : Nat) (ds : List Int) (A2 : Option Addr) (an ac : Nat) (add : List Fl) (elg : Int) (ef ece eat ele : Nat) (w : World)
    (hr : Rd w w.heap.size 2 A n (fvs l)) (hn : n ≤ 1099511627776) (hd : Rd w w.heap.size 1 D dn (nmv ds)) (hdn : dn ≤ 1099511627776) (ha : Rd w w.heap.size 2 A2 an (fvs add)) (han : an ≤ 1099511627776) :
    Calls Try.prog 9 #[.agg #[.int .i64 lg, .slice A n c, .int .u64 (f : Int), .int .u64 (ce : Int), .int .u64 (at_ : Int), .int .u64 (le : Int)], .agg #[.slice D dn dc, .slice A2 an ac, .int .i64 elg, .int .u64 (ef : Int), .int .u64 (ece : Int), .int .u64 (eat : Int), .int .u64 (ele : Int)]] w
      (ApPost (applyR lg l f ce at_ le ds add elg ef ece eat ele) w) := by
  obtain ⟨w4, hw4⟩ : ∃ w4, w4 = (((w.alloc (.cells #[.int .i64 lg, .slice A n c, .int .u64 (f : Int), .int .u64 (ce : Int), .int .u64 (at_ : Int), .int .u64 (le : Int)] 27)).alloc (.cells #[.slice D dn dc, .slice A2 an ac, .int .i64 elg, .int .u64 (ef : Int), .int .u64 (ece : Int), .int .u64 (eat : Int), .int .u64 (ele : Int)] 32)).alloc
    (.cells #[.int .i64 0, .slice none 0 0, .int .u64 0, .int .u64 0, .int .u64 0, .int .u64 0] 27)).alloc (.cells #[.int .i64 lg, .slice A n c, .int .u64 (f : Int), .int .u64 (ce : Int), .int .u64 (at_ : Int), .int .u64 (le : Int)] 27) := ⟨_, rfl⟩
  have hup4 : Up w w4 := by rw [hw4]; exact ((((Up.refl w).alloc _).alloc _).alloc _).alloc _
  have hsz4 : w4.heap.size = w.heap.size + 4 := by rw [hw4]; simp
  have hed4 : w4.heap[w.heap.size + 1]? = some (.cells #[.slice D dn dc, .slice A2 an ac, .int .i64 elg, .int .u64 (ef : Int), .int .u64 (ece : Int), .int .u64 (eat : Int), .int .u64 (ele : Int)] 32 (0, 0)) := by
    rw [hw4, Below.heap_alloc _ _ _ (by simp), Below.heap_alloc _ _ _ (by simp)]
    have h := heap_alloc_new (w.alloc (.cells #[.int .i64 lg, .slice A n c, .int .u64 (f : Int), .int .u64 (ce : Int), .int .u64 (at_ : Int), .int .u64 (le : Int)] 27)) (.cells #[.slice D dn dc, .slice A2 an ac, .int .i64 elg, .int .u64 (ef : Int), .int .u64 (ece : Int), .int .u64 (eat : Int), .int .u64 (ele : Int)] 32)
    rwa [World.size_alloc] at h
  have hgr4 : w4.heap[w.heap.size + 1 + 1]? = some (.cells #[.int .i64 0, .slice none 0 0, .int .u64 0, .int .u64 0, .int .u64 0, .int .u64 0] 27 (0, 0)) := by
    rw [hw4, Below.heap_alloc _ _ _ (by simp)]
    have h := heap_alloc_new ((w.alloc (.cells #[.int .i64 lg, .slice A n c, .int .u64 (f : Int), .int .u64 (ce : Int), .int .u64 (at_ : Int), .int .u64 (le : Int)] 27)).alloc (.cells #[.slice D dn dc, .slice A2 an ac, .int .i64 elg, .int .u64 (ef : Int), .int .u64 (ece : Int), .int .u64 (eat : Int), .int .u64 (ele : Int)] 32)) (.cells #[.int .i64 0, .slice none 0 0, .int .u64 0, .int .u64 0, .int .u64 0, .int .u64 0] 27)
    rwa [World.size_alloc, World.size_alloc] at h
  have hgo4 : w4.heap[w.heap.size + 1 + 1 + 1]? = some (.cells #[.int .i64 lg, .slice A n c, .int .u64 (f : Int), .int .u64 (ce : Int), .int .u64 (at_ : Int), .int .u64 (le : Int)] 27 (0, 0)) := by
    rw [hw4]
    have h := heap_alloc_new (((w.alloc (.cells #[.int .i64 lg, .slice A n c, .int .u64 (f : Int), .int .u64 (ce : Int), .int .u64 (at_ : Int), .int .u64 (le : Int)] 27)).alloc (.cells #[.slice D dn dc, .slice A2 an ac, .int .i64 elg, .int .u64 (ef : Int), .int .u64 (ece : Int), .int .u64 (eat : Int), .int .u64 (ele : Int)] 32)).alloc (.cells #[.int .i64 0, .slice none 0 0, .int .u64 0, .int .u64 0, .int .u64 0, .int .u64 0] 27))
      (.cells #[.int .i64 lg, .slice A n c, .int .u64 (f : Int), .int .u64 (ce : Int), .int .u64 (at_ : Int), .int .u64 (le : Int)] 27)
    rwa [World.size_alloc, World.size_alloc, World.size_alloc] at h
  have HW4 := Lib.hid hw4
  clear hw4
  have hr4 := hr.up hup4
  clear hr
  go_enter Try.func9, Try.ntmps9
  go_wp2_with (at_builtin; rw [← HW4.out]; refine wpList_append_rd _ filesT (World.ownsRow_nil _ (w.heap.size + 4) _ _) hr4 (fvs_one _) (by omega) (by omega) (by omega) rfl rfl rfl rfl ?_; intro v5 w5 hown5 hg5 hat5; obtain ⟨R5, rc5, rfl⟩ := own_form hown5
               rw [Nat.zero_add, List.nil_append] at hown5
               simp only [Nat.zero_add]
               have hu45 : Up w4 w5 := (Up.refl w4).grown hg5 (by intro k h; cases h)
               have hed5 := (hu45.block _ (by omega)).trans hed4
               have hgr5 := (hu45.block _ (by omega)).trans hgr4
               have hgo5 := (hu45.block _ (by omega)).trans hgo4
               have r1 := blk_cell hgo5 1
               have r2 := blk_free hgo5 1
               have hgo6 : (w5.setCell ⟨w.heap.size + 1 + 1 + 1, 1, none⟩ (.slice R5 n rc5)).heap[w.heap.size + 1 + 1 + 1]? = some (.cells #[.int .i64 lg, .slice R5 n rc5, .int .u64 (f : Int), .int .u64 (ce : Int), .int .u64 (at_ : Int), .int .u64 (le : Int)] 27 (0, 0)) := setc_heap w5 _ 1 _ _ _ hgo5
               have hK6 := setc_keeps w5 w5 (w.heap.size + 1 + 1 + 1) 1 (.slice R5 n rc5) (Rg.Keeps.refl _ _)
               have hed6 := (hK6.block _ (Array.getElem?_eq_some_iff.1 hed5).1 (by omega)).trans hed5
               have hgr6 := (hK6.block _ (Array.getElem?_eq_some_iff.1 hgr5).1 (by omega)).trans hgr5
               have hown6 : (w5.setCell ⟨w.heap.size + 1 + 1 + 1, 1, none⟩ (.slice R5 n rc5)).ownsRow (w.heap.size + 4) 41 2 (.slice R5 n rc5) n (fvs l) := own_keeps6 hown5 (by omega) hK6
               have hup6 : Up w (w5.setCell ⟨w.heap.size + 1 + 1 + 1, 1, none⟩ (.slice R5 n rc5)) := keepsUp (hup4.trans hu45) (by omega) hK6
               have r3 := blk_cell hed6 0)
  clear r1 r2 r3 hed5 hgr5 hgo5 hK6 hown5 hg5 hat5 hed4 hgr4 hgo4 hr4 hu45 HW4
  have hgeE : w.heap.size + 4 = w.heap.size + 1 + 1 + 1 + 1 := rfl
  rw [hgeE] at hown6
  generalize w5.setCell ⟨w.heap.size + 1 + 1 + 1, 1, none⟩ (.slice R5 n rc5) = w6 at *
  have o1 : w.heap.size < w.heap.size + 1 := by omega
  have o2 : w.heap.size + 1 < w.heap.size + 1 + 1 := by omega
  have o3 : w.heap.size + 1 + 1 < w.heap.size + 1 + 1 + 1 := by omega
  clear hup4 hsz4 hgeE
  generalize w.heap.size + 1 + 1 + 1 = go at *
  generalize w.heap.size + 1 + 1 = gr at *
  generalize w.heap.size + 1 = ge at *
  go_loopw [20] (fun i wr => ∃ (k : Nat) (cur : List Fl) (R : Option Addr) (rn rc : Nat), i = .int .i64 (k : Int) ∧ k ≤ dn ∧ rn ≤ n ∧ Up w wr ∧ wr.heap[ge]? = some (.cells #[.slice D dn dc, .slice A2 an ac, .int .i64 elg, .int .u64 (ef : Int), .int .u64 (ece : Int), .int .u64 (eat : Int), .int .u64 (ele : Int)] 32 (0, 0)) ∧
    wr.heap[gr]? = some (.cells #[.int .i64 0, .slice none 0 0, .int .u64 0, .int .u64 0, .int .u64 0, .int .u64 0] 27 (0, 0)) ∧ wr.heap[go]? = some (.cells #[.int .i64 lg, .slice R rn rc, .int .u64 (f : Int), .int .u64 (ce : Int), .int .u64 (at_ : Int), .int .u64 (le : Int)] 27 (0, 0)) ∧
    wr.ownsRow (go + 1) 41 2 (.slice R rn rc) rn (fvs cur) ∧ Hid (dropsF cur (ds.drop k) = dropsF l ds)) (fun i _ => dn - (intOf i).toNat)
  case atStart => exact ⟨0, l, R5, n, rc5, rfl, by omega, by omega, hup6, hed6, hgr6, hgo6, hown6, rfl⟩
  case round =>
    obtain ⟨k, cur, R, rn, rc, rfl, hk, hrn, hup, hed, hgr, hgo, hown, hdr⟩ := hrel
    clear hup6 hed6 hgr6 hgo6 hown6
    by_cases hlt : k < dn
    · have hdl : dn = ds.length := by have := hd.1; rw [nmv_len] at this; omega
      obtain ⟨b, o, rfl, hb, hc⟩ := hd.2 (by omega)
      have hck : wr.cell? ⟨b, o + k, none⟩ = some (.int .i64 (ds[k]'(by omega))) := (hup.cell (p := ⟨b, o + k, none⟩) hb).trans (hc k _ (by simp [nmv, show k < ds.length by omega]))
      have hdk : ds.drop k = ds[k]'(by omega) :: ds.drop (k + 1) := List.drop_eq_getElem_cons (by omega)
      generalize ds[k]'(by omega) = x at hck hdk
      have HDK := Lib.hid hdk
      clear hc hdk hdl
      have hub : Up wr (wr.alloc (.cells #[.int .i64 x] 3)) := (Up.refl wr).alloc _
      have hcb : (wr.alloc (.cells #[.int .i64 x] 3)).cell? ⟨wr.heap.size, 0, none⟩ = some (.int .i64 x) := by simp
      have hlb : wr.heap.size < (wr.alloc (.cells #[.int .i64 x] 3)).heap.size := by simp
      have q1 : (wr.alloc (.cells #[.int .i64 x] 3)).cell? ⟨go, 1, none⟩ = some (.slice R rn rc) := (hub.cell (p := ⟨go, 1, none⟩) (Array.getElem?_eq_some_iff.1 hgo).1).trans (blk_cell hgo 1)
      have hcall := ixf_any 27 #[.pointer (some ⟨wr.heap.size, 0, none⟩)] (fun f => decide (f.2 = x)) R rn rc cur (wr.alloc (.cells #[.int .i64 x] 3)) ((Rd.own hown).up hub) (by omega) (fun _ _ => rfl)
        (fun W y hW => apply1_any wr.heap.size y.1 y.2 x W (by have := hW.size; omega) ((hW.cell (p := ⟨wr.heap.size, 0, none⟩) hlb).trans hcb))
      go_wp2_with fail
      clear q1
      refine hcall.mono ?_
      rintro e w7 ⟨rfl, hu7⟩
      have hu17 := hub.trans hu7
      clear hcall hcb hlb hub hu7 hck
      have hed7 := (hu17.block _ (Array.getElem?_eq_some_iff.1 hed).1).trans hed
      have hgr7 := (hu17.block _ (Array.getElem?_eq_some_iff.1 hgr).1).trans hgr
      have hgo7 := (hu17.block _ (Array.getElem?_eq_some_iff.1 hgo).1).trans hgo
      have hown7 := own_up hown hu17
      have hup7 := hup.trans hu17
      clear hed hgr hgo hown hup hu17
      by_cases hfi : cur.findIdx (fun f => decide (f.2 = x)) < cur.length
      · have hix : ixI (fun f : Fl => decide (f.2 = x)) cur = ((cur.findIdx (fun f => decide (f.2 = x)) : Nat) : Int) := by unfold ixI; rw [if_pos hfi]
        have hdf : dropF cur x = some (cur.eraseIdx (cur.findIdx fun f => decide (f.2 = x))) := by unfold dropF; rw [if_pos hfi]
        rw [hix]
        clear hix
        have HDF := Lib.hid hdf
        clear hdf
        generalize cur.findIdx (fun f => decide (f.2 = x)) = j at *
        have hlen : rn = cur.length := by have := hown7.1; rw [fvs_length] at this; omega
        obtain ⟨g, rfl, hgb, hgl⟩ := own_some hown7 (by omega)
        have q1 := blk_cell hgo7 1
        have q2 := blk_free hgo7 1
        have hjl : j < rn := by omega
        clear hlen hfi
        go_wp2_with fail
        refine (delete_any g rn rc (go + 1) cur j w7 hown7 hjl).mono ?_
        rintro e w8 ⟨rfl, hown8, hK8⟩
        clear q1 q2
        have hed8 := (hK8.block _ (Array.getElem?_eq_some_iff.1 hed7).1 (by omega)).trans hed7
        have hgr8 := (hK8.block _ (Array.getElem?_eq_some_iff.1 hgr7).1 (by omega)).trans hgr7
        have hgo8 := (hK8.block _ (Array.getElem?_eq_some_iff.1 hgo7).1 (by omega)).trans hgo7
        have hup8 : Up w w8 := keepsUp hup7 (by omega) hK8
        clear hed7 hgr7 hgo7 hown7 hup7 hK8
        have q1 := blk_cell hgo8 1
        have q2 := blk_free hgo8 1
        have hgo9 : (w8.setCell ⟨go, 1, none⟩ (.slice (some ⟨g, 0, none⟩) (rn - 1) rc)).heap[go]? = some (.cells #[.int .i64 lg, .slice (some ⟨g, 0, none⟩) (rn - 1) rc, .int .u64 (f : Int), .int .u64 (ce : Int), .int .u64 (at_ : Int), .int .u64 (le : Int)] 27 (0, 0)) := setc_heap w8 _ 1 _ _ _ hgo8
        have hK9 := setc_keeps w8 w8 go 1 (.slice (some ⟨g, 0, none⟩) (rn - 1) rc) (Rg.Keeps.refl _ _)
        have hed9 := (hK9.block _ (Array.getElem?_eq_some_iff.1 hed8).1 (by omega)).trans hed8
        have hgr9 := (hK9.block _ (Array.getElem?_eq_some_iff.1 hgr8).1 (by omega)).trans hgr8
        have hown9 := own_keeps6 hown8 (by omega) hK9
        have hup9 := keepsUp hup8 (by omega) hK9
        clear hK9
        go_wp2_with fail
        clear q1 q2
        generalize w8.setCell ⟨go, 1, none⟩ (.slice (some ⟨g, 0, none⟩) (rn - 1) rc) = w9 at *
        go_roundw
        case rel =>
          refine ⟨k + 1, cur.eraseIdx j, some ⟨g, 0, none⟩, rn - 1, rc, by go_num, by omega, by omega, hup9, hed9, hgr9, hgo9, hown9, ?_⟩
          show _ = _
          rw [← hdr.out, HDK.out]
          show _ = (dropF cur x).bind _
          rw [HDF.out]; rfl
        case measure => simp [intOf]; omega
      · have hix : ixI (fun f : Fl => decide (f.2 = x)) cur = -1 := by unfold ixI; rw [if_neg hfi]
        have hdf : dropF cur x = none := by unfold dropF; rw [if_neg hfi]
        rw [hix]
        clear hix hfi
        have hno : dropsF l ds = none := by
          rw [← hdr.out, HDK.out]
          show (dropF cur x).bind _ = _
          rw [hdf]; rfl
        have HNO := Lib.hid hno
        clear hno hdf
        have t0 := blk_cell hgr7 0
        have t1 := blk_cell hgr7 1
        have t2 := blk_cell hgr7 2
        have t3 := blk_cell hgr7 3
        have t4 := blk_cell hgr7 4
        have t5 := blk_cell hgr7 5
        have s0 := blk_free hgr7 0
        have s1 := blk_free hgr7 1
        have s2 := blk_free hgr7 2
        have s3 := blk_free hgr7 3
        have s4 := blk_free hgr7 4
        have s5 := blk_free hgr7 5
        have h6 := set6 w7 gr _ _ _ _ _ _ (.int .i64 0) (.slice none 0 0) (.int .u64 0) (.int .u64 0) (.int .u64 0) (.int .u64 0) _ hgr7
        go_wp2_with fail
        clear t0 t1 t2 t3 t4 t5 s0 s1 s2 s3 s4 s5
        generalize (((((w7.setCell ⟨gr, 0, none⟩ (.int .i64 0)).setCell ⟨gr, 1, none⟩ (.slice none 0 0)).setCell ⟨gr, 2, none⟩ (.int .u64 0)).setCell ⟨gr, 3, none⟩ (.int .u64 0)).setCell ⟨gr, 4, none⟩ (.int .u64 0)).setCell ⟨gr, 5, none⟩ (.int .u64 0) = w8 at *
        obtain ⟨h6, hK8⟩ := h6
        have t0 := blk_cell h6 0
        have t1 := blk_cell h6 1
        have t2 := blk_cell h6 2
        have t3 := blk_cell h6 3
        have t4 := blk_cell h6 4
        have t5 := blk_cell h6 5
        have hup8 : Up w w8 := keepsUp hup7 (by omega) hK8
        refine bodyPost_ret (v := .tuple #[.agg #[.int .i64 0, .slice none 0 0, .int .u64 0, .int .u64 0, .int .u64 0, .int .u64 0], .bool false]) (by simp [results, Try.results9, go_sem, t0, t1, t2, t3, t4, t5]) rfl ?_
        have hR : applyR lg l f ce at_ le ds add elg ef ece eat ele = none := by unfold applyR; rw [HNO.out]
        rw [hR]
        exact ⟨rfl, hup8⟩
    · have hkd : k = ds.length := by have := hd.1; rw [nmv_len] at this; omega
      have hdrop : dropsF l ds = some cur := by rw [← hdr.out, hkd, List.drop_length]; rfl
      have HDR := Lib.hid hdrop
      clear hkd hdrop hdr
      have ha7 := ha.up hup
      have hlo := hown.lt
      have q1 := blk_cell hgo 1
      have q2 := blk_cell hed 1
      go_wp2_with (first
        | (at_builtin; refine wpList_append_rd _ filesT hown ha7 (fvs_one _) (by omega) (by omega) (by have := (Array.getElem?_eq_some_iff.1 hgo).1; omega) rfl rfl rfl rfl ?_; intro v5 w5 hown5 hg5 hat5; obtain ⟨R5, rc5, rfl⟩ := own_form hown5
           rw [← fvs_append] at hown5
           have hed5 := (hg5.block ge (Array.getElem?_eq_some_iff.1 hed).1 (fun e0 => by have := (hlo ge e0.symm).1; omega)).trans hed
           have hgr5 := (hg5.block gr (Array.getElem?_eq_some_iff.1 hgr).1 (fun e0 => by have := (hlo gr e0.symm).1; omega)).trans hgr
           have hgo5 := (hg5.block go (Array.getElem?_eq_some_iff.1 hgo).1 (fun e0 => by have := (hlo go e0.symm).1; omega)).trans hgo
           have hup5 : Up w w5 := hup.grown hg5 (fun k0 e0 => by have := (hlo k0 e0).1; omega)
           have hrc5 := own_cap hown5)
        | fail)
      refine (clip_any R5 (rn + an) rc5 w5 hrc5).mono ?_
      rintro e w6 ⟨rfl, rfl⟩
      have r1 := blk_cell hgo5 1
      have r2 := blk_free hgo5 1
      have hgo6 : (w5.setCell ⟨go, 1, none⟩ (.slice R5 (rn + an) (rn + an))).heap[go]? = some (.cells #[.int .i64 lg, .slice R5 (rn + an) (rn + an), .int .u64 (f : Int), .int .u64 (ce : Int), .int .u64 (at_ : Int), .int .u64 (le : Int)] 27 (0, 0)) := setc_heap w5 _ 1 _ _ _ hgo5
      have hK6 := setc_keeps w5 w5 go 1 (.slice R5 (rn + an) (rn + an)) (Rg.Keeps.refl _ _)
      have hed6 := (hK6.block _ (Array.getElem?_eq_some_iff.1 hed5).1 (by omega)).trans hed5
      have hgr6 := (hK6.block _ (Array.getElem?_eq_some_iff.1 hgr5).1 (by omega)).trans hgr5
      have hown6 := own_keeps6 hown5 (by omega) hK6
      have hup6 := keepsUp hup5 (by omega) hK6
      clear hK6 hed5 hgr5 hgo5 hown5 hup5 hed hgr hgo hown hup q1 q2 ha7 hlo hat5 hg5
      have r3 := blk_cell hed6 2
      have r4 := blk_cell hed6 3
      have r5 := blk_cell hed6 4
      have r6 := blk_cell hed6 5
      have r7 := blk_cell hed6 6
      by_cases hel : elg = 0
      · have hLG : updI lg elg = lg := by unfold updI; rw [if_pos hel]
        have helb : (elg != 0) = false := by simp [hel]
        have hsz8 : (w5.setCell ⟨go, 1, none⟩ (.slice R5 (rn + an) (rn + an))).heap.size = w5.heap.size := by simp [World.setCell]
        go_wp2_with fail
        clear r1 r2 r3 r4 r5 r6 r7
        generalize w5.setCell ⟨go, 1, none⟩ (.slice R5 (rn + an) (rn + an)) = w8 at *
        have HLG := Lib.hid hLG
        clear hLG
        have hL9 : (w8.alloc (.cells #[.int .u64 (ef : Int), .pointer (some ⟨go, 2, none⟩), .int .u64 (ece : Int), .pointer (some ⟨go, 3, none⟩), .int .u64 (eat : Int), .pointer (some ⟨go, 4, none⟩), .int .u64 (ele : Int), .pointer (some ⟨go, 5, none⟩)] 69)).heap[w8.heap.size]? =
          some (.cells #[.int .u64 (ef : Int), .pointer (some ⟨go, 2, none⟩), .int .u64 (ece : Int), .pointer (some ⟨go, 3, none⟩), .int .u64 (eat : Int), .pointer (some ⟨go, 4, none⟩), .int .u64 (ele : Int), .pointer (some ⟨go, 5, none⟩)] 69 (0, 0)) := heap_alloc_new _ _
        have hu9 : Up w8 (w8.alloc (.cells #[.int .u64 (ef : Int), .pointer (some ⟨go, 2, none⟩), .int .u64 (ece : Int), .pointer (some ⟨go, 3, none⟩), .int .u64 (eat : Int), .pointer (some ⟨go, 4, none⟩), .int .u64 (ele : Int), .pointer (some ⟨go, 5, none⟩)] 69)) := (Up.refl w8).alloc _
        have hgr9 := (hu9.block _ (Array.getElem?_eq_some_iff.1 hgr6).1).trans hgr6
        have hgo9 := (hu9.block _ (Array.getElem?_eq_some_iff.1 hgo6).1).trans hgo6
        have hown9 := own_up hown6 hu9
        have hup9 := hup6.trans hu9
        have hgoL : ¬ w8.heap.size = go := by have := (Array.getElem?_eq_some_iff.1 hgo6).1; omega
        generalize w8.alloc (.cells #[.int .u64 (ef : Int), .pointer (some ⟨go, 2, none⟩), .int .u64 (ece : Int), .pointer (some ⟨go, 3, none⟩), .int .u64 (eat : Int), .pointer (some ⟨go, 4, none⟩), .int .u64 (ele : Int), .pointer (some ⟨go, 5, none⟩)] 69) = w9 at *
        rw [hsz8] at hL9 hgoL
        generalize w5.heap.size = gL at *
        clear hsz8 hgr6 hgo6 hown6 hup6 hed6 hu9
        go_loopw [70] (fun i wr => ∃ k : Nat, i = .int .i64 (k : Int) ∧ k ≤ 4 ∧ Up w wr ∧ wr.heap[gr]? = some (.cells #[.int .i64 0, .slice none 0 0, .int .u64 0, .int .u64 0, .int .u64 0, .int .u64 0] 27 (0, 0)) ∧
          wr.heap[go]? = some (.cells #[.int .i64 lg, .slice R5 (rn + an) (rn + an), .int .u64 ((selN 0 k f ef : Nat) : Int), .int .u64 ((selN 1 k ce ece : Nat) : Int), .int .u64 ((selN 2 k at_ eat : Nat) : Int), .int .u64 ((selN 3 k le ele : Nat) : Int)] 27 (0, 0)) ∧
          wr.heap[gL]? = some (.cells #[.int .u64 (ef : Int), .pointer (some ⟨go, 2, none⟩), .int .u64 (ece : Int), .pointer (some ⟨go, 3, none⟩), .int .u64 (eat : Int), .pointer (some ⟨go, 4, none⟩), .int .u64 (ele : Int), .pointer (some ⟨go, 5, none⟩)] 69 (0, 0)) ∧ wr.ownsRow (go + 1) 41 2 (.slice R5 (rn + an) rc5) (rn + an) (fvs (cur ++ add))) (fun i _ => 4 - (intOf i).toNat)
        case atStart => exact ⟨0, rfl, by omega, hup9, hgr9, hgo9, hL9, hown9⟩
        case round =>
          obtain ⟨k, rfl, hk4, hup, hgr, hgo, hL, hown⟩ := hrel
          clear hup9 hgr9 hgo9 hL9 hown9
          have hcases : k = 0 ∨ k = 1 ∨ k = 2 ∨ k = 3 ∨ k = 4 := by omega
          rcases hcases with rfl | rfl | rfl | rfl | rfl
          · have hgo0 : wr.heap[go]? = some (.cells #[.int .i64 lg, .slice R5 (rn + an) (rn + an), .int .u64 ((f : Nat) : Int), .int .u64 ((ce : Nat) : Int), .int .u64 ((at_ : Nat) : Int), .int .u64 ((le : Nat) : Int)] 27 (0, 0)) := hgo
            clear hgo
            have q0 := blk_cell hL 0
            have q1 := blk_cell hL 1
            have hub : Up wr (wr.alloc (.cells #[.int .u64 (ef : Int), .pointer (some ⟨go, 2, none⟩)] 69)) := (Up.refl wr).alloc _
            have hbn : (wr.alloc (.cells #[.int .u64 (ef : Int), .pointer (some ⟨go, 2, none⟩)] 69)).heap[wr.heap.size]? = some (.cells #[.int .u64 (ef : Int), .pointer (some ⟨go, 2, none⟩)] 69 (0, 0)) := heap_alloc_new _ _
            have q2 := blk_cell hbn 0
            have q3 := blk_cell hbn 1
            have hgr1 := (hub.block _ (Array.getElem?_eq_some_iff.1 hgr).1).trans hgr
            have hgo1 := (hub.block _ (Array.getElem?_eq_some_iff.1 hgo0).1).trans hgo0
            have hL1 := (hub.block _ (Array.getElem?_eq_some_iff.1 hL).1).trans hL
            have hown1 := own_up hown hub
            have hup1 := hup.trans hub
            by_cases hz : ef = 0
            · have hzb : ((ef : Int) != 0) = false := by simp [hz]
              have hzb2 : (ef != 0) = false := by simp [hz]
              have eu : updN f ef = f := by unfold updN; rw [if_pos hz]
              have HZ := Lib.hid hz
              have EU := Lib.hid eu
              clear hz eu
              go_wp2_with fail
              clear q0 q1 q2 q3
              go_roundw
              case rel =>
                refine ⟨0 + 1, by go_num, by omega, hup1, hgr1, ?_, hL1, hown1⟩
                show _ = some (Obj.cells #[.int .i64 lg, .slice R5 (rn + an) (rn + an), .int .u64 (((updN f ef) : Nat) : Int), .int .u64 ((ce : Nat) : Int), .int .u64 ((at_ : Nat) : Int), .int .u64 ((le : Nat) : Int)] 27 (0, 0))
                rw [EU.out]
                exact hgo1
              case measure => simp [intOf]
            · have hzb : ((ef : Int) != 0) = true := by simp [hz]
              have hzb2 : (ef != 0) = true := by simp [hz]
              have eu : updN f ef = ef := by unfold updN; rw [if_neg hz]
              have HZ := Lib.hid hz
              have EU := Lib.hid eu
              clear hz eu
              have q4 := blk_cell hgo1 2
              have q5 := blk_free hgo1 2
              have hgo2 : ((wr.alloc (.cells #[.int .u64 (ef : Int), .pointer (some ⟨go, 2, none⟩)] 69)).setCell ⟨go, 2, none⟩ (.int .u64 (ef : Int))).heap[go]? = some (.cells #[.int .i64 lg, .slice R5 (rn + an) (rn + an), .int .u64 ((ef : Nat) : Int), .int .u64 ((ce : Nat) : Int), .int .u64 ((at_ : Nat) : Int), .int .u64 ((le : Nat) : Int)] 27 (0, 0)) := setc_heap _ _ 2 _ _ _ hgo1
              have hK2 := setc_keeps (wr.alloc (.cells #[.int .u64 (ef : Int), .pointer (some ⟨go, 2, none⟩)] 69)) (wr.alloc (.cells #[.int .u64 (ef : Int), .pointer (some ⟨go, 2, none⟩)] 69)) go 2 (.int .u64 (ef : Int)) (Rg.Keeps.refl _ _)
              have hgr2 := (hK2.block _ (Array.getElem?_eq_some_iff.1 hgr1).1 (by omega)).trans hgr1
              have hL2 := (hK2.block _ (Array.getElem?_eq_some_iff.1 hL1).1 hgoL).trans hL1
              have hown2 := own_keeps6 hown1 (by omega) hK2
              have hup2 := keepsUp hup1 (by omega) hK2
              go_wp2_with fail
              clear q0 q1 q2 q3 q4 q5
              go_roundw
              case rel =>
                refine ⟨0 + 1, by go_num, by omega, hup2, hgr2, ?_, hL2, hown2⟩
                show _ = some (Obj.cells #[.int .i64 lg, .slice R5 (rn + an) (rn + an), .int .u64 (((updN f ef) : Nat) : Int), .int .u64 ((ce : Nat) : Int), .int .u64 ((at_ : Nat) : Int), .int .u64 ((le : Nat) : Int)] 27 (0, 0))
                rw [EU.out]
                exact hgo2
              case measure => simp [intOf]
          · have hgo0 : wr.heap[go]? = some (.cells #[.int .i64 lg, .slice R5 (rn + an) (rn + an), .int .u64 (((updN f ef) : Nat) : Int), .int .u64 ((ce : Nat) : Int), .int .u64 ((at_ : Nat) : Int), .int .u64 ((le : Nat) : Int)] 27 (0, 0)) := hgo
            clear hgo
            have q0 := blk_cell hL 2
            have q1 := blk_cell hL 3
            have hub : Up wr (wr.alloc (.cells #[.int .u64 (ece : Int), .pointer (some ⟨go, 3, none⟩)] 69)) := (Up.refl wr).alloc _
            have hbn : (wr.alloc (.cells #[.int .u64 (ece : Int), .pointer (some ⟨go, 3, none⟩)] 69)).heap[wr.heap.size]? = some (.cells #[.int .u64 (ece : Int), .pointer (some ⟨go, 3, none⟩)] 69 (0, 0)) := heap_alloc_new _ _
            have q2 := blk_cell hbn 0
            have q3 := blk_cell hbn 1
            have hgr1 := (hub.block _ (Array.getElem?_eq_some_iff.1 hgr).1).trans hgr
            have hgo1 := (hub.block _ (Array.getElem?_eq_some_iff.1 hgo0).1).trans hgo0
            have hL1 := (hub.block _ (Array.getElem?_eq_some_iff.1 hL).1).trans hL
            have hown1 := own_up hown hub
            have hup1 := hup.trans hub
            by_cases hz : ece = 0
            · have hzb : ((ece : Int) != 0) = false := by simp [hz]
              have hzb2 : (ece != 0) = false := by simp [hz]
              have eu : updN ce ece = ce := by unfold updN; rw [if_pos hz]
              have HZ := Lib.hid hz
              have EU := Lib.hid eu
              clear hz eu
              go_wp2_with fail
              clear q0 q1 q2 q3
              go_roundw
              case rel =>
                refine ⟨1 + 1, by go_num, by omega, hup1, hgr1, ?_, hL1, hown1⟩
                show _ = some (Obj.cells #[.int .i64 lg, .slice R5 (rn + an) (rn + an), .int .u64 (((updN f ef) : Nat) : Int), .int .u64 (((updN ce ece) : Nat) : Int), .int .u64 ((at_ : Nat) : Int), .int .u64 ((le : Nat) : Int)] 27 (0, 0))
                rw [EU.out]
                exact hgo1
              case measure => simp [intOf]
            · have hzb : ((ece : Int) != 0) = true := by simp [hz]
              have hzb2 : (ece != 0) = true := by simp [hz]
              have eu : updN ce ece = ece := by unfold updN; rw [if_neg hz]
              have HZ := Lib.hid hz
              have EU := Lib.hid eu
              clear hz eu
              have q4 := blk_cell hgo1 3
              have q5 := blk_free hgo1 3
              have hgo2 : ((wr.alloc (.cells #[.int .u64 (ece : Int), .pointer (some ⟨go, 3, none⟩)] 69)).setCell ⟨go, 3, none⟩ (.int .u64 (ece : Int))).heap[go]? = some (.cells #[.int .i64 lg, .slice R5 (rn + an) (rn + an), .int .u64 (((updN f ef) : Nat) : Int), .int .u64 ((ece : Nat) : Int), .int .u64 ((at_ : Nat) : Int), .int .u64 ((le : Nat) : Int)] 27 (0, 0)) := setc_heap _ _ 3 _ _ _ hgo1
              have hK2 := setc_keeps (wr.alloc (.cells #[.int .u64 (ece : Int), .pointer (some ⟨go, 3, none⟩)] 69)) (wr.alloc (.cells #[.int .u64 (ece : Int), .pointer (some ⟨go, 3, none⟩)] 69)) go 3 (.int .u64 (ece : Int)) (Rg.Keeps.refl _ _)
              have hgr2 := (hK2.block _ (Array.getElem?_eq_some_iff.1 hgr1).1 (by omega)).trans hgr1
              have hL2 := (hK2.block _ (Array.getElem?_eq_some_iff.1 hL1).1 hgoL).trans hL1
              have hown2 := own_keeps6 hown1 (by omega) hK2
              have hup2 := keepsUp hup1 (by omega) hK2
              go_wp2_with fail
              clear q0 q1 q2 q3 q4 q5
              go_roundw
              case rel =>
                refine ⟨1 + 1, by go_num, by omega, hup2, hgr2, ?_, hL2, hown2⟩
                show _ = some (Obj.cells #[.int .i64 lg, .slice R5 (rn + an) (rn + an), .int .u64 (((updN f ef) : Nat) : Int), .int .u64 (((updN ce ece) : Nat) : Int), .int .u64 ((at_ : Nat) : Int), .int .u64 ((le : Nat) : Int)] 27 (0, 0))
                rw [EU.out]
                exact hgo2
              case measure => simp [intOf]
          · have hgo0 : wr.heap[go]? = some (.cells #[.int .i64 lg, .slice R5 (rn + an) (rn + an), .int .u64 (((updN f ef) : Nat) : Int), .int .u64 (((updN ce ece) : Nat) : Int), .int .u64 ((at_ : Nat) : Int), .int .u64 ((le : Nat) : Int)] 27 (0, 0)) := hgo
            clear hgo
            have q0 := blk_cell hL 4
            have q1 := blk_cell hL 5
            have hub : Up wr (wr.alloc (.cells #[.int .u64 (eat : Int), .pointer (some ⟨go, 4, none⟩)] 69)) := (Up.refl wr).alloc _
            have hbn : (wr.alloc (.cells #[.int .u64 (eat : Int), .pointer (some ⟨go, 4, none⟩)] 69)).heap[wr.heap.size]? = some (.cells #[.int .u64 (eat : Int), .pointer (some ⟨go, 4, none⟩)] 69 (0, 0)) := heap_alloc_new _ _
            have q2 := blk_cell hbn 0
            have q3 := blk_cell hbn 1
            have hgr1 := (hub.block _ (Array.getElem?_eq_some_iff.1 hgr).1).trans hgr
            have hgo1 := (hub.block _ (Array.getElem?_eq_some_iff.1 hgo0).1).trans hgo0
            have hL1 := (hub.block _ (Array.getElem?_eq_some_iff.1 hL).1).trans hL
            have hown1 := own_up hown hub
            have hup1 := hup.trans hub
            by_cases hz : eat = 0
            · have hzb : ((eat : Int) != 0) = false := by simp [hz]
              have hzb2 : (eat != 0) = false := by simp [hz]
              have eu : updN at_ eat = at_ := by unfold updN; rw [if_pos hz]
              have HZ := Lib.hid hz
              have EU := Lib.hid eu
              clear hz eu
              go_wp2_with fail
              clear q0 q1 q2 q3
              go_roundw
              case rel =>
                refine ⟨2 + 1, by go_num, by omega, hup1, hgr1, ?_, hL1, hown1⟩
                show _ = some (Obj.cells #[.int .i64 lg, .slice R5 (rn + an) (rn + an), .int .u64 (((updN f ef) : Nat) : Int), .int .u64 (((updN ce ece) : Nat) : Int), .int .u64 (((updN at_ eat) : Nat) : Int), .int .u64 ((le : Nat) : Int)] 27 (0, 0))
                rw [EU.out]
                exact hgo1
              case measure => simp [intOf]
            · have hzb : ((eat : Int) != 0) = true := by simp [hz]
              have hzb2 : (eat != 0) = true := by simp [hz]
              have eu : updN at_ eat = eat := by unfold updN; rw [if_neg hz]
              have HZ := Lib.hid hz
              have EU := Lib.hid eu
              clear hz eu
              have q4 := blk_cell hgo1 4
              have q5 := blk_free hgo1 4
              have hgo2 : ((wr.alloc (.cells #[.int .u64 (eat : Int), .pointer (some ⟨go, 4, none⟩)] 69)).setCell ⟨go, 4, none⟩ (.int .u64 (eat : Int))).heap[go]? = some (.cells #[.int .i64 lg, .slice R5 (rn + an) (rn + an), .int .u64 (((updN f ef) : Nat) : Int), .int .u64 (((updN ce ece) : Nat) : Int), .int .u64 ((eat : Nat) : Int), .int .u64 ((le : Nat) : Int)] 27 (0, 0)) := setc_heap _ _ 4 _ _ _ hgo1
              have hK2 := setc_keeps (wr.alloc (.cells #[.int .u64 (eat : Int), .pointer (some ⟨go, 4, none⟩)] 69)) (wr.alloc (.cells #[.int .u64 (eat : Int), .pointer (some ⟨go, 4, none⟩)] 69)) go 4 (.int .u64 (eat : Int)) (Rg.Keeps.refl _ _)
              have hgr2 := (hK2.block _ (Array.getElem?_eq_some_iff.1 hgr1).1 (by omega)).trans hgr1
              have hL2 := (hK2.block _ (Array.getElem?_eq_some_iff.1 hL1).1 hgoL).trans hL1
              have hown2 := own_keeps6 hown1 (by omega) hK2
              have hup2 := keepsUp hup1 (by omega) hK2
              go_wp2_with fail
              clear q0 q1 q2 q3 q4 q5
              go_roundw
              case rel =>
                refine ⟨2 + 1, by go_num, by omega, hup2, hgr2, ?_, hL2, hown2⟩
                show _ = some (Obj.cells #[.int .i64 lg, .slice R5 (rn + an) (rn + an), .int .u64 (((updN f ef) : Nat) : Int), .int .u64 (((updN ce ece) : Nat) : Int), .int .u64 (((updN at_ eat) : Nat) : Int), .int .u64 ((le : Nat) : Int)] 27 (0, 0))
                rw [EU.out]
                exact hgo2
              case measure => simp [intOf]
          · have hgo0 : wr.heap[go]? = some (.cells #[.int .i64 lg, .slice R5 (rn + an) (rn + an), .int .u64 (((updN f ef) : Nat) : Int), .int .u64 (((updN ce ece) : Nat) : Int), .int .u64 (((updN at_ eat) : Nat) : Int), .int .u64 ((le : Nat) : Int)] 27 (0, 0)) := hgo
            clear hgo
            have q0 := blk_cell hL 6
            have q1 := blk_cell hL 7
            have hub : Up wr (wr.alloc (.cells #[.int .u64 (ele : Int), .pointer (some ⟨go, 5, none⟩)] 69)) := (Up.refl wr).alloc _
            have hbn : (wr.alloc (.cells #[.int .u64 (ele : Int), .pointer (some ⟨go, 5, none⟩)] 69)).heap[wr.heap.size]? = some (.cells #[.int .u64 (ele : Int), .pointer (some ⟨go, 5, none⟩)] 69 (0, 0)) := heap_alloc_new _ _
            have q2 := blk_cell hbn 0
            have q3 := blk_cell hbn 1
            have hgr1 := (hub.block _ (Array.getElem?_eq_some_iff.1 hgr).1).trans hgr
            have hgo1 := (hub.block _ (Array.getElem?_eq_some_iff.1 hgo0).1).trans hgo0
            have hL1 := (hub.block _ (Array.getElem?_eq_some_iff.1 hL).1).trans hL
            have hown1 := own_up hown hub
            have hup1 := hup.trans hub
            by_cases hz : ele = 0
            · have hzb : ((ele : Int) != 0) = false := by simp [hz]
              have hzb2 : (ele != 0) = false := by simp [hz]
              have eu : updN le ele = le := by unfold updN; rw [if_pos hz]
              have HZ := Lib.hid hz
              have EU := Lib.hid eu
              clear hz eu
              go_wp2_with fail
              clear q0 q1 q2 q3
              go_roundw
              case rel =>
                refine ⟨3 + 1, by go_num, by omega, hup1, hgr1, ?_, hL1, hown1⟩
                show _ = some (Obj.cells #[.int .i64 lg, .slice R5 (rn + an) (rn + an), .int .u64 (((updN f ef) : Nat) : Int), .int .u64 (((updN ce ece) : Nat) : Int), .int .u64 (((updN at_ eat) : Nat) : Int), .int .u64 (((updN le ele) : Nat) : Int)] 27 (0, 0))
                rw [EU.out]
                exact hgo1
              case measure => simp [intOf]
            · have hzb : ((ele : Int) != 0) = true := by simp [hz]
              have hzb2 : (ele != 0) = true := by simp [hz]
              have eu : updN le ele = ele := by unfold updN; rw [if_neg hz]
              have HZ := Lib.hid hz
              have EU := Lib.hid eu
              clear hz eu
              have q4 := blk_cell hgo1 5
              have q5 := blk_free hgo1 5
              have hgo2 : ((wr.alloc (.cells #[.int .u64 (ele : Int), .pointer (some ⟨go, 5, none⟩)] 69)).setCell ⟨go, 5, none⟩ (.int .u64 (ele : Int))).heap[go]? = some (.cells #[.int .i64 lg, .slice R5 (rn + an) (rn + an), .int .u64 (((updN f ef) : Nat) : Int), .int .u64 (((updN ce ece) : Nat) : Int), .int .u64 (((updN at_ eat) : Nat) : Int), .int .u64 ((ele : Nat) : Int)] 27 (0, 0)) := setc_heap _ _ 5 _ _ _ hgo1
              have hK2 := setc_keeps (wr.alloc (.cells #[.int .u64 (ele : Int), .pointer (some ⟨go, 5, none⟩)] 69)) (wr.alloc (.cells #[.int .u64 (ele : Int), .pointer (some ⟨go, 5, none⟩)] 69)) go 5 (.int .u64 (ele : Int)) (Rg.Keeps.refl _ _)
              have hgr2 := (hK2.block _ (Array.getElem?_eq_some_iff.1 hgr1).1 (by omega)).trans hgr1
              have hL2 := (hK2.block _ (Array.getElem?_eq_some_iff.1 hL1).1 hgoL).trans hL1
              have hown2 := own_keeps6 hown1 (by omega) hK2
              have hup2 := keepsUp hup1 (by omega) hK2
              go_wp2_with fail
              clear q0 q1 q2 q3 q4 q5
              go_roundw
              case rel =>
                refine ⟨3 + 1, by go_num, by omega, hup2, hgr2, ?_, hL2, hown2⟩
                show _ = some (Obj.cells #[.int .i64 lg, .slice R5 (rn + an) (rn + an), .int .u64 (((updN f ef) : Nat) : Int), .int .u64 (((updN ce ece) : Nat) : Int), .int .u64 (((updN at_ eat) : Nat) : Int), .int .u64 (((updN le ele) : Nat) : Int)] 27 (0, 0))
                rw [EU.out]
                exact hgo2
              case measure => simp [intOf]
          · have hgo0 : wr.heap[go]? = some (.cells #[.int .i64 lg, .slice R5 (rn + an) (rn + an), .int .u64 ((updN f ef : Nat) : Int), .int .u64 ((updN ce ece : Nat) : Int), .int .u64 ((updN at_ eat : Nat) : Int), .int .u64 ((updN le ele : Nat) : Int)] 27 (0, 0)) := hgo
            clear hgo
            have q0 := blk_cell hgo0 0
            have q1 := blk_cell hgo0 1
            have q2 := blk_cell hgo0 2
            have q3 := blk_cell hgo0 3
            have q4 := blk_cell hgo0 4
            have q5 := blk_cell hgo0 5
            go_wp2_with fail
            clear q0 q1 q2 q3 q4 q5
            refine (vok_any lg R5 (rn + an) (rn + an) (cur ++ add) (updN f ef) (updN ce ece) (updN at_ eat) (updN le ele) wr (Rd.own hown) (Nat.le_refl _) (by omega)).mono ?_
            rintro e w10 ⟨rfl, hu10⟩
            have hgr10 := (hu10.block _ (Array.getElem?_eq_some_iff.1 hgr).1).trans hgr
            have hgo10 := (hu10.block _ (Array.getElem?_eq_some_iff.1 hgo0).1).trans hgo0
            have hown10 := own_up hown hu10
            have hup10 := hup.trans hu10
            clear hgr hgo0 hown hup hu10 hL
            obtain ⟨bo, hbo⟩ : ∃ bo, bo = viewOk lg (cur ++ add) (updN f ef) (updN ce ece) (updN at_ eat) (updN le ele) := ⟨_, rfl⟩
            rw [← hbo]
            have HBO := Lib.hid hbo
            clear hbo
            cases bo
            · clear hgo10 hown10
              have h6 := set6 w10 gr _ _ _ _ _ _ (.int .i64 0) (.slice none 0 0) (.int .u64 0) (.int .u64 0) (.int .u64 0) (.int .u64 0) _ hgr10
              have t0 := blk_cell hgr10 0
              have t1 := blk_cell hgr10 1
              have t2 := blk_cell hgr10 2
              have t3 := blk_cell hgr10 3
              have t4 := blk_cell hgr10 4
              have t5 := blk_cell hgr10 5
              have s0 := blk_free hgr10 0
              have s1 := blk_free hgr10 1
              have s2 := blk_free hgr10 2
              have s3 := blk_free hgr10 3
              have s4 := blk_free hgr10 4
              have s5 := blk_free hgr10 5
              go_wp2_with fail
              clear t0 s0 t1 s1 t2 s2 t3 s3 t4 s4 t5 s5
              generalize (((((w10.setCell ⟨gr, 0, none⟩ (.int .i64 0)).setCell ⟨gr, 1, none⟩ (.slice none 0 0)).setCell ⟨gr, 2, none⟩ (.int .u64 0)).setCell ⟨gr, 3, none⟩ (.int .u64 0)).setCell ⟨gr, 4, none⟩ (.int .u64 0)).setCell ⟨gr, 5, none⟩ (.int .u64 0) = w11 at *
              obtain ⟨h6, hK11⟩ := h6
              have t0 := blk_cell h6 0
              have t1 := blk_cell h6 1
              have t2 := blk_cell h6 2
              have t3 := blk_cell h6 3
              have t4 := blk_cell h6 4
              have t5 := blk_cell h6 5
              have hup11 : Up w w11 := keepsUp hup10 (by omega) hK11
              refine bodyPost_ret (v := .tuple #[.agg #[.int .i64 0, .slice none 0 0, .int .u64 0, .int .u64 0, .int .u64 0, .int .u64 0], .bool false]) (by simp [results, Try.results9, go_sem, t0, t1, t2, t3, t4, t5]) rfl ?_
              have hR : applyR lg l f ce at_ le ds add elg ef ece eat ele = none := by
                unfold applyR
                rw [HDR.out]
                simp only []
                rw [HLG.out, ← HBO.out]; rfl
              rw [hR]
              exact ⟨rfl, hup11⟩
            · 
              have h6 := set6 w10 gr _ _ _ _ _ _ (.int .i64 lg) (.slice R5 (rn + an) (rn + an)) (.int .u64 ((updN f ef : Nat) : Int)) (.int .u64 ((updN ce ece : Nat) : Int)) (.int .u64 ((updN at_ eat : Nat) : Int)) (.int .u64 ((updN le ele : Nat) : Int)) _ hgr10
              have t0 := blk_cell hgr10 0
              have t1 := blk_cell hgr10 1
              have t2 := blk_cell hgr10 2
              have t3 := blk_cell hgr10 3
              have t4 := blk_cell hgr10 4
              have t5 := blk_cell hgr10 5
              have s0 := blk_free hgr10 0
              have s1 := blk_free hgr10 1
              have s2 := blk_free hgr10 2
              have s3 := blk_free hgr10 3
              have s4 := blk_free hgr10 4
              have s5 := blk_free hgr10 5
              have g0 := blk_cell hgo10 0
              have g1 := blk_cell hgo10 1
              have g2 := blk_cell hgo10 2
              have g3 := blk_cell hgo10 3
              have g4 := blk_cell hgo10 4
              have g5 := blk_cell hgo10 5
              go_wp2_with fail
              clear t0 s0 t1 s1 t2 s2 t3 s3 t4 s4 t5 s5 g0 g1 g2 g3 g4 g5
              generalize (((((w10.setCell ⟨gr, 0, none⟩ (.int .i64 lg)).setCell ⟨gr, 1, none⟩ (.slice R5 (rn + an) (rn + an))).setCell ⟨gr, 2, none⟩ (.int .u64 ((updN f ef : Nat) : Int))).setCell ⟨gr, 3, none⟩ (.int .u64 ((updN ce ece : Nat) : Int))).setCell ⟨gr, 4, none⟩ (.int .u64 ((updN at_ eat : Nat) : Int))).setCell ⟨gr, 5, none⟩ (.int .u64 ((updN le ele : Nat) : Int)) = w11 at *
              obtain ⟨h6, hK11⟩ := h6
              have t0 := blk_cell h6 0
              have t1 := blk_cell h6 1
              have t2 := blk_cell h6 2
              have t3 := blk_cell h6 3
              have t4 := blk_cell h6 4
              have t5 := blk_cell h6 5
              have hup11 : Up w w11 := keepsUp hup10 (by omega) hK11
              have hown11 := own_keeps6 hown10 (by omega) hK11
              refine bodyPost_ret (v := .tuple #[.agg #[.int .i64 lg, .slice R5 (rn + an) (rn + an), .int .u64 ((updN f ef : Nat) : Int), .int .u64 ((updN ce ece : Nat) : Int), .int .u64 ((updN at_ eat : Nat) : Int), .int .u64 ((updN le ele : Nat) : Int)], .bool true]) (by simp [results, Try.results9, go_sem, t0, t1, t2, t3, t4, t5]) rfl ?_
              have hR : applyR lg l f ce at_ le ds add elg ef ece eat ele = some (lg, cur ++ add, updN f ef, updN ce ece, updN at_ eat, updN le ele) := by
                unfold applyR
                rw [HDR.out]
                simp only []
                rw [HLG.out, ← HBO.out]; rfl
              rw [hR]
              exact ⟨R5, rn + an, rfl, Rd.own hown11, hup11, fun a ha => by have := own_fresh hown11 a ha; omega⟩
      · have hLG : updI lg elg = elg := by unfold updI; rw [if_neg hel]
        have helb : (elg != 0) = true := by simp [hel]
        have hsz8 : ((w5.setCell ⟨go, 1, none⟩ (.slice R5 (rn + an) (rn + an))).setCell ⟨go, 0, none⟩ (.int .i64 elg)).heap.size = w5.heap.size := by simp [World.setCell]
        have u1 := blk_cell hgo6 0
        have u2 := blk_free hgo6 0
        have hgo7 : ((w5.setCell ⟨go, 1, none⟩ (.slice R5 (rn + an) (rn + an))).setCell ⟨go, 0, none⟩ (.int .i64 elg)).heap[go]? = some (.cells #[.int .i64 elg, .slice R5 (rn + an) (rn + an), .int .u64 (f : Int), .int .u64 (ce : Int), .int .u64 (at_ : Int), .int .u64 (le : Int)] 27 (0, 0)) := setc_heap _ _ 0 _ _ _ hgo6
        have hK7 := setc_keeps (w5.setCell ⟨go, 1, none⟩ (.slice R5 (rn + an) (rn + an))) (w5.setCell ⟨go, 1, none⟩ (.slice R5 (rn + an) (rn + an))) go 0 (.int .i64 elg) (Rg.Keeps.refl _ _)
        have hed7 := (hK7.block _ (Array.getElem?_eq_some_iff.1 hed6).1 (by omega)).trans hed6
        have hgr7 := (hK7.block _ (Array.getElem?_eq_some_iff.1 hgr6).1 (by omega)).trans hgr6
        have hown7 := own_keeps6 hown6 (by omega) hK7
        have hup7 := keepsUp hup6 (by omega) hK7
        clear hed6 hgr6 hgo6 hown6 hup6 hK7
        have r4 := blk_cell hed7 3
        have r5 := blk_cell hed7 4
        have r6 := blk_cell hed7 5
        have r7 := blk_cell hed7 6
        go_wp2_with fail
        clear r1 r2 r3 r4 r5 r6 r7 u1 u2
        generalize (w5.setCell ⟨go, 1, none⟩ (.slice R5 (rn + an) (rn + an))).setCell ⟨go, 0, none⟩ (.int .i64 elg) = w8 at *
        have hed6 := hed7
        have hgr6 := hgr7
        have hgo6 := hgo7
        have hown6 := hown7
        have hup6 := hup7
        clear hed7 hgr7 hgo7 hown7 hup7
        have HLG := Lib.hid hLG
        clear hLG
        have hL9 : (w8.alloc (.cells #[.int .u64 (ef : Int), .pointer (some ⟨go, 2, none⟩), .int .u64 (ece : Int), .pointer (some ⟨go, 3, none⟩), .int .u64 (eat : Int), .pointer (some ⟨go, 4, none⟩), .int .u64 (ele : Int), .pointer (some ⟨go, 5, none⟩)] 69)).heap[w8.heap.size]? =
          some (.cells #[.int .u64 (ef : Int), .pointer (some ⟨go, 2, none⟩), .int .u64 (ece : Int), .pointer (some ⟨go, 3, none⟩), .int .u64 (eat : Int), .pointer (some ⟨go, 4, none⟩), .int .u64 (ele : Int), .pointer (some ⟨go, 5, none⟩)] 69 (0, 0)) := heap_alloc_new _ _
        have hu9 : Up w8 (w8.alloc (.cells #[.int .u64 (ef : Int), .pointer (some ⟨go, 2, none⟩), .int .u64 (ece : Int), .pointer (some ⟨go, 3, none⟩), .int .u64 (eat : Int), .pointer (some ⟨go, 4, none⟩), .int .u64 (ele : Int), .pointer (some ⟨go, 5, none⟩)] 69)) := (Up.refl w8).alloc _
        have hgr9 := (hu9.block _ (Array.getElem?_eq_some_iff.1 hgr6).1).trans hgr6
        have hgo9 := (hu9.block _ (Array.getElem?_eq_some_iff.1 hgo6).1).trans hgo6
        have hown9 := own_up hown6 hu9
        have hup9 := hup6.trans hu9
        have hgoL : ¬ w8.heap.size = go := by have := (Array.getElem?_eq_some_iff.1 hgo6).1; omega
        generalize w8.alloc (.cells #[.int .u64 (ef : Int), .pointer (some ⟨go, 2, none⟩), .int .u64 (ece : Int), .pointer (some ⟨go, 3, none⟩), .int .u64 (eat : Int), .pointer (some ⟨go, 4, none⟩), .int .u64 (ele : Int), .pointer (some ⟨go, 5, none⟩)] 69) = w9 at *
        rw [hsz8] at hL9 hgoL
        generalize w5.heap.size = gL at *
        clear hsz8 hgr6 hgo6 hown6 hup6 hed6 hu9
        go_loopw [70] (fun i wr => ∃ k : Nat, i = .int .i64 (k : Int) ∧ k ≤ 4 ∧ Up w wr ∧ wr.heap[gr]? = some (.cells #[.int .i64 0, .slice none 0 0, .int .u64 0, .int .u64 0, .int .u64 0, .int .u64 0] 27 (0, 0)) ∧
          wr.heap[go]? = some (.cells #[.int .i64 elg, .slice R5 (rn + an) (rn + an), .int .u64 ((selN 0 k f ef : Nat) : Int), .int .u64 ((selN 1 k ce ece : Nat) : Int), .int .u64 ((selN 2 k at_ eat : Nat) : Int), .int .u64 ((selN 3 k le ele : Nat) : Int)] 27 (0, 0)) ∧
          wr.heap[gL]? = some (.cells #[.int .u64 (ef : Int), .pointer (some ⟨go, 2, none⟩), .int .u64 (ece : Int), .pointer (some ⟨go, 3, none⟩), .int .u64 (eat : Int), .pointer (some ⟨go, 4, none⟩), .int .u64 (ele : Int), .pointer (some ⟨go, 5, none⟩)] 69 (0, 0)) ∧ wr.ownsRow (go + 1) 41 2 (.slice R5 (rn + an) rc5) (rn + an) (fvs (cur ++ add))) (fun i _ => 4 - (intOf i).toNat)
        case atStart => exact ⟨0, rfl, by omega, hup9, hgr9, hgo9, hL9, hown9⟩
        case round =>
          obtain ⟨k, rfl, hk4, hup, hgr, hgo, hL, hown⟩ := hrel
          clear hup9 hgr9 hgo9 hL9 hown9
          have hcases : k = 0 ∨ k = 1 ∨ k = 2 ∨ k = 3 ∨ k = 4 := by omega
          rcases hcases with rfl | rfl | rfl | rfl | rfl
          · have hgo0 : wr.heap[go]? = some (.cells #[.int .i64 elg, .slice R5 (rn + an) (rn + an), .int .u64 ((f : Nat) : Int), .int .u64 ((ce : Nat) : Int), .int .u64 ((at_ : Nat) : Int), .int .u64 ((le : Nat) : Int)] 27 (0, 0)) := hgo
            clear hgo
            have q0 := blk_cell hL 0
            have q1 := blk_cell hL 1
            have hub : Up wr (wr.alloc (.cells #[.int .u64 (ef : Int), .pointer (some ⟨go, 2, none⟩)] 69)) := (Up.refl wr).alloc _
            have hbn : (wr.alloc (.cells #[.int .u64 (ef : Int), .pointer (some ⟨go, 2, none⟩)] 69)).heap[wr.heap.size]? = some (.cells #[.int .u64 (ef : Int), .pointer (some ⟨go, 2, none⟩)] 69 (0, 0)) := heap_alloc_new _ _
            have q2 := blk_cell hbn 0
            have q3 := blk_cell hbn 1
            have hgr1 := (hub.block _ (Array.getElem?_eq_some_iff.1 hgr).1).trans hgr
            have hgo1 := (hub.block _ (Array.getElem?_eq_some_iff.1 hgo0).1).trans hgo0
            have hL1 := (hub.block _ (Array.getElem?_eq_some_iff.1 hL).1).trans hL
            have hown1 := own_up hown hub
            have hup1 := hup.trans hub
            by_cases hz : ef = 0
            · have hzb : ((ef : Int) != 0) = false := by simp [hz]
              have hzb2 : (ef != 0) = false := by simp [hz]
              have eu : updN f ef = f := by unfold updN; rw [if_pos hz]
              have HZ := Lib.hid hz
              have EU := Lib.hid eu
              clear hz eu
              go_wp2_with fail
              clear q0 q1 q2 q3
              go_roundw
              case rel =>
                refine ⟨0 + 1, by go_num, by omega, hup1, hgr1, ?_, hL1, hown1⟩
                show _ = some (Obj.cells #[.int .i64 elg, .slice R5 (rn + an) (rn + an), .int .u64 (((updN f ef) : Nat) : Int), .int .u64 ((ce : Nat) : Int), .int .u64 ((at_ : Nat) : Int), .int .u64 ((le : Nat) : Int)] 27 (0, 0))
                rw [EU.out]
                exact hgo1
              case measure => simp [intOf]
            · have hzb : ((ef : Int) != 0) = true := by simp [hz]
              have hzb2 : (ef != 0) = true := by simp [hz]
              have eu : updN f ef = ef := by unfold updN; rw [if_neg hz]
              have HZ := Lib.hid hz
              have EU := Lib.hid eu
              clear hz eu
              have q4 := blk_cell hgo1 2
              have q5 := blk_free hgo1 2
              have hgo2 : ((wr.alloc (.cells #[.int .u64 (ef : Int), .pointer (some ⟨go, 2, none⟩)] 69)).setCell ⟨go, 2, none⟩ (.int .u64 (ef : Int))).heap[go]? = some (.cells #[.int .i64 elg, .slice R5 (rn + an) (rn + an), .int .u64 ((ef : Nat) : Int), .int .u64 ((ce : Nat) : Int), .int .u64 ((at_ : Nat) : Int), .int .u64 ((le : Nat) : Int)] 27 (0, 0)) := setc_heap _ _ 2 _ _ _ hgo1
              have hK2 := setc_keeps (wr.alloc (.cells #[.int .u64 (ef : Int), .pointer (some ⟨go, 2, none⟩)] 69)) (wr.alloc (.cells #[.int .u64 (ef : Int), .pointer (some ⟨go, 2, none⟩)] 69)) go 2 (.int .u64 (ef : Int)) (Rg.Keeps.refl _ _)
              have hgr2 := (hK2.block _ (Array.getElem?_eq_some_iff.1 hgr1).1 (by omega)).trans hgr1
              have hL2 := (hK2.block _ (Array.getElem?_eq_some_iff.1 hL1).1 hgoL).trans hL1
              have hown2 := own_keeps6 hown1 (by omega) hK2
              have hup2 := keepsUp hup1 (by omega) hK2
              go_wp2_with fail
              clear q0 q1 q2 q3 q4 q5
              go_roundw
              case rel =>
                refine ⟨0 + 1, by go_num, by omega, hup2, hgr2, ?_, hL2, hown2⟩
                show _ = some (Obj.cells #[.int .i64 elg, .slice R5 (rn + an) (rn + an), .int .u64 (((updN f ef) : Nat) : Int), .int .u64 ((ce : Nat) : Int), .int .u64 ((at_ : Nat) : Int), .int .u64 ((le : Nat) : Int)] 27 (0, 0))
                rw [EU.out]
                exact hgo2
              case measure => simp [intOf]
          · have hgo0 : wr.heap[go]? = some (.cells #[.int .i64 elg, .slice R5 (rn + an) (rn + an), .int .u64 (((updN f ef) : Nat) : Int), .int .u64 ((ce : Nat) : Int), .int .u64 ((at_ : Nat) : Int), .int .u64 ((le : Nat) : Int)] 27 (0, 0)) := hgo
            clear hgo
            have q0 := blk_cell hL 2
            have q1 := blk_cell hL 3
            have hub : Up wr (wr.alloc (.cells #[.int .u64 (ece : Int), .pointer (some ⟨go, 3, none⟩)] 69)) := (Up.refl wr).alloc _
            have hbn : (wr.alloc (.cells #[.int .u64 (ece : Int), .pointer (some ⟨go, 3, none⟩)] 69)).heap[wr.heap.size]? = some (.cells #[.int .u64 (ece : Int), .pointer (some ⟨go, 3, none⟩)] 69 (0, 0)) := heap_alloc_new _ _
            have q2 := blk_cell hbn 0
            have q3 := blk_cell hbn 1
            have hgr1 := (hub.block _ (Array.getElem?_eq_some_iff.1 hgr).1).trans hgr
            have hgo1 := (hub.block _ (Array.getElem?_eq_some_iff.1 hgo0).1).trans hgo0
            have hL1 := (hub.block _ (Array.getElem?_eq_some_iff.1 hL).1).trans hL
            have hown1 := own_up hown hub
            have hup1 := hup.trans hub
            by_cases hz : ece = 0
            · have hzb : ((ece : Int) != 0) = false := by simp [hz]
              have hzb2 : (ece != 0) = false := by simp [hz]
              have eu : updN ce ece = ce := by unfold updN; rw [if_pos hz]
              have HZ := Lib.hid hz
              have EU := Lib.hid eu
              clear hz eu
              go_wp2_with fail
              clear q0 q1 q2 q3
              go_roundw
              case rel =>
                refine ⟨1 + 1, by go_num, by omega, hup1, hgr1, ?_, hL1, hown1⟩
                show _ = some (Obj.cells #[.int .i64 elg, .slice R5 (rn + an) (rn + an), .int .u64 (((updN f ef) : Nat) : Int), .int .u64 (((updN ce ece) : Nat) : Int), .int .u64 ((at_ : Nat) : Int), .int .u64 ((le : Nat) : Int)] 27 (0, 0))
                rw [EU.out]
                exact hgo1
              case measure => simp [intOf]
            · have hzb : ((ece : Int) != 0) = true := by simp [hz]
              have hzb2 : (ece != 0) = true := by simp [hz]
              have eu : updN ce ece = ece := by unfold updN; rw [if_neg hz]
              have HZ := Lib.hid hz
              have EU := Lib.hid eu
              clear hz eu
              have q4 := blk_cell hgo1 3
              have q5 := blk_free hgo1 3
              have hgo2 : ((wr.alloc (.cells #[.int .u64 (ece : Int), .pointer (some ⟨go, 3, none⟩)] 69)).setCell ⟨go, 3, none⟩ (.int .u64 (ece : Int))).heap[go]? = some (.cells #[.int .i64 elg, .slice R5 (rn + an) (rn + an), .int .u64 (((updN f ef) : Nat) : Int), .int .u64 ((ece : Nat) : Int), .int .u64 ((at_ : Nat) : Int), .int .u64 ((le : Nat) : Int)] 27 (0, 0)) := setc_heap _ _ 3 _ _ _ hgo1
              have hK2 := setc_keeps (wr.alloc (.cells #[.int .u64 (ece : Int), .pointer (some ⟨go, 3, none⟩)] 69)) (wr.alloc (.cells #[.int .u64 (ece : Int), .pointer (some ⟨go, 3, none⟩)] 69)) go 3 (.int .u64 (ece : Int)) (Rg.Keeps.refl _ _)
              have hgr2 := (hK2.block _ (Array.getElem?_eq_some_iff.1 hgr1).1 (by omega)).trans hgr1
              have hL2 := (hK2.block _ (Array.getElem?_eq_some_iff.1 hL1).1 hgoL).trans hL1
              have hown2 := own_keeps6 hown1 (by omega) hK2
              have hup2 := keepsUp hup1 (by omega) hK2
              go_wp2_with fail
              clear q0 q1 q2 q3 q4 q5
              go_roundw
              case rel =>
                refine ⟨1 + 1, by go_num, by omega, hup2, hgr2, ?_, hL2, hown2⟩
                show _ = some (Obj.cells #[.int .i64 elg, .slice R5 (rn + an) (rn + an), .int .u64 (((updN f ef) : Nat) : Int), .int .u64 (((updN ce ece) : Nat) : Int), .int .u64 ((at_ : Nat) : Int), .int .u64 ((le : Nat) : Int)] 27 (0, 0))
                rw [EU.out]
                exact hgo2
              case measure => simp [intOf]
          · have hgo0 : wr.heap[go]? = some (.cells #[.int .i64 elg, .slice R5 (rn + an) (rn + an), .int .u64 (((updN f ef) : Nat) : Int), .int .u64 (((updN ce ece) : Nat) : Int), .int .u64 ((at_ : Nat) : Int), .int .u64 ((le : Nat) : Int)] 27 (0, 0)) := hgo
            clear hgo
            have q0 := blk_cell hL 4
            have q1 := blk_cell hL 5
            have hub : Up wr (wr.alloc (.cells #[.int .u64 (eat : Int), .pointer (some ⟨go, 4, none⟩)] 69)) := (Up.refl wr).alloc _
            have hbn : (wr.alloc (.cells #[.int .u64 (eat : Int), .pointer (some ⟨go, 4, none⟩)] 69)).heap[wr.heap.size]? = some (.cells #[.int .u64 (eat : Int), .pointer (some ⟨go, 4, none⟩)] 69 (0, 0)) := heap_alloc_new _ _
            have q2 := blk_cell hbn 0
            have q3 := blk_cell hbn 1
            have hgr1 := (hub.block _ (Array.getElem?_eq_some_iff.1 hgr).1).trans hgr
            have hgo1 := (hub.block _ (Array.getElem?_eq_some_iff.1 hgo0).1).trans hgo0
            have hL1 := (hub.block _ (Array.getElem?_eq_some_iff.1 hL).1).trans hL
            have hown1 := own_up hown hub
            have hup1 := hup.trans hub
            by_cases hz : eat = 0
            · have hzb : ((eat : Int) != 0) = false := by simp [hz]
              have hzb2 : (eat != 0) = false := by simp [hz]
              have eu : updN at_ eat = at_ := by unfold updN; rw [if_pos hz]
              have HZ := Lib.hid hz
              have EU := Lib.hid eu
              clear hz eu
              go_wp2_with fail
              clear q0 q1 q2 q3
              go_roundw
              case rel =>
                refine ⟨2 + 1, by go_num, by omega, hup1, hgr1, ?_, hL1, hown1⟩
                show _ = some (Obj.cells #[.int .i64 elg, .slice R5 (rn + an) (rn + an), .int .u64 (((updN f ef) : Nat) : Int), .int .u64 (((updN ce ece) : Nat) : Int), .int .u64 (((updN at_ eat) : Nat) : Int), .int .u64 ((le : Nat) : Int)] 27 (0, 0))
                rw [EU.out]
                exact hgo1
              case measure => simp [intOf]
            · have hzb : ((eat : Int) != 0) = true := by simp [hz]
              have hzb2 : (eat != 0) = true := by simp [hz]
              have eu : updN at_ eat = eat := by unfold updN; rw [if_neg hz]
              have HZ := Lib.hid hz
              have EU := Lib.hid eu
              clear hz eu
              have q4 := blk_cell hgo1 4
              have q5 := blk_free hgo1 4
              have hgo2 : ((wr.alloc (.cells #[.int .u64 (eat : Int), .pointer (some ⟨go, 4, none⟩)] 69)).setCell ⟨go, 4, none⟩ (.int .u64 (eat : Int))).heap[go]? = some (.cells #[.int .i64 elg, .slice R5 (rn + an) (rn + an), .int .u64 (((updN f ef) : Nat) : Int), .int .u64 (((updN ce ece) : Nat) : Int), .int .u64 ((eat : Nat) : Int), .int .u64 ((le : Nat) : Int)] 27 (0, 0)) := setc_heap _ _ 4 _ _ _ hgo1
              have hK2 := setc_keeps (wr.alloc (.cells #[.int .u64 (eat : Int), .pointer (some ⟨go, 4, none⟩)] 69)) (wr.alloc (.cells #[.int .u64 (eat : Int), .pointer (some ⟨go, 4, none⟩)] 69)) go 4 (.int .u64 (eat : Int)) (Rg.Keeps.refl _ _)
              have hgr2 := (hK2.block _ (Array.getElem?_eq_some_iff.1 hgr1).1 (by omega)).trans hgr1
              have hL2 := (hK2.block _ (Array.getElem?_eq_some_iff.1 hL1).1 hgoL).trans hL1
              have hown2 := own_keeps6 hown1 (by omega) hK2
              have hup2 := keepsUp hup1 (by omega) hK2
              go_wp2_with fail
              clear q0 q1 q2 q3 q4 q5
              go_roundw
              case rel =>
                refine ⟨2 + 1, by go_num, by omega, hup2, hgr2, ?_, hL2, hown2⟩
                show _ = some (Obj.cells #[.int .i64 elg, .slice R5 (rn + an) (rn + an), .int .u64 (((updN f ef) : Nat) : Int), .int .u64 (((updN ce ece) : Nat) : Int), .int .u64 (((updN at_ eat) : Nat) : Int), .int .u64 ((le : Nat) : Int)] 27 (0, 0))
                rw [EU.out]
                exact hgo2
              case measure => simp [intOf]
          · have hgo0 : wr.heap[go]? = some (.cells #[.int .i64 elg, .slice R5 (rn + an) (rn + an), .int .u64 (((updN f ef) : Nat) : Int), .int .u64 (((updN ce ece) : Nat) : Int), .int .u64 (((updN at_ eat) : Nat) : Int), .int .u64 ((le : Nat) : Int)] 27 (0, 0)) := hgo
            clear hgo
            have q0 := blk_cell hL 6
            have q1 := blk_cell hL 7
            have hub : Up wr (wr.alloc (.cells #[.int .u64 (ele : Int), .pointer (some ⟨go, 5, none⟩)] 69)) := (Up.refl wr).alloc _
            have hbn : (wr.alloc (.cells #[.int .u64 (ele : Int), .pointer (some ⟨go, 5, none⟩)] 69)).heap[wr.heap.size]? = some (.cells #[.int .u64 (ele : Int), .pointer (some ⟨go, 5, none⟩)] 69 (0, 0)) := heap_alloc_new _ _
            have q2 := blk_cell hbn 0
            have q3 := blk_cell hbn 1
            have hgr1 := (hub.block _ (Array.getElem?_eq_some_iff.1 hgr).1).trans hgr
            have hgo1 := (hub.block _ (Array.getElem?_eq_some_iff.1 hgo0).1).trans hgo0
            have hL1 := (hub.block _ (Array.getElem?_eq_some_iff.1 hL).1).trans hL
            have hown1 := own_up hown hub
            have hup1 := hup.trans hub
            by_cases hz : ele = 0
            · have hzb : ((ele : Int) != 0) = false := by simp [hz]
              have hzb2 : (ele != 0) = false := by simp [hz]
              have eu : updN le ele = le := by unfold updN; rw [if_pos hz]
              have HZ := Lib.hid hz
              have EU := Lib.hid eu
              clear hz eu
              go_wp2_with fail
              clear q0 q1 q2 q3
              go_roundw
              case rel =>
                refine ⟨3 + 1, by go_num, by omega, hup1, hgr1, ?_, hL1, hown1⟩
                show _ = some (Obj.cells #[.int .i64 elg, .slice R5 (rn + an) (rn + an), .int .u64 (((updN f ef) : Nat) : Int), .int .u64 (((updN ce ece) : Nat) : Int), .int .u64 (((updN at_ eat) : Nat) : Int), .int .u64 (((updN le ele) : Nat) : Int)] 27 (0, 0))
                rw [EU.out]
                exact hgo1
              case measure => simp [intOf]
            · have hzb : ((ele : Int) != 0) = true := by simp [hz]
              have hzb2 : (ele != 0) = true := by simp [hz]
              have eu : updN le ele = ele := by unfold updN; rw [if_neg hz]
              have HZ := Lib.hid hz
              have EU := Lib.hid eu
              clear hz eu
              have q4 := blk_cell hgo1 5
              have q5 := blk_free hgo1 5
              have hgo2 : ((wr.alloc (.cells #[.int .u64 (ele : Int), .pointer (some ⟨go, 5, none⟩)] 69)).setCell ⟨go, 5, none⟩ (.int .u64 (ele : Int))).heap[go]? = some (.cells #[.int .i64 elg, .slice R5 (rn + an) (rn + an), .int .u64 (((updN f ef) : Nat) : Int), .int .u64 (((updN ce ece) : Nat) : Int), .int .u64 (((updN at_ eat) : Nat) : Int), .int .u64 ((ele : Nat) : Int)] 27 (0, 0)) := setc_heap _ _ 5 _ _ _ hgo1
              have hK2 := setc_keeps (wr.alloc (.cells #[.int .u64 (ele : Int), .pointer (some ⟨go, 5, none⟩)] 69)) (wr.alloc (.cells #[.int .u64 (ele : Int), .pointer (some ⟨go, 5, none⟩)] 69)) go 5 (.int .u64 (ele : Int)) (Rg.Keeps.refl _ _)
              have hgr2 := (hK2.block _ (Array.getElem?_eq_some_iff.1 hgr1).1 (by omega)).trans hgr1
              have hL2 := (hK2.block _ (Array.getElem?_eq_some_iff.1 hL1).1 hgoL).trans hL1
              have hown2 := own_keeps6 hown1 (by omega) hK2
              have hup2 := keepsUp hup1 (by omega) hK2
              go_wp2_with fail
              clear q0 q1 q2 q3 q4 q5
              go_roundw
              case rel =>
                refine ⟨3 + 1, by go_num, by omega, hup2, hgr2, ?_, hL2, hown2⟩
                show _ = some (Obj.cells #[.int .i64 elg, .slice R5 (rn + an) (rn + an), .int .u64 (((updN f ef) : Nat) : Int), .int .u64 (((updN ce ece) : Nat) : Int), .int .u64 (((updN at_ eat) : Nat) : Int), .int .u64 (((updN le ele) : Nat) : Int)] 27 (0, 0))
                rw [EU.out]
                exact hgo2
              case measure => simp [intOf]
          · have hgo0 : wr.heap[go]? = some (.cells #[.int .i64 elg, .slice R5 (rn + an) (rn + an), .int .u64 ((updN f ef : Nat) : Int), .int .u64 ((updN ce ece : Nat) : Int), .int .u64 ((updN at_ eat : Nat) : Int), .int .u64 ((updN le ele : Nat) : Int)] 27 (0, 0)) := hgo
            clear hgo
            have q0 := blk_cell hgo0 0
            have q1 := blk_cell hgo0 1
            have q2 := blk_cell hgo0 2
            have q3 := blk_cell hgo0 3
            have q4 := blk_cell hgo0 4
            have q5 := blk_cell hgo0 5
            go_wp2_with fail
            clear q0 q1 q2 q3 q4 q5
            refine (vok_any elg R5 (rn + an) (rn + an) (cur ++ add) (updN f ef) (updN ce ece) (updN at_ eat) (updN le ele) wr (Rd.own hown) (Nat.le_refl _) (by omega)).mono ?_
            rintro e w10 ⟨rfl, hu10⟩
            have hgr10 := (hu10.block _ (Array.getElem?_eq_some_iff.1 hgr).1).trans hgr
            have hgo10 := (hu10.block _ (Array.getElem?_eq_some_iff.1 hgo0).1).trans hgo0
            have hown10 := own_up hown hu10
            have hup10 := hup.trans hu10
            clear hgr hgo0 hown hup hu10 hL
            obtain ⟨bo, hbo⟩ : ∃ bo, bo = viewOk elg (cur ++ add) (updN f ef) (updN ce ece) (updN at_ eat) (updN le ele) := ⟨_, rfl⟩
            rw [← hbo]
            have HBO := Lib.hid hbo
            clear hbo
            cases bo
            · clear hgo10 hown10
              have h6 := set6 w10 gr _ _ _ _ _ _ (.int .i64 0) (.slice none 0 0) (.int .u64 0) (.int .u64 0) (.int .u64 0) (.int .u64 0) _ hgr10
              have t0 := blk_cell hgr10 0
              have t1 := blk_cell hgr10 1
              have t2 := blk_cell hgr10 2
              have t3 := blk_cell hgr10 3
              have t4 := blk_cell hgr10 4
              have t5 := blk_cell hgr10 5
              have s0 := blk_free hgr10 0
              have s1 := blk_free hgr10 1
              have s2 := blk_free hgr10 2
              have s3 := blk_free hgr10 3
              have s4 := blk_free hgr10 4
              have s5 := blk_free hgr10 5
              go_wp2_with fail
              clear t0 s0 t1 s1 t2 s2 t3 s3 t4 s4 t5 s5
              generalize (((((w10.setCell ⟨gr, 0, none⟩ (.int .i64 0)).setCell ⟨gr, 1, none⟩ (.slice none 0 0)).setCell ⟨gr, 2, none⟩ (.int .u64 0)).setCell ⟨gr, 3, none⟩ (.int .u64 0)).setCell ⟨gr, 4, none⟩ (.int .u64 0)).setCell ⟨gr, 5, none⟩ (.int .u64 0) = w11 at *
              obtain ⟨h6, hK11⟩ := h6
              have t0 := blk_cell h6 0
              have t1 := blk_cell h6 1
              have t2 := blk_cell h6 2
              have t3 := blk_cell h6 3
              have t4 := blk_cell h6 4
              have t5 := blk_cell h6 5
              have hup11 : Up w w11 := keepsUp hup10 (by omega) hK11
              refine bodyPost_ret (v := .tuple #[.agg #[.int .i64 0, .slice none 0 0, .int .u64 0, .int .u64 0, .int .u64 0, .int .u64 0], .bool false]) (by simp [results, Try.results9, go_sem, t0, t1, t2, t3, t4, t5]) rfl ?_
              have hR : applyR lg l f ce at_ le ds add elg ef ece eat ele = none := by
                unfold applyR
                rw [HDR.out]
                simp only []
                rw [HLG.out, ← HBO.out]; rfl
              rw [hR]
              exact ⟨rfl, hup11⟩
            · 
              have h6 := set6 w10 gr _ _ _ _ _ _ (.int .i64 elg) (.slice R5 (rn + an) (rn + an)) (.int .u64 ((updN f ef : Nat) : Int)) (.int .u64 ((updN ce ece : Nat) : Int)) (.int .u64 ((updN at_ eat : Nat) : Int)) (.int .u64 ((updN le ele : Nat) : Int)) _ hgr10
              have t0 := blk_cell hgr10 0
              have t1 := blk_cell hgr10 1
              have t2 := blk_cell hgr10 2
              have t3 := blk_cell hgr10 3
              have t4 := blk_cell hgr10 4
              have t5 := blk_cell hgr10 5
              have s0 := blk_free hgr10 0
              have s1 := blk_free hgr10 1
              have s2 := blk_free hgr10 2
              have s3 := blk_free hgr10 3
              have s4 := blk_free hgr10 4
              have s5 := blk_free hgr10 5
              have g0 := blk_cell hgo10 0
              have g1 := blk_cell hgo10 1
              have g2 := blk_cell hgo10 2
              have g3 := blk_cell hgo10 3
              have g4 := blk_cell hgo10 4
              have g5 := blk_cell hgo10 5
              go_wp2_with fail
              clear t0 s0 t1 s1 t2 s2 t3 s3 t4 s4 t5 s5 g0 g1 g2 g3 g4 g5
              generalize (((((w10.setCell ⟨gr, 0, none⟩ (.int .i64 elg)).setCell ⟨gr, 1, none⟩ (.slice R5 (rn + an) (rn + an))).setCell ⟨gr, 2, none⟩ (.int .u64 ((updN f ef : Nat) : Int))).setCell ⟨gr, 3, none⟩ (.int .u64 ((updN ce ece : Nat) : Int))).setCell ⟨gr, 4, none⟩ (.int .u64 ((updN at_ eat : Nat) : Int))).setCell ⟨gr, 5, none⟩ (.int .u64 ((updN le ele : Nat) : Int)) = w11 at *
              obtain ⟨h6, hK11⟩ := h6
              have t0 := blk_cell h6 0
              have t1 := blk_cell h6 1
              have t2 := blk_cell h6 2
              have t3 := blk_cell h6 3
              have t4 := blk_cell h6 4
              have t5 := blk_cell h6 5
              have hup11 : Up w w11 := keepsUp hup10 (by omega) hK11
              have hown11 := own_keeps6 hown10 (by omega) hK11
              refine bodyPost_ret (v := .tuple #[.agg #[.int .i64 elg, .slice R5 (rn + an) (rn + an), .int .u64 ((updN f ef : Nat) : Int), .int .u64 ((updN ce ece : Nat) : Int), .int .u64 ((updN at_ eat : Nat) : Int), .int .u64 ((updN le ele : Nat) : Int)], .bool true]) (by simp [results, Try.results9, go_sem, t0, t1, t2, t3, t4, t5]) rfl ?_
              have hR : applyR lg l f ce at_ le ds add elg ef ece eat ele = some (elg, cur ++ add, updN f ef, updN ce ece, updN at_ eat, updN le ele) := by
                unfold applyR
                rw [HDR.out]
                simp only []
                rw [HLG.out, ← HBO.out]; rfl
              rw [hR]
              exact ⟨R5, rn + an, rfl, Rd.own hown11, hup11, fun a ha => by have := own_fresh hown11 a ha; omega⟩
end Go.Proofs.Ytokcaoaclheiiaa

/-
  The walk of edit.may.
-/
namespace Go.Proofs.Ytokcaoaclheiiaa
open Go.RowKit
set_option linter.unusedVariables false
set_option linter.unusedSimpArgs false

def mayE (ds : List Int) (add : List Fl) (lg : Int) (f ce at_ le : Nat) : Bool :=
  decide (ds.length ≤ 40) && (decide (add.length ≤ 40) && (decide (0 ≤ lg) && (decide (lg ≤ 1073741824) && ([f, ce, at_, le].all verOk && (ds.all numOk && add.all fileOk)))))

set_option maxRecDepth 100000 in
theorem may1_any (n : Int) (w : World) : Calls Try.prog 55 #[.int .i64 n] w fun e w' => e = .returned (.bool (!numOk n)) ∧ Up w w' := by
  go_enter Try.func55, Try.ntmps55
  go_wp2_with fail
  refine (isNum_any n w).mono ?_
  rintro e w2 ⟨rfl, hu⟩
  go_wp2_with fail
  go_ret
  exact ⟨rfl, hu⟩
set_option maxRecDepth 100000 in
theorem may2_any (x y : Int) (w : World) : Calls Try.prog 56 #[.agg #[.int .i64 x, .int .i64 y]] w fun e w' => e = .returned (.bool (!fileOk (x, y))) ∧ Up w w' := by
  have h0 : Up w (w.alloc (.cells #[.int .i64 x, .int .i64 y] 41)) := (Up.refl w).alloc _
  go_enter Try.func56, Try.ntmps56
  go_wp2_with fail
  refine (isFile_any x y _).mono ?_
  rintro e w2 ⟨rfl, hu⟩
  go_wp2_with fail
  go_ret
  exact ⟨rfl, h0.trans hu⟩
set_option maxRecDepth 100000 in
set_option maxHeartbeats 800000 in
theorem ixn_any (A : Option Addr) (n c : Nat) (l : List Int) (w : World) (hr : Rd w w.heap.size 1 A n (nmv l)) (hn : n ≤ 9223372036854775807) :
    Calls Try.prog 64 #[.slice A n c, .func (.func 55) #[] #[]] w fun e w' => e = .returned (.int .i64 (ixI (fun n => !numOk n) l)) ∧ Up w w' := by
  have HL := Lib.hid (show n = l.length by have := hr.1; rw [nmv_len] at this; omega)
  go_enter Try.func64, Try.ntmps64
  go_wp2_with fail
  go_loopw [8] (fun i wr => ∃ k : Nat, i = .int .i64 (k : Int) ∧ k ≤ n ∧ Hid (∀ j (hj : j < k) (hl : j < l.length), numOk l[j] = true) ∧ Up w wr) (fun i _ => n - (intOf i).toNat)
  case atStart => exact ⟨0, rfl, by omega, fun j hj => absurd hj (Nat.not_lt_zero _), Up.refl _⟩
  case round =>
    obtain ⟨k, rfl, hk, hall, hu⟩ := hrel
    by_cases hlt : k < n
    · have hkl : k < l.length := by have := HL.out; omega
      obtain ⟨b, o, rfl, hb, hc⟩ := hr.2 (by omega)
      have hck : wr.cell? ⟨b, o + k, none⟩ = some (.int .i64 l[k]) := (hu.cell (p := ⟨b, o + k, none⟩) hb).trans (hc k _ (by simp [nmv, hkl]))
      obtain ⟨x, hx⟩ : ∃ x, x = l[k] := ⟨_, rfl⟩
      rw [← hx] at hck
      have HX := Lib.hid hx
      clear hx hc
      go_wp2_with fail
      refine (may1_any x wr).mono ?_
      rintro e w2 ⟨rfl, hu2⟩
      obtain ⟨q, hq⟩ : ∃ q, q = numOk x := ⟨_, rfl⟩
      rw [← hq]
      have HQ := Lib.hid hq
      clear hck hq
      cases q
      · go_wp2_with fail
        go_ret
        refine ⟨?_, hu.trans hu2⟩
        rw [ixI_hit (k := k) hkl (fun j hj => by rw [hall.out j hj (by omega)]; rfl) (by rw [← HX.out, ← HQ.out]; rfl)]
        rfl
      · go_wp2_with fail
        go_roundw
        case rel =>
          refine ⟨k + 1, by go_num, by omega, ?_, hu.trans hu2⟩
          intro j hj hl
          by_cases hjk : j = k
          · subst hjk; rw [← HX.out, ← HQ.out]
          · exact hall.out j (by omega) hl
        case measure => simp [intOf]; omega
    · go_wp2_with fail
      go_ret
      refine ⟨?_, hu⟩
      rw [ixI_miss (fun j hj => by rw [hall.out j (by have := HL.out; omega) hj]; rfl)]
      rfl
set_option maxRecDepth 100000 in
theorem ctn_any (A : Option Addr) (n c : Nat) (l : List Int) (w : World) (hr : Rd w w.heap.size 1 A n (nmv l)) (hn : n ≤ 9223372036854775807) :
    Calls Try.prog 54 #[.slice A n c, .func (.func 55) #[] #[]] w fun e w' => e = .returned (.bool (!l.all numOk)) ∧ Up w w' := by
  have hany := ixI_any (fun n => !numOk n) l
  have hall : (l.any fun n => !numOk n) = !l.all numOk := by rw [List.not_all_eq_any_not]
  have HA := Lib.hid (hany.trans hall)
  clear hany hall
  go_enter Try.func54, Try.ntmps54
  go_wp2_with fail
  refine (ixn_any A n c l w hr hn).mono ?_
  rintro e w1 ⟨rfl, hu⟩
  generalize ixI (fun n => !numOk n) l = z at *
  go_wp2_with fail
  go_ret
  refine ⟨retb ?_, hu⟩
  rw [← HA.out]
set_option maxRecDepth 100000 in
set_option maxHeartbeats 1600000 in
theorem mayE_any (D : Option Addr) (dn dc : Nat) (ds : List Int) (A : Option Addr) (an ac : Nat) (add : List Fl) (lg : Int) (f ce at_ le : Nat) (w : World)
    (hd : Rd w w.heap.size 1 D dn (nmv ds)) (hdn : dn ≤ 9223372036854775807) (ha : Rd w w.heap.size 2 A an (fvs add)) (han : an ≤ 9223372036854775807) :
    Calls Try.prog 42 #[.agg #[.slice D dn dc, .slice A an ac, .int .i64 lg, .int .u64 (f : Int), .int .u64 (ce : Int), .int .u64 (at_ : Int), .int .u64 (le : Int)]] w fun e w' => e = .returned (.bool (mayE ds add lg f ce at_ le)) ∧ Up w w' := by
  have hv : mayE ds add lg f ce at_ le = (decide (dn ≤ 40) && (decide (an ≤ 40) && (decide (0 ≤ lg) && (decide (lg ≤ 1073741824) && ([f, ce, at_, le].all verOk && (ds.all numOk && add.all fileOk)))))) := by
    have h1 : dn = ds.length := by have := hd.1; rw [nmv_len] at this; omega
    have h2 := ha.flen
    unfold mayE; rw [h1, h2]
  have HV := Lib.hid hv
  clear hv
  obtain ⟨w1, hw1⟩ : ∃ w1, w1 = w.alloc (.cells #[.slice D dn dc, .slice A an ac, .int .i64 lg, .int .u64 (f : Int), .int .u64 (ce : Int), .int .u64 (at_ : Int), .int .u64 (le : Int)] 32) := ⟨_, rfl⟩
  have hup : Up w w1 := by rw [hw1]; exact (Up.refl w).alloc _
  have hb : w1.heap[w.heap.size]? = some (.cells #[.slice D dn dc, .slice A an ac, .int .i64 lg, .int .u64 (f : Int), .int .u64 (ce : Int), .int .u64 (at_ : Int), .int .u64 (le : Int)] 32 (0, 0)) := by rw [hw1]; exact heap_alloc_new w _
  have hd1 := hd.up hup
  have ha1 := ha.up hup
  clear hd ha
  have HW := Lib.hid hw1
  clear hw1
  by_cases k1 : dn ≤ 40
  · by_cases k2 : an ≤ 40
    · by_cases k3 : 0 ≤ lg
      · by_cases k4 : lg ≤ 1073741824
        · have d1 : (dn : Int) ≤ 40 := by omega
          have d2 : (an : Int) ≤ 40 := by omega
          have hm : Rd (w1.alloc (.cells #[.int .u64 (f : Int), .int .u64 (ce : Int), .int .u64 (at_ : Int), .int .u64 (le : Int)] 22)) (w1.alloc (.cells #[.int .u64 (f : Int), .int .u64 (ce : Int), .int .u64 (at_ : Int), .int .u64 (le : Int)] 22)).heap.size 1 (some ⟨w1.heap.size, 0, none⟩) 4 (uqs [f, ce, at_, le]) :=
            Rd.made w1 #[.int .u64 (f : Int), .int .u64 (ce : Int), .int .u64 (at_ : Int), .int .u64 (le : Int)] 22 rfl
          have hu3 : Up w1 (w1.alloc (.cells #[.int .u64 (f : Int), .int .u64 (ce : Int), .int .u64 (at_ : Int), .int .u64 (le : Int)] 22)) := (Up.refl w1).alloc _
          go_enter Try.func42, Try.ntmps42
          go_wp2_with fail
          have hsz : w1.heap.size = w.heap.size + 1 := by rw [HW.out]; simp
          rw [hsz] at hm
          rw [← HW.out]
          clear HW hsz
          generalize w1.alloc (.cells #[.int .u64 (f : Int), .int .u64 (ce : Int), .int .u64 (at_ : Int), .int .u64 (le : Int)] 22) = w3 at *
          generalize w.heap.size = gv at hb hm ⊢
          refine (meta_any _ 4 4 [f, ce, at_, le] w3 hm (by omega)).mono ?_
          rintro e w4 ⟨rfl, hu4⟩
          have hb4 := ((hu3.trans hu4).block _ (Array.getElem?_eq_some_iff.1 hb).1).trans hb
          have hd4 := hd1.up (hu3.trans hu4)
          have ha4 := ha1.up (hu3.trans hu4)
          have hup4 := hup.trans (hu3.trans hu4)
          generalize [f, ce, at_, le].all verOk = bm at *
          clear hb hm hu3 hu4 hd1 ha1 hup
          cases bm
          · clear hb4
            go_wp2_with fail
            go_ret
            refine ⟨retb ?_, hup4⟩
            rw [HV.out]
            simp
          · have t0 := blk_cell hb4 0
            go_wp2_with fail
            clear t0
            refine (ctn_any D dn dc ds w4 hd4 hdn).mono ?_
            rintro e w5 ⟨rfl, hu5⟩
            have hb5 := (hu5.block _ (Array.getElem?_eq_some_iff.1 hb4).1).trans hb4
            have ha5 := ha4.up hu5
            have hup5 := hup4.trans hu5
            generalize ds.all numOk = bn at *
            clear hb4 ha4 hup4 hu5 hd4
            cases bn
            · clear hb5
              go_wp2_with fail
              go_ret
              refine ⟨retb ?_, hup5⟩
              rw [HV.out]
              simp
            · have t1 := blk_cell hb5 1
              go_wp2_with fail
              clear t1
              refine (conf_any 56 #[] (fun x => !fileOk x) A an ac add w5 ha5 han (fun _ _ => rfl) (fun W x _ => may2_any x.1 x.2 W)).mono ?_
              rintro e w6 ⟨rfl, hu6⟩
              have hal : (add.any fun x => !fileOk x) = !add.all fileOk := by rw [List.not_all_eq_any_not]
              rw [hal]
              generalize add.all fileOk = bf at *
              go_wp2_with fail
              go_ret
              refine ⟨retb ?_, hup5.trans hu6⟩
              rw [HV.out]
              cases bf <;> (simp [k1, k2, k3, k4] <;> omega)
        · have d1 : (dn : Int) ≤ 40 := by omega
          have d2 : (an : Int) ≤ 40 := by omega
          go_enter Try.func42, Try.ntmps42
          go_wp2_with fail
          rw [← HW.out]
          go_ret
          refine ⟨retb ?_, hup⟩
          rw [HV.out]
          first | (simp [*]; done) | (simp [*]; omega)
      · have d1 : (dn : Int) ≤ 40 := by omega
        have d2 : (an : Int) ≤ 40 := by omega
        go_enter Try.func42, Try.ntmps42
        go_wp2_with fail
        rw [← HW.out]
        go_ret
        refine ⟨retb ?_, hup⟩
        rw [HV.out]
        first | (simp [*]; done) | (simp [*]; omega)
    · have d1 : (dn : Int) ≤ 40 := by omega
      have d2 : ¬ (an : Int) ≤ 40 := by omega
      go_enter Try.func42, Try.ntmps42
      go_wp2_with fail
      rw [← HW.out]
      go_ret
      refine ⟨retb ?_, hup⟩
      rw [HV.out]
      first | (simp [*]; done) | (simp [*]; omega)
  · have d1 : ¬ (dn : Int) ≤ 40 := by omega
    go_enter Try.func42, Try.ntmps42
    go_wp2_with fail
    rw [← HW.out]
    go_ret
    refine ⟨retb ?_, hup⟩
    rw [HV.out]
    first | (simp [*]; done) | (simp [*]; omega)
end Go.Proofs.Ytokcaoaclheiiaa

/-
  Rows of numbers of the call's own.
-/
namespace Go.Proofs.Ytokcaoaclheiiaa
open Go.RowKit
set_option linter.unusedVariables false

theorem numsT : SlT Try.prog 75 22 1 8 := SlT.mk' Try.underlying75 (z := .int .u64 0) (by kernel_rfl) rfl (by decide)
def OwnQ (w : World) (base : Nat) (A : Option Addr) (n c : Nat) (l : List UInt64) : Prop := w.ownsRow base 22 1 (.slice A n c) n (qvs l)
section
variable {w w' : World} {base n c : Nat} {A : Option Addr} {q : List UInt64}
theorem OwnQ.rd (h : OwnQ w base A n c q) : Rd w w.heap.size 1 A n (qvs q) := Rd.own h
theorem OwnQ.len (h : OwnQ w base A n c q) : n = q.length := by have := h.1; simp only [qvs_length] at this; omega
theorem OwnQ.up (h : OwnQ w base A n c q) (hu : Up w w') : OwnQ w' base A n c q := own_up h hu
end
end Go.Proofs.Ytokcaoaclheiiaa

/-
  Plain: numbers as bytes: groups of seven bits (numB), eight bytes (eightB).
-/
namespace Go.Proofs.Ytokcaoaclheiiaa
open Go.RowKit
set_option linter.unusedVariables false

/-- a number in groups of seven bits, the lowest first -/
def numB (n : Nat) : List UInt8 := if n < 128 then [UInt8.ofNat n] else UInt8.ofNat (n % 128 + 128) :: numB (n / 128)
termination_by n
decreasing_by omega

theorem numB_lo {n : Nat} (h : n < 128) : numB n = [UInt8.ofNat n] := by rw [numB, if_pos h]
theorem numB_hi {n : Nat} (h : ¬ n < 128) : numB n = UInt8.ofNat (n % 128 + 128) :: numB (n / 128) := by rw [numB, if_neg h]
theorem numB_pos (n : Nat) : 1 ≤ (numB n).length := by
  rw [numB]; split <;> simp
theorem numB_len (k : Nat) : ∀ n, n < 128 ^ (k + 1) → (numB n).length ≤ k + 1 := by
  induction k with
  | zero => intro n h; rw [numB_lo (by simpa using h)]; simp
  | succ k ih =>
    intro n h
    by_cases hn : n < 128
    · rw [numB_lo hn]; simp
    · rw [numB_hi hn]
      have := ih (n / 128) (by rw [Nat.div_lt_iff_lt_mul (by decide)]; rw [Nat.pow_succ] at h; exact h)
      simp only [List.length_cons]; omega
theorem numB_ten {n : Nat} (h : n < 18446744073709551616) : (numB n).length ≤ 10 := numB_len 9 n (Nat.lt_of_lt_of_le h (by decide))

/-- what Take finds in what is left, i bytes behind the beginning, acc gathered: the number, its bytes, the error -/
def takeGo : List UInt8 → Nat → Nat → Nat × Nat × Nat
  | [], _, _ => (0, 0, 4)
  | c :: r, i, acc =>
    if (i = 9 ∧ 1 < c.toNat) ∨ (0 < i ∧ c.toNat = 0) then (0, 0, 3)
    else if c.toNat < 128 then (acc + c.toNat % 128 * 128 ^ i, i + 1, 0)
    else takeGo r (i + 1) (acc + c.toNat % 128 * 128 ^ i)
def takeL (l : List UInt8) : Nat × Nat × Nat := takeGo l 0 0

theorem pow_le9 {i : Nat} (hi : i ≤ 9) : 128 ^ i ≤ 9223372036854775808 := by
  have : (128 : Nat) ^ i ≤ 128 ^ 9 := Nat.pow_le_pow_right (by decide) hi
  simpa using this
theorem take_step {acc i ch : Nat} (ha : acc < 128 ^ i) : acc + ch % 128 * 128 ^ i < 128 ^ (i + 1) := by
  have h1 : ch % 128 * 128 ^ i ≤ 127 * 128 ^ i := Nat.mul_le_mul_right _ (by omega)
  rw [Nat.pow_succ]; omega
theorem take_fit {acc i ch : Nat} (hi : i ≤ 9) (ha : acc < 128 ^ i) (h9 : i = 9 → ch ≤ 1) : acc + ch % 128 * 128 ^ i < 18446744073709551616 := by
  by_cases h : i = 9
  · subst h
    have h1 : ch % 128 * 128 ^ 9 ≤ 1 * 128 ^ 9 := Nat.mul_le_mul_right _ (by have := h9 rfl; omega)
    have e : (128 : Nat) ^ 9 = 9223372036854775808 := by decide
    rw [e] at *; omega
  · have := take_step (ch := ch) ha
    have h2 := pow_le9 (i := i + 1) (by omega)
    omega
/-- the number that a byte's turn of Take's loop comes to, as the walk spells it -/
theorem take_val {acc i : Nat} {ch : UInt8} (hi : i ≤ 9) (ha : acc < 128 ^ i) (h9 : i = 9 → ch.toNat ≤ 1) :
    bits .or .u64 (acc : Int) (IntKind.u64.wrap (IntKind.u64.wrap (bits .and .u8 (ch.toNat : Int) 127) * 2 ^ (7 * i))) = ((acc + ch.toNat % 128 * 128 ^ i : Nat) : Int) := by
  have hf := take_fit hi ha h9
  have hc : ch.toNat < 256 := ch.toNat_lt
  have e1 : bits .and .u8 (ch.toNat : Int) 127 = ((ch.toNat % 128 : Nat) : Int) := by
    rw [show (127 : Int) = ((127 : Nat) : Int) from rfl, u8_and_nat _ _ hc (by decide), nat_mask7]
  have e2 : (2 : Int) ^ (7 * i) = ((128 ^ i : Nat) : Int) := by rw [Int.natCast_pow, show ((128 : Nat) : Int) = 2 ^ 7 from rfl, ← Int.pow_mul]
  have e3 : IntKind.u64.wrap ((ch.toNat % 128 : Nat) : Int) = ((ch.toNat % 128 : Nat) : Int) := by
    rw [IntKind.wrap_u64]; omega
  rw [e1, e3, e2, ← Int.natCast_mul]
  have e4 : IntKind.u64.wrap ((ch.toNat % 128 * 128 ^ i : Nat) : Int) = ((ch.toNat % 128 * 128 ^ i : Nat) : Int) := by
    rw [IntKind.wrap_u64]; omega
  rw [e4, u64_or_nat _ _ (by omega) (by omega), Nat.or_comm, nat_join (7 * i), Nat.add_comm]
  · rw [Nat.pow_mul]; exact Nat.mul_mod_left _ _
  · rw [Nat.pow_mul]; exact ha

theorem take_val9 {acc : Nat} {ch : UInt8} (ha : acc < 128 ^ 9) (h9 : ch.toNat ≤ 1) :
    bits .or .u64 (acc : Int) (IntKind.u64.wrap (IntKind.u64.wrap (bits .and .u8 (ch.toNat : Int) 127) * 9223372036854775808)) = ((acc + ch.toNat % 128 * 128 ^ 9 : Nat) : Int) := by
  rw [← take_val (i := 9) (by omega) ha (fun _ => h9), show (2 : Int) ^ (7 * 9) = 9223372036854775808 by decide]
theorem rtake_val {acc i : Nat} {ch : UInt8} (hi : i ≤ 9) (ha : acc < 128 ^ i) (h9 : i = 9 → ch.toNat ≤ 1) :
    bits .or .u64 (acc : Int) (IntKind.u64.wrap (bits .and .u64 (ch.toNat : Int) 127 * 2 ^ (7 * i))) = ((acc + ch.toNat % 128 * 128 ^ i : Nat) : Int) := by
  rw [← take_val hi ha h9]
  have hc : ch.toNat < 256 := ch.toNat_lt
  have e1 : bits .and .u8 (ch.toNat : Int) 127 = ((ch.toNat % 128 : Nat) : Int) := by
    rw [show (127 : Int) = ((127 : Nat) : Int) from rfl, u8_and_nat _ _ hc (by decide), nat_mask7]
  have e2 : bits .and .u64 (ch.toNat : Int) 127 = ((ch.toNat % 128 : Nat) : Int) := by
    rw [show (127 : Int) = ((127 : Nat) : Int) from rfl, u64_and_nat _ _ (by omega) (by decide), nat_mask7]
  have e3 : IntKind.u64.wrap ((ch.toNat % 128 : Nat) : Int) = ((ch.toNat % 128 : Nat) : Int) := by
    rw [IntKind.wrap_u64]; omega
  rw [e1, e2, e3]
theorem rtake_val9 {acc : Nat} {ch : UInt8} (ha : acc < 128 ^ 9) (h9 : ch.toNat ≤ 1) :
    bits .or .u64 (acc : Int) (IntKind.u64.wrap (bits .and .u64 (ch.toNat : Int) 127 * 9223372036854775808)) = ((acc + ch.toNat % 128 * 128 ^ 9 : Nat) : Int) := by
  rw [← rtake_val (i := 9) (by omega) ha (fun _ => h9), show (2 : Int) ^ (7 * 9) = 9223372036854775808 by decide]
theorem byte0 (ch : UInt8) : (((ch.toNat : Int) == 0) = true → ch.toNat = 0) ∧ (((ch.toNat : Int) == 0) = false → 0 < ch.toNat) := by
  constructor
  · intro h; have := beq_iff_eq.1 h; omega
  · intro h; have := beq_eq_false_iff_ne.1 h; omega

theorem takeGo_form {c : UInt8} {r : List UInt8} {i acc : Nat} (h : (i = 9 ∧ 1 < c.toNat) ∨ (0 < i ∧ c.toNat = 0)) : takeGo (c :: r) i acc = (0, 0, 3) := by rw [takeGo, if_pos h]
theorem takeGo_end {c : UInt8} {r : List UInt8} {i acc : Nat} (h : ¬ ((i = 9 ∧ 1 < c.toNat) ∨ (0 < i ∧ c.toNat = 0))) (h2 : c.toNat < 128) : takeGo (c :: r) i acc = (acc + c.toNat % 128 * 128 ^ i, i + 1, 0) := by rw [takeGo, if_neg h, if_pos h2]
theorem takeGo_more {c : UInt8} {r : List UInt8} {i acc : Nat} (h : ¬ ((i = 9 ∧ 1 < c.toNat) ∨ (0 < i ∧ c.toNat = 0))) (h2 : ¬ c.toNat < 128) : takeGo (c :: r) i acc = takeGo r (i + 1) (acc + c.toNat % 128 * 128 ^ i) := by rw [takeGo, if_neg h, if_neg h2]

/-! ### signs -/
def signN (n : Int) : Nat := if n < 0 then (-(n + 1)).toNat * 2 + 1 else n.toNat * 2
def unsignZ (n : Nat) : Int := if n % 2 = 0 then ((n / 2 : Nat) : Int) else -((n / 2 : Nat) : Int) - 1
theorem xor_ones (a : Nat) (ha : a < 18446744073709551616) : bits .xor .u64 (a : Int) 18446744073709551615 = ((18446744073709551615 - a : Nat) : Int) := by
  rw [show (18446744073709551615 : Int) = ((18446744073709551615 : Nat) : Int) from rfl, u64_xor_nat _ _ ha (by decide)]
  congr 1
  have h := congrArg BitVec.toNat (BitVec.xor_allOnes (x := BitVec.ofNat 64 a))
  rw [BitVec.toNat_xor, BitVec.toNat_allOnes, BitVec.toNat_not, BitVec.toNat_ofNat, Nat.mod_eq_of_lt (by simpa using ha)] at h
  simpa using h
theorem sign_val (n : Int) (h1 : -9223372036854775808 ≤ n) (h2 : n ≤ 9223372036854775807) :
    bits .xor .u64 (IntKind.u64.wrap (IntKind.u64.wrap n * 2)) (IntKind.u64.wrap (n / 9223372036854775808)) = (signN n : Int) := by
  unfold signN
  by_cases hn : n < 0
  · rw [if_pos hn]
    have e1 : IntKind.u64.wrap (n / 9223372036854775808) = 18446744073709551615 := by rw [IntKind.wrap_u64]; omega
    obtain ⟨a, ha⟩ : ∃ a : Nat, IntKind.u64.wrap (IntKind.u64.wrap n * 2) = (a : Int) := ⟨(IntKind.u64.wrap (IntKind.u64.wrap n * 2)).toNat, by rw [IntKind.wrap_u64]; omega⟩
    have hb : a < 18446744073709551616 := by rw [IntKind.wrap_u64] at ha; omega
    rw [e1, ha, xor_ones a hb]
    rw [IntKind.wrap_u64, IntKind.wrap_u64] at ha
    omega
  · rw [if_neg hn]
    have e1 : IntKind.u64.wrap (n / 9223372036854775808) = ((0 : Nat) : Int) := by rw [IntKind.wrap_u64]; omega
    have e2 : IntKind.u64.wrap (IntKind.u64.wrap n * 2) = ((n.toNat * 2 : Nat) : Int) := by rw [IntKind.wrap_u64, IntKind.wrap_u64]; omega
    rw [e1, e2, u64_xor_nat _ _ (by omega) (by omega), Nat.xor_zero]
theorem xor_i64_ones (a : Nat) (ha : a < 9223372036854775808) : bits .xor .i64 (a : Int) (-1) = -(a : Int) - 1 := by
  have h := congrArg BitVec.toNat (BitVec.xor_allOnes (x := BitVec.ofNat 64 a))
  rw [BitVec.toNat_xor, BitVec.toNat_allOnes, BitVec.toNat_not, BitVec.toNat_ofNat, Nat.mod_eq_of_lt (by omega)] at h
  show IntKind.i64.wrap ((BitVec.ofInt 64 (a : Int) ^^^ BitVec.ofInt 64 (-1)).toNat : Int) = _
  rw [BitVec.toNat_xor, ofInt_u64 a (by omega)]
  have e1 : (BitVec.ofInt 64 (-1)).toNat = 2 ^ 64 - 1 := by decide
  rw [e1, h, IntKind.wrap_i64]
  omega
theorem xor_i64_zero (a : Nat) (ha : a < 9223372036854775808) : bits .xor .i64 (a : Int) 0 = (a : Int) := by
  show IntKind.i64.wrap ((BitVec.ofInt 64 (a : Int) ^^^ BitVec.ofInt 64 0).toNat : Int) = _
  rw [BitVec.toNat_xor, ofInt_u64 a (by omega)]
  have e1 : (BitVec.ofInt 64 0).toNat = 0 := by decide
  rw [e1, Nat.xor_zero, IntKind.wrap_i64]
  omega
theorem unsign_val (n : Nat) (h2 : n < 18446744073709551616) :
    bits .xor .i64 ((n : Int) / 2) (wrap64 (-wrap64 (bits .and .u64 (n : Int) 1))) = unsignZ n := by
  unfold unsignZ
  have e0 : bits .and .u64 (n : Int) 1 = ((n % 2 : Nat) : Int) := by
    rw [show (1 : Int) = ((1 : Nat) : Int) from rfl, u64_and_nat _ _ h2 (by decide), nat_mask1]
  rw [e0, show ((n : Int) / 2) = ((n / 2 : Nat) : Int) by omega]
  by_cases h : n % 2 = 0
  · rw [if_pos h, h]
    rw [show wrap64 (-wrap64 ((0 : Nat) : Int)) = 0 by decide +kernel]
    exact xor_i64_zero (n / 2) (by omega)
  · rw [if_neg h, show n % 2 = 1 by omega]
    rw [show wrap64 (-wrap64 ((1 : Nat) : Int)) = -1 by decide +kernel]
    exact xor_i64_ones (n / 2) (by omega)
theorem signN_lt (n : Int) (h1 : -9223372036854775808 ≤ n) (h2 : n ≤ 9223372036854775807) : signN n < 18446744073709551616 := by unfold signN; split <;> omega
theorem unsign_sign (n : Int) : unsignZ (signN n) = n := by unfold unsignZ signN; split <;> split <;> omega
theorem sign_unsign (n : Nat) : signN (unsignZ n) = n := by unfold unsignZ signN; split <;> split <;> omega
theorem unsignZ_bd (n : Nat) (h : n < 18446744073709551616) : -9223372036854775808 ≤ unsignZ n ∧ unsignZ n ≤ 9223372036854775807 := by unfold unsignZ; split <;> omega

/-! ### eight bytes -/
def eightB (n : Nat) : List UInt8 := (List.range 8).map fun i => UInt8.ofNat (n / 2 ^ (56 - 8 * i))
theorem eightB_len (n : Nat) : (eightB n).length = 8 := by simp [eightB]
theorem eightB_step (n k : Nat) (hk : k < 8) : (eightB n).take k ++ [UInt8.ofNat (n / 2 ^ (56 - 8 * k))] = (eightB n).take (k + 1) := by
  rw [List.take_succ_eq_append_getElem (by simpa [eightB] using hk)]
  simp [eightB]
theorem eight_byte (x k : Nat) : Value.int .u8 ((x : Int) / 2 ^ (56 - 8 * k) % 256) = bv (UInt8.ofNat (x / 2 ^ (56 - 8 * k))) := by
  rw [bv_ofNat]; simp
def foldN (l : List UInt8) : Nat := l.foldl (fun a c => a * 256 + c.toNat) 0
theorem foldN_snoc (l : List UInt8) (c : UInt8) : foldN (l ++ [c]) = foldN l * 256 + c.toNat := by simp [foldN]
theorem foldN_lt (l : List UInt8) : foldN l < 256 ^ l.length := by
  suffices h : ∀ r : List UInt8, foldN r.reverse < 256 ^ r.reverse.length by simpa using h l.reverse
  intro r
  induction r with
  | nil => simp [foldN]
  | cons c r ih =>
    rw [List.reverse_cons, foldN_snoc, List.length_append, List.length_singleton, Nat.pow_succ]
    have := c.toNat_lt
    omega
theorem fold_val {a : Nat} {ch : UInt8} {k : Nat} (hk : k ≤ 7) (ha : a < 256 ^ k) :
    bits .or .u64 (IntKind.u64.wrap ((a : Int) * 256)) (IntKind.u64.wrap (ch.toNat : Int)) = ((a * 256 + ch.toNat : Nat) : Int) := by
  have h7 : (256 : Nat) ^ k ≤ 256 ^ 7 := Nat.pow_le_pow_right (by decide) hk
  have e7 : (256 : Nat) ^ 7 = 72057594037927936 := by decide
  have hc := ch.toNat_lt
  have e1 : IntKind.u64.wrap ((a : Int) * 256) = ((a * 256 : Nat) : Int) := by rw [IntKind.wrap_u64]; omega
  have e2 : IntKind.u64.wrap (ch.toNat : Int) = ((ch.toNat : Nat) : Int) := by rw [IntKind.wrap_u64]; omega
  rw [e1, e2, u64_or_nat _ _ (by omega) (by omega), nat_join 8 _ _ (by omega) (by omega)]
def uneightL (l : List UInt8) : Nat × Nat := if l.length < 8 then (0, 4) else (foldN (l.take 8), 0)

/-! ### lists -/
def numsB (q : List UInt64) : List UInt8 := q.flatMap fun x => numB x.toNat
def listB (q : List UInt64) : List UInt8 := numB q.length ++ numsB q
theorem numsB_snoc (q : List UInt64) (x : UInt64) : numsB (q ++ [x]) = numsB q ++ numB x.toNat := by simp [numsB]
theorem numsB_len (q : List UInt64) : (numsB q).length ≤ 10 * q.length := by
  induction q with
  | nil => simp [numsB]
  | cons x q ih => have := numB_ten x.toNat_lt; simp only [numsB, List.flatMap_cons, List.length_append, List.length_cons] at *; omega

theorem neq0 (e : Nat) : (((e : Int) != 0) = true → e ≠ 0) ∧ (((e : Int) != 0) = false → e = 0) := by
  constructor
  · intro h he; subst he; simp at h
  · intro h
    rcases Nat.eq_zero_or_pos e with h0 | h0
    · exact h0
    · exfalso
      have : ((e : Int) != 0) = true := by rw [bne_iff_ne]; omega
      rw [this] at h; cases h

/-! ### what Take answers -/
theorem takeGo_ok (l : List UInt8) : ∀ (i acc : Nat), i ≤ 9 → acc < 128 ^ i → (takeGo l i acc).2.2 = 0 →
    (takeGo l i acc).1 < 18446744073709551616 ∧ i + 1 ≤ (takeGo l i acc).2.1 ∧ (takeGo l i acc).2.1 ≤ i + l.length ∧ (takeGo l i acc).2.1 ≤ 10 := by
  induction l with
  | nil => intro i acc _ _ h; simp [takeGo] at h
  | cons c r ih =>
    intro i acc hi ha h
    by_cases hf : (i = 9 ∧ 1 < c.toNat) ∨ (0 < i ∧ c.toNat = 0)
    · rw [takeGo_form hf] at h; simp at h
    · by_cases h2 : c.toNat < 128
      · rw [takeGo_end hf h2]
        exact ⟨take_fit hi ha (by omega), by simp, by simp only [List.length_cons]; omega, by simp only; omega⟩
      · rw [takeGo_more hf h2] at h ⊢
        have hi9 : i ≤ 8 := by omega
        obtain ⟨a, b, c', d⟩ := ih (i + 1) _ (by omega) (take_step ha) h
        exact ⟨a, by omega, by simp only [List.length_cons]; omega, d⟩
theorem takeL_ok {l : List UInt8} (h : (takeL l).2.2 = 0) : (takeL l).1 < 18446744073709551616 ∧ 1 ≤ (takeL l).2.1 ∧ (takeL l).2.1 ≤ l.length ∧ (takeL l).2.1 ≤ 10 := by
  unfold takeL at h ⊢
  obtain ⟨a, b, c, d⟩ := takeGo_ok l 0 0 (by omega) (by simp) h
  exact ⟨a, by omega, by simpa using c, d⟩
theorem takeGo_bad (l : List UInt8) : ∀ (i acc : Nat), (takeGo l i acc).2.2 ≠ 0 → (takeGo l i acc).1 = 0 ∧ (takeGo l i acc).2.1 = 0 ∧ ((takeGo l i acc).2.2 = 3 ∨ (takeGo l i acc).2.2 = 4) := by
  induction l with
  | nil => intro i acc _; simp [takeGo]
  | cons c r ih =>
    intro i acc h
    by_cases hf : (i = 9 ∧ 1 < c.toNat) ∨ (0 < i ∧ c.toNat = 0)
    · rw [takeGo_form hf]; simp
    · by_cases h2 : c.toNat < 128
      · rw [takeGo_end hf h2] at h; simp at h
      · rw [takeGo_more hf h2] at h ⊢; exact ih _ _ h
theorem takeL_bad {l : List UInt8} (h : (takeL l).2.2 ≠ 0) : (takeL l).1 = 0 ∧ (takeL l).2.1 = 0 ∧ ((takeL l).2.2 = 3 ∨ (takeL l).2.2 = 4) := takeGo_bad l 0 0 h

/-- what is left of Unlist: k numbers are still to come -/
def unGo : Nat → List UInt8 → Nat → List UInt64 → List UInt64 × Nat × Nat
  | 0, _, at_, acc => (acc, at_, 0)
  | k + 1, l, at_, acc =>
    if (takeL (l.drop at_)).2.2 = 0 then unGo k l (at_ + (takeL (l.drop at_)).2.1) (acc ++ [UInt64.ofNat (takeL (l.drop at_)).1])
    else ([], 0, (takeL (l.drop at_)).2.2)
def unlistL (l : List UInt8) (most : Int) : List UInt64 × Nat × Nat :=
  if (takeL l).2.2 ≠ 0 then ([], 0, (takeL l).2.2)
  else if (if most < 0 then 0 else most) < ((takeL l).1 : Int) then ([], 0, 2)
  else unGo (takeL l).1 l (takeL l).2.1 []

end Go.Proofs.Ytokcaoaclheiiaa

/-
  The walks of num: Put.
-/
namespace Go.Proofs.Ytokcaoaclheiiaa
open Go.RowKit
set_option linter.unusedVariables false


theorem or128 : ∀ k, k < 256 → bits .or .u8 ((k : Nat) : Int) 128 = ((k % 128 + 128 : Nat) : Int) := by decide +kernel
theorem put_byte (m : Nat) : Value.int .u8 (bits BinOp.or IntKind.u8 ((m : Int) % 256) 128) = bv (UInt8.ofNat (m % 128 + 128)) := by
  rw [bv_ofNat, show ((m : Int) % 256) = ((m % 256 : Nat) : Int) by omega, or128 _ (Nat.mod_lt _ (by decide))]
  congr 1; omega

set_option maxRecDepth 100000 in
set_option maxHeartbeats 400000 in
theorem put_any (A : Option Addr) (n c : Nat) (bs : List UInt8) (x : Nat) (w : World) (hr : Rd w w.heap.size 1 A n (bvs bs)) (hn : n ≤ 1099511627776) (hx : (x : Int) ≤ 18446744073709551615) :
    Calls Try.prog 45 #[.slice A n c, .int .u64 (x : Int)] w fun e w' => ∃ A' n' c', e = .returned (.slice A' n' c') ∧ OwnB w' w.heap.size A' n' c' (bs ++ numB x) ∧ Up w w' := by
  go_enter Try.func45, Try.ntmps45
  go_wp2_with (first
    | (at_builtin
       refine wpList_append_rd _ bytesT (World.ownsRow_nil _ w.heap.size _ _) hr (bvs_one _) (by omega) (by omega) (Nat.le_refl _) rfl rfl rfl rfl ?_
       intro v1 w1 hown1 hg1 hat1))
  have hu1 : Up w w1 := (Up.refl w).grown hg1 (by simp [Value.ownBlock])
  simp only [Nat.zero_add, List.nil_append] at hown1
  go_loopw [1, 5] (fun q v wr => ∃ (m : Nat) (pre : List UInt8), q = .int .u64 (m : Int) ∧ (m : Int) ≤ 18446744073709551615 ∧ wr.ownsRow w.heap.size 5 1 v pre.length (bvs pre) ∧ Hid (pre ++ numB m = bs ++ numB x) ∧ Up w wr)
    (fun q _ _ => (intOf q).toNat)
  case atStart => exact ⟨x, bs, rfl, by omega, by have := hr.len; simp only [bvs_length, Nat.mul_one] at this; rw [this]; exact hown1, rfl, hu1⟩
  case round =>
    obtain ⟨m, pre, rfl, hm, hown, hp, hu⟩ := hrel
    clear hown1 hu1
    have hl : pre.length + (numB m).length = n + (numB x).length := by
      have := congrArg List.length hp.out; have h2 := hr.len
      simp only [List.length_append, bvs_length, Nat.mul_one] at this h2; omega
    have hxt := numB_ten (n := x) (by omega)
    have hbd : pre.length ≤ 1099511627786 := by omega
    have HL := Lib.hid hl
    clear hl hxt hn hr
    by_cases hlt : m < 128
    · have hb : Value.int .u8 (m : Int) = bv (UInt8.ofNat m) := by rw [bv_ofNat]; congr 1; omega
      have HB := Lib.hid hb; clear hb
      go_wp2_with (at_builtin; refine wpList_append_rd _ bytesT (news := bvs [UInt8.ofNat m]) (hown.alloc _) (Rd.boxb _ _ HB.out) (bvs_one _) (by omega) (by omega) (by simp; have := hu.size; omega) rfl rfl rfl rfl ?_; intro v2 w2 hown2 hg2 hat2)
      obtain ⟨A2, c2, rfl⟩ := own_form hown2
      go_ret
      refine ⟨A2, _, c2, rfl, ?_, hu.alloc _ |>.grown hg2 (fun k hk => (hown.lt k hk).1)⟩
      show World.ownsRow _ _ _ _ _ _ _
      rw [← hp.out, bvs_append, numB_lo hlt]; exact hown2
    · have HB := Lib.hid (put_byte m)
      go_wp2_with (at_builtin; refine wpList_append_rd _ bytesT (news := bvs [UInt8.ofNat (m % 128 + 128)]) (hown.alloc _) (Rd.boxb _ _ HB.out) (bvs_one _) (by omega) (by omega) (by simp; have := hu.size; omega) rfl rfl rfl rfl ?_; intro v2 w2 hown2 hg2 hat2)
      go_roundw
      case rel =>
        refine ⟨m / 128, pre ++ [UInt8.ofNat (m % 128 + 128)], by go_num, by omega, ?_, ?_, hu.alloc _ |>.grown hg2 (fun k hk => (hown.lt k hk).1)⟩
        · rw [bvs_append, List.length_append]; exact hown2
        · show _ = _; rw [← hp.out, numB_hi hlt]; simp
      case measure => simp [intOf]; omega

end Go.Proofs.Ytokcaoaclheiiaa

/-
  The walks of num: Take.
-/
namespace Go.Proofs.Ytokcaoaclheiiaa
open Go.RowKit
set_option linter.unusedVariables false

set_option maxRecDepth 100000 in
set_option maxHeartbeats 400000 in
theorem take_any (A : Option Addr) (n c : Nat) (bs : List UInt8) (w : World) (hr : Rd w w.heap.size 1 A n (bvs bs)) (hn : n ≤ 9223372036854775807) :
    Calls Try.prog 53 #[.slice A n c] w fun e w' => e = .returned (.tuple #[.int .u64 ((takeL bs).1 : Int), .int .i64 ((takeL bs).2.1 : Int), .int .i64 ((takeL bs).2.2 : Int)]) ∧ w = w' := by
  go_enter Try.func53, Try.ntmps53
  go_wp2
  go_loop [2, 9] (fun q i => ∃ (k acc : Nat), i = .int .i64 (k : Int) ∧ q = .int .u64 (acc : Int) ∧ k ≤ n ∧ k ≤ 9 ∧ acc < 128 ^ k ∧ Hid (takeGo (bs.drop k) k acc = takeL bs)) (fun _ i => n - (intOf i).toNat)
  case atStart => exact ⟨0, 0, rfl, rfl, by omega, by omega, by simp, rfl⟩
  case round =>
    obtain ⟨k, acc, rfl, rfl, hk, hk9, hacc, ht⟩ := hrel
    by_cases hlt : k < n
    · obtain ⟨b, o, rfl, _, hc⟩ := hr.byte hlt
      have hbl : k < bs.length := by have := hr.len; simp only [bvs_length] at this; omega
      have htg : takeGo (bs.drop k) k acc = takeGo (bs.getD k 0 :: bs.drop (k + 1)) k acc := by
        rw [List.drop_eq_getElem_cons hbl]; simp [List.getD, hbl]
      generalize (bs.getD k 0) = ch at hc htg
      have HT : Hid (takeGo (ch :: bs.drop (k + 1)) k acc = takeL bs) := htg.symm.trans ht.out
      clear htg ht hr
      have HZ := Lib.hid (byte0 ch)
      by_cases h9 : k = 9
      · subst h9
        go_wp2
        all_goals (first | have hz := HZ.out.1 (by assumption) | have hz := HZ.out.2 (by assumption) | skip)
        all_goals first
          | (go_ret3; rw [← HT.out, takeGo_form (by omega)]; exact ⟨rfl, rfl⟩)
          | (go_ret3; rw [← HT.out, takeGo_end (by omega) (by omega)]; exact ⟨by rw [← take_val9 hacc (by omega)]; rfl, rfl⟩)
      · go_wp2
        all_goals (first | have hz := HZ.out.1 (by assumption) | have hz := HZ.out.2 (by assumption) | skip)
        all_goals first
          | (go_ret3; rw [← HT.out, takeGo_form (by omega)]; exact ⟨rfl, rfl⟩)
          | (go_ret3; rw [← HT.out, takeGo_end (by omega) (by omega)]; exact ⟨by rw [← take_val (by omega) hacc (by omega)]; rfl, rfl⟩)
          | (go_round
             case rel => exact ⟨k + 1, _, by go_num, congrArg _ (take_val (by omega) hacc (by omega)), by omega, by omega, take_step hacc, (takeGo_more (by omega) (by omega)).symm.trans HT.out⟩
             case measure => simp [intOf]; omega)
    · go_wp2
      go_ret3
      have hk' : k = n := by omega
      rw [← ht.out, List.drop_of_length_le (by have := hr.len; simp only [bvs_length] at this; omega)]
      exact ⟨rfl, rfl⟩

end Go.Proofs.Ytokcaoaclheiiaa

/-
  The walks of num: Sign, Unsign, Uneight, Eight.
-/
namespace Go.Proofs.Ytokcaoaclheiiaa
open Go.RowKit
set_option linter.unusedVariables false





end Go.Proofs.Ytokcaoaclheiiaa

/-
  The walks of num: List, Unlist.
-/
namespace Go.Proofs.Ytokcaoaclheiiaa
open Go.RowKit
set_option linter.unusedVariables false

set_option maxRecDepth 100000 in
set_option maxHeartbeats 400000 in
theorem list_any (A : Option Addr) (n c : Nat) (bs : List UInt8) (Q : Option Addr) (m d : Nat) (q : List UInt64) (w : World) (hr : Rd w w.heap.size 1 A n (bvs bs)) (hq : Rd w w.heap.size 1 Q m (qvs q)) (hn : n + 10 * m + 10 ≤ 1099511627776) :
    Calls Try.prog 46 #[.slice A n c, .slice Q m d] w fun e w' => ∃ A' n' c', e = .returned (.slice A' n' c') ∧ OwnB w' w.heap.size A' n' c' (bs ++ listB q) ∧ Up w w' := by
  have hl := hr.blen
  have hm := hq.qlen
  have HL := Lib.hid hl
  have HM := Lib.hid hm
  clear hl hm
  go_enter Try.func46, Try.ntmps46
  go_wp2_with fail
  refine (put_any A n c bs m w hr (by omega) (by omega)).mono ?_
  rintro e w1 ⟨A1, n1, c1, rfl, ho1, hu1⟩
  go_wp2_with fail
  go_loopw [5, 15] (fun v i wr => ∃ (k : Nat) (A' : Option Addr) (n' c' : Nat), i = .int .i64 (k : Int) ∧ v = .slice A' n' c' ∧ k ≤ m ∧ n' ≤ n + 10 * k + 10 ∧ OwnB wr w.heap.size A' n' c' (bs ++ numB m ++ numsB (q.take k)) ∧ Up w wr)
    (fun _ i _ => m - (intOf i).toNat)
  case atStart =>
    refine ⟨0, A1, n1, c1, rfl, rfl, by omega, ?_, by simpa [numsB] using ho1, hu1⟩
    have h1 := ho1.len
    have h2 := numB_ten (n := m) (by omega)
    have h3 := HL.out
    simp only [List.length_append] at h1; omega
  case round =>
    obtain ⟨k, A', n', c', rfl, rfl, hk, hn', hown, hu⟩ := hrel
    clear ho1 hu1
    by_cases hlt : k < m
    · obtain ⟨b, o, rfl, hb, hc⟩ := hq.num hlt
      have hc' := (hu.cell (p := ⟨b, o + k, none⟩) hb).trans hc
      clear hc
      have hqk : q.take (k + 1) = q.take k ++ [q.getD k 0] := by
        have : k < q.length := by have := HM.out; omega
        rw [List.take_succ_eq_append_getElem this]; simp [List.getD, this]
      generalize (q.getD k 0) = x at hc' hqk
      have HQ := Lib.hid hqk
      clear hqk
      have hx := x.toNat_lt
      go_wp2_with fail
      refine (put_any A' n' c' _ x.toNat wr hown.rd (by omega) (by omega)).mono ?_
      rintro e w2 ⟨A2, n2, c2, rfl, ho2, hu2⟩
      go_wp2_with fail
      go_roundw
      case rel =>
        refine ⟨k + 1, A2, n2, c2, by go_num, rfl, by omega, ?_, ?_, hu.trans hu2⟩
        · have h1 := ho2.len
          have h2 := numB_ten hx
          have h3 := hown.len
          rw [List.length_append] at h1; omega
        · rw [HQ.out, numsB_snoc, ← List.append_assoc]
          exact own_base ho2 hu.size
      case measure => simp [intOf]; omega
    · go_wp2
      go_ret
      have hk' : k = m := by omega
      rw [hk', List.take_of_length_le (by have := HM.out; omega), HM.out] at hown
      exact ⟨A', n', c', rfl, by rw [listB, ← List.append_assoc]; exact hown, hu⟩
end Go.Proofs.Ytokcaoaclheiiaa

/-
  The walks of sum: add, Parts, Of.
-/
namespace Go.Proofs.Ytokcaoaclheiiaa
open Go.RowKit
set_option linter.unusedVariables false

def crcS (n : Nat) : Nat := if n % 2 = 1 then (n / 2) ^^^ 2197175160 else n / 2
def crcN : Nat → Nat → Nat
  | 0, n => n
  | k + 1, n => crcN k (crcS n)
def crcB (n : Nat) (b : UInt8) : Nat := crcN 8 (n ^^^ b.toNat)
def addC (n : Nat) (l : List UInt8) : Nat := l.foldl crcB n

theorem u32_and_one (a : Nat) (ha : a < 4294967296) : bits .and .u32 (a : Int) 1 = ((a % 2 : Nat) : Int) := by
  rw [show (1 : Int) = ((1 : Nat) : Int) from rfl, u32_and_nat a 1 ha (by decide), Nat.and_one_is_mod]
theorem crcS_lt {n : Nat} (h : n < 4294967296) : crcS n < 4294967296 := by
  unfold crcS
  split
  · have h2 : (n / 2) ^^^ 2197175160 < 2 ^ 32 := Nat.xor_lt_two_pow (by omega) (by decide)
    omega
  · omega
theorem crcS_val (z : Nat) (hz : z < 4294967296) : bits .xor .u32 ((z : Int) / 2) (bits .and .u32 2197175160 (-bits .and .u32 (z : Int) 1 % 4294967296)) = (crcS z : Int) := by
  rw [u32_and_one z hz]
  unfold crcS
  by_cases h : z % 2 = 1
  · rw [if_pos h, h, show (-((1 : Nat) : Int)) % 4294967296 = ((4294967295 : Nat) : Int) by decide, show (2197175160 : Int) = ((2197175160 : Nat) : Int) from rfl, u32_and_nat _ _ (by decide) (by decide),
      show (z : Int) / 2 = ((z / 2 : Nat) : Int) by omega, show 2197175160 &&& 4294967295 = 2197175160 by decide, u32_xor_nat _ _ (by omega) (by decide)]
  · have h0 : z % 2 = 0 := by omega
    rw [if_neg h, h0, show (-((0 : Nat) : Int)) % 4294967296 = ((0 : Nat) : Int) by decide, show (2197175160 : Int) = ((2197175160 : Nat) : Int) from rfl, u32_and_nat _ _ (by decide) (by decide),
      show (z : Int) / 2 = ((z / 2 : Nat) : Int) by omega, show 2197175160 &&& 0 = 0 by decide, u32_xor_nat _ _ (by omega) (by decide), Nat.xor_zero]
theorem crcN_lt : ∀ (k : Nat) {n : Nat}, n < 4294967296 → crcN k n < 4294967296
  | 0, _, h => h
  | k + 1, _, h => crcN_lt k (crcS_lt h)
theorem xorB_lt {x : Nat} (b : UInt8) (h : x < 4294967296) : x ^^^ b.toNat < 4294967296 := by
  have h2 : x ^^^ b.toNat < 2 ^ 32 := Nat.xor_lt_two_pow (by omega) (by have := b.toNat_lt; omega)
  omega
theorem crcB_lt {n : Nat} (b : UInt8) (h : n < 4294967296) : crcB n b < 4294967296 := crcN_lt 8 (xorB_lt b h)
theorem addC_lt {n : Nat} (l : List UInt8) (h : n < 4294967296) : addC n l < 4294967296 := by
  induction l generalizing n with
  | nil => exact h
  | cons b l ih => exact ih (crcB_lt b h)
theorem addC_append (n : Nat) (a b : List UInt8) : addC n (a ++ b) = addC (addC n a) b := by simp [addC]

set_option maxRecDepth 100000 in
set_option maxHeartbeats 1600000 in
theorem add_any (A : Option Addr) (m c : Nat) (l : List UInt8) (n : Nat) (w : World) (hr : Rd w w.heap.size 1 A m (bvs l)) (hm : m ≤ 9223372036854775807) (hn : n < 4294967296) :
    Calls Try.prog 70 #[.int .u32 (n : Int), .slice A m c] w fun e w' => e = .returned (.int .u32 (addC n l : Int)) ∧ w = w' := by
  have HL := Lib.hid hr.blen
  have HN := Lib.hid (Eq.refl (addC n l))
  go_enter Try.func70, Try.ntmps70
  go_wp2_with fail
  go_loop [0, 9] (fun q i => ∃ (k : Nat) (x : Nat), i = .int .i64 (k : Int) ∧ q = .int .u32 (x : Int) ∧ x < 4294967296 ∧ k ≤ m ∧ Hid (addC n (l.take k) = x)) (fun _ i => m - (intOf i).toNat)
  case atStart => exact ⟨0, n, rfl, rfl, hn, by omega, rfl⟩
  case round =>
    obtain ⟨k, x, rfl, rfl, hx, hk, hH⟩ := hrel
    by_cases hlt : k < m
    · obtain ⟨b, o, rfl, hb, hc⟩ := hr.byte hlt
      have hq : l.take (k + 1) = l.take k ++ [l.getD k 0] := by
        have : k < l.length := by have := HL.out; omega
        rw [List.take_succ_eq_append_getElem this]; simp [List.getD, this]
      generalize l.getD k 0 = b0 at hc hq
      have hxb : bits .xor .u32 (x : Int) ((b0.toNat : Int) % 4294967296) = ((x ^^^ b0.toNat : Nat) : Int) := by
        have := b0.toNat_lt
        rw [Int.emod_eq_of_lt (by omega) (by omega), u32_xor_nat _ _ hx (by omega)]
      have HQ := Lib.hid hq
      have hx0 := xorB_lt b0 hx
      clear hq
      go_wp2_with fail
      clear hxb
      generalize hz0 : x ^^^ b0.toNat = z0 at *
      have HZ := Lib.hid hz0
      clear hz0
      go_loop [0, 17] (fun q j => ∃ (z : Nat) (jj : Nat), j = .int .i64 (jj : Int) ∧ q = .int .u32 (z : Int) ∧ z < 4294967296 ∧ jj ≤ 8 ∧ Hid (crcN (8 - jj) z = crcN 8 z0)) (fun _ j => 8 - (intOf j).toNat)
      case atStart => exact ⟨z0, 0, rfl, rfl, hx0, by omega, rfl⟩
      case round =>
        obtain ⟨z, jj, rfl, rfl, hz, hj, hcz⟩ := hrel
        by_cases hlt2 : jj < 8
        · have hs := crcS_val z hz
          have hsl := crcS_lt hz
          go_wp2_with fail
          clear hs
          go_round
          case rel =>
            refine ⟨crcS z, jj + 1, by go_num, rfl, hsl, by omega, ?_⟩
            show _ = _
            rw [← hcz.out, show 8 - jj = (8 - (jj + 1)) + 1 by omega]; rfl
          case measure => simp [intOf]; omega
        · have h8 : jj = 8 := by omega
          subst h8
          go_wp2_with fail
          go_round
          case rel =>
            refine ⟨k + 1, z, by go_num, rfl, hz, by omega, ?_⟩
            show _ = _
            rw [HQ.out, addC_append, hH.out]
            show crcN 8 (x ^^^ b0.toNat) = z
            rw [HZ.out, ← hcz.out]; rfl
          case measure => simp [intOf]; omega
    · go_wp2_with fail
      go_ret
      have hk' : k = l.length := by have := HL.out; omega
      rw [hk', List.take_of_length_le (Nat.le_refl _)] at hH
      rw [hH.out]
      exact ⟨rfl, rfl⟩
end Go.Proofs.Ytokcaoaclheiiaa

/-
  The walks of sum: Parts (of one text), Of, Seal, Open.
-/
namespace Go.Proofs.Ytokcaoaclheiiaa
open Go.RowKit
set_option linter.unusedVariables false

def sumC (l : List UInt8) : Nat := 4294967295 - addC 4294967295 l
def sumB (n : Nat) : List UInt8 := [UInt8.ofNat n, UInt8.ofNat (n / 256), UInt8.ofNat (n / 65536), UInt8.ofNat (n / 16777216)]
def sealB (l : List UInt8) : List UInt8 := l ++ sumB (sumC l)
theorem sumC_lt (l : List UInt8) : sumC l < 4294967296 := by unfold sumC; omega
theorem sumB_len (n : Nat) : (sumB n).length = 4 := rfl
theorem sealB_len (l : List UInt8) : (sealB l).length = l.length + 4 := by simp [sealB, sumB_len]

theorem u32_not (x : Nat) (hx : x < 4294967296) : bits .xor .u32 IntKind.u32.max (x : Int) = ((4294967295 - x : Nat) : Int) := by
  rw [show IntKind.u32.max = ((4294967295 : Nat) : Int) by decide, u32_xor_nat _ _ (by decide) hx, Nat.xor_comm]
  congr 1
  have h := congrArg BitVec.toNat (BitVec.xor_allOnes (x := BitVec.ofNat 32 x))
  rw [BitVec.toNat_xor, BitVec.toNat_allOnes, BitVec.toNat_not, BitVec.toNat_ofNat, Nat.mod_eq_of_lt (by simpa using hx)] at h
  simpa using h
set_option maxRecDepth 100000 in
set_option maxHeartbeats 1600000 in
theorem parts1_any (g : Nat) (A : Option Addr) (n c : Nat) (l : List UInt8) (w : World) (hc : w.cell? ⟨g, 0, none⟩ = some (.slice A n c)) (hr : Rd w w.heap.size 1 A n (bvs l)) (hn : n ≤ 9223372036854775807) :
    Calls Try.prog 68 #[.slice (some ⟨g, 0, none⟩) 1 1] w fun e w' => e = .returned (.int .u32 (sumC l : Int)) ∧ w = w' := by
  have hl := addC_lt l (n := 4294967295) (by decide)
  have hv : sumC l = 4294967295 - addC 4294967295 l := rfl
  have HV := Lib.hid hv
  clear hv
  go_enter Try.func68, Try.ntmps68
  go_wp2_with fail
  go_loop [3, 8] (fun q i => ∃ (k : Nat) (x : Nat), i = .int .i64 (k : Int) ∧ q = .int .u32 (x : Int) ∧ k ≤ 1 ∧ Hid (k = 0 → x = 4294967295) ∧ Hid (k = 1 → x = addC 4294967295 l)) (fun _ i => 1 - (intOf i).toNat)
  case atStart => exact ⟨0, 4294967295, rfl, rfl, by omega, fun _ => rfl, fun h => by omega⟩
  case round =>
    obtain ⟨k, x, rfl, rfl, hk, h0, h1⟩ := hrel
    by_cases hk0 : k = 0
    · have hx := h0.out hk0
      subst hk0
      subst hx
      clear h0 h1
      go_wp2_with fail
      refine (add_any A n c l 4294967295 w hr hn (by decide)).mono ?_
      rintro e w1 ⟨rfl, rfl⟩
      go_wp2_with fail
      go_round
      case rel => exact ⟨1, addC 4294967295 l, rfl, rfl, by omega, fun h => by omega, fun _ => rfl⟩
      case measure => simp [intOf]
    · have hk1 : k = 1 := by omega
      have hx := h1.out hk1
      subst hk1
      clear h0 h1 hk0
      generalize addC 4294967295 l = y at *
      subst hx
      go_wp2_with fail
      go_ret
      rw [HV.out, u32_not x hl]
      exact ⟨rfl, rfl⟩
set_option maxRecDepth 100000 in
set_option maxHeartbeats 1600000 in
theorem of_any (A : Option Addr) (n c : Nat) (l : List UInt8) (w : World) (hr : Rd w w.heap.size 1 A n (bvs l)) (hn : n ≤ 9223372036854775807) :
    Calls Try.prog 65 #[.slice A n c] w fun e w' => e = .returned (.int .u32 (sumC l : Int)) ∧ Up w w' := by
  go_enter Try.func65, Try.ntmps65
  go_wp2_with fail
  refine (parts1_any w.heap.size A n c l _ (by rw [World.cell?_alloc_at (w := w) _ _ _ _ rfl]; rfl) (hr.up ((Up.refl w).alloc _)) hn).mono ?_
  rintro e w1 ⟨rfl, rfl⟩
  go_wp2_with fail
  go_ret
  exact ⟨rfl, (Up.refl w).alloc _⟩

set_option maxRecDepth 100000 in
set_option maxHeartbeats 1600000 in
theorem seal_any (A : Option Addr) (n c : Nat) (l : List UInt8) (w : World) (hr : Rd w w.heap.size 1 A n (bvs l)) (hn : n ≤ 1099511627776) :
    Calls Try.prog 57 #[.slice A n c] w fun e w' => ∃ A' c', e = .returned (.slice A' (n + 4) c') ∧ OwnB w' w.heap.size A' (n + 4) c' (sealB l) ∧ Up w w' := by
  have hs := sumC_lt l
  have hv : sealB l = l ++ sumB (sumC l) := rfl
  have HV := Lib.hid hv
  clear hv
  go_enter Try.func57, Try.ntmps57
  go_wp2_with fail
  refine (of_any A n c l w hr (by omega)).mono ?_
  rintro e w1 ⟨rfl, hu1⟩
  generalize sumC l = y at *
  have hnil : OwnB w1 w.heap.size none 0 0 [] := World.ownsRow_nil _ _ _ _
  have hr1 := hr.up hu1
  have hb : ([.int .u8 ((y : Int) % 256), .int .u8 ((y : Int) / 256 % 256), .int .u8 ((y : Int) / 65536 % 256), .int .u8 ((y : Int) / 16777216)] : List Value) = bvs (sumB y) := by
    have e1 : (y : Int) % 256 = ((y % 256 : Nat) : Int) := by omega
    have e2 : (y : Int) / 256 % 256 = ((y / 256 % 256 : Nat) : Int) := by omega
    have e3 : (y : Int) / 65536 % 256 = ((y / 65536 % 256 : Nat) : Int) := by omega
    have e4 : (y : Int) / 16777216 = ((y / 16777216 % 256 : Nat) : Int) := by omega
    simp only [bvs, sumB, List.map_cons, List.map_nil, bv_ofNat, e1, e2, e3, e4]
  have HB := Lib.hid hb
  clear hb
  go_wp2_with (first
    | (at_builtin; refine wpList_append_rd _ bytesT hnil hr1 (bvs_one _) (by omega) (by omega) (by have := hu1.size; omega) rfl rfl rfl rfl ?_; intro v2 w2 hown2 hg2 hat2; obtain ⟨A2, c2, rfl⟩ := own_form hown2; simp only [Nat.zero_add] at hown2; rw [show bvs [] ++ bvs l = bvs l from rfl] at hown2)
    | (at_builtin; refine wpList_append_rd _ bytesT (World.ownsRow.alloc hown2 _) (Rd.lit_at _ (sumB y) _ _ rfl HB.out) (bvs_one _) (by simp [sumB_len]; omega) (by simp [sumB_len]; omega) (by simp; have := hu1.size; have := hg2.size; omega) rfl rfl rfl rfl ?_; intro v3 w3 hown3 hg3 hat3; obtain ⟨A3, c3, rfl⟩ := own_form hown3))
  go_ret
  rw [sumB_len, ← bvs_append] at hown3
  refine ⟨A3, c3, rfl, ?_, ?_⟩
  · rw [HV.out]; exact hown3
  · exact ((hu1.grown hg2 (fun g hg => by simp [Value.ownBlock] at hg)).alloc _).grown hg3 (fun g hg => (hown2.lt g hg).1)
end Go.Proofs.Ytokcaoaclheiiaa

/-
  The walk of sum.Open.
-/
namespace Go.Proofs.Ytokcaoaclheiiaa
open Go.RowKit
set_option linter.unusedVariables false
set_option linter.unusedSimpArgs false

def openE (l : List UInt8) : Nat := if l.length < 4 then 4 else if sealB (l.take (l.length - 4)) = l then 0 else 5
/-- what Open hands back -/
def openL (l : List UInt8) : List UInt8 := if openE l = 0 then l.take (l.length - 4) else []

set_option maxRecDepth 100000 in
set_option maxHeartbeats 1600000 in
theorem open_any (A : Option Addr) (n c : Nat) (l : List UInt8) (w : World) (hr : Rd w w.heap.size 1 A n (bvs l)) (hn : n ≤ 1099511627776) (hc : n ≤ c) :
    Calls Try.prog 69 #[.slice A n c] w fun e w' => ∃ A' n' c', e = .returned (.tuple #[.slice A' n' c', .int .i64 (openE l : Int)]) ∧ OwnB w' w.heap.size A' n' c' (openL l) ∧ Up w w' := by
  have HL := Lib.hid hr.blen
  have nil0 : ∀ w0, OwnB w0 w.heap.size none 0 0 [] := fun w0 => World.ownsRow_nil _ _ _ _
  have NIL := Lib.hid nil0
  clear nil0
  by_cases h4 : n < 4
  · have hE : openE l = 4 := by unfold openE; rw [if_pos (by rw [← HL.out]; exact h4)]
    have hL : openL l = [] := by unfold openL; rw [hE]; rfl
    have HE := Lib.hid hE
    have HO := Lib.hid hL
    clear hE hL
    go_enter Try.func69, Try.ntmps69
    go_wp2_with fail
    go_ret2
    rw [HE.out, HO.out]
    exact ⟨none, 0, 0, rfl, NIL.out _, Up.refl _⟩
  · have hk : n - 4 ≤ n := by omega
    have hrt := hr.bto hk
    have hle : ((n : Int) - 4).toNat = n - 4 := by omega
    have h0 : (0 : Int) ≤ (n : Int) - 4 := by omega
    have h1 : (n : Int) - 4 ≤ c := by omega
    have h2 : (4 : Int) ≤ n := by omega
    have hd : decide ((n : Int) - 4 < 0) = false := by simp; omega
    have hln : l.length - 4 = n - 4 := by rw [HL.out]
    by_cases hq : sealB (l.take (n - 4)) = l
    · have hE : openE l = 0 := by unfold openE; rw [if_neg (by rw [← HL.out]; exact h4), hln, if_pos hq]
      have hL : openL l = l.take (n - 4) := by unfold openL; rw [hE, hln]; rfl
      have HE := Lib.hid hE
      have HO := Lib.hid hL
      have hb := tx_beq hq
      clear hE hL hln hq
      go_enter Try.func69, Try.ntmps69
      go_wp2_with fail
      apply Rg.region_up (fun W => Up w W) (by kernel_rfl) (by kernel_rfl) (fun w1 h => h)
      · intro QN hQN
        iterate 3 (apply Rg.RK.ok; (· intro vs w1 hS; go_simp; with_reducible rfl); (· rfl); simp only [Act.put, List.setIfInBounds_toArray, List.set_cons_zero, List.set_cons_succ, Nat.reduceAdd])
        apply Rg.RK.opn (Sl 1 (bvs (sealB (l.take (n - 4))))) Rg.ob [] []
        · exact fun v W1 W2 h hs => h.sta hs
        · rfl
        · intro vs w1 hK hS hf K hKK
          go_simp
          refine (seal_any A (n - 4) c _ w1 (hrt.up hS) (by omega)).mono ?_
          rintro e w2 ⟨A1, c1, rfl, ho1, hu2⟩
          exact hKK.out _ _ (Sl.own ho1) (Rg.Keeps.of_up hu2) (own_row ho1)
        simp only [Act.put, List.setIfInBounds_toArray, List.set_cons_zero, List.set_cons_succ, Nat.reduceAdd]
        apply Rg.RK.okU [3] (v := .string (tx (sealB (l.take (n - 4)))))
        · intro vs w1 hS hf
          obtain ⟨⟨A1, n1, c1, hv, -, hrd⟩, -⟩ := hf
          exact exec_str rfl hv hrd
        · rfl
        simp only [Act.put, List.setIfInBounds_toArray, List.set_cons_zero, List.set_cons_succ, Nat.reduceAdd]
        (apply Rg.RK.ok; (· intro vs w1 hS; go_simp; with_reducible rfl); (· rfl); simp only [Act.put, List.setIfInBounds_toArray, List.set_cons_zero, List.set_cons_succ, Nat.reduceAdd])
        apply Rg.RK.ok
        · intro vs w1 hS
          exact exec_str rfl rfl (hr.up hS)
        · rfl
        simp only [Act.put, List.setIfInBounds_toArray, List.set_cons_zero, List.set_cons_succ, Nat.reduceAdd]
        apply Rg.RK.ok
        · intro vs w1 hS
          go_simp
          with_reducible rfl
        · rfl
        simp only [Act.put, List.setIfInBounds_toArray, List.set_cons_zero, List.set_cons_succ, Nat.reduceAdd]
        (apply Rg.RK.ok; (· intro vs w1 hS; go_simp; with_reducible rfl); (· rfl); simp only [Act.put, List.setIfInBounds_toArray, List.set_cons_zero, List.set_cons_succ, Nat.reduceAdd])
        apply Rg.RK.fin []
        intro vs w1 hK hS _
        refine hQN.out _ _ ?_
        clear hQN
        have hu := keeps_up hK
        go_wp2_with (at_builtin; refine wpList_append_rd _ bytesT (World.ownsRow_nil _ w.heap.size _ _) (hrt.up hu) (bvs_one _) (by omega) (by omega) hu.size rfl rfl rfl rfl ?_; intro v2 w2 hown2 hg2 hat2; obtain ⟨A2, c2, rfl⟩ := own_form hown2; simp only [Nat.zero_add, List.nil_append] at hown2)
        go_ret2
        rw [HE.out, HO.out]
        exact ⟨A2, n - 4, c2, by simp, hown2, hu.grown hg2 (fun g hg => by simp [Value.ownBlock] at hg)⟩
      · kernel_rfl

    · have hE : openE l = 5 := by unfold openE; rw [if_neg (by rw [← HL.out]; exact h4), hln, if_neg hq]
      have hL : openL l = [] := by unfold openL; rw [hE]; rfl
      have HE := Lib.hid hE
      have HO := Lib.hid hL
      have hb := tx_bne hq
      clear hE hL hln hq
      go_enter Try.func69, Try.ntmps69
      go_wp2_with fail
      apply Rg.region_up (fun W => Up w W) (by kernel_rfl) (by kernel_rfl) (fun w1 h => h)
      · intro QN hQN
        iterate 3 (apply Rg.RK.ok; (· intro vs w1 hS; go_simp; with_reducible rfl); (· rfl); simp only [Act.put, List.setIfInBounds_toArray, List.set_cons_zero, List.set_cons_succ, Nat.reduceAdd])
        apply Rg.RK.opn (Sl 1 (bvs (sealB (l.take (n - 4))))) Rg.ob [] []
        · exact fun v W1 W2 h hs => h.sta hs
        · rfl
        · intro vs w1 hK hS hf K hKK
          go_simp
          refine (seal_any A (n - 4) c _ w1 (hrt.up hS) (by omega)).mono ?_
          rintro e w2 ⟨A1, c1, rfl, ho1, hu2⟩
          exact hKK.out _ _ (Sl.own ho1) (Rg.Keeps.of_up hu2) (own_row ho1)
        simp only [Act.put, List.setIfInBounds_toArray, List.set_cons_zero, List.set_cons_succ, Nat.reduceAdd]
        apply Rg.RK.okU [3] (v := .string (tx (sealB (l.take (n - 4)))))
        · intro vs w1 hS hf
          obtain ⟨⟨A1, n1, c1, hv, -, hrd⟩, -⟩ := hf
          exact exec_str rfl hv hrd
        · rfl
        simp only [Act.put, List.setIfInBounds_toArray, List.set_cons_zero, List.set_cons_succ, Nat.reduceAdd]
        (apply Rg.RK.ok; (· intro vs w1 hS; go_simp; with_reducible rfl); (· rfl); simp only [Act.put, List.setIfInBounds_toArray, List.set_cons_zero, List.set_cons_succ, Nat.reduceAdd])
        apply Rg.RK.ok
        · intro vs w1 hS
          exact exec_str rfl rfl (hr.up hS)
        · rfl
        simp only [Act.put, List.setIfInBounds_toArray, List.set_cons_zero, List.set_cons_succ, Nat.reduceAdd]
        apply Rg.RK.ok
        · intro vs w1 hS
          go_simp
          with_reducible rfl
        · rfl
        simp only [Act.put, List.setIfInBounds_toArray, List.set_cons_zero, List.set_cons_succ, Nat.reduceAdd]
        (apply Rg.RK.ok; (· intro vs w1 hS; go_simp; with_reducible rfl); (· rfl); simp only [Act.put, List.setIfInBounds_toArray, List.set_cons_zero, List.set_cons_succ, Nat.reduceAdd])
        apply Rg.RK.fin []
        intro vs w1 hK hS _
        refine hQN.out _ _ ?_
        clear hQN
        have hu := keeps_up hK
        go_wp2_with fail
        go_ret2
        rw [HE.out, HO.out]
        exact ⟨none, 0, 0, rfl, NIL.out _, hu⟩
      · kernel_rfl

end Go.Proofs.Ytokcaoaclheiiaa

/-
  The walks of slices.Grow and slices.Concat, of bytes.
-/
namespace Go.Proofs.Ytokcaoaclheiiaa
open Go.RowKit
set_option linter.unusedVariables false
set_option linter.unusedSimpArgs false

theorem grown_row (w : World) (n : Nat) (base : Nat) (h0 : 0 < n) (hb : base ≤ w.heap.size) (hm : n ≤ 140737488355328) :
    ∃ c w', (Builtin.append_ #[43, 3] 43 #[.slice none 0 0, .int .i64 n]).run Try.prog w = .ok (.slice (some ⟨w.heap.size, 0, none⟩) n c) w' ∧ OwnB w' base (some ⟨w.heap.size, 0, none⟩) 0 c [] ∧ Up w w' ∧ n ≤ c := by
  obtain ⟨i, hi, hz, hs, hby⟩ := info_parts (P := Try.prog) (e := 5) (z := .int .u8 0) (size := 1) (bytes := 1) (by kernel_rfl)
  have := Lib.run_append_nil_zeros (P := Try.prog) w 43 3 43 5 i (.int .u8 0) .i64 .i64 bytesT.ut Try.underlying3 hi hz n h0 (by rw [hs]; omega) (by omega) (by rw [hby]; omega)
  have hge := grownCap_ge w n 0 5
  have hle := grownCap_le_maxLen w n 0 5 (by simp only [maxLen]; omega)
  refine ⟨_, _, this, ?_, (Up.refl w).drew.alloc _, hge⟩
  refine ⟨rfl, .inr ⟨w.heap.size, _, _, rfl, hb, heap_alloc_new w.drew _, Nat.zero_le _, hle, ?_, rfl⟩⟩
  rw [Array.size_append, size_zeroCells, size_zeroCells]
  show n * 1 + (_ - n) * 1 = _ * 1
  omega

set_option maxRecDepth 100000 in
set_option maxHeartbeats 1600000 in
theorem grow_any (n : Nat) (w : World) (hm : n ≤ 140737488355328) :
    Calls Try.prog 66 #[.slice none 0 0, .int .i64 n] w fun e w' => ∃ A c, e = .returned (.slice A 0 c) ∧ OwnB w' w.heap.size A 0 c [] ∧ Up w w' := by
  by_cases h0 : 0 < n
  · go_enter Try.func66, Try.ntmps66
    obtain ⟨c, w2, hrun, hown, hu, hc⟩ := grown_row w n w.heap.size h0 (Nat.le_refl _) hm
    have h9 : (n : Int) ≤ 9223372036854775807 := by omega
    go_wp2_with (at_builtin; refine Lib.wpList_append_run _ rfl _ _ _ _ rfl _ _ rfl rfl _ _ hrun ?_)
    go_ret
    exact ⟨_, c, rfl, hown, hu⟩
  · obtain rfl : n = 0 := by omega
    go_enter Try.func66, Try.ntmps66
    go_wp2_with fail
    go_ret
    exact ⟨none, 0, rfl, World.ownsRow_nil _ _ _ _, Up.refl _⟩
def ptsL (ps : List Pt) : List UInt8 := ps.flatMap (·.l)
theorem ptsL_take {ps : List Pt} {k : Nat} {p : Pt} (h : ps[k]? = some p) : ptsL (ps.take (k + 1)) = ptsL (ps.take k) ++ p.l := by
  obtain ⟨hk, rfl⟩ := List.getElem?_eq_some_iff.1 h
  unfold ptsL
  rw [List.take_succ_eq_append_getElem hk, List.flatMap_append, List.flatMap_singleton]
theorem ptsL_le (ps : List Pt) (k : Nat) : (ptsL (ps.take k)).length ≤ (ptsL ps).length := by
  have : ptsL ps = ptsL (ps.take k) ++ ptsL (ps.drop k) := by
    unfold ptsL; rw [← List.flatMap_append, List.take_append_drop]
  rw [this, List.length_append]; omega

set_option maxRecDepth 100000 in
set_option maxHeartbeats 1600000 in
theorem concat_any (Q : Option Addr) (m d : Nat) (ps : List Pt) (w : World) (hq : Rd w w.heap.size 1 Q m (ps.map Pt.v)) (hp : ∀ p ∈ ps, Rd w w.heap.size 1 p.A p.n (bvs p.l)) (ht : (ptsL ps).length ≤ 1099511627776) (hm : m ≤ 9223372036854775807) :
    Calls Try.prog 58 #[.slice Q m d] w fun e w' => ∃ A c, e = .returned (.slice A (ptsL ps).length c) ∧ OwnB w' w.heap.size A (ptsL ps).length c (ptsL ps) ∧ Up w w' := by
  have HM : Hid (m = ps.length) := by show _ = _; have := hq.1; rw [List.length_map] at this; omega
  have HP := Lib.hid hp
  clear hp
  have at_ : ∀ k, k < m → ∃ b o p, Q = some ⟨b, o, none⟩ ∧ b < w.heap.size ∧ ps[k]? = some p ∧ p ∈ ps ∧ ∀ W, Up w W → W.cell? ⟨b, o + k, none⟩ = some (.slice p.A p.n p.c) := by
    intro k hk
    obtain ⟨b, o, e, hb, hc⟩ := hq.2 (by omega)
    have hkl : k < ps.length := by have := HM.out; omega
    refine ⟨b, o, ps[k], e, hb, List.getElem?_eq_getElem hkl, List.getElem_mem _, fun W hW => ?_⟩
    have h1 := hc k (ps[k]).v (by simp [hkl])
    exact (hW.cell (p := ⟨b, o + k, none⟩) hb).trans h1
  have AT := Lib.hid at_
  clear at_
  have HT := Lib.hid ht
  clear ht
  go_enter Try.func58, Try.ntmps58
  go_wp2_with fail
  go_loop [3, 5, 11] (fun t _ i => ∃ k : Nat, i = .int .i64 (k : Int) ∧ k ≤ m ∧ t = .int .i64 ((ptsL (ps.take k)).length : Int)) (fun _ _ i => m - (intOf i).toNat)
  case atStart => exact ⟨0, rfl, by omega, rfl⟩
  case round =>
    obtain ⟨k, rfl, hk, rfl⟩ := hrel
    by_cases hlt : k < m
    · obtain ⟨b, o, p, rfl, hb, hpk, hpm, hcell⟩ := AT.out k hlt
      have hc := hcell w (Up.refl w)
      have hl := (HP.out p hpm).blen
      have h1 := ptsL_take hpk
      have h2 := ptsL_le ps (k + 1)
      have h3 : (ptsL (ps.take (k + 1))).length = (ptsL (ps.take k)).length + p.n := by rw [h1, List.length_append, hl]
      have H3 := Lib.hid h3
      have hbd : (ptsL (ps.take k)).length + p.n ≤ 1099511627776 := by have := HT.out; omega
      clear h1 h2 h3 hcell hl hpk
      generalize (ptsL (ps.take k)).length = s at *
      go_wp2
      go_round
      case rel => exact ⟨k + 1, by go_num, by omega, by rw [H3.out]; go_num⟩
      case measure => simp [intOf]; omega
    · have hkm : k = m := by omega
      subst hkm
      have hall : ps.take k = ps := List.take_of_length_le (by have := HM.out; omega)
      rw [hall]
      clear hall
      have hbig : (ptsL ps).length ≤ 140737488355328 := by have := HT.out; omega
      go_wp2_with fail
      refine (grow_any _ w hbig).mono ?_
      rintro e w1 ⟨A1, c1, rfl, ho1, hu1⟩
      go_wp2_with fail
      go_loopw [6, 8, 27] (fun v _ i wr => ∃ (j : Nat) (R : Option Addr) (n c : Nat), i = .int .i64 (j : Int) ∧ j ≤ k ∧ v = .slice R n c ∧ OwnB wr w.heap.size R n c (ptsL (ps.take j)) ∧ Up w wr) (fun _ _ i _ => k - (intOf i).toNat)
      case atStart => exact ⟨0, A1, 0, c1, rfl, by omega, rfl, ho1, hu1⟩
      case round =>
        obtain ⟨j, R, n, c, rfl, hj, rfl, ho, hu⟩ := hrel
        by_cases hlt' : j < k
        · obtain ⟨b, o, p, rfl, hb, hpk, hpm, hcell⟩ := AT.out j hlt'
          have hc := hcell wr hu
          have hrp := (HP.out p hpm).stay (Nat.le_refl _) hu
          have hl := hrp.blen
          have h1 := ptsL_take hpk
          have h2 := ptsL_le ps (j + 1)
          have hn := ho.len
          have hbd : n + p.n ≤ 1099511627776 := by
            have := HT.out
            rw [h1, List.length_append] at h2; omega
          have H1 := Lib.hid h1
          clear h1 h2 hcell hl hpk hn
          go_wp2_with (at_builtin; refine wpList_append_rd _ bytesT ho hrp (bvs_one _) (by omega) (by omega) hu.size rfl rfl rfl rfl ?_; intro v2 w2 hown2 hg2 hat2; obtain ⟨A2, c2, rfl⟩ := own_form hown2)
          rw [← bvs_append, ← H1.out] at hown2
          have hu2 : Up w w2 := hu.grown hg2 (fun g hg => (ho.lt g hg).1)
          go_roundw
          case rel => exact ⟨j + 1, A2, n + p.n, c2, by go_num, by omega, rfl, hown2, hu2⟩
          case measure => simp [intOf]; omega
        · have hjk : j = k := by omega
          subst hjk
          have hall : ps.take j = ps := List.take_of_length_le (by have := HM.out; omega)
          rw [hall] at ho
          have hn := ho.len
          have HN := Lib.hid hn
          clear hn hall
          go_wp2_with fail
          go_ret
          have hn := HN.out
          subst hn
          exact ⟨R, c, rfl, ho, hu⟩
end Go.Proofs.Ytokcaoaclheiiaa

/-
  The walk of frame.Put.
-/
namespace Go.Proofs.Ytokcaoaclheiiaa
open Go.RowKit
set_option linter.unusedVariables false
set_option linter.unusedSimpArgs false

/-- the error of Put -/
def putE (kind : Int) (n : Nat) : Nat := if kind < 1 ∨ 100 < kind then 1 else if 60000 < n then 2 else 0
def headB (kind : Int) (n : Nat) : List UInt8 := [byteOf kind, UInt8.ofNat (n / 65536), UInt8.ofNat (n / 256), UInt8.ofNat n]
def frameB (kind : Int) (l : List UInt8) : List UInt8 := sealB (headB kind l.length) ++ sealB l
def putL (bs : List UInt8) (kind : Int) (l : List UInt8) : List UInt8 := if putE kind l.length = 0 then bs ++ frameB kind l else []
theorem frameB_len (kind : Int) (l : List UInt8) : (frameB kind l).length = l.length + 12 := by
  simp [frameB, sealB_len, headB]; omega

set_option maxRecDepth 100000 in
set_option maxHeartbeats 1600000 in
theorem fput_any (A : Option Addr) (n c : Nat) (bs : List UInt8) (kind : Int) (B : Option Addr) (m d : Nat) (l : List UInt8) (w : World) (hr : Rd w w.heap.size 1 A n (bvs bs)) (hb : Rd w w.heap.size 1 B m (bvs l)) (hn : n ≤ 549755813888) (hm : m ≤ 9223372036854775807) :
    Calls Try.prog 47 #[.slice A n c, .int .i64 kind, .slice B m d] w fun e w' => ∃ A' n' c', e = .returned (.tuple #[.slice A' n' c', .int .i64 (putE kind l.length : Int)]) ∧ OwnB w' w.heap.size A' n' c' (putL bs kind l) ∧ Up w w' := by
  have nil0 : ∀ w0, OwnB w0 w.heap.size none 0 0 [] := fun w0 => World.ownsRow_nil _ _ _ _
  have NIL := Lib.hid nil0
  clear nil0
  have HM := Lib.hid hb.blen
  have HN := Lib.hid hr.blen
  have bad : ∀ E : Nat, putE kind l.length = E → E ≠ 0 → putL bs kind l = [] := fun E h h' => by unfold putL; rw [if_neg (by rw [h]; exact h')]
  by_cases hk1 : kind < 1
  · have hE : putE kind l.length = 1 := by unfold putE; rw [if_pos (.inl hk1)]
    have hL := bad 1 hE (by omega)
    have HE := Lib.hid hE
    have HO := Lib.hid hL
    clear hE hL bad
    go_enter Try.func47, Try.ntmps47
    go_wp2_with fail
    go_ret2
    rw [HE.out, HO.out]
    exact ⟨none, 0, 0, rfl, NIL.out _, Up.refl _⟩
  by_cases hk2 : 100 < kind
  · have hE : putE kind l.length = 1 := by unfold putE; rw [if_pos (.inr hk2)]
    have hL := bad 1 hE (by omega)
    have HE := Lib.hid hE
    have HO := Lib.hid hL
    clear hE hL bad
    go_enter Try.func47, Try.ntmps47
    go_wp2_with fail
    go_ret2
    rw [HE.out, HO.out]
    exact ⟨none, 0, 0, rfl, NIL.out _, Up.refl _⟩
  by_cases hbig : 60000 < m
  · have hE : putE kind l.length = 2 := by unfold putE; rw [if_neg (by omega), if_pos (by rw [← HM.out]; exact hbig)]
    have hL := bad 2 hE (by omega)
    have HE := Lib.hid hE
    have HO := Lib.hid hL
    clear hE hL bad
    go_enter Try.func47, Try.ntmps47
    go_wp2_with fail
    go_ret2
    rw [HE.out, HO.out]
    exact ⟨none, 0, 0, rfl, NIL.out _, Up.refl _⟩
  · have hE : putE kind l.length = 0 := by unfold putE; rw [if_neg (by omega), if_neg (by rw [← HM.out]; exact hbig)]
    have hL : putL bs kind l = bs ++ (sealB (headB kind m) ++ sealB l) := by unfold putL; rw [hE, if_pos rfl, HM.out]; rfl
    have HE := Lib.hid hE
    have HO := Lib.hid hL
    clear hE hL bad
    go_enter Try.func47, Try.ntmps47
    go_wp2_with fail
    have hh : ([.int .u8 kind, .int .u8 ((m : Int) / 65536), .int .u8 ((m : Int) / 256), .int .u8 ((m : Int) % 256)] : List Value) = bvs (headB kind m) := by
      have e0 : kind = kind % 256 := by omega
      have e1 : (m : Int) / 65536 = ((m / 65536 % 256 : Nat) : Int) := by omega
      have e2 : (m : Int) / 256 = ((m / 256 % 256 : Nat) : Int) := by omega
      have e3 : (m : Int) % 256 = ((m % 256 : Nat) : Int) := by omega
      simp only [bvs, headB, List.map_cons, List.map_nil, bv_ofNat, bv_byteOf, e1, e2, e3, ← e0]
    refine (seal_any _ 4 4 (headB kind m) _ (Rd.lit_at _ _ _ _ rfl hh) (by omega)).mono ?_
    rintro e w1 ⟨A1, c1, rfl, ho1, hu1⟩
    have hw1 : Up w w1 := ((Up.refl w).alloc _).trans hu1
    go_wp2_with fail
    refine (seal_any B m d l w1 (hb.up hw1) (by omega)).mono ?_
    rintro e w2 ⟨A2, c2, rfl, ho2, hu2⟩
    have hw2 : Up w w2 := hw1.trans hu2
    go_wp2_with fail
    have hq : Rd (w2.alloc (.cells #[.slice A n c, .slice A1 8 c1, .slice A2 (m + 4) c2] 43)) (w2.alloc (.cells #[.slice A n c, .slice A1 8 c1, .slice A2 (m + 4) c2] 43)).heap.size 1 (some ⟨w2.heap.size, 0, none⟩) 3 ([⟨A, n, c, bs⟩, ⟨A1, 8, c1, sealB (headB kind m)⟩, ⟨A2, m + 4, c2, sealB l⟩].map Pt.v) := Rd.made w2 _ _ rfl
    have hl : ptsL [⟨A, n, c, bs⟩, ⟨A1, 8, c1, sealB (headB kind m)⟩, ⟨A2, m + 4, c2, sealB l⟩] = bs ++ (sealB (headB kind m) ++ sealB l) := by simp [ptsL]
    have hll : (bs ++ (sealB (headB kind m) ++ sealB l)).length ≤ 1099511627776 := by
      have := HM.out; have := HN.out
      simp [sealB_len, headB]; omega
    refine (concat_any _ 3 3 _ _ hq ?_ (by rw [hl]; exact hll) (by omega)).mono ?_
    · intro p hp
      simp only [List.mem_cons, List.not_mem_nil, or_false] at hp
      rcases hp with rfl | rfl | rfl
      · exact hr.up (hw2.alloc _)
      · exact (ho1.up (hu2.alloc _)).rd
      · exact (ho2.up ((Up.refl _).alloc _)).rd
    rintro e w3 ⟨A3, c3, rfl, ho3, hu3⟩
    have hw3 : Up w w3 := (hw2.alloc _).trans hu3
    rw [hl] at ho3 ⊢
    clear hl hll hq hh
    generalize (bs ++ (sealB (headB kind m) ++ sealB l)).length = N3 at ho3 ⊢
    have hsz : w.heap.size ≤ (w2.alloc (.cells #[.slice A n c, .slice A1 8 c1, .slice A2 (m + 4) c2] 43)).heap.size := (hw2.alloc _).size
    have ho4 := own_base ho3 hsz
    clear ho3 hsz
    go_wp2_with fail
    go_ret2
    rw [HE.out, HO.out]
    exact ⟨A3, N3, c3, rfl, ho4, hw3⟩
end Go.Proofs.Ytokcaoaclheiiaa

/-
  The walk of edit.Put.
-/
namespace Go.Proofs.Ytokcaoaclheiiaa
open Go.RowKit
set_option linter.unusedVariables false
set_option linter.unusedSimpArgs false

def dq (ds : List Int) : List UInt64 := ds.map fun n => UInt64.ofNat n.toNat
def filesB (l : List Fl) : List UInt8 := l.flatMap fun f => numB f.1.toNat ++ numB f.2.toNat
def numsL (l : List Nat) : List UInt8 := l.flatMap numB
/-- an edit in bytes, without its frame -/
def editB (ds : List Int) (add : List Fl) (lg : Int) (f ce at_ le : Nat) : List UInt8 := listB (dq ds) ++ numB add.length ++ filesB add ++ numsL [lg.toNat, f, ce, at_, le]
theorem dq_len (ds : List Int) : (dq ds).length = ds.length := by simp [dq]
theorem numsL_len : ∀ (l : List Nat), (∀ x ∈ l, x < 18446744073709551616) → (numsL l).length ≤ 10 * l.length
  | [], _ => by simp [numsL]
  | x :: l, h => by
    have h1 := numB_ten (h x List.mem_cons_self)
    have h2 := numsL_len l fun y hy => h y (List.mem_cons_of_mem _ hy)
    simp only [numsL, List.flatMap_cons, List.length_append, List.length_cons] at *
    omega
theorem filesB_len : ∀ (l : List Fl), (∀ f ∈ l, fileOk f = true) → (filesB l).length ≤ 20 * l.length
  | [], _ => by simp [filesB]
  | f :: l, h => by
    have h0 := h f List.mem_cons_self
    have h2 := filesB_len l fun y hy => h y (List.mem_cons_of_mem _ hy)
    simp [fileOk, numOk] at h0
    have h3 := numB_ten (n := f.1.toNat) (by omega)
    have h4 := numB_ten (n := f.2.toNat) (by omega)
    simp only [filesB, List.flatMap_cons, List.length_append, List.length_cons] at *
    omega
theorem listB_ten (q : List UInt64) (h : q.length < 18446744073709551616) : (listB q).length ≤ 10 * q.length + 10 := by
  have h1 : (numsB q).length ≤ 10 * q.length := by
    clear h
    induction q with
    | nil => simp [numsB]
    | cons x q ih => have := numB_ten x.toNat_lt; simp only [numsB, List.flatMap_cons, List.length_append, List.length_cons] at *; omega
  unfold listB
  rw [List.length_append]
  have := numB_ten h
  omega
theorem numOk_wrap {x : Int} (h : numOk x = true) : IntKind.u64.wrap x = ((x.toNat : Nat) : Int) ∧ x.toNat ≤ 1073741824 := by
  simp [numOk] at h
  refine ⟨?_, by omega⟩
  simp [IntKind.wrap, IntKind.bits, IntKind.signed]
  omega
theorem lev_wrap {x : Int} (h : 0 ≤ x) (h2 : x ≤ 1073741824) : IntKind.u64.wrap x = ((x.toNat : Nat) : Int) := by
  simp [IntKind.wrap, IntKind.bits, IntKind.signed]
  omega

set_option maxRecDepth 100000 in
set_option maxHeartbeats 1600000 in
theorem eput_any (B : Option Addr) (n c : Nat) (bs : List UInt8) (D : Option Addr) (dn dc : Nat) (ds : List Int) (A : Option Addr) (an ac : Nat) (add : List Fl) (lg : Int) (f ce at_ le : Nat) (w : World)
    (hb : Rd w w.heap.size 1 B n (bvs bs)) (hn : n ≤ 549755813888) (hd : Rd w w.heap.size 1 D dn (nmv ds)) (hdn : dn ≤ 9223372036854775807) (ha : Rd w w.heap.size 2 A an (fvs add)) (han : an ≤ 9223372036854775807) :
    Calls Try.prog 21 #[.slice B n c, .agg #[.slice D dn dc, .slice A an ac, .int .i64 lg, .int .u64 (f : Int), .int .u64 (ce : Int), .int .u64 (at_ : Int), .int .u64 (le : Int)]] w
      fun e w' => (mayE ds add lg f ce at_ le = false ∧ e = .returned (.tuple #[.slice none 0 0, .int .i64 1]) ∧ Up w w') ∨
        (mayE ds add lg f ce at_ le = true ∧ ∃ A' n' c', e = .returned (.tuple #[.slice A' n' c', .int .i64 0]) ∧ OwnB w' w.heap.size A' n' c' (bs ++ frameB 6 (editB ds add lg f ce at_ le)) ∧ Up w w') := by
  obtain ⟨w1, hw1⟩ : ∃ w1, w1 = w.alloc (.cells #[.slice D dn dc, .slice A an ac, .int .i64 lg, .int .u64 (f : Int), .int .u64 (ce : Int), .int .u64 (at_ : Int), .int .u64 (le : Int)] 32) := ⟨_, rfl⟩
  have hup1 : Up w w1 := by rw [hw1]; exact (Up.refl w).alloc _
  have hb1 : w1.heap[w.heap.size]? = some (.cells #[.slice D dn dc, .slice A an ac, .int .i64 lg, .int .u64 (f : Int), .int .u64 (ce : Int), .int .u64 (at_ : Int), .int .u64 (le : Int)] 32 (0, 0)) := by rw [hw1]; exact heap_alloc_new w _
  have HW := Lib.hid hw1
  clear hw1
  go_enter Try.func21, Try.ntmps21
  go_wp2_with fail
  rw [← HW.out]
  clear HW
  have hge : w.heap.size ≤ w.heap.size := Nat.le_refl _
  generalize hgE : w.heap.size = ge at hb1 ⊢
  refine (mayE_any D dn dc ds A an ac add lg f ce at_ le w1 (hd.up hup1) hdn (ha.up hup1) han).mono ?_
  rintro e w2 ⟨rfl, hu2⟩
  have hb2 := (hu2.block _ (Array.getElem?_eq_some_iff.1 hb1).1).trans hb1
  have hup2 := hup1.trans hu2
  clear hb1 hup1 hu2
  cases hm : mayE ds add lg f ce at_ le
  · go_wp2_with fail
    go_ret2
    exact .inl ⟨hm, rfl, hup2⟩
  · have hm2 := hm
    simp only [mayE, Bool.and_eq_true, decide_eq_true_eq] at hm2
    obtain ⟨m1, m2, m3, m4, m5, m6, m7⟩ := hm2
    have m6' : ∀ x ∈ ds, numOk x = true := List.all_eq_true.1 m6
    have m7' : ∀ x ∈ add, fileOk x = true := List.all_eq_true.1 m7
    simp only [List.all_cons, List.all_nil, Bool.and_true, Bool.and_eq_true, verOk, decide_eq_true_eq] at m5
    have hdl : dn = ds.length := by have := hd.1; rw [nmv_len] at this; omega
    have hal : an = add.length := ha.flen
    have HDL := Lib.hid hdl
    have HAL := Lib.hid hal
    have HM := Lib.hid hm
    have HM6 := Lib.hid m6'
    have HM7 := Lib.hid m7'
    rw [← hdl] at m1
    rw [← hal] at m2
    clear hm hdl hal m6 m7 m6' m7'
    have t0 := blk_cell hb2 0
    go_wp2_with fail
    clear t0
    go_loopw [6, 20] (fun q i wr => ∃ (k : Nat) (Q : Option Addr) (qc : Nat), i = .int .i64 (k : Int) ∧ q = .slice Q k qc ∧ k ≤ dn ∧ Up w2 wr ∧ OwnQ wr w2.heap.size Q k qc (dq (ds.take k))) (fun _ i _ => dn - (intOf i).toNat)
    case atStart => exact ⟨0, none, 0, rfl, rfl, by omega, Up.refl _, World.ownsRow_nil _ _ _ _⟩
    case round =>
      obtain ⟨k, Q, qc, rfl, rfl, hk, hu, hq⟩ := hrel
      by_cases hlt : k < dn
      · have hkl : k < ds.length := by have := HDL.out; omega
        obtain ⟨b, o, rfl, hbb, hc⟩ := hd.2 (by omega)
        have hck : wr.cell? ⟨b, o + k, none⟩ = some (.int .i64 ds[k]) := ((hup2.trans hu).cell (p := ⟨b, o + k, none⟩) hbb).trans (hc k _ (by simp [nmv, hkl]))
        obtain ⟨x, hx⟩ : ∃ x, x = ds[k] := ⟨_, rfl⟩
        have hxo : numOk x = true := by rw [hx]; exact HM6.out _ (List.getElem_mem hkl)
        rw [← hx] at hck
        obtain ⟨z1, z2⟩ := numOk_wrap hxo
        have htk : dq (ds.take (k + 1)) = dq (ds.take k) ++ [UInt64.ofNat x.toNat] := by
          rw [List.take_succ_eq_append_getElem hkl, ← hx]; simp [dq]
        generalize x.toNat = xn at *
        have hqv : Value.int .u64 (xn : Int) = qv (UInt64.ofNat xn) := by
          rw [qv_ofNat, Nat.mod_eq_of_lt (by omega)]
        have HT := Lib.hid htk
        have HQV := Lib.hid hqv
        have hu12 := hup2.trans hu
        clear hc hx hxo htk hqv
        go_wp2_with (at_builtin; refine wpList_append_rd _ numsT (news := qvs [UInt64.ofNat xn]) (World.ownsRow.alloc hq _) (Rd.boxq _ _ HQV.out) (qvs_one _) (by omega) (by omega) (by simp; have := hu.size; omega) rfl rfl rfl rfl ?_; intro v3 w3 hown3 hg3 hat3; obtain ⟨Q3, qc3, rfl⟩ := own_form hown3)
        have hu3 : Up w2 w3 := (hu.alloc _).grown hg3 (fun g hg => (hq.lt g hg).1)
        clear hck hat3 hg3
        go_roundw
        case rel =>
          refine ⟨k + 1, Q3, qc3, by go_num, rfl, by omega, hu3, ?_⟩
          show World.ownsRow _ _ _ _ _ _ _
          rw [HT.out, qvs_append]
          exact hown3
        case measure => simp [intOf]; omega
      · have hkd : k = dn := by omega
        subst hkd
        have hqd : OwnQ wr w2.heap.size Q k qc (dq ds) := by
          have h := hq
          rw [HDL.out, List.take_length] at h
          rw [HDL.out]
          exact h
        clear hq
        have hqr := hqd.rd
        have hS : ∀ W, Up wr W → Up wr W ∧ W.cell? ⟨ge, 1, none⟩ = some (.slice A an ac) := fun W h =>
          ⟨h, blk_cell (((hu.trans h).block _ (Array.getElem?_eq_some_iff.1 hb2).1).trans hb2) 1⟩
        have zan : IntKind.u64.wrap (an : Int) = (an : Int) := by simp [IntKind.wrap, IntKind.bits, IntKind.signed]; omega
        have hlb := listB_ten (dq ds) (by rw [dq_len, ← HDL.out]; omega)
        rw [dq_len, ← HDL.out] at hlb
        have hb9 := (hu.block _ (Array.getElem?_eq_some_iff.1 hb2).1).trans hb2
        have hup9 := hup2.trans hu
        clear hqd hd hb2 hup2 hu
        go_wp2_with fail
        apply Rg.region_up _ (by kernel_rfl) (by kernel_rfl) hS
        · intro QN hQN
          (apply Rg.RK.ok; (· intro vs w1 hS; go_simp; with_reducible rfl); (· rfl); simp only [Act.put, List.setIfInBounds_toArray, List.set_cons_zero, List.set_cons_succ, Nat.reduceAdd])
          apply Rg.RK.opn (Sl 1 (bvs (listB (dq ds)))) Rg.ob [] []
          · exact fun v W1 W2 h hs => h.sta hs
          · rfl
          · intro vs w1 hK hS hf K hKK
            go_simp
            have hcall := list_any none 0 0 [] Q k qc (dq ds) w1 Rd.empty (hqr.up hS.1) (by omega)
            refine hcall.mono ?_
            rintro e w2 ⟨A1, n1, c1, rfl, ho1, hu2⟩
            (try rw [List.nil_append] at ho1)
            exact hKK.out _ _ (Sl.own ho1) (Rg.Keeps.of_up hu2) (own_row ho1)
          simp only [Act.put, List.setIfInBounds_toArray, List.set_cons_zero, List.set_cons_succ, Nat.reduceAdd]
          iterate 4 (apply Rg.RK.ok; (· intro vs w1 hS; go_simp; with_reducible rfl); (· rfl); simp only [Act.put, List.setIfInBounds_toArray, List.set_cons_zero, List.set_cons_succ, Nat.reduceAdd])
          apply Rg.RK.opn (Sl 1 (bvs (listB (dq ds) ++ numB an))) Rg.ob [1] []
          · exact fun v W1 W2 h hs => h.sta hs
          · rfl
          · intro vs w1 hK hS hf K hKK
            obtain ⟨hsl, -⟩ := hf
            obtain ⟨A1, n1, c1, hv, hnc, hrd⟩ := hsl
            have HBL := Lib.hid hrd.blen
            (try dsimp only at hKK ⊢)
            rw [hv] at hKK ⊢
            go_simp
            have hcall := put_any A1 n1 c1 (listB (dq ds)) an w1 hrd (by have := HBL.out; omega) (by omega)
            refine hcall.mono ?_
            rintro e w2 ⟨A2, n2, c2, rfl, ho1, hu2⟩
            exact hKK.out _ _ (Sl.own ho1) (Rg.Keeps.of_up hu2) (own_row ho1)
          simp only [Act.put, List.setIfInBounds_toArray, List.set_cons_zero, List.set_cons_succ, Nat.reduceAdd]
          apply Rg.RK.opD (fun vs W => vs 7 = vs 6) (fun _ _ => False) [] [] [6] (fun vs vs' h => by rw [h 7 (by simp), h 6 (by simp)]; exact ⟨rfl, rfl⟩)
          · exact fun _ _ _ h _ => h
          · rfl
          · intro vs w1 hK hS _ K hKK
            go_simp
            refine hKK.out _ _ ?_ (Rg.Keeps.refl _ _) (fun g hg => hg.elim)
            rw [Rg.upd_same, Rg.upd_ne _ _ (by decide)]
          simp only [Act.put, List.setIfInBounds_toArray, List.set_cons_zero, List.set_cons_succ, Nat.reduceAdd]
          apply Rg.RK.fin [6, 7]
          intro vs w8 hK hS hf
          obtain ⟨h6, h7, -⟩ := hf
          obtain ⟨B1, bn, bc, hv6, hbc, hrB⟩ := h6
          have hv7 : vs 7 = .slice B1 bn bc := Eq.trans h7 hv6
          refine hQN.out _ _ ?_
          clear hQN
          (try dsimp only)
          rw [hv6, hv7]
          generalize vs 1 = v1
          have hu8 := keeps_up hK
          have hb10 := (hu8.block _ (Array.getElem?_eq_some_iff.1 hb9).1).trans hb9
          have hup10 := hup9.trans hu8
          have hbn : bn ≤ 10 * k + 20 := by
            have h1 := hrB.blen
            have h2 := numB_ten (n := an) (by omega)
            rw [List.length_append] at h1
            omega
          clear hS hK h7 hv6 hv7 hqr hb9 hup9 hu8 hlb vs
          have hb0 : listB (dq ds) ++ numB an = listB (dq ds) ++ numB add.length := by rw [HAL.out]
          rw [hb0] at hrB
          have HB0 := Lib.hid (Eq.refl (listB (dq ds) ++ numB add.length))
          generalize hb00 : listB (dq ds) ++ numB add.length = b0 at hrB HB0
          have HB00 := Lib.hid hb00
          clear hb0 hb00 HB0
          have t1 := blk_cell hb10 1
          go_wp2_with fail
          clear t1
          go_loopw [9, 40] (fun q i wr => ∃ (j : Nat) (Q : Option Addr) (qn qc : Nat), i = .int .i64 (j : Int) ∧ q = .slice Q qn qc ∧ j ≤ an ∧ qn ≤ 10 * k + 20 + 20 * j ∧ Up w8 wr ∧ Rd wr wr.heap.size 1 Q qn (bvs (b0 ++ filesB (add.take j)))) (fun _ i _ => an - (intOf i).toNat)
          case atStart => exact ⟨0, B1, bn, bc, rfl, rfl, by omega, by omega, Up.refl _, by simpa [filesB] using hrB⟩
          case round =>
            obtain ⟨j, Q, qn, qc, rfl, rfl, hj, hqn, hu, hq⟩ := hrel
            by_cases hlt2 : j < an
            · have hjl : j < add.length := by have := HAL.out; omega
              obtain ⟨b, o, x, rfl, hbb, hx, c0, c1⟩ := ((ha.up hup10).up hu).file_at hlt2
              rw [List.getElem?_eq_getElem hjl] at hx
              injection hx with hx
              have hxo : fileOk x = true := by rw [← hx]; exact HM7.out _ (List.getElem_mem hjl)
              have htk : filesB (add.take (j + 1)) = filesB (add.take j) ++ (numB x.1.toNat ++ numB x.2.toNat) := by
                rw [List.take_succ_eq_append_getElem hjl, hx]; simp [filesB]
              obtain ⟨x1, x2⟩ := x
              (try dsimp only at c0 c1 htk)
              simp [fileOk, numOk] at hxo
              have z1 := lev_wrap (x := x1) (by omega) (by omega)
              have z2 := lev_wrap (x := x2) (by omega) (by omega)
              have z3 : x1.toNat ≤ 3 := by omega
              have z4 : x2.toNat ≤ 1073741824 := by omega
              have HT := Lib.hid htk
              clear hx hxo htk
              generalize x1.toNat = y1 at *
              generalize x2.toNat = y2 at *
              have hub : Up wr (wr.alloc (.cells #[.int .i64 x1, .int .i64 x2] 41)) := (Up.refl wr).alloc _
              have hfb : (wr.alloc (.cells #[.int .i64 x1, .int .i64 x2] 41)).heap[wr.heap.size]? = some (.cells #[.int .i64 x1, .int .i64 x2] 41 (0, 0)) := heap_alloc_new _ _
              go_wp2_with fail
              clear c0 c1
              have hq2 := hq.up hub
              have hu2 := hu.trans hub
              generalize wr.alloc (.cells #[.int .i64 x1, .int .i64 x2] 41) = w9 at *
              generalize wr.heap.size = gf at hfb ⊢
              have hS : ∀ W, Up w9 W → Up w9 W ∧ W.cell? ⟨gf, 0, none⟩ = some (.int .i64 x1) ∧ W.cell? ⟨gf, 1, none⟩ = some (.int .i64 x2) := fun W h => by
                have hf := (h.block _ (Array.getElem?_eq_some_iff.1 hfb).1).trans hfb
                exact ⟨h, blk_cell hf 0, blk_cell hf 1⟩
              clear hub hq hu hfb
              apply Rg.region_up _ (by kernel_rfl) (by kernel_rfl) hS
              · intro QN hQN
                iterate 4 (apply Rg.RK.ok; (· intro vs w1 hS; go_simp; with_reducible rfl); (· rfl); simp only [Act.put, List.setIfInBounds_toArray, List.set_cons_zero, List.set_cons_succ, Nat.reduceAdd])
                apply Rg.RK.opn (Sl 1 (bvs (b0 ++ filesB (add.take j) ++ numB y1))) Rg.ob [] []
                · exact fun v W1 W2 h hs => h.sta hs
                · rfl
                · intro vs w1 hK hS hf K hKK
                  go_simp
                  have hcall := put_any Q qn qc (b0 ++ filesB (add.take j)) y1 w1 (hq2.up hS.1) (by omega) (by omega)
                  refine hcall.mono ?_
                  rintro e w2 ⟨A1, n1, c1, rfl, ho1, hu2⟩
                  (try rw [List.nil_append] at ho1)
                  exact hKK.out _ _ (Sl.own ho1) (Rg.Keeps.of_up hu2) (own_row ho1)
                simp only [Act.put, List.setIfInBounds_toArray, List.set_cons_zero, List.set_cons_succ, Nat.reduceAdd]
                iterate 3 (apply Rg.RK.ok; (· intro vs w1 hS; go_simp; with_reducible rfl); (· rfl); simp only [Act.put, List.setIfInBounds_toArray, List.set_cons_zero, List.set_cons_succ, Nat.reduceAdd])
                apply Rg.RK.opn (Sl 1 (bvs (b0 ++ filesB (add.take j) ++ numB y1 ++ numB y2))) Rg.ob [4] []
                · exact fun v W1 W2 h hs => h.sta hs
                · rfl
                · intro vs w1 hK hS hf K hKK
                  obtain ⟨hsl, -⟩ := hf
                  obtain ⟨A1, n1, c1, hv, hnc, hrd⟩ := hsl
                  have HBL := Lib.hid hrd.blen
                  (try dsimp only at hKK ⊢)
                  rw [hv] at hKK ⊢
                  go_simp
                  have hcall := put_any A1 n1 c1 (b0 ++ filesB (add.take j) ++ numB y1) y2 w1 hrd (by have h1 := HBL.out; have h2 := hq2.blen; have h3 := numB_ten (n := y1) (by omega); rw [List.length_append] at h1; omega) (by omega)
                  refine hcall.mono ?_
                  rintro e w2 ⟨A2, n2, c2, rfl, ho1, hu2⟩
                  exact hKK.out _ _ (Sl.own ho1) (Rg.Keeps.of_up hu2) (own_row ho1)
                simp only [Act.put, List.setIfInBounds_toArray, List.set_cons_zero, List.set_cons_succ, Nat.reduceAdd]
                apply Rg.RK.opD (fun vs W => vs 9 = vs 8) (fun _ _ => False) [] [] [8] (fun vs vs' h => by rw [h 9 (by simp), h 8 (by simp)]; exact ⟨rfl, rfl⟩)
                · exact fun _ _ _ h _ => h
                · rfl
                · intro vs w1 hK hS _ K hKK
                  go_simp
                  refine hKK.out _ _ ?_ (Rg.Keeps.refl _ _) (fun g hg => hg.elim)
                  rw [Rg.upd_same, Rg.upd_ne _ _ (by decide)]
                simp only [Act.put, List.setIfInBounds_toArray, List.set_cons_zero, List.set_cons_succ, Nat.reduceAdd]
                apply Rg.RK.fin [8, 9]
                intro vs w10 hK hS hf
                obtain ⟨h8, h9, -⟩ := hf
                obtain ⟨Q3, qn3, qc3, hv8, hqc3, hrQ⟩ := h8
                have hv9 : vs 9 = .slice Q3 qn3 qc3 := Eq.trans h9 hv8
                refine hQN.out _ _ ?_
                clear hQN
                (try dsimp only)
                rw [hv8, hv9]
                generalize vs 4 = v4
                have hu3 := keeps_up hK
                have hqn3 : qn3 ≤ 10 * k + 20 + 20 * (j + 1) := by
                  have h1 := hrQ.blen
                  have h2 := hq2.blen
                  have h3 := numB_ten (n := y1) (by omega)
                  have h4 := numB_ten (n := y2) (by omega)
                  rw [List.length_append, List.length_append] at h1
                  omega
                clear hS hK h9 hv8 hv9
                go_wp2_with fail
                go_roundw
                case rel =>
                  refine ⟨j + 1, Q3, qn3, qc3, by go_num, rfl, by omega, hqn3, hu2.trans hu3, ?_⟩
                  rw [HT.out, ← List.append_assoc, ← List.append_assoc]
                  exact hrQ
                case measure => simp [intOf]; omega
              · kernel_rfl
            · have hjn : j = an := by omega
              subst hjn
              have hqa : Rd wr wr.heap.size 1 Q qn (bvs (b0 ++ filesB add)) := by
                have h := hq
                rw [HAL.out, List.take_length] at h
                exact h
              have zlg := lev_wrap m3 m4
              have zl2 : lg.toNat ≤ 1073741824 := by omega
              obtain ⟨lgN, hlgN⟩ : ∃ lgN, lgN = lg.toNat := ⟨_, rfl⟩
              rw [← hlgN] at zlg zl2
              have HLG := Lib.hid hlgN
              have hb11 := (hu.block _ (Array.getElem?_eq_some_iff.1 hb10).1).trans hb10
              have t2 := blk_cell hb11 2
              have t3 := blk_cell hb11 3
              have t4 := blk_cell hb11 4
              have t5 := blk_cell hb11 5
              have t6 := blk_cell hb11 6
              have hlit : Rd (wr.alloc (.cells #[.int .u64 (lgN : Int), .int .u64 (f : Int), .int .u64 (ce : Int), .int .u64 (at_ : Int), .int .u64 (le : Int)] 22)) (wr.alloc (.cells #[.int .u64 (lgN : Int), .int .u64 (f : Int), .int .u64 (ce : Int), .int .u64 (at_ : Int), .int .u64 (le : Int)] 22)).heap.size 1 (some ⟨wr.heap.size, 0, none⟩) 5 (uqs [lgN, f, ce, at_, le]) := Rd.made wr #[.int .u64 (lgN : Int), .int .u64 (f : Int), .int .u64 (ce : Int), .int .u64 (at_ : Int), .int .u64 (le : Int)] 22 rfl
              have hub : Up wr (wr.alloc (.cells #[.int .u64 (lgN : Int), .int .u64 (f : Int), .int .u64 (ce : Int), .int .u64 (at_ : Int), .int .u64 (le : Int)] 22)) := (Up.refl wr).alloc _
              have hqb := hqa.up hub
              have hup12 := (hup10.trans hu).trans hub
              clear hq hqa hb10 hlgN hS hup10 hu hrB
              go_wp2_with fail
              clear t2 t3 t4 t5 t6 hb11 hub
              generalize wr.alloc (.cells #[.int .u64 (lgN : Int), .int .u64 (f : Int), .int .u64 (ce : Int), .int .u64 (at_ : Int), .int .u64 (le : Int)] 22) = w9 at *
              generalize wr.heap.size = gl at hlit ⊢
              have hnb : ∀ x ∈ [lgN, f, ce, at_, le], x ≤ 281474976710656 := by
                intro x hx
                simp only [List.mem_cons, List.not_mem_nil, or_false] at hx
                obtain ⟨a1, a2, a3, a4⟩ := m5
                rcases hx with rfl | rfl | rfl | rfl | rfl <;> omega
              have HNB := Lib.hid hnb
              obtain ⟨nums, hnums⟩ : ∃ nums, nums = [lgN, f, ce, at_, le] := ⟨_, rfl⟩
              have hnl : nums.length = 5 := by rw [hnums]; rfl
              rw [← hnums] at hlit HNB
              have HNM := Lib.hid hnums
              have HNL := Lib.hid hnl
              clear hnb hnums hnl m5
              go_loopw [9, 67] (fun q i wr => ∃ (t : Nat) (Q : Option Addr) (qn qc : Nat), i = .int .i64 (t : Int) ∧ q = .slice Q qn qc ∧ t ≤ 5 ∧ qn ≤ 10 * k + 20 + 20 * j + 10 * t ∧ Up w9 wr ∧ Rd wr wr.heap.size 1 Q qn (bvs (b0 ++ filesB add ++ numsL (nums.take t)))) (fun _ i _ => 5 - (intOf i).toNat)
              case atStart => exact ⟨0, Q, qn, qc, rfl, rfl, by omega, by omega, Up.refl _, by simpa [numsL] using hqb⟩
              case round =>
                clear hqb hqn
                obtain ⟨t, Q, qn, qc, rfl, rfl, ht, hqn, hu, hq⟩ := hrel
                by_cases hlt3 : t < 5
                · have htl : t < nums.length := by have := HNL.out; omega
                  obtain ⟨b, o, e, hbb, hc⟩ := (hlit.up hu).2 (by omega)
                  injection e with e
                  injection e with e1 e2
                  subst e1; subst e2
                  have hck := hc t (.int .u64 (nums[t] : Int)) (by simp [uqs, htl])
                  rw [Nat.zero_add] at hck
                  have hxb : nums[t] ≤ 281474976710656 := HNB.out _ (List.getElem_mem htl)
                  have htk : numsL (nums.take (t + 1)) = numsL (nums.take t) ++ numB nums[t] := by
                    rw [List.take_succ_eq_append_getElem htl]; unfold numsL; rw [List.flatMap_append, List.flatMap_singleton]
                  generalize nums[t] = x at *
                  have HT := Lib.hid htk
                  clear hc htk
                  go_wp2_with fail
                  clear hck
                  have hcall := put_any Q qn qc (b0 ++ filesB add ++ numsL (nums.take t)) x wr hq (by omega) (by omega)
                  refine hcall.mono ?_
                  rintro e w10 ⟨Q3, qn3, qc3, rfl, ho, hu3⟩
                  have hrQ := ho.rd
                  have hqn3 : qn3 ≤ 10 * k + 20 + 20 * j + 10 * (t + 1) := by
                    have h1 := hrQ.blen
                    have h2 := hq.blen
                    have h3 := numB_ten (n := x) (by omega)
                    rw [List.length_append] at h1
                    omega
                  clear ho hcall
                  go_wp2_with fail
                  go_roundw
                  case rel =>
                    refine ⟨t + 1, Q3, qn3, qc3, by go_num, rfl, by omega, hqn3, hu.trans hu3, ?_⟩
                    rw [HT.out, ← List.append_assoc]
                    exact hrQ
                  case measure => simp [intOf]; omega
                · have ht5 : t = 5 := by omega
                  subst ht5
                  have hqe : Rd wr wr.heap.size 1 Q qn (bvs (editB ds add lg f ce at_ le)) := by
                    have h := hq
                    have e : nums.take 5 = nums := List.take_of_length_le (by have := HNL.out; omega)
                    rw [e, HNM.out, HLG.out, ← HB00.out] at h
                    exact h
                  clear hq
                  have hput0 : putE 6 (editB ds add lg f ce at_ le).length = 0 := by
                    have h1 := hqe.blen
                    unfold putE
                    rw [if_neg (by omega), if_neg (by omega)]
                  have hputL : putL bs 6 (editB ds add lg f ce at_ le) = bs ++ frameB 6 (editB ds add lg f ce at_ le) := by unfold putL; rw [if_pos hput0]
                  have HP0 := Lib.hid hput0
                  have HPL := Lib.hid hputL
                  have hup13 := hup12.trans hu
                  clear hput0 hputL
                  go_wp2_with fail
                  have hcall := fput_any B n c bs 6 Q qn qc (editB ds add lg f ce at_ le) wr (hb.up hup13) hqe hn (by omega)
                  refine hcall.mono ?_
                  rintro e w10 ⟨Q3, qn3, qc3, rfl, ho, hu3⟩
                  rw [HP0.out]
                  rw [HPL.out] at ho
                  go_wp2_with fail
                  go_ret2
                  exact .inr ⟨HM.out, Q3, qn3, qc3, rfl, own_base ho (by have := hup13.size; omega), hup13.trans hu3⟩
        · kernel_rfl
end Go.Proofs.Ytokcaoaclheiiaa

/-
  The walks of the document's answers for numbers: Take, Uneight, Sign.
-/
namespace Go.Proofs.Ytokcaoaclheiiaa
open Go.RowKit
set_option linter.unusedVariables false

/-- a text's byte, as a list's -/
theorem getD_str {s : ByteArray} {l : List UInt8} (hs : s.data.toList = l) {k : Nat} (hk : k < s.size) : s[k] = l.getD k 0 := by
  subst hs
  have h : k < s.data.size := hk
  show s.data[k] = _
  simp only [List.getD, Array.getElem?_toList, Array.getElem?_eq_getElem h, Option.getD_some]
theorem size_str {s : ByteArray} {l : List UInt8} (hs : s.data.toList = l) : s.size = l.length := by subst hs; rfl

set_option maxRecDepth 100000 in
set_option maxHeartbeats 800000 in
theorem rtake_any (s : ByteArray) (l : List UInt8) (w : World) (hs : s.data.toList = l) (hn : s.size ≤ 9223372036854775807) :
    Calls Try.prog 44 #[.string s] w fun e w' => e = .returned (.tuple #[.int .u64 ((takeL l).1 : Int), .int .i64 ((takeL l).2.1 : Int), .int .i64 ((takeL l).2.2 : Int)]) ∧ w = w' := by
  have HS := Lib.hid hs
  have HZ := Lib.hid (size_str hs)
  clear hs
  go_enter Try.func44, Try.ntmps44
  go_wp2
  go_loop [5, 6] (fun q i => ∃ (k acc : Nat), i = .int .i64 (k : Int) ∧ q = .int .u64 (acc : Int) ∧ k ≤ s.size ∧ k ≤ 9 ∧ acc < 128 ^ k ∧ Hid (takeGo (l.drop k) k acc = takeL l)) (fun _ i => 10 - (intOf i).toNat)
  case atStart => exact ⟨0, 0, rfl, rfl, by omega, by omega, by simp, rfl⟩
  case round =>
    obtain ⟨k, acc, rfl, rfl, hk, hk9, hacc, ht⟩ := hrel
    by_cases hlt : k < s.size
    · have hbl : k < l.length := by have := HZ.out; omega
      have htg : takeGo (l.drop k) k acc = takeGo (l.getD k 0 :: l.drop (k + 1)) k acc := by
        rw [List.drop_eq_getElem_cons hbl]; simp [List.getD, hbl]
      have hgd := getD_str HS.out hlt
      generalize (l.getD k 0) = ch at hgd htg
      have HT : Hid (takeGo (ch :: l.drop (k + 1)) k acc = takeL l) := htg.symm.trans ht.out
      clear htg ht
      have hcb := ch.toNat_lt
      have HZ := Lib.hid (byte0 ch)
      by_cases h9 : k = 9
      · subst h9
        go_wp2_with fail
        all_goals (first | have hz := HZ.out.1 (by assumption) | have hz := HZ.out.2 (by assumption) | skip)
        all_goals first
          | (go_ret3; rw [← HT.out, takeGo_form (by omega)]; exact ⟨rfl, rfl⟩)
          | (go_ret3; rw [← HT.out, takeGo_end (by omega) (by omega)]; exact ⟨by rw [← rtake_val9 hacc (by omega)]; rfl, rfl⟩)
      · go_wp2_with fail
        all_goals (first | have hz := HZ.out.1 (by assumption) | have hz := HZ.out.2 (by assumption) | skip)
        all_goals first
          | (go_ret3; rw [← HT.out, takeGo_form (by omega)]; exact ⟨rfl, rfl⟩)
          | (go_ret3; rw [← HT.out, takeGo_end (by omega) (by omega)]; exact ⟨by rw [← rtake_val (by omega) hacc (by omega)]; rfl, rfl⟩)
          | (go_round
             case rel => exact ⟨k + 1, _, by go_num, congrArg _ (rtake_val (by omega) hacc (by omega)), by omega, by omega, take_step hacc, (takeGo_more (by omega) (by omega)).symm.trans HT.out⟩
             case measure => simp [intOf]; omega)
    · go_wp2
      go_ret3
      have hk' : k = s.size := by omega
      rw [← ht.out, List.drop_of_length_le (by have := HZ.out; omega)]
      exact ⟨rfl, rfl⟩



end Go.Proofs.Ytokcaoaclheiiaa

/-
  The walks of the document's answers for numbers: Num, Eight.
-/
namespace Go.Proofs.Ytokcaoaclheiiaa
open Go.RowKit
set_option linter.unusedVariables false

set_option maxRecDepth 100000 in
set_option maxHeartbeats 800000 in
theorem rnum_any (x : Nat) (w : World) (hx : (x : Int) ≤ 18446744073709551615) :
    Calls Try.prog 38 #[.int .u64 (x : Int)] w fun e w' => ∃ s : ByteArray, e = .returned (.string s) ∧ Hid (s.data.toList = numB x) ∧ Up w w' := by
  go_enter Try.func38, Try.ntmps38
  go_wp2
  go_loopw [0, 3] (fun q v wr => ∃ (m : Nat) (pre : List UInt8), q = .int .u64 (m : Int) ∧ (m : Int) ≤ 18446744073709551615 ∧ wr.ownsRow w.heap.size 5 1 v pre.length (bvs pre) ∧ Hid (pre ++ numB m = numB x) ∧ Up w wr)
    (fun q _ _ => (intOf q).toNat)
  case atStart => exact ⟨x, [], rfl, hx, World.ownsRow_nil _ _ _ _, rfl, Up.refl _⟩
  case round =>
    obtain ⟨m, pre, rfl, hm, hown, hp, hu⟩ := hrel
    have hbd : pre.length ≤ 10 := by
      have := congrArg List.length hp.out
      have h2 := numB_ten (n := x) (by omega)
      rw [List.length_append] at this; omega
    by_cases hlt : m < 128
    · have hb : Value.int .u8 (m : Int) = bv (UInt8.ofNat m) := by rw [bv_ofNat]; congr 1; omega
      have HB := Lib.hid hb; clear hb
      go_wp2_with (at_builtin; refine wpList_append_rd _ bytesT (news := bvs [UInt8.ofNat m]) (hown.alloc _) (Rd.boxb _ _ HB.out) (bvs_one _) (by omega) (by omega) (by simp; have := hu.size; omega) rfl rfl rfl rfl ?_; intro v2 w2 hown2 hg2 hat2; obtain ⟨A2, c2, rfl⟩ := own_form hown2; have hcv := run_str (l := pre ++ [UInt8.ofNat m]) c2 (by rw [bvs_append]; exact Rd.own hown2))
      go_ret
      refine ⟨_, rfl, ?_, hu.alloc _ |>.grown hg2 (fun k hk => (hown.lt k hk).1)⟩
      show _ = _
      rw [← hp.out, numB_lo hlt]
    · have HB := Lib.hid (put_byte m)
      go_wp2_with (at_builtin; refine wpList_append_rd _ bytesT (news := bvs [UInt8.ofNat (m % 128 + 128)]) (hown.alloc _) (Rd.boxb _ _ HB.out) (bvs_one _) (by omega) (by omega) (by simp; have := hu.size; omega) rfl rfl rfl rfl ?_; intro v2 w2 hown2 hg2 hat2)
      go_roundw
      case rel =>
        refine ⟨m / 128, pre ++ [UInt8.ofNat (m % 128 + 128)], by go_num, by omega, ?_, ?_, hu.alloc _ |>.grown hg2 (fun k hk => (hown.lt k hk).1)⟩
        · rw [bvs_append, List.length_append]; exact hown2
        · show _ = _; rw [← hp.out, numB_hi hlt]; simp
      case measure => simp [intOf]; omega


end Go.Proofs.Ytokcaoaclheiiaa

/-
  The walks of num: Unlist.
-/
namespace Go.Proofs.Ytokcaoaclheiiaa
open Go.RowKit
set_option linter.unusedVariables false

set_option maxRecDepth 100000 in
set_option maxHeartbeats 400000 in
theorem unlist_any (A : Option Addr) (n c : Nat) (bs : List UInt8) (most : Int) (w : World) (hr : Rd w w.heap.size 1 A n (bvs bs)) (hn : n ≤ 1099511627776) (hcap : n ≤ c)
    (hm1 : -9223372036854775808 ≤ most) (hm2 : most ≤ 9223372036854775807) :
    Calls Try.prog 40 #[.slice A n c, .int .i64 most] w fun e w' => ∃ A' n' c', e = .returned (.tuple #[.slice A' n' c', .int .i64 ((unlistL bs most).2.1 : Int), .int .i64 ((unlistL bs most).2.2 : Int)]) ∧ OwnQ w' w.heap.size A' n' c' (unlistL bs most).1 ∧ Up w w' := by
  have hl := hr.blen
  have HL := Lib.hid hl
  clear hl
  have hq0 : ∀ w0, OwnQ w0 w.heap.size none 0 0 [] := fun w0 => World.ownsRow_nil _ _ _ _
  have HQ0 := Lib.hid hq0
  clear hq0
  obtain ⟨x, at_, er, ht⟩ : ∃ x a e, takeL bs = (x, a, e) := ⟨_, _, _, rfl⟩
  have hu : unlistL bs most = if er ≠ 0 then ([], 0, er) else if (if most < 0 then 0 else most) < (x : Int) then ([], 0, 2) else unGo x bs at_ [] := by unfold unlistL; rw [ht]
  have HU := Lib.hid hu
  have HT := Lib.hid ht
  clear hu ht
  have CUT := cut_from_b
  go_enter Try.func40, Try.ntmps40
  go_wp2_with fail
  refine (take_any A n c bs w hr (by omega)).mono ?_
  rintro e w1 ⟨rfl, rfl⟩
  rw [HT.out]
  by_cases he : er = 0
  · subst he
    have ⟨hx, ha1, ha2, ha3⟩ : x < 18446744073709551616 ∧ 1 ≤ at_ ∧ at_ ≤ bs.length ∧ at_ ≤ 10 := by have := takeL_ok (l := bs) (by rw [HT.out]); rw [HT.out] at this; exact this
    by_cases hbig : (if most < 0 then 0 else most) < (x : Int)
    · have HF : Hid (unlistL bs most = ([], 0, 2)) := by show _ = _; rw [HU.out, if_neg (by simp), if_pos hbig]
      clear HU
      by_cases hm0 : most < 0
      all_goals
        simp only [hm0, if_true, if_false] at hbig
        go_wp2_with fail
        go_ret3
        rw [HF.out]
        exact ⟨none, 0, 0, rfl, HQ0.out _, Up.refl _⟩
    · have HF : Hid (unGo x bs at_ [] = unlistL bs most) := by show _ = _; rw [HU.out, if_neg (by simp), if_neg hbig]
      clear HU
      by_cases hm0 : most < 0
      all_goals
        simp only [hm0, if_true, if_false] at hbig
        have hxi : (x : Int) ≤ 18446744073709551615 := by omega
        clear hx
        go_wp2_with fail
        go_loopw [8, 10, 31] (fun p v i wr => ∃ (k at_ : Nat) (Q : Option Addr) (m d : Nat) (acc : List UInt64), i = .int .u64 (k : Int) ∧ p = .int .i64 (at_ : Int) ∧ v = .slice Q m d ∧ k ≤ x ∧ at_ ≤ n ∧ m ≤ at_ ∧ OwnQ wr w.heap.size Q m d acc ∧ Up w wr ∧ Hid (unGo (x - k) bs at_ acc = unlistL bs most))
          (fun _ _ i _ => x - (intOf i).toNat)
        case atStart => exact ⟨0, at_, none, 0, 0, [], rfl, rfl, rfl, by omega, by have := HL.out; omega, by omega, HQ0.out _, Up.refl _, HF.out⟩
        case round =>
          clear HF
          obtain ⟨k, at_, Q, m, d, acc, rfl, rfl, rfl, hk, hat, hm, hown, hu, hun⟩ := hrel
          by_cases hlt : k < x
          · try (exfalso; omega)
            all_goals
              have hrd := (hr.below hu).bfrom (k := at_) (cap := c) (by omega) (by omega)
              have HR := Lib.hid hrd
              clear hrd
              go_wp2_with fail
              refine (take_any _ _ _ (bs.drop at_) wr (HR.out.mono (hu.size)) (by omega)).mono ?_
              rintro e w2 ⟨rfl, rfl⟩
              have htk : ∃ y s e2, takeL (bs.drop at_) = (y, s, e2) := ⟨_, _, _, rfl⟩
              obtain ⟨y, s, e2, htk⟩ := htk
              rw [htk]
              have hun' : Hid (unlistL bs most = if e2 = 0 then unGo (x - k - 1) bs (at_ + s) (acc ++ [UInt64.ofNat y]) else ([], 0, e2)) := by
                show _ = _
                rw [← hun.out, show x - k = (x - k - 1) + 1 by omega, unGo, htk]
                simp
              clear hun
              by_cases he : e2 = 0
              · subst he
                have hb : (((0 : Nat) : Int) != 0) = false := by simp
                have ⟨hy, hs1, hs2⟩ : (y : Int) ≤ 18446744073709551615 ∧ 1 ≤ s ∧ s ≤ n - at_ := by
                  have := takeL_ok (l := bs.drop at_) (by rw [htk])
                  rw [htk] at this
                  have h3 := HL.out
                  simp only [List.length_drop] at this
                  omega
                have HB : Hid (Value.int .u64 (y : Int) = qv (UInt64.ofNat y)) := by
                  show _ = _
                  rw [qv_ofNat]; congr 1; omega
                clear htk hb
                go_wp2_with (at_builtin; refine wpList_append_rd _ numsT (news := qvs [UInt64.ofNat y]) (hown.alloc _) (Rd.boxq _ _ HB.out) (qvs_one _) (by omega) (by omega) (by simp; have := hu.size; omega) rfl rfl rfl rfl ?_; intro v2 w2 hown2 hg2 hat2)
                obtain ⟨A2, c2, rfl⟩ := own_form hown2
                go_roundw
                case rel =>
                  refine ⟨k + 1, at_ + s, A2, _, c2, acc ++ [UInt64.ofNat y], by go_num, by go_num, rfl, by omega, by omega, by omega, ?_, hu.alloc _ |>.grown hg2 (fun k hk => (hown.lt k hk).1), ?_⟩
                  · show World.ownsRow _ _ _ _ _ _ _
                    rw [qvs_append]; exact hown2
                  · show _ = _
                    rw [hun'.out, if_pos (by trivial), show x - (k + 1) = x - k - 1 by omega]
                case measure => simp [intOf]; omega
              · have hb : ((e2 : Int) != 0) = true := by rw [bne_iff_ne]; omega
                clear htk
                go_wp2
                go_ret3
                rw [hun'.out, if_neg he]
                exact ⟨none, 0, 0, rfl, HQ0.out _, hu⟩
          · go_wp2
            go_ret3
            have hk' : k = x := by omega
            have h := hun.out
            rw [hk', Nat.sub_self, unGo] at h
            rw [← h]
            exact ⟨Q, m, d, rfl, hown, hu⟩
  · have hb : ((er : Int) != 0) = true := by rw [bne_iff_ne]; omega
    go_wp2_with fail
    go_ret3
    rw [HU.out, if_pos he]
    exact ⟨none, 0, 0, rfl, HQ0.out _, Up.refl _⟩
end Go.Proofs.Ytokcaoaclheiiaa

/-
  The walk of the laws' awake.
-/
namespace Go.Proofs.Ytokcaoaclheiiaa
open Go.RowKit
set_option linter.unusedVariables false

theorem numB300 : numB 300 = [172, 2] := by rw [numB_hi (by decide), numB_lo (by decide)]; decide
theorem take300 : takeL [172, 2, 9] = (300, 2, 0) := by decide

end Go.Proofs.Ytokcaoaclheiiaa
