/-
  The walk of the edit's reader: take.
-/
import Derived.Test.YtokcaoaclheiiaaEditW9
import Derived.Test.YtokcaoaclheiiaaNumW2
namespace Go.Proofs.Ytokcaoaclheiiaa
open Go.RowKit
set_option linter.unusedVariables false
set_option linter.unusedSimpArgs false

/-- what a reader's take comes to: the number; what is left; is all well -/
def rtk (most : Nat) (bs : List UInt8) (ok : Bool) : Nat × List UInt8 × Bool :=
  if ok = true ∧ (takeL bs).2.2 = 0 ∧ (takeL bs).1 ≤ most then ((takeL bs).1, bs.drop (takeL bs).2.1, true) else (0, bs, false)
theorem rtk_le (most : Nat) (bs : List UInt8) (ok : Bool) : (rtk most bs ok).1 ≤ most := by
  unfold rtk
  split
  · rename_i h; exact h.2.2
  · exact Nat.zero_le _
/-- a reader in a block of its own: what is left lies below B -/
def RB (g B : Nat) (bs : List UInt8) (ok : Bool) (W : World) : Prop :=
  ∃ A n c, W.heap[g]? = some (.cells #[.slice A n c, .bool ok] 83 (0, 0)) ∧ n ≤ c ∧ Rd W B 1 A n (bvs bs) ∧ n ≤ 1099511627776
theorem RB.up {g B : Nat} {bs : List UInt8} {ok : Bool} {W W' : World} (h : RB g B bs ok W) (hB : B ≤ W.heap.size) (hu : Up W W') : RB g B bs ok W' := by
  obtain ⟨A, n, c, h1, h2, h3, h4⟩ := h
  exact ⟨A, n, c, (hu.block _ (Array.getElem?_eq_some_iff.1 h1).1).trans h1, h2, h3.stay hB hu, h4⟩
theorem Rd.keepsLt {w w' : World} {B sz n g : Nat} {A : Option Addr} {xs : List Value} (h : Rd w B sz A n xs) (hB : B ≤ w.heap.size) (hg : B ≤ g) (hK : Rg.Keeps (fun y => y = g) w w') : Rd w' B sz A n xs := by
  refine ⟨h.1, fun hn => ?_⟩
  obtain ⟨b, o, rfl, hb, hc⟩ := h.2 hn
  exact ⟨b, o, rfl, hb, fun j u hu => (World.cell?_of_block (hK.block b (Nat.lt_of_lt_of_le hb hB) (by show ¬ b = g; omega))).trans (hc j u hu)⟩
theorem RB.keeps {g g' B : Nat} {bs : List UInt8} {ok : Bool} {W W' : World} (h : RB g B bs ok W) (hB : B ≤ W.heap.size) (hg : B ≤ g') (hne : g ≠ g') (hK : Rg.Keeps (fun y => y = g') W W') : RB g B bs ok W' := by
  obtain ⟨A, n, c, h1, h2, h3, h4⟩ := h
  exact ⟨A, n, c, (hK.block _ (Array.getElem?_eq_some_iff.1 h1).1 hne).trans h1, h2, h3.keepsLt hB hg hK, h4⟩
set_option maxRecDepth 100000 in
set_option maxHeartbeats 1600000 in
theorem rtake_r (g B : Nat) (bs : List UInt8) (ok : Bool) (most : Nat) (w : World) (h : RB g B bs ok w) (hB : B ≤ w.heap.size) (hg : B ≤ g) (hmost : most < 18446744073709551616) :
    Calls Try.prog 41 #[.pointer (some ⟨g, 0, none⟩), .int .u64 (most : Int)] w fun e w' => e = .returned (.int .u64 ((rtk most bs ok).1 : Int)) ∧ RB g B (rtk most bs ok).2.1 (rtk most bs ok).2.2 w' ∧ Rg.Keeps (fun y => y = g) w w' := by
  obtain ⟨A, n, c, hh, hnc, hrd, hn⟩ := h
  have hr : rtk most bs ok = (if ok = true ∧ (takeL bs).2.2 = 0 ∧ (takeL bs).1 ≤ most then ((takeL bs).1, bs.drop (takeL bs).2.1, true) else (0, bs, false)) := rfl
  have HR := Lib.hid hr
  have hto := fun h => takeL_ok (l := bs) h
  have HTO := Lib.hid hto
  have hnl : n = bs.length := hrd.blen
  have HNL := Lib.hid hnl
  clear hr hto hnl
  have t0 := blk_cell hh 0
  have t1 := blk_cell hh 1
  have s0 := blk_free hh 0
  have s1 := blk_free hh 1
  have CUT := fun (kl : IntKind) (l : Int) (h0 : 0 ≤ l) (h1 : l ≤ n) => cut_from_b w A n c kl l h0 h1
  go_enter Try.func41, Try.ntmps41
  go_wp2_with fail
  refine (take_any A n c bs w (hrd.mono hB) (by omega)).mono ?_
  rintro e w1 ⟨rfl, rfl⟩
  generalize takeL bs = T at *
  obtain ⟨x, k, e⟩ := T
  (try dsimp only at HR HTO ⊢)
  cases ok
  · have hs := setc_heap w g 1 (.bool false) _ _ hh
    have hK := setc_keeps w w g 1 (.bool false) (Rg.Keeps.refl _ _)
    have e2 : rtk most bs false = (0, bs, false) := by rw [HR.out]; rfl
    have HE2 := Lib.hid e2
    clear e2
    go_wp2_with fail
    go_ret
    rw [HE2.out]
    exact ⟨rfl, ⟨A, n, c, hs, hnc, hrd.keepsLt hB hg hK, hn⟩, hK⟩
  · by_cases he : e = 0
    · subst he
      obtain ⟨p1, p2, p3, p4⟩ := HTO.out rfl
      by_cases hx : x ≤ most
      · have hxi : ¬ (most : Int) < (x : Int) := by omega
        have hkn : k ≤ n := by rw [HNL.out]; exact p3
        have e2 : rtk most bs true = (x, bs.drop k, true) := by rw [HR.out, if_pos ⟨rfl, rfl, hx⟩]
        have HE2 := Lib.hid e2
        clear e2
        have hki0 : (0 : Int) ≤ (k : Int) := by omega
        have hki : (k : Int) ≤ (n : Int) := by omega
        have hki2 : (k : Int) ≤ (c : Int) := by omega
        have hfrom := hrd.bfrom hkn hnc
        have hs : (w.setCell ⟨g, 0, none⟩ (.slice (cutA A c k 1) (n - k) (c - k))).heap[g]? = some (.cells #[.slice (cutA A c k 1) (n - k) (c - k), .bool true] 83 (0, 0)) := setc_heap w g 0 _ _ _ hh
        have hK := setc_keeps w w g 0 (.slice (cutA A c k 1) (n - k) (c - k)) (Rg.Keeps.refl _ _)
        go_wp2_with fail
        go_ret
        rw [HE2.out]
        exact ⟨rfl, ⟨cutA A c k 1, n - k, c - k, hs, by omega, hfrom.keepsLt hB hg hK, by omega⟩, hK⟩
      · have hxi : (most : Int) < (x : Int) := by omega
        have hs := setc_heap w g 1 (.bool false) _ _ hh
        have hK := setc_keeps w w g 1 (.bool false) (Rg.Keeps.refl _ _)
        have e2 : rtk most bs true = (0, bs, false) := by rw [HR.out, if_neg (fun h => hx h.2.2)]
        have HE2 := Lib.hid e2
        clear e2
        go_wp2_with fail
        go_ret
        rw [HE2.out]
        exact ⟨rfl, ⟨A, n, c, hs, hnc, hrd.keepsLt hB hg hK, hn⟩, hK⟩
    · have hei : ¬ (e : Int) = 0 := by omega
      have heb : ((e : Int) != 0) = true := by simp; omega
      have hs := setc_heap w g 1 (.bool false) _ _ hh
      have hK := setc_keeps w w g 1 (.bool false) (Rg.Keeps.refl _ _)
      have e2 : rtk most bs true = (0, bs, false) := by rw [HR.out, if_neg (fun h => he h.2.1)]
      have HE2 := Lib.hid e2
      clear e2
      go_wp2_with fail
      go_ret
      rw [HE2.out]
      exact ⟨rfl, ⟨A, n, c, hs, hnc, hrd.keepsLt hB hg hK, hn⟩, hK⟩
end Go.Proofs.Ytokcaoaclheiiaa
