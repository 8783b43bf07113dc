/-
  The walk of the document's ReadEdit.
-/
import Derived.Test.YtokcaoaclheiiaaEditW13
import Derived.Test.YtokcaoaclheiiaaEditW10
import Derived.Test.YtokcaoaclheiiaaRefW4
import Derived.Test.YtokcaoaclheiiaaRefW1
namespace Go.Proofs.Ytokcaoaclheiiaa
open Go.RowKit
set_option linter.unusedVariables false
set_option linter.unusedSimpArgs false

/-- numbers one behind the other, each at most 2^48 -/
def rdGo : Nat → List UInt8 → Nat → List UInt64 → Option (List UInt64 × Nat)
  | 0, _, a, acc => some (acc, a)
  | k + 1, l, a, acc => if (takeL (l.drop a)).2.2 = 0 ∧ (takeL (l.drop a)).1 ≤ 281474976710656 then rdGo k l (a + (takeL (l.drop a)).2.1) (acc ++ [UInt64.ofNat (takeL (l.drop a)).1]) else none
def gI (l : List UInt64) (i : Nat) : Nat := (l.getD i 0).toNat
def prs (l : List UInt64) (k : Nat) : List Fl := (List.range k).map fun i => ((gI l (2 * i) : Int), (gI l (2 * i + 1) : Int))
theorem prs_succ (l : List UInt64) (k : Nat) : prs l (k + 1) = prs l k ++ [((gI l (2 * k) : Int), (gI l (2 * k + 1) : Int))] := by simp [prs, List.range_succ]
def idD (x : UInt64) : Int := (x.toNat : Int)
def endR (bs : List UInt8) (ds : List Int) (n : Nat) (p : List UInt64 × Nat) : Option ET :=
  if p.2 = bs.length ∧ mayE ds (prs p.1 n) (gI p.1 (2 * n)) (gI p.1 (2 * n + 1)) (gI p.1 (2 * n + 2)) (gI p.1 (2 * n + 3)) (gI p.1 (2 * n + 4)) = true then
    some (ds, prs p.1 n, (gI p.1 (2 * n) : Int), gI p.1 (2 * n + 1), gI p.1 (2 * n + 2), gI p.1 (2 * n + 3), gI p.1 (2 * n + 4)) else none
/-- the document's ReadEdit -/
def readR (bs : List UInt8) : Option ET :=
  let u := unlistL bs 40
  if u.2.2 ≠ 0 then none else if (u.1.any fun x => decide (1073741824 < x.toNat)) = true then none else
  let t := takeL (bs.drop u.2.1)
  if t.2.2 ≠ 0 ∨ 40 < t.1 then none else
  (rdGo (2 * t.1 + 5) bs (u.2.1 + t.2.1) []).bind (endR bs (u.1.map idD) t.1)
/-- what is known of all that ReadEdit has made -/
structure RdE (w : World) (g2 ge : Nat) (D : Option Addr) (dn dc : Nat) (ds : List Int) (A : Option Addr) (an ac : Nat) (add : List Fl) (lg f ce at_ le : Nat) (W : World) : Prop where
  o1 : w.heap.size ≤ g2
  o2 : g2 < ge
  up : Up w W
  hg : W.heap[g2]? = some (.cells #[.slice none 0 0, .slice none 0 0, .int .i64 0, .int .u64 0, .int .u64 0, .int .u64 0, .int .u64 0] 32 (0, 0))
  hge : W.heap[ge]? = some (.cells #[.slice D dn dc, .slice A an ac, .int .i64 (lg : Int), .int .u64 (f : Int), .int .u64 (ce : Int), .int .u64 (at_ : Int), .int .u64 (le : Int)] 32 (0, 0))
  hoD : W.ownsRow (ge + 1) 3 1 (.slice D dn dc) dn (nmv ds)
  hoA : W.ownsRow (ge + 1) 41 2 (.slice A an ac) an (fvs add)
theorem RdE.upg {w : World} {g2 ge : Nat} {D : Option Addr} {dn dc : Nat} {ds : List Int} {A : Option Addr} {an ac : Nat} {add : List Fl} {lg f ce at_ le : Nat} {W W' : World} (h : RdE w g2 ge D dn dc ds A an ac add lg f ce at_ le W) (hu : Up W W') : RdE w g2 ge D dn dc ds A an ac add lg f ce at_ le W' :=
  ⟨h.o1, h.o2, h.up.trans hu, (hu.block _ (Array.getElem?_eq_some_iff.1 h.hg).1).trans h.hg, (hu.block _ (Array.getElem?_eq_some_iff.1 h.hge).1).trans h.hge, own_up h.hoD hu, own_up h.hoA hu⟩
theorem RdE.drew {w : World} {g2 ge : Nat} {D : Option Addr} {dn dc : Nat} {ds : List Int} {A : Option Addr} {an ac : Nat} {add : List Fl} {lg f ce at_ le : Nat} {W : World} (h : RdE w g2 ge D dn dc ds A an ac add lg f ce at_ le W) : RdE w g2 ge D dn dc ds A an ac add lg f ce at_ le W.drew := ⟨h.o1, h.o2, h.up.drew, h.hg, h.hge, h.hoD, h.hoA⟩
theorem RdE.far {w : World} {g2 ge : Nat} {D : Option Addr} {dn dc : Nat} {ds : List Int} {A : Option Addr} {an ac : Nat} {add : List Fl} {lg f ce at_ le : Nat} {W W2 : World} (h : RdE w g2 ge D dn dc ds A an ac add lg f ce at_ le W) {L : Value} {n : Nat} {xs : List Value} (hl : W.ownsRow (ge + 1) 22 1 L n xs) (hgr : W.grownBy W2 L.ownBlock) : RdE w g2 ge D dn dc ds A an ac add lg f ce at_ le W2 := by
  have hlo := hl.lt
  exact ⟨h.o1, h.o2, h.up.grown hgr (fun k0 e0 => by have := (hlo k0 e0).1; have := h.o1; have := h.o2; omega), (hgr.block g2 (Array.getElem?_eq_some_iff.1 h.hg).1 (fun e0 => by have := (hlo g2 e0.symm).1; have := h.o2; omega)).trans h.hg,
    (hgr.block ge (Array.getElem?_eq_some_iff.1 h.hge).1 (fun e0 => by have := (hlo ge e0.symm).1; omega)).trans h.hge, own_far hl h.hoD (by decide) hgr, own_far hl h.hoA (by decide) hgr⟩
theorem RdE.set {w : World} {g2 ge : Nat} {D : Option Addr} {dn dc : Nat} {ds : List Int} {A : Option Addr} {an ac : Nat} {add : List Fl} {lg f ce at_ le : Nat} {W : World} (h : RdE w g2 ge D dn dc ds A an ac add lg f ce at_ le W) (j : Nat) (v : Value) (lg' f' ce' at' le' : Nat)
    (he : (#[.slice D dn dc, .slice A an ac, .int .i64 (lg : Int), .int .u64 (f : Int), .int .u64 (ce : Int), .int .u64 (at_ : Int), .int .u64 (le : Int)] : Array Value).setIfInBounds j v = #[.slice D dn dc, .slice A an ac, .int .i64 (lg' : Int), .int .u64 (f' : Int), .int .u64 (ce' : Int), .int .u64 (at' : Int), .int .u64 (le' : Int)]) :
    RdE w g2 ge D dn dc ds A an ac add lg' f' ce' at' le' (W.setCell ⟨ge, j, none⟩ v) := by
  obtain ⟨o1, o2, up, hg, hge, hoD, hoA⟩ := h
  have hK := setc_keeps W W ge j v (Rg.Keeps.refl _ _)
  refine ⟨o1, o2, keepsUp up (by omega) hK, (hK.block _ (Array.getElem?_eq_some_iff.1 hg).1 (by show ¬ g2 = ge; omega)).trans hg, ?_, own_keeps6 hoD (by omega) hK, own_keeps6 hoA (by omega) hK⟩
  rw [setc_heap W ge j v _ _ hge, he]
theorem RdE.kp {w : World} {g2 ge : Nat} {D : Option Addr} {dn dc : Nat} {ds : List Int} {A : Option Addr} {an ac : Nat} {add : List Fl} {lg f ce at_ le : Nat} {W W2 : World} (h : RdE w g2 ge D dn dc ds A an ac add lg f ce at_ le W) (hK : Rg.Keeps (fun g => g = ge) W W2) {lg' f' ce' at' le' : Nat} (hb : W2.heap[ge]? = some (.cells #[.slice D dn dc, .slice A an ac, .int .i64 (lg' : Int), .int .u64 (f' : Int), .int .u64 (ce' : Int), .int .u64 (at' : Int), .int .u64 (le' : Int)] 32 (0, 0))) : RdE w g2 ge D dn dc ds A an ac add lg' f' ce' at' le' W2 := by
  obtain ⟨o1, o2, up, hg, hge, hoD, hoA⟩ := h
  exact ⟨o1, o2, keepsUp up (by omega) hK, (hK.block _ (Array.getElem?_eq_some_iff.1 hg).1 (by show ¬ g2 = ge; omega)).trans hg, hb, own_keeps6 hoD (by omega) hK, own_keeps6 hoA (by omega) hK⟩
theorem RdE.pushD {w : World} {g2 ge : Nat} {D : Option Addr} {dn dc : Nat} {ds : List Int} {A : Option Addr} {an ac : Nat} {add : List Fl} {lg f ce at_ le : Nat} {W : World} (h : RdE w g2 ge D dn dc ds A an ac add lg f ce at_ le W) (o : Obj) {W2 : World} {D2 : Option Addr} {n2 c2 : Nat} {ds2 : List Int} (hown : W2.ownsRow (ge + 1) 3 1 (.slice D2 n2 c2) n2 (nmv ds2)) (hgr : (W.alloc o).grownBy W2 (Value.slice D dn dc).ownBlock) {B n : Nat} {Q : Option Addr} {xs : List Value} (hq : Rd W B 1 Q n xs) (hB : B ≤ ge) :
    W2.cell? ⟨ge, 0, none⟩ = some (.slice D dn dc) ∧ W2.frozen? ⟨ge, 0, none⟩ = false ∧ RdE w g2 ge D2 n2 c2 ds2 A an ac add lg f ce at_ le (W2.setCell ⟨ge, 0, none⟩ (.slice D2 n2 c2)) ∧ Rd (W2.setCell ⟨ge, 0, none⟩ (.slice D2 n2 c2)) B 1 Q n xs := by
  have hu : Up W (W.alloc o) := (Up.refl W).alloc o
  obtain ⟨o1, o2, up, hg, hge, hoD, hoA⟩ := h
  have hBW : B ≤ W.heap.size := by have := (Array.getElem?_eq_some_iff.1 hge).1; omega
  have hg1 := (hu.block _ (Array.getElem?_eq_some_iff.1 hg).1).trans hg
  have hge1 := (hu.block _ (Array.getElem?_eq_some_iff.1 hge).1).trans hge
  have hoD1 := own_up hoD hu
  have hoA1 := own_up hoA hu
  have hq1 := hq.stay hBW hu
  have hlo := hoD1.lt
  have hg2' := (hgr.block g2 (Array.getElem?_eq_some_iff.1 hg1).1 (fun e0 => by have := (hlo g2 e0.symm).1; omega)).trans hg1
  have hge2 := (hgr.block ge (Array.getElem?_eq_some_iff.1 hge1).1 (fun e0 => by have := (hlo ge e0.symm).1; omega)).trans hge1
  have hoA2 := own_far hoD1 hoA1 (by decide) hgr
  have hq2 : Rd W2 B 1 Q n xs := hq1.grown hgr (Nat.le_trans hBW hu.size) (fun k0 e0 => by have := (hlo k0 e0).1; omega)
  have hup2 : Up w W2 := (up.trans hu).grown hgr (fun k0 e0 => by have := (hlo k0 e0).1; omega)
  have hK := setc_keeps W2 W2 ge 0 (.slice D2 n2 c2) (Rg.Keeps.refl _ _)
  have hBW2 : B ≤ W2.heap.size := by have := (Array.getElem?_eq_some_iff.1 hge2).1; omega
  exact ⟨blk_cell hge2 0, blk_free hge2 0, ⟨o1, o2, keepsUp hup2 (by omega) hK, (hK.block _ (Array.getElem?_eq_some_iff.1 hg2').1 (by show ¬ g2 = ge; omega)).trans hg2', setc_heap W2 ge 0 _ _ _ hge2,
    own_keeps6 hown (by omega) hK, own_keeps6 hoA2 (by omega) hK⟩, hq2.keepsLt hBW2 hB hK⟩
theorem RdE.pushA {w : World} {g2 ge : Nat} {D : Option Addr} {dn dc : Nat} {ds : List Int} {A : Option Addr} {an ac : Nat} {add : List Fl} {lg f ce at_ le : Nat} {W : World} (h : RdE w g2 ge D dn dc ds A an ac add lg f ce at_ le W) (o : Obj) {W2 : World} {A2 : Option Addr} {n2 c2 : Nat} {add2 : List Fl} (hown : W2.ownsRow (ge + 1) 41 2 (.slice A2 n2 c2) n2 (fvs add2)) (hgr : (W.alloc o).grownBy W2 (Value.slice A an ac).ownBlock) {L : Value} {n : Nat} {xs : List Value} (hl : W.ownsRow (ge + 1) 22 1 L n xs) :
    W2.cell? ⟨ge, 1, none⟩ = some (.slice A an ac) ∧ W2.frozen? ⟨ge, 1, none⟩ = false ∧ RdE w g2 ge D dn dc ds A2 n2 c2 add2 lg f ce at_ le (W2.setCell ⟨ge, 1, none⟩ (.slice A2 n2 c2)) ∧ (W2.setCell ⟨ge, 1, none⟩ (.slice A2 n2 c2)).ownsRow (ge + 1) 22 1 L n xs := by
  have hu : Up W (W.alloc o) := (Up.refl W).alloc o
  obtain ⟨o1, o2, up, hg, hge, hoD, hoA⟩ := h
  have hg1 := (hu.block _ (Array.getElem?_eq_some_iff.1 hg).1).trans hg
  have hge1 := (hu.block _ (Array.getElem?_eq_some_iff.1 hge).1).trans hge
  have hoD1 := own_up hoD hu
  have hoA1 := own_up hoA hu
  have hl1 := own_up hl hu
  have hlo := hoA1.lt
  have hg2' := (hgr.block g2 (Array.getElem?_eq_some_iff.1 hg1).1 (fun e0 => by have := (hlo g2 e0.symm).1; omega)).trans hg1
  have hge2 := (hgr.block ge (Array.getElem?_eq_some_iff.1 hge1).1 (fun e0 => by have := (hlo ge e0.symm).1; omega)).trans hge1
  have hoD2 := own_far hoA1 hoD1 (by decide) hgr
  have hl2 := own_far hoA1 hl1 (by decide) hgr
  have hup2 : Up w W2 := (up.trans hu).grown hgr (fun k0 e0 => by have := (hlo k0 e0).1; omega)
  have hK := setc_keeps W2 W2 ge 1 (.slice A2 n2 c2) (Rg.Keeps.refl _ _)
  exact ⟨blk_cell hge2 1, blk_free hge2 1, ⟨o1, o2, keepsUp hup2 (by omega) hK, (hK.block _ (Array.getElem?_eq_some_iff.1 hg2').1 (by show ¬ g2 = ge; omega)).trans hg2', setc_heap W2 ge 1 _ _ _ hge2,
    own_keeps6 hoD2 (by omega) hK, own_keeps6 hown (by omega) hK⟩, own_keeps6 hl2 (by omega) hK⟩
theorem u64_nat0 {x : Nat} (h : x ≤ 281474976710656) : (UInt64.ofNat x).toNat = x := by
  rw [UInt64.toNat_ofNat_of_lt']; show x < 18446744073709551616; omega
set_option maxRecDepth 100000 in
set_option maxHeartbeats 16000000 in
theorem rread_any (s : ByteArray) (bs : List UInt8) (w : World) (hs : s.data.toList = bs) (hn : s.size ≤ 549755813888) :
    Calls Try.prog 19 #[.string s] w (RdPost (readR bs) w) := by
  have hl := size_str hs
  have HS := Lib.hid hs
  have HL := Lib.hid hl
  clear hl hs
  obtain ⟨w1, hw1⟩ : ∃ w1, w1 = w.alloc (.cells #[.slice none 0 0, .slice none 0 0, .int .i64 0, .int .u64 0, .int .u64 0, .int .u64 0, .int .u64 0] 32) := ⟨_, rfl⟩
  have hup1 : Up w w1 := by rw [hw1]; exact (Up.refl w).alloc _
  have hg1 : w1.heap[w.heap.size]? = some (.cells #[.slice none 0 0, .slice none 0 0, .int .i64 0, .int .u64 0, .int .u64 0, .int .u64 0, .int .u64 0] 32 (0, 0)) := by rw [hw1]; exact heap_alloc_new w _
  have HW := Lib.hid hw1
  clear hw1
  obtain ⟨q, qa, qe, hu⟩ : ∃ q a e, unlistL bs 40 = (q, a, e) := ⟨_, _, _, rfl⟩
  have HU := Lib.hid hu
  clear hu
  have hgw9 : w.heap.size ≤ w.heap.size := Nat.le_refl _
  go_enter Try.func19, Try.ntmps19
  go_wp2_with fail
  rw [← HW.out]
  clear HW
  generalize hg2E : w.heap.size = g2 at hg1 hgw9 ⊢
  rw [← hg2E] at hgw9
  have hgw9 : w.heap.size ≤ g2 := by omega
  refine (runlist_any s bs 40 w1 HS.out (by omega) (by omega) (by omega)).mono ?_
  rintro e w3 ⟨Q, qn, qc, rfl, hoQ, hu3⟩
  rw [HU.out] at hoQ ⊢
  (try dsimp only at hoQ ⊢)
  have hqb : qn ≤ 549755813888 := by
    have h1 := hoQ.rd.qlen
    have h2 := unlistL_len bs 40
    rw [HU.out] at h2
    have h3 := HL.out
    (try dsimp only at h2)
    omega
  have hg3 := (hu3.block _ (Array.getElem?_eq_some_iff.1 hg1).1).trans hg1
  have hup3 := hup1.trans hu3
  clear hg1 hup1 hu3
  by_cases hqe : qe = 0
  · subst hqe
    rw [show ((0 : Nat) : Int) = (0 : Int) from rfl]
    have hqa : qa ≤ s.size := by
      have h := unlistL_at bs 40
      rw [HU.out] at h
      have := HL.out
      (try dsimp only at h)
      omega
    have hub : Up w3 (w3.alloc (.cells #[.slice none 0 0, .slice none 0 0, .int .i64 0, .int .u64 0, .int .u64 0, .int .u64 0, .int .u64 0] 32)) := (Up.refl w3).alloc _
    have hI0 : RdE w g2 w3.heap.size none 0 0 [] none 0 0 [] 0 0 0 0 0 (w3.alloc (.cells #[.slice none 0 0, .slice none 0 0, .int .i64 0, .int .u64 0, .int .u64 0, .int .u64 0, .int .u64 0] 32)) :=
      ⟨hgw9, (Array.getElem?_eq_some_iff.1 hg3).1, hup3.trans hub, (hub.block _ (Array.getElem?_eq_some_iff.1 hg3).1).trans hg3, heap_alloc_new _ _, World.ownsRow_nil _ _ _ _, World.ownsRow_nil _ _ _ _⟩
    have hq0 : Rd (w3.alloc (.cells #[.slice none 0 0, .slice none 0 0, .int .i64 0, .int .u64 0, .int .u64 0, .int .u64 0, .int .u64 0] 32)) w3.heap.size 1 Q qn (qvs q) := hoQ.rd.stay (Nat.le_refl _) hub
    clear hub hg3 hup3 hoQ hg2E
    go_wp2_with fail
    generalize w3.alloc (.cells #[.slice none 0 0, .slice none 0 0, .int .i64 0, .int .u64 0, .int .u64 0, .int .u64 0, .int .u64 0] 32) = w4 at *
    generalize w3.heap.size = ge at hI0 hq0 ⊢
    go_loopw [8] (fun i wr => ∃ (k : Nat) (D : Option Addr) (dc : Nat), i = .int .i64 (k : Int) ∧ k ≤ qn ∧ RdE w g2 ge D k dc ((q.take k).map idD) none 0 0 [] 0 0 0 0 0 wr ∧ Rd wr ge 1 Q qn (qvs q) ∧ Hid (∀ x ∈ q.take k, x.toNat ≤ 1073741824)) (fun i _ => qn - (intOf i).toNat)
    case atStart => exact ⟨0, none, 0, rfl, by omega, hI0, hq0, fun x hx => by simp at hx⟩
    case round =>
      obtain ⟨k, D, dc, rfl, hk, hI, hq, hall⟩ := hrel
      clear hI0 hq0
      by_cases hlt : k < qn
      · obtain ⟨b, o, rfl, hbb, hck⟩ := hq.num hlt
        have hkl : k < q.length := by have := hq.qlen; omega
        obtain ⟨x, hx⟩ : ∃ x, x = q[k] := ⟨_, rfl⟩
        have hxg : q.getD k 0 = x := by rw [hx]; simp [List.getD, hkl]
        have htk : q.take (k + 1) = q.take k ++ [x] := by rw [List.take_succ_eq_append_getElem hkl, ← hx]
        have hxm : x ∈ q := by rw [hx]; exact List.getElem_mem hkl
        rw [hxg] at hck
        have HT := Lib.hid htk
        have HXM := Lib.hid hxm
        clear htk hxm hxg hx
        obtain ⟨xn, hxn⟩ : ∃ n, n = x.toNat := ⟨_, rfl⟩
        rw [← hxn] at hck
        have HXN := Lib.hid hxn
        clear hxn
        by_cases hxb : 1073741824 < xn
        · have HNO : Hid (readR bs = none) := by
            show _ = _
            unfold readR
            rw [HU.out]
            (try dsimp only)
            rw [if_neg (by simp), if_pos (by rw [List.any_eq_true]; exact ⟨x, HXM.out, by rw [← HXN.out]; simpa using hxb⟩)]
          have hxi : (1073741824 : Int) < (xn : Int) := by omega
          have hg9 := hI.hg
          have hup9 := hI.up
          clear hI hq
          have t0 := blk_cell hg9 0
          have t1 := blk_cell hg9 1
          have t2 := blk_cell hg9 2
          have t3 := blk_cell hg9 3
          have t4 := blk_cell hg9 4
          have t5 := blk_cell hg9 5
          have t6 := blk_cell hg9 6
          have s0 := blk_free hg9 0
          have s1 := blk_free hg9 1
          have s2 := blk_free hg9 2
          have s3 := blk_free hg9 3
          have s4 := blk_free hg9 4
          have s5 := blk_free hg9 5
          have s6 := blk_free hg9 6
          have h7 := set7 _ g2 _ _ _ _ _ _ _ (.slice none 0 0) (.slice none 0 0) (.int .i64 0) (.int .u64 0) (.int .u64 0) (.int .u64 0) (.int .u64 0) _ hg9
          have hup10 := keepsUp hup9 hgw9 h7.2
          have H71 := Lib.hid h7.1
          have HUP := Lib.hid hup10
          clear h7 hup10 hup9 hg9
          go_wp2_with fail
          have u0 := blk_cell H71.out 0
          have u1 := blk_cell H71.out 1
          have u2 := blk_cell H71.out 2
          have u3 := blk_cell H71.out 3
          have u4 := blk_cell H71.out 4
          have u5 := blk_cell H71.out 5
          have u6 := blk_cell H71.out 6
          refine bodyPost_ret (v := .tuple #[.agg #[.slice none 0 0, .slice none 0 0, .int .i64 0, .int .u64 0, .int .u64 0, .int .u64 0, .int .u64 0], .int .i64 3]) (by simp [results, Try.results19, go_sem, u0, u1, u2, u3, u4, u5, u6]) rfl ?_
          rw [HNO.out]
          exact ⟨rfl, HUP.out⟩
        · have hxi : ¬ (1073741824 : Int) < (xn : Int) := by omega
          have hxw : IntKind.i64.wrap (xn : Int) = (xn : Int) := IntWalk.i64_in _ (by omega)
          have hI2 := hI.drew
          have hq2 : Rd wr.drew ge 1 (some ⟨b, o, none⟩) qn (qvs q) := hq
          have hck2 : wr.drew.cell? ⟨b, o + k, none⟩ = some (.int .u64 (xn : Int)) := hck
          have t0 := blk_cell hI2.hge 0
          have t1 : ∀ o, (wr.alloc o).drew.cell? ⟨ge, 0, none⟩ = some (.slice D k dc) := fun o => blk_cell ((((Up.refl wr.drew).alloc o).block _ (Array.getElem?_eq_some_iff.1 hI2.hge).1).trans hI2.hge) 0
          have hbw : b < wr.drew.heap.size := by have := (Array.getElem?_eq_some_iff.1 hI2.hge).1; omega
          have t2 : ∀ ob, (wr.alloc ob).drew.cell? ⟨b, o + k, none⟩ = some (.int .u64 (xn : Int)) := fun ob => (((Up.refl wr.drew).alloc ob).cell (p := ⟨b, o + k, none⟩) hbw).trans hck2
          have hne : nmv ((q.take k ++ [x]).map idD) = nmv ((q.take k).map idD) ++ nmv [(xn : Int)] := by simp [nmv, idD, HXN.out]
          have HNE := Lib.hid hne
          clear hne
          have HI2 := Lib.hid hI2
          have HQ2 := Lib.hid hq2
          clear hI hI2 hq2 hq
          go_wp2_with fail
          have mixed : Try.prog.follows .mixedOrders = true := by kernel_rfl
          go_region_law_o (first
            | (refine step_wp rfl ?_; refine wp_append_rd _ _ _ intsT rfl (v := .slice D k dc) (by simp [Act.eval, Act.put]) (A := some ⟨wr.drew.heap.size, 0, none⟩) (c := 1) (m := 1) (by simp [Act.eval, Act.put]) (World.ownsRow.alloc HI2.out.hoD _) (Rd.made wr.drew #[.int .i64 (xn : Int)] 3 rfl) (news := nmv [(xn : Int)]) (by intro u hu; simp [nmv] at hu; subst hu; rfl) (by omega) (by omega) (by have := (Array.getElem?_eq_some_iff.1 HI2.out.hge).1; simp at *; omega) ?_; intro v5 w5 hown5 hg5 hat5; obtain ⟨D5, dc5, rfl⟩ := own_form hown5
               have hown6 : w5.ownsRow (ge + 1) 3 1 (.slice D5 (k + 1) dc5) (k + 1) (nmv ((q.take (k + 1)).map idD)) := by rw [HT.out, HNE.out]; exact hown5
               obtain ⟨r1, r2, hI9, hq9⟩ := HI2.out.pushD _ hown6 hg5 HQ2.out (Nat.le_refl _)
               have HI9 := Lib.hid hI9
               have HQ9 := Lib.hid hq9
               clear hI9 hq9 hown5 hown6 hg5 hat5))
          all_goals
            clear t0 t1 t2 r1 r2 hck2 HI2 HQ2
            generalize w5.setCell ⟨ge, 0, none⟩ (.slice D5 (k + 1) dc5) = w9 at *
            go_wp2_with fail
            go_roundw
            case rel =>
              exact ⟨k + 1, D5, dc5, by go_num, by omega, HI9.out, HQ9.out, fun y hy => by
                rw [HT.out] at hy
                rcases List.mem_append.1 hy with h | h
                · exact hall.out y h
                · simp at h; subst h; rw [← HXN.out]; omega⟩
            case measure => simp [intOf]; omega
      · have hkq : k = qn := by omega
        subst hkq
        have hql : k = q.length := hq.qlen
        have hmin : (q.take k).map idD = q.map idD := by rw [List.take_of_length_le (by omega)]
        rw [hmin] at hI
        have hany : (q.any fun x => decide (1073741824 < x.toNat)) = false := by
          rw [List.any_eq_false]
          intro x hx
          have h := hall.out x (by rw [List.take_of_length_le (by omega)]; exact hx)
          simp; omega
        have hex := ext_str HS.out qa
        have HE := Lib.hid hex
        obtain ⟨tn, ts, te, ht⟩ : ∃ a b c, takeL (bs.drop qa) = (a, b, c) := ⟨_, _, _, rfl⟩
        have HT := Lib.hid ht
        have hrr : readR bs = if te ≠ 0 ∨ 40 < tn then none else (rdGo (2 * tn + 5) bs (qa + ts) []).bind (endR bs (q.map idD) tn) := by
          unfold readR
          simp only [HU.out, hany, ht]
          simp
        have HRR := Lib.hid hrr
        have hqai : (qa : Int) ≤ (s.size : Int) := by omega
        clear hmin hany hex ht hrr hall hql hq hlt hk
        go_wp2_with fail
        refine (rtake_any _ (bs.drop qa) wr HE.out (by simp [ByteArray.size_extract]; omega)).mono ?_
        rintro e w6 ⟨rfl, rfl⟩
        rw [HT.out]
        (try dsimp only)
        by_cases hte : te = 0
        · subst hte
          rw [show ((0 : Nat) : Int) = (0 : Int) from rfl]
          by_cases hbig : 40 < tn
          · have HNO : Hid (readR bs = none) := by
              show _ = _
              rw [HRR.out, if_pos (.inr hbig)]
            have hbi : (40 : Int) < (tn : Int) := by omega
            have hg9 := hI.hg
            have hup9 := hI.up
            clear hI HRR
            have t0 := blk_cell hg9 0
            have t1 := blk_cell hg9 1
            have t2 := blk_cell hg9 2
            have t3 := blk_cell hg9 3
            have t4 := blk_cell hg9 4
            have t5 := blk_cell hg9 5
            have t6 := blk_cell hg9 6
            have s0 := blk_free hg9 0
            have s1 := blk_free hg9 1
            have s2 := blk_free hg9 2
            have s3 := blk_free hg9 3
            have s4 := blk_free hg9 4
            have s5 := blk_free hg9 5
            have s6 := blk_free hg9 6
            have h7 := set7 _ g2 _ _ _ _ _ _ _ (.slice none 0 0) (.slice none 0 0) (.int .i64 0) (.int .u64 0) (.int .u64 0) (.int .u64 0) (.int .u64 0) _ hg9
            have hup10 := keepsUp hup9 hgw9 h7.2
            have H71 := Lib.hid h7.1
            have HUP := Lib.hid hup10
            clear h7 hup10 hup9 hg9
            go_wp2_with fail
            have u0 := blk_cell H71.out 0
            have u1 := blk_cell H71.out 1
            have u2 := blk_cell H71.out 2
            have u3 := blk_cell H71.out 3
            have u4 := blk_cell H71.out 4
            have u5 := blk_cell H71.out 5
            have u6 := blk_cell H71.out 6
            refine bodyPost_ret (v := .tuple #[.agg #[.slice none 0 0, .slice none 0 0, .int .i64 0, .int .u64 0, .int .u64 0, .int .u64 0, .int .u64 0], .int .i64 3]) (by simp [results, Try.results19, go_sem, u0, u1, u2, u3, u4, u5, u6]) rfl ?_
            rw [HNO.out]
            exact ⟨rfl, HUP.out⟩
          · have hbi : ¬ (40 : Int) < (tn : Int) := by omega
            have hok := takeL_ok (l := bs.drop qa) (by rw [HT.out])
            rw [HT.out, List.length_drop, ← HL.out] at hok
            (try dsimp only at hok)
            have HR2 : Hid (readR bs = (rdGo (2 * tn + 5) bs (qa + ts) []).bind (endR bs (q.map idD) tn)) := by
              show _ = _
              rw [HRR.out, if_neg (by rintro (h | h); exact h rfl; omega)]
            have hw0 : IntKind.i64.wrap ((qa : Int) + (ts : Int)) = (qa : Int) + (ts : Int) := IntWalk.i64_in _ (by omega)
            have hw1 : IntKind.u64.wrap (2 * (tn : Int)) = 2 * (tn : Int) := IntWalk.u64_in _ (by omega)
            have hw2 : IntKind.i64.wrap (2 * (tn : Int)) = 2 * (tn : Int) := IntWalk.i64_in _ (by omega)
            have hw3 : IntKind.i64.wrap (2 * (tn : Int) + 5) = 2 * (tn : Int) + 5 := IntWalk.i64_in _ (by omega)
            have hw4 : IntKind.i64.wrap (tn : Int) = (tn : Int) := IntWalk.i64_in _ (by omega)
            clear HRR
            have hwr := hI
            clear hI
            go_wp2_with fail
            go_loopw [5, 12, 13] (fun p v i wr => ∃ (j at_ : Nat) (L : Option Addr) (lc : Nat) (acc : List UInt64), i = .int .i64 (j : Int) ∧ p = .int .i64 (at_ : Int) ∧ v = .slice L j lc ∧ j ≤ 2 * tn + 5 ∧ at_ ≤ s.size ∧ RdE w g2 ge D k dc (q.map idD) none 0 0 [] 0 0 0 0 0 wr ∧ wr.ownsRow (ge + 1) 22 1 (.slice L j lc) j (qvs acc) ∧ Hid (rdGo (2 * tn + 5 - j) bs at_ acc = rdGo (2 * tn + 5) bs (qa + ts) []) ∧ Hid (∀ x ∈ acc, x.toNat ≤ 281474976710656)) (fun _ _ i _ => 2 * tn + 5 - (intOf i).toNat)
            case atStart => exact ⟨0, qa + ts, none, 0, [], rfl, by simp, rfl, by omega, by omega, hwr, World.ownsRow_nil _ _ _ _, rfl, fun x hx => by simp at hx⟩
            case round =>
              obtain ⟨j, at_, L, lc, acc, rfl, rfl, rfl, hj, hat, hI, hl, hgo, hall⟩ := hrel
              clear hwr
              by_cases hlt : j < 2 * tn + 5
              · have hlti : (j : Int) < 2 * (tn : Int) + 5 := by omega
                have hex2 := ext_str HS.out at_
                have HE2 := Lib.hid hex2
                obtain ⟨y, sz, e2, ht2⟩ : ∃ a b c, takeL (bs.drop at_) = (a, b, c) := ⟨_, _, _, rfl⟩
                have HT2 := Lib.hid ht2
                have hgo2 : Hid (rdGo (2 * tn + 5) bs (qa + ts) [] = if e2 = 0 ∧ y ≤ 281474976710656 then rdGo (2 * tn + 5 - (j + 1)) bs (at_ + sz) (acc ++ [UInt64.ofNat y]) else none) := by
                  show _ = _
                  rw [← hgo.out, show 2 * tn + 5 - j = (2 * tn + 5 - (j + 1)) + 1 by omega, rdGo, ht2]
                have hati : (at_ : Int) ≤ (s.size : Int) := by omega
                clear hex2 ht2 hgo
                go_wp2_with fail
                refine (rtake_any _ (bs.drop at_) wr HE2.out (by simp [ByteArray.size_extract]; omega)).mono ?_
                rintro e w6 ⟨rfl, rfl⟩
                rw [HT2.out]
                (try dsimp only)
                by_cases he2 : e2 = 0
                · subst he2
                  rw [show ((0 : Nat) : Int) = (0 : Int) from rfl]
                  by_cases hy : y ≤ 281474976710656
                  · have hyi : ¬ (281474976710656 : Int) < (y : Int) := by omega
                    have hok2 := takeL_ok (l := bs.drop at_) (by rw [HT2.out])
                    rw [HT2.out, List.length_drop, ← HL.out] at hok2
                    (try dsimp only at hok2)
                    have hwa : IntKind.i64.wrap ((at_ : Int) + (sz : Int)) = (at_ : Int) + (sz : Int) := IntWalk.i64_in _ (by omega)
                    have HB : Hid (Value.int .u64 (y : Int) = qv (UInt64.ofNat y)) := by
                      show _ = _
                      rw [qv_ofNat]; congr 1; omega
                    have HIa := Lib.hid hI
                    have HLa := Lib.hid hl
                    clear hI hl
                    go_wp2_with (at_builtin; refine wpList_append_rd _ numsT (news := qvs [UInt64.ofNat y]) (HLa.out.alloc _) (Rd.boxq _ _ HB.out) (qvs_one _) (by omega) (by omega) (by simp; have := (Array.getElem?_eq_some_iff.1 HIa.out.hge).1; omega) rfl rfl rfl rfl ?_; intro v7 w7 hown7 hg7 hat7
                                 have hI7 := (HIa.out.upg ((Up.refl wr).alloc _)).far (own_up HLa.out ((Up.refl wr).alloc _)) hg7
                                 have HI7 := Lib.hid hI7
                                 obtain ⟨L7, lc7, rfl⟩ := own_form hown7
                                 clear hI7 hg7 hat7)
                    go_roundw
                    case rel =>
                      refine ⟨j + 1, at_ + sz, L7, lc7, acc ++ [UInt64.ofNat y], by go_num, by first | rfl | go_num, rfl, by omega, by omega, HI7.out, by rw [qvs_append]; exact hown7, ?_, ?_⟩
                      · show _ = _
                        rw [hgo2.out, if_pos ⟨rfl, hy⟩]
                      · intro x hx
                        rcases List.mem_append.1 hx with h | h
                        · exact hall.out x h
                        · simp at h; subst h; rw [u64_nat0 hy]; exact hy
                    case measure => simp [intOf]; omega
                  · have hyi : (281474976710656 : Int) < (y : Int) := by omega
                    have HNO : Hid (readR bs = none) := by
                      show _ = _
                      rw [HR2.out, hgo2.out, if_neg (fun h => hy h.2)]; rfl
                    have hg9 := hI.hg
                    have hup9 := hI.up
                    clear hI hl HR2 hgo2
                    have t0 := blk_cell hg9 0
                    have t1 := blk_cell hg9 1
                    have t2 := blk_cell hg9 2
                    have t3 := blk_cell hg9 3
                    have t4 := blk_cell hg9 4
                    have t5 := blk_cell hg9 5
                    have t6 := blk_cell hg9 6
                    have s0 := blk_free hg9 0
                    have s1 := blk_free hg9 1
                    have s2 := blk_free hg9 2
                    have s3 := blk_free hg9 3
                    have s4 := blk_free hg9 4
                    have s5 := blk_free hg9 5
                    have s6 := blk_free hg9 6
                    have h7 := set7 _ g2 _ _ _ _ _ _ _ (.slice none 0 0) (.slice none 0 0) (.int .i64 0) (.int .u64 0) (.int .u64 0) (.int .u64 0) (.int .u64 0) _ hg9
                    have hup10 := keepsUp hup9 hgw9 h7.2
                    have H71 := Lib.hid h7.1
                    have HUP := Lib.hid hup10
                    clear h7 hup10 hup9 hg9
                    go_wp2_with fail
                    have u0 := blk_cell H71.out 0
                    have u1 := blk_cell H71.out 1
                    have u2 := blk_cell H71.out 2
                    have u3 := blk_cell H71.out 3
                    have u4 := blk_cell H71.out 4
                    have u5 := blk_cell H71.out 5
                    have u6 := blk_cell H71.out 6
                    refine bodyPost_ret (v := .tuple #[.agg #[.slice none 0 0, .slice none 0 0, .int .i64 0, .int .u64 0, .int .u64 0, .int .u64 0, .int .u64 0], .int .i64 3]) (by simp [results, Try.results19, go_sem, u0, u1, u2, u3, u4, u5, u6]) rfl ?_
                    rw [HNO.out]
                    exact ⟨rfl, HUP.out⟩
                · have hei : ¬ (e2 : Int) = 0 := by omega
                  have heb : ((e2 : Int) != 0) = true := by simp; omega
                  have HNO : Hid (readR bs = none) := by
                    show _ = _
                    rw [HR2.out, hgo2.out, if_neg (fun h => he2 h.1)]; rfl
                  have hg9 := hI.hg
                  have hup9 := hI.up
                  clear hI hl HR2 hgo2
                  have t0 := blk_cell hg9 0
                  have t1 := blk_cell hg9 1
                  have t2 := blk_cell hg9 2
                  have t3 := blk_cell hg9 3
                  have t4 := blk_cell hg9 4
                  have t5 := blk_cell hg9 5
                  have t6 := blk_cell hg9 6
                  have s0 := blk_free hg9 0
                  have s1 := blk_free hg9 1
                  have s2 := blk_free hg9 2
                  have s3 := blk_free hg9 3
                  have s4 := blk_free hg9 4
                  have s5 := blk_free hg9 5
                  have s6 := blk_free hg9 6
                  have h7 := set7 _ g2 _ _ _ _ _ _ _ (.slice none 0 0) (.slice none 0 0) (.int .i64 0) (.int .u64 0) (.int .u64 0) (.int .u64 0) (.int .u64 0) _ hg9
                  have hup10 := keepsUp hup9 hgw9 h7.2
                  have H71 := Lib.hid h7.1
                  have HUP := Lib.hid hup10
                  clear h7 hup10 hup9 hg9
                  go_wp2_with fail
                  have u0 := blk_cell H71.out 0
                  have u1 := blk_cell H71.out 1
                  have u2 := blk_cell H71.out 2
                  have u3 := blk_cell H71.out 3
                  have u4 := blk_cell H71.out 4
                  have u5 := blk_cell H71.out 5
                  have u6 := blk_cell H71.out 6
                  refine bodyPost_ret (v := .tuple #[.agg #[.slice none 0 0, .slice none 0 0, .int .i64 0, .int .u64 0, .int .u64 0, .int .u64 0, .int .u64 0], .int .i64 3]) (by simp [results, Try.results19, go_sem, u0, u1, u2, u3, u4, u5, u6]) rfl ?_
                  rw [HNO.out]
                  exact ⟨rfl, HUP.out⟩
              · have hjj : j = 2 * tn + 5 := by omega
                subst hjj
                have HR3 : Hid (readR bs = endR bs (q.map idD) tn (acc, at_)) := by
                  show _ = _
                  rw [HR2.out, ← hgo.out, Nat.sub_self]; rfl
                have hlti : ¬ ((2 * tn + 5 : Nat) : Int) < 2 * (tn : Int) + 5 := by omega
                clear HR2 hgo hw3 hw0 hj
                have hI8 := hI
                have hl8 := hl
                clear hI hl
                generalize hln : 2 * tn + 5 = ln at *
                have HLN := Lib.hid hln
                clear hln hlt
                go_wp2_with fail
                go_loopw [17] (fun i wr => ∃ (j : Nat) (A : Option Addr) (ac : Nat), i = .int .i64 (j : Int) ∧ j ≤ tn ∧ RdE w g2 ge D k dc (q.map idD) A j ac (prs acc j) 0 0 0 0 0 wr ∧ wr.ownsRow (ge + 1) 22 1 (.slice L ln lc) ln (qvs acc)) (fun i _ => tn - (intOf i).toNat)
                case atStart => exact ⟨0, none, 0, rfl, by omega, hI8, hl8⟩
                case round =>
                  obtain ⟨j, A, ac, rfl, hj, hI, hl⟩ := hrel
                  clear hI8 hl8
                  have hI2 := hI.drew
                  have hl2 : wr.drew.ownsRow (ge + 1) 22 1 (.slice L ln lc) ln (qvs acc) := hl
                  by_cases hlt : j < tn
                  · have i0 : 2 * j < ln := by have := HLN.out; omega
                    have i1 : 2 * j + 1 < ln := by have := HLN.out; omega
                    obtain ⟨b, o, rfl, hbb, c0⟩ := (Rd.own hl2).num i0
                    obtain ⟨b', o', hbo, -, c1⟩ := (Rd.own hl2).num i1
                    injection hbo with hbo
                    injection hbo with h1 h2
                    subst h1; subst h2
                    have hps := prs_succ acc j
                    have x0b : gI acc (2 * j) ≤ 281474976710656 := by
                      have hql := (Rd.own hl2).qlen
                      have hlt2 : 2 * j < acc.length := by omega
                      have e : acc.getD (2 * j) 0 = acc[2 * j] := by simp [List.getD, hlt2]
                      unfold gI; rw [e]; exact hall.out _ (List.getElem_mem hlt2)
                    have x1b : gI acc (2 * j + 1) ≤ 281474976710656 := by
                      have hql := (Rd.own hl2).qlen
                      have hlt2 : 2 * j + 1 < acc.length := by omega
                      have e : acc.getD (2 * j + 1) 0 = acc[2 * j + 1] := by simp [List.getD, hlt2]
                      unfold gI; rw [e]; exact hall.out _ (List.getElem_mem hlt2)
                    replace c0 : wr.drew.cell? ⟨b, o + 2 * j, none⟩ = some (.int .u64 (gI acc (2 * j) : Int)) := c0
                    replace c1 : wr.drew.cell? ⟨b, o + (2 * j + 1), none⟩ = some (.int .u64 (gI acc (2 * j + 1) : Int)) := c1
                    generalize gI acc (2 * j) = x0 at *
                    generalize gI acc (2 * j + 1) = x1 at *
                    have HPS := Lib.hid hps
                    have hji : (j : Int) < (tn : Int) := by omega
                    have v0 : IntKind.i64.wrap (2 * (j : Int)) = 2 * (j : Int) := IntWalk.i64_in _ (by omega)
                    have v1 : IntKind.i64.wrap (2 * (j : Int) + 1) = 2 * (j : Int) + 1 := IntWalk.i64_in _ (by omega)
                    have v2 : IntKind.i64.wrap (x0 : Int) = (x0 : Int) := IntWalk.i64_in _ (by omega)
                    have v3 : IntKind.i64.wrap (x1 : Int) = (x1 : Int) := IntWalk.i64_in _ (by omega)
                    have v4 : (2 * (j : Int)).toNat = 2 * j := by omega
                    have v5 : (2 * (j : Int) + 1).toNat = 2 * j + 1 := by omega
                    have v6 : (0 : Int) ≤ 2 * (j : Int) := by omega
                    have v7 : 2 * (j : Int) < (ln : Int) := by omega
                    have v8 : (0 : Int) ≤ 2 * (j : Int) + 1 := by omega
                    have v9 : 2 * (j : Int) + 1 < (ln : Int) := by omega
                    have t0 := blk_cell hI2.hge 1
                    have t1 : ∀ ob, (wr.alloc ob).drew.cell? ⟨ge, 1, none⟩ = some (.slice A j ac) := fun ob => blk_cell ((((Up.refl wr.drew).alloc ob).block _ (Array.getElem?_eq_some_iff.1 hI2.hge).1).trans hI2.hge) 1
                    have t2 : ∀ ob, (wr.alloc ob).drew.cell? ⟨b, o + 2 * j, none⟩ = some (.int .u64 (x0 : Int)) := fun ob => (((Up.refl wr.drew).alloc ob).cell (p := ⟨b, o + 2 * j, none⟩) hbb).trans c0
                    have t3 : ∀ ob, (wr.alloc ob).drew.cell? ⟨b, o + (2 * j + 1), none⟩ = some (.int .u64 (x1 : Int)) := fun ob => (((Up.refl wr.drew).alloc ob).cell (p := ⟨b, o + (2 * j + 1), none⟩) hbb).trans c1
                    have HI2 := Lib.hid hI2
                    have HL2 := Lib.hid hl2
                    clear hI hI2 hl hl2 hps
                    go_wp2_with fail
                    have mixed : Try.prog.follows .mixedOrders = true := by kernel_rfl
                    go_region_law_o (first
                      | (refine step_wp rfl ?_; refine wp_append_rd _ _ _ filesT rfl (v := .slice A j ac) (by simp [Act.eval, Act.put]) (A := some ⟨wr.drew.heap.size, 0, none⟩) (c := 1) (m := 1) (by simp [Act.eval, Act.put]) (World.ownsRow.alloc HI2.out.hoA _) (Rd.made wr.drew #[.int .i64 (x0 : Int), .int .i64 (x1 : Int)] 41 rfl) (fvs_one [((x0 : Int), (x1 : Int))]) (by omega) (by omega) (by have := (Array.getElem?_eq_some_iff.1 HI2.out.hge).1; simp at *; omega) ?_; intro v5 w5 hown5 hg5 hat5; obtain ⟨A5, ac5, rfl⟩ := own_form hown5
                         have hown6 : w5.ownsRow (ge + 1) 41 2 (.slice A5 (j + 1) ac5) (j + 1) (fvs (prs acc (j + 1))) := by rw [HPS.out, fvs_append]; exact hown5
                         obtain ⟨r1, r2, hI9, hl9⟩ := HI2.out.pushA _ hown6 hg5 HL2.out
                         have HI9 := Lib.hid hI9
                         have HL9 := Lib.hid hl9
                         clear hI9 hl9 hown5 hown6 hg5 hat5))
                    all_goals
                      clear t0 t1 t2 t3 r1 r2 c0 c1 HI2 HL2
                      generalize w5.setCell ⟨ge, 1, none⟩ (.slice A5 (j + 1) ac5) = w9 at *
                      go_wp2_with fail
                      go_roundw
                      case rel => exact ⟨j + 1, A5, ac5, by go_num, by omega, HI9.out, HL9.out⟩
                      case measure => simp [intOf]; omega
                  · have hjt : j = tn := by omega
                    subst hjt
                    have hji : ¬ (j : Int) < (j : Int) := by omega
                    clear hj hlt hl
                    have hb := fun (i : Nat) (hi : i < 5) => show 2 * j + i < ln by have := HLN.out; omega
                    obtain ⟨b, o, rfl, hbb, c0⟩ := (Rd.own hl2).num (hb 0 (by omega))
                    have cc : ∀ i, i < 5 → wr.drew.cell? ⟨b, o + (2 * j + i), none⟩ = some (.int .u64 (gI acc (2 * j + i) : Int)) := fun i hi => by
                      obtain ⟨b', o', hbo, -, c1⟩ := (Rd.own hl2).num (hb i hi)
                      injection hbo with hbo
                      injection hbo with h1 h2
                      subst h1; subst h2
                      exact c1
                    have xb : ∀ i, i < 5 → gI acc (2 * j + i) ≤ 281474976710656 := fun i hi => by
                      have hql := (Rd.own hl2).qlen
                      have hlt2 : 2 * j + i < acc.length := by have := hb i hi; omega
                      have e : acc.getD (2 * j + i) 0 = acc[2 * j + i] := by simp [List.getD, hlt2]
                      unfold gI; rw [e]; exact hall.out _ (List.getElem_mem hlt2)
                    have k0 := cc 0 (by omega)
                    have k1 := cc 1 (by omega)
                    have k2 := cc 2 (by omega)
                    have k3 := cc 3 (by omega)
                    have k4 := cc 4 (by omega)
                    rw [Nat.add_zero] at k0
                    have xb0 := xb 0 (by omega)
                    rw [Nat.add_zero] at xb0
                    have HR4 := HR3
                    (try unfold endR at HR4)
                    generalize gI acc (2 * j) = x0 at *
                    generalize gI acc (2 * j + 1) = x1 at *
                    generalize gI acc (2 * j + 2) = x2 at *
                    generalize gI acc (2 * j + 3) = x3 at *
                    generalize gI acc (2 * j + 4) = x4 at *
                    (try dsimp only at HR4)
                    have hge0 := hI2.hge
                    have hgl := (Array.getElem?_eq_some_iff.1 hge0).1
                    have hbne : ge ≠ b := by rcases hl2.lt b rfl with ⟨hx, -⟩; omega
                    have v2 : IntKind.i64.wrap (x0 : Int) = (x0 : Int) := IntWalk.i64_in _ (by omega)
                    have vt := fun (i : Nat) (hi : i < 5) => show (2 * (j : Int) + (i : Int)).toNat = 2 * j + i by omega
                    have vl := fun (i : Nat) (hi : i < 5) => show 2 * (j : Int) + (i : Int) < (ln : Int) by have := HLN.out; omega
                    have z0 : (2 * (j : Int)).toNat = 2 * j := by omega
                    have z1 : (2 * (j : Int) + 1).toNat = 2 * j + 1 := vt 1 (by omega)
                    have z2 : (2 * (j : Int) + 2).toNat = 2 * j + 2 := vt 2 (by omega)
                    have z3 : (2 * (j : Int) + 3).toNat = 2 * j + 3 := vt 3 (by omega)
                    have z4 : (2 * (j : Int) + 4).toNat = 2 * j + 4 := vt 4 (by omega)
                    have l0 : 2 * (j : Int) < (ln : Int) := by have := vl 0 (by omega); omega
                    have l1 : 2 * (j : Int) + 1 < (ln : Int) := vl 1 (by omega)
                    have l2 : 2 * (j : Int) + 2 < (ln : Int) := vl 2 (by omega)
                    have l3 : 2 * (j : Int) + 3 < (ln : Int) := vl 3 (by omega)
                    have l4 : 2 * (j : Int) + 4 < (ln : Int) := vl 4 (by omega)
                    have p0 : (0 : Int) ≤ 2 * (j : Int) := by omega
                    have p1 : (0 : Int) ≤ 2 * (j : Int) + 1 := by omega
                    have p2 : (0 : Int) ≤ 2 * (j : Int) + 2 := by omega
                    have p3 : (0 : Int) ≤ 2 * (j : Int) + 3 := by omega
                    have p4 : (0 : Int) ≤ 2 * (j : Int) + 4 := by omega
                    have y1 : IntKind.i64.wrap (2 * (j : Int) + 1) = 2 * (j : Int) + 1 := IntWalk.i64_in _ (by omega)
                    have y2 : IntKind.i64.wrap (2 * (j : Int) + 2) = 2 * (j : Int) + 2 := IntWalk.i64_in _ (by omega)
                    have y3 : IntKind.i64.wrap (2 * (j : Int) + 3) = 2 * (j : Int) + 3 := IntWalk.i64_in _ (by omega)
                    have y4 : IntKind.i64.wrap (2 * (j : Int) + 4) = 2 * (j : Int) + 4 := IntWalk.i64_in _ (by omega)
                    have hKS : ∀ w1, Rg.Keeps (fun g => g = ge) wr.drew w1 → (w1.cell? ⟨b, o + 2 * j, none⟩ = some (.int .u64 (x0 : Int)) ∧ w1.cell? ⟨b, o + (2 * j + 1), none⟩ = some (.int .u64 (x1 : Int)) ∧ w1.cell? ⟨b, o + (2 * j + 2), none⟩ = some (.int .u64 (x2 : Int)) ∧ w1.cell? ⟨b, o + (2 * j + 3), none⟩ = some (.int .u64 (x3 : Int)) ∧ w1.cell? ⟨b, o + (2 * j + 4), none⟩ = some (.int .u64 (x4 : Int))) := fun w1 hK => by
                      have hc := hK.block b hbb (fun e0 => hbne e0.symm)
                      exact ⟨(World.cell?_of_block hc).trans k0, (World.cell?_of_block hc).trans k1, (World.cell?_of_block hc).trans k2, (World.cell?_of_block hc).trans k3, (World.cell?_of_block hc).trans k4⟩
                    have HI := Lib.hid hI2
                    clear hI hI2 hl2 cc xb hb c0 k0 k1 k2 k3 k4 vt vl HR3 hall
                    go_wp2_with fail
                    apply Rg.region_own 35 _ (fun g => g = ge) (fun W => W.heap[ge]? = some (.cells #[.slice D k dc, .slice A j ac, .int .i64 ((0 : Nat) : Int), .int .u64 ((0 : Nat) : Int), .int .u64 ((0 : Nat) : Int), .int .u64 ((0 : Nat) : Int), .int .u64 ((0 : Nat) : Int)] 32 (0, 0))) rfl (by kernel_rfl) (by kernel_rfl) (by rintro g rfl; exact hgl) hge0 (fun w1 w2 h hs => (hs.block ge (Array.getElem?_eq_some_iff.1 h).1 (.inr rfl)).trans h) hKS
                    · intro QN hQN
                      iterate 26 (apply Rg.RK.ok; (· intro vs w1 hS; go_simp; with_reducible rfl); (· rfl); simp only [Act.put, List.setIfInBounds_toArray, List.set_cons_zero, List.set_cons_succ, Nat.reduceAdd])
                      apply Rg.RK.opn (fun _ W => W.heap[ge]? = some (.cells #[.slice D k dc, .slice A j ac, .int .i64 (x0 : Int), .int .u64 ((0 : Nat) : Int), .int .u64 ((0 : Nat) : Int), .int .u64 ((0 : Nat) : Int), .int .u64 ((0 : Nat) : Int)] 32 (0, 0))) (fun _ g => g = ge) [35] [35]
                      · exact fun v W1 W2 h hs => (hs.block ge (Array.getElem?_eq_some_iff.1 h).1 (.inr rfl)).trans h
                      · rfl
                      · intro vs w4 hK hS hf K hKK
                        obtain ⟨hblk, -⟩ := hf
                        have hblk2 : w4.heap[ge]? = some (.cells #[.slice D k dc, .slice A j ac, .int .i64 ((0 : Nat) : Int), .int .u64 ((0 : Nat) : Int), .int .u64 ((0 : Nat) : Int), .int .u64 ((0 : Nat) : Int), .int .u64 ((0 : Nat) : Int)] 32 (0, 0)) := hblk
                        have t0 := blk_cell hblk2 2
                        have s0 := blk_free hblk2 2
                        (try dsimp only at hKK ⊢)
                        go_simp
                        refine hKK.out undef _ (setc_heap w4 ge 2 _ _ _ hblk2) (Keeps.weak (setc_keeps w4 w4 ge 2 _ (Rg.Keeps.refl _ _)) fun y hy => ⟨35, List.mem_singleton.2 rfl, hy⟩) (fun y hy => ⟨?_, .inr ⟨35, List.mem_singleton.2 rfl, hy⟩⟩)
                        have hyy : y = ge := hy
                        rw [hyy]
                        exact (Array.getElem?_eq_some_iff.1 (setc_heap w4 ge 2 _ _ _ hblk2)).1
                      simp only [Act.put, List.setIfInBounds_toArray, List.set_cons_zero, List.set_cons_succ, Nat.reduceAdd]
                      iterate 1 (apply Rg.RK.ok; (· intro vs w1 hS; go_simp; with_reducible rfl); (· rfl); simp only [Act.put, List.setIfInBounds_toArray, List.set_cons_zero, List.set_cons_succ, Nat.reduceAdd])
                      apply Rg.RK.opn (fun _ W => W.heap[ge]? = some (.cells #[.slice D k dc, .slice A j ac, .int .i64 (x0 : Int), .int .u64 (x1 : Int), .int .u64 ((0 : Nat) : Int), .int .u64 ((0 : Nat) : Int), .int .u64 ((0 : Nat) : Int)] 32 (0, 0))) (fun _ g => g = ge) [26] [26]
                      · exact fun v W1 W2 h hs => (hs.block ge (Array.getElem?_eq_some_iff.1 h).1 (.inr rfl)).trans h
                      · rfl
                      · intro vs w4 hK hS hf K hKK
                        obtain ⟨hblk, -⟩ := hf
                        have hblk2 : w4.heap[ge]? = some (.cells #[.slice D k dc, .slice A j ac, .int .i64 (x0 : Int), .int .u64 ((0 : Nat) : Int), .int .u64 ((0 : Nat) : Int), .int .u64 ((0 : Nat) : Int), .int .u64 ((0 : Nat) : Int)] 32 (0, 0)) := hblk
                        have t0 := blk_cell hblk2 3
                        have s0 := blk_free hblk2 3
                        (try dsimp only at hKK ⊢)
                        go_simp
                        refine hKK.out undef _ (setc_heap w4 ge 3 _ _ _ hblk2) (Keeps.weak (setc_keeps w4 w4 ge 3 _ (Rg.Keeps.refl _ _)) fun y hy => ⟨26, List.mem_singleton.2 rfl, hy⟩) (fun y hy => ⟨?_, .inr ⟨26, List.mem_singleton.2 rfl, hy⟩⟩)
                        have hyy : y = ge := hy
                        rw [hyy]
                        exact (Array.getElem?_eq_some_iff.1 (setc_heap w4 ge 3 _ _ _ hblk2)).1
                      simp only [Act.put, List.setIfInBounds_toArray, List.set_cons_zero, List.set_cons_succ, Nat.reduceAdd]
                      iterate 1 (apply Rg.RK.ok; (· intro vs w1 hS; go_simp; with_reducible rfl); (· rfl); simp only [Act.put, List.setIfInBounds_toArray, List.set_cons_zero, List.set_cons_succ, Nat.reduceAdd])
                      apply Rg.RK.opn (fun _ W => W.heap[ge]? = some (.cells #[.slice D k dc, .slice A j ac, .int .i64 (x0 : Int), .int .u64 (x1 : Int), .int .u64 (x2 : Int), .int .u64 ((0 : Nat) : Int), .int .u64 ((0 : Nat) : Int)] 32 (0, 0))) (fun _ g => g = ge) [28] [28]
                      · exact fun v W1 W2 h hs => (hs.block ge (Array.getElem?_eq_some_iff.1 h).1 (.inr rfl)).trans h
                      · rfl
                      · intro vs w4 hK hS hf K hKK
                        obtain ⟨hblk, -⟩ := hf
                        have hblk2 : w4.heap[ge]? = some (.cells #[.slice D k dc, .slice A j ac, .int .i64 (x0 : Int), .int .u64 (x1 : Int), .int .u64 ((0 : Nat) : Int), .int .u64 ((0 : Nat) : Int), .int .u64 ((0 : Nat) : Int)] 32 (0, 0)) := hblk
                        have t0 := blk_cell hblk2 4
                        have s0 := blk_free hblk2 4
                        (try dsimp only at hKK ⊢)
                        go_simp
                        refine hKK.out undef _ (setc_heap w4 ge 4 _ _ _ hblk2) (Keeps.weak (setc_keeps w4 w4 ge 4 _ (Rg.Keeps.refl _ _)) fun y hy => ⟨28, List.mem_singleton.2 rfl, hy⟩) (fun y hy => ⟨?_, .inr ⟨28, List.mem_singleton.2 rfl, hy⟩⟩)
                        have hyy : y = ge := hy
                        rw [hyy]
                        exact (Array.getElem?_eq_some_iff.1 (setc_heap w4 ge 4 _ _ _ hblk2)).1
                      simp only [Act.put, List.setIfInBounds_toArray, List.set_cons_zero, List.set_cons_succ, Nat.reduceAdd]
                      iterate 1 (apply Rg.RK.ok; (· intro vs w1 hS; go_simp; with_reducible rfl); (· rfl); simp only [Act.put, List.setIfInBounds_toArray, List.set_cons_zero, List.set_cons_succ, Nat.reduceAdd])
                      apply Rg.RK.opn (fun _ W => W.heap[ge]? = some (.cells #[.slice D k dc, .slice A j ac, .int .i64 (x0 : Int), .int .u64 (x1 : Int), .int .u64 (x2 : Int), .int .u64 (x3 : Int), .int .u64 ((0 : Nat) : Int)] 32 (0, 0))) (fun _ g => g = ge) [30] [30]
                      · exact fun v W1 W2 h hs => (hs.block ge (Array.getElem?_eq_some_iff.1 h).1 (.inr rfl)).trans h
                      · rfl
                      · intro vs w4 hK hS hf K hKK
                        obtain ⟨hblk, -⟩ := hf
                        have hblk2 : w4.heap[ge]? = some (.cells #[.slice D k dc, .slice A j ac, .int .i64 (x0 : Int), .int .u64 (x1 : Int), .int .u64 (x2 : Int), .int .u64 ((0 : Nat) : Int), .int .u64 ((0 : Nat) : Int)] 32 (0, 0)) := hblk
                        have t0 := blk_cell hblk2 5
                        have s0 := blk_free hblk2 5
                        (try dsimp only at hKK ⊢)
                        go_simp
                        refine hKK.out undef _ (setc_heap w4 ge 5 _ _ _ hblk2) (Keeps.weak (setc_keeps w4 w4 ge 5 _ (Rg.Keeps.refl _ _)) fun y hy => ⟨30, List.mem_singleton.2 rfl, hy⟩) (fun y hy => ⟨?_, .inr ⟨30, List.mem_singleton.2 rfl, hy⟩⟩)
                        have hyy : y = ge := hy
                        rw [hyy]
                        exact (Array.getElem?_eq_some_iff.1 (setc_heap w4 ge 5 _ _ _ hblk2)).1
                      simp only [Act.put, List.setIfInBounds_toArray, List.set_cons_zero, List.set_cons_succ, Nat.reduceAdd]
                      iterate 1 (apply Rg.RK.ok; (· intro vs w1 hS; go_simp; with_reducible rfl); (· rfl); simp only [Act.put, List.setIfInBounds_toArray, List.set_cons_zero, List.set_cons_succ, Nat.reduceAdd])
                      apply Rg.RK.opn (fun _ W => W.heap[ge]? = some (.cells #[.slice D k dc, .slice A j ac, .int .i64 (x0 : Int), .int .u64 (x1 : Int), .int .u64 (x2 : Int), .int .u64 (x3 : Int), .int .u64 (x4 : Int)] 32 (0, 0))) (fun _ g => g = ge) [32] [32]
                      · exact fun v W1 W2 h hs => (hs.block ge (Array.getElem?_eq_some_iff.1 h).1 (.inr rfl)).trans h
                      · rfl
                      · intro vs w4 hK hS hf K hKK
                        obtain ⟨hblk, -⟩ := hf
                        have hblk2 : w4.heap[ge]? = some (.cells #[.slice D k dc, .slice A j ac, .int .i64 (x0 : Int), .int .u64 (x1 : Int), .int .u64 (x2 : Int), .int .u64 (x3 : Int), .int .u64 ((0 : Nat) : Int)] 32 (0, 0)) := hblk
                        have t0 := blk_cell hblk2 6
                        have s0 := blk_free hblk2 6
                        (try dsimp only at hKK ⊢)
                        go_simp
                        refine hKK.out undef _ (setc_heap w4 ge 6 _ _ _ hblk2) (Keeps.weak (setc_keeps w4 w4 ge 6 _ (Rg.Keeps.refl _ _)) fun y hy => ⟨32, List.mem_singleton.2 rfl, hy⟩) (fun y hy => ⟨?_, .inr ⟨32, List.mem_singleton.2 rfl, hy⟩⟩)
                        have hyy : y = ge := hy
                        rw [hyy]
                        exact (Array.getElem?_eq_some_iff.1 (setc_heap w4 ge 6 _ _ _ hblk2)).1
                      simp only [Act.put, List.setIfInBounds_toArray, List.set_cons_zero, List.set_cons_succ, Nat.reduceAdd]
                      apply Rg.RK.fin [34]
                      intro vs w4 hK hS hf
                      obtain ⟨hblk, -⟩ := hf
                      refine hQN.out _ _ ?_
                      clear hQN
                      have hblk2 : w4.heap[ge]? = some (.cells #[.slice D k dc, .slice A j ac, .int .i64 (x0 : Int), .int .u64 (x1 : Int), .int .u64 (x2 : Int), .int .u64 (x3 : Int), .int .u64 (x4 : Int)] 32 (0, 0)) := hblk
                      have hI9 := HI.out.kp hK hblk2
                      clear hblk hS hK hgl hge0 hbne HI
                      by_cases hat9 : at_ = s.size
                      · subst hat9
                        clear hKS
                        have t0 := blk_cell hI9.hge 0
                        have t1 := blk_cell hI9.hge 1
                        have t2 := blk_cell hI9.hge 2
                        have t3 := blk_cell hI9.hge 3
                        have t4 := blk_cell hI9.hge 4
                        have t5 := blk_cell hI9.hge 5
                        have t6 := blk_cell hI9.hge 6
                        have hod := Rd.own hI9.hoD
                        have hoa := Rd.own hI9.hoA
                        have HOD1 := Lib.hid hod
                        have HOA1 := Lib.hid hoa
                        have HIH := Lib.hid hI9
                        obtain ⟨mb, hmb⟩ : ∃ x, x = mayE (q.map idD) (prs acc j) x0 x1 x2 x3 x4 := ⟨_, rfl⟩
                        have HMB := Lib.hid hmb
                        have hkb9 : k ≤ 9223372036854775807 := by omega
                        have hjb9 : j ≤ 9223372036854775807 := by omega
                        clear hod hoa hI9 hmb
                        go_wp2_with fail
                        refine (rmay_any D k dc (q.map idD) A j ac (prs acc j) x0 x1 x2 x3 x4 w4 HOD1.out hkb9 HOA1.out hjb9).mono ?_
                        rintro e wi ⟨rfl, hui⟩
                        rw [← HMB.out]
                        have hIj := HIH.out.upg hui
                        clear t0 t1 t2 t3 t4 t5 t6 HOD1 HOA1 HIH hui
                        have hg9 := hIj.hg
                        have hup9 := hIj.up
                        cases mb
                        · have HNO : Hid (readR bs = none) := by
                            show _ = _
                            rw [HR4.out, if_neg (by rw [← HMB.out]; simp)]
                          have hm1 : ((mayN false : Nat) : Int) = 1 := rfl
                          clear HR4 hIj
                          have t0 := blk_cell hg9 0
                          have t1 := blk_cell hg9 1
                          have t2 := blk_cell hg9 2
                          have t3 := blk_cell hg9 3
                          have t4 := blk_cell hg9 4
                          have t5 := blk_cell hg9 5
                          have t6 := blk_cell hg9 6
                          have s0 := blk_free hg9 0
                          have s1 := blk_free hg9 1
                          have s2 := blk_free hg9 2
                          have s3 := blk_free hg9 3
                          have s4 := blk_free hg9 4
                          have s5 := blk_free hg9 5
                          have s6 := blk_free hg9 6
                          have h7 := set7 _ g2 _ _ _ _ _ _ _ (.slice none 0 0) (.slice none 0 0) (.int .i64 0) (.int .u64 0) (.int .u64 0) (.int .u64 0) (.int .u64 0) _ hg9
                          have hup10 := keepsUp hup9 hgw9 h7.2
                          have H71 := Lib.hid h7.1
                          have HUP := Lib.hid hup10
                          clear h7 hup10 hup9 hg9
                          go_wp2_with fail
                          have u0 := blk_cell H71.out 0
                          have u1 := blk_cell H71.out 1
                          have u2 := blk_cell H71.out 2
                          have u3 := blk_cell H71.out 3
                          have u4 := blk_cell H71.out 4
                          have u5 := blk_cell H71.out 5
                          have u6 := blk_cell H71.out 6
                          refine bodyPost_ret (v := .tuple #[.agg #[.slice none 0 0, .slice none 0 0, .int .i64 0, .int .u64 0, .int .u64 0, .int .u64 0, .int .u64 0], .int .i64 3]) (by simp [results, Try.results19, go_sem, u0, u1, u2, u3, u4, u5, u6]) rfl ?_
                          rw [HNO.out]
                          exact ⟨rfl, HUP.out⟩
                        · have HSO : Hid (readR bs = some (q.map idD, prs acc j, (x0 : Int), x1, x2, x3, x4)) := by
                            show _ = _
                            rw [HR4.out, if_pos ⟨HL.out, HMB.out.symm⟩]
                          have hm1 : ((mayN true : Nat) : Int) = 0 := rfl
                          have t0 := blk_cell hIj.hge 0
                          have t1 := blk_cell hIj.hge 1
                          have t2 := blk_cell hIj.hge 2
                          have t3 := blk_cell hIj.hge 3
                          have t4 := blk_cell hIj.hge 4
                          have t5 := blk_cell hIj.hge 5
                          have t6 := blk_cell hIj.hge 6
                          have r0 := blk_cell hg9 0
                          have r1 := blk_cell hg9 1
                          have r2 := blk_cell hg9 2
                          have r3 := blk_cell hg9 3
                          have r4 := blk_cell hg9 4
                          have r5 := blk_cell hg9 5
                          have r6 := blk_cell hg9 6
                          have s0 := blk_free hg9 0
                          have s1 := blk_free hg9 1
                          have s2 := blk_free hg9 2
                          have s3 := blk_free hg9 3
                          have s4 := blk_free hg9 4
                          have s5 := blk_free hg9 5
                          have s6 := blk_free hg9 6
                          have h7 := set7 wi g2 _ _ _ _ _ _ _ (.slice D k dc) (.slice A j ac) (.int .i64 (x0 : Int)) (.int .u64 (x1 : Int)) (.int .u64 (x2 : Int)) (.int .u64 (x3 : Int)) (.int .u64 (x4 : Int)) _ hg9
                          have hg2e : g2 < ge + 1 := by have := hIj.o2; omega
                          have hod := Rd.own (own_keeps6 hIj.hoD hg2e h7.2)
                          have hoa := Rd.own (own_keeps6 hIj.hoA hg2e h7.2)
                          have hnd := own_cap hIj.hoD
                          have hna := own_cap hIj.hoA
                          have hup10 := keepsUp hup9 hgw9 h7.2
                          have H71 := Lib.hid h7.1
                          have HUP := Lib.hid hup10
                          have HOD := Lib.hid hod
                          have HOA := Lib.hid hoa
                          clear h7 hup10 hup9 hg9 hod hoa hIj HR4
                          go_wp2_with fail
                          have u0 := blk_cell H71.out 0
                          have u1 := blk_cell H71.out 1
                          have u2 := blk_cell H71.out 2
                          have u3 := blk_cell H71.out 3
                          have u4 := blk_cell H71.out 4
                          have u5 := blk_cell H71.out 5
                          have u6 := blk_cell H71.out 6
                          refine bodyPost_ret (v := .tuple #[.agg #[.slice D k dc, .slice A j ac, .int .i64 (x0 : Int), .int .u64 (x1 : Int), .int .u64 (x2 : Int), .int .u64 (x3 : Int), .int .u64 (x4 : Int)], .int .i64 0]) (by simp [results, Try.results19, go_sem, u0, u1, u2, u3, u4, u5, u6]) rfl ?_
                          rw [HSO.out]
                          exact ⟨D, k, dc, A, j, ac, rfl, HOD.out, hnd, HOA.out, hna, HUP.out⟩
                      · have hai : ¬ (at_ : Int) = (s.size : Int) := by omega
                        have hab : ((at_ : Int) != (s.size : Int)) = true := by simp; omega
                        have HNO : Hid (readR bs = none) := by
                          show _ = _
                          rw [HR4.out, if_neg (fun h => hat9 (h.1.trans HL.out.symm))]
                        have hg9 := hI9.hg
                        have hup9 := hI9.up
                        clear hI9 HR4
                        have t0 := blk_cell hg9 0
                        have t1 := blk_cell hg9 1
                        have t2 := blk_cell hg9 2
                        have t3 := blk_cell hg9 3
                        have t4 := blk_cell hg9 4
                        have t5 := blk_cell hg9 5
                        have t6 := blk_cell hg9 6
                        have s0 := blk_free hg9 0
                        have s1 := blk_free hg9 1
                        have s2 := blk_free hg9 2
                        have s3 := blk_free hg9 3
                        have s4 := blk_free hg9 4
                        have s5 := blk_free hg9 5
                        have s6 := blk_free hg9 6
                        have h7 := set7 _ g2 _ _ _ _ _ _ _ (.slice none 0 0) (.slice none 0 0) (.int .i64 0) (.int .u64 0) (.int .u64 0) (.int .u64 0) (.int .u64 0) _ hg9
                        have hup10 := keepsUp hup9 hgw9 h7.2
                        have H71 := Lib.hid h7.1
                        have HUP := Lib.hid hup10
                        clear h7 hup10 hup9 hg9
                        go_wp2_with fail
                        have u0 := blk_cell H71.out 0
                        have u1 := blk_cell H71.out 1
                        have u2 := blk_cell H71.out 2
                        have u3 := blk_cell H71.out 3
                        have u4 := blk_cell H71.out 4
                        have u5 := blk_cell H71.out 5
                        have u6 := blk_cell H71.out 6
                        refine bodyPost_ret (v := .tuple #[.agg #[.slice none 0 0, .slice none 0 0, .int .i64 0, .int .u64 0, .int .u64 0, .int .u64 0, .int .u64 0], .int .i64 3]) (by simp [results, Try.results19, go_sem, u0, u1, u2, u3, u4, u5, u6]) rfl ?_
                        rw [HNO.out]
                        exact ⟨rfl, HUP.out⟩
                    · kernel_rfl
        · have hei : ¬ (te : Int) = 0 := by omega
          have heb : ((te : Int) != 0) = true := by simp; omega
          have HNO : Hid (readR bs = none) := by
            show _ = _
            rw [HRR.out, if_pos (.inl hte)]
          have hg9 := hI.hg
          have hup9 := hI.up
          clear hI HRR
          have t0 := blk_cell hg9 0
          have t1 := blk_cell hg9 1
          have t2 := blk_cell hg9 2
          have t3 := blk_cell hg9 3
          have t4 := blk_cell hg9 4
          have t5 := blk_cell hg9 5
          have t6 := blk_cell hg9 6
          have s0 := blk_free hg9 0
          have s1 := blk_free hg9 1
          have s2 := blk_free hg9 2
          have s3 := blk_free hg9 3
          have s4 := blk_free hg9 4
          have s5 := blk_free hg9 5
          have s6 := blk_free hg9 6
          have h7 := set7 _ g2 _ _ _ _ _ _ _ (.slice none 0 0) (.slice none 0 0) (.int .i64 0) (.int .u64 0) (.int .u64 0) (.int .u64 0) (.int .u64 0) _ hg9
          have hup10 := keepsUp hup9 hgw9 h7.2
          have H71 := Lib.hid h7.1
          have HUP := Lib.hid hup10
          clear h7 hup10 hup9 hg9
          go_wp2_with fail
          have u0 := blk_cell H71.out 0
          have u1 := blk_cell H71.out 1
          have u2 := blk_cell H71.out 2
          have u3 := blk_cell H71.out 3
          have u4 := blk_cell H71.out 4
          have u5 := blk_cell H71.out 5
          have u6 := blk_cell H71.out 6
          refine bodyPost_ret (v := .tuple #[.agg #[.slice none 0 0, .slice none 0 0, .int .i64 0, .int .u64 0, .int .u64 0, .int .u64 0, .int .u64 0], .int .i64 3]) (by simp [results, Try.results19, go_sem, u0, u1, u2, u3, u4, u5, u6]) rfl ?_
          rw [HNO.out]
          exact ⟨rfl, HUP.out⟩
  · have hqei : ¬ (qe : Int) = 0 := by omega
    have hqeb : ((qe : Int) != 0) = true := by simp; omega
    have HNO : Hid (readR bs = none) := by
      show _ = _
      unfold readR
      rw [HU.out]
      exact if_pos hqe
    have hg9 := hg3
    have hup9 := hup3
    clear hg3 hup3 hoQ hg2E
    have t0 := blk_cell hg9 0
    have t1 := blk_cell hg9 1
    have t2 := blk_cell hg9 2
    have t3 := blk_cell hg9 3
    have t4 := blk_cell hg9 4
    have t5 := blk_cell hg9 5
    have t6 := blk_cell hg9 6
    have s0 := blk_free hg9 0
    have s1 := blk_free hg9 1
    have s2 := blk_free hg9 2
    have s3 := blk_free hg9 3
    have s4 := blk_free hg9 4
    have s5 := blk_free hg9 5
    have s6 := blk_free hg9 6
    have h7 := set7 _ g2 _ _ _ _ _ _ _ (.slice none 0 0) (.slice none 0 0) (.int .i64 0) (.int .u64 0) (.int .u64 0) (.int .u64 0) (.int .u64 0) _ hg9
    have hup10 := keepsUp hup9 hgw9 h7.2
    have H71 := Lib.hid h7.1
    have HUP := Lib.hid hup10
    clear h7 hup10 hup9 hg9
    go_wp2_with fail
    have u0 := blk_cell H71.out 0
    have u1 := blk_cell H71.out 1
    have u2 := blk_cell H71.out 2
    have u3 := blk_cell H71.out 3
    have u4 := blk_cell H71.out 4
    have u5 := blk_cell H71.out 5
    have u6 := blk_cell H71.out 6
    refine bodyPost_ret (v := .tuple #[.agg #[.slice none 0 0, .slice none 0 0, .int .i64 0, .int .u64 0, .int .u64 0, .int .u64 0, .int .u64 0], .int .i64 3]) (by simp [results, Try.results19, go_sem, u0, u1, u2, u3, u4, u5, u6]) rfl ?_
    rw [HNO.out]
    exact ⟨rfl, HUP.out⟩
end Go.Proofs.Ytokcaoaclheiiaa
