/-
  Texts of this claim, joined: BlkW3, BlkRows, BlkCut, RegionIn, BlkCut2, BlkW4, Store, StoreI, BlkW5, Rw, ItemLaw, FrameLaw, BlkLaw, OpenE, OpenR, FrameW9, FrameLaw2, Crc, FrameLaw3, FrameW11, Conv, FrameW12, RwO, Fold, LogB, LogA.
-/
import Derived.RangeFuncNested
import Derived.IntWalk
import Derived.RangeFuncBound
import Derived.RangeFuncCalls
import Derived.RangeFuncLeaves
import Derived.RangeFuncFrom
import Derived.RangeFuncBox
import Derived.Shelf.Abstract
import Derived.Shelf.RegionOpen
import Derived.WalkKit
import Derived.OwnWalkIn
import Derived.TacticsInMore
import Derived.LoopNIn
import Derived.LoopIn
import Derived.RangeFuncOwn
import Derived.ControlIn
import Derived.Lib.SliceRun
import Derived.Laws.Tables
import Derived.Deep.Slices
import Derived.Deep.Fields
import Derived.Lib.ConvBytes
import Derived.Test.YtfmjgkfblejknaaZ2
/-
  The walks of block.Put, block.Take, of the document's Block, of law11's take.
-/
namespace Go.Proofs.Ytfmjgkfblejknaa
open Go.RowKit
set_option linter.unusedVariables false
set_option linter.unusedSimpArgs false

theorem bErr_ok {l : List It} (h : bErr l = 0) : l.length ≤ 100 ∧ 0 < l.length ∧ risesB l = true ∧ l.all okB = true ∧ bytesE l = 0 ∧ mayL l = true := by
  unfold bErr at h
  split at h
  · cases h
  · rename_i h1
    split at h
    · rename_i h2
      have hm := h2
      simp only [mayL, Bool.and_eq_true, decide_eq_true_eq] at h2
      obtain ⟨⟨a, b⟩, c⟩ := h2
      refine ⟨by omega, a, b, c, ?_, hm⟩
      unfold bytesE
      rw [if_neg (by omega), c]; rfl
    · cases h
theorem itemsB_blk (l : List It) (h : l.length ≤ 100) : (itemsB l).length ≤ 3210 := by
  have h1 := numB_ten (n := l.length) (by omega)
  have h2 : ∀ q : List It, (q.flatMap itB).length ≤ 32 * q.length := fun q => by
    induction q with
    | nil => simp
    | cons i q ih => have := itB_len i; simp only [List.flatMap_cons, List.length_append, List.length_cons]; omega
  have h3 := h2 l
  unfold itemsB
  rw [List.length_append]
  omega
def blkL (bs : List UInt8) (l : List It) : List UInt8 := if bErr l = 0 then bs ++ frameB 2 (itemsB l) else []
set_option maxRecDepth 100000 in
set_option maxHeartbeats 1600000 in
theorem bput_any (B : Option Addr) (bn bc : Nat) (bs : List UInt8) (A : Option Addr) (n c : Nat) (l : List It) (w : World) (hb : Rd w w.heap.size 1 B bn (bvs bs)) (hbn : bn ≤ 549755813888) (hr : Rd w w.heap.size 5 A n (itcs l)) (hn : n ≤ 1099511627776) :
    Calls Try.prog 25 #[.slice B bn bc, .slice A n c] w fun e w' => ∃ A' n' c', e = .returned (.tuple #[.slice A' n' c', .int .i64 (bErr l : Int)]) ∧ OwnB w' w.heap.size A' n' c' (blkL bs l) ∧ Up w w' := by
  have nil0 : ∀ w0, OwnB w0 w.heap.size none 0 0 [] := fun w0 => World.ownsRow_nil _ _ _ _
  have NIL := Lib.hid nil0
  clear nil0
  have HL := Lib.hid hr.ilen
  by_cases h1 : 100 < n
  · have h1i : (100 : Int) < (n : Int) := by omega
    have hE : bErr l = 2 := by unfold bErr; rw [if_pos (by rw [← HL.out]; exact h1)]
    have hL : blkL bs l = [] := by unfold blkL; rw [hE, if_neg (by decide)]
    have HE := Lib.hid hE
    have HB := Lib.hid hL
    clear hE hL
    go_enter Try.func25, Try.ntmps25
    go_wp2_with fail
    go_ret2
    rw [HE.out, HB.out]
    exact ⟨none, 0, 0, rfl, NIL.out _, Up.refl _⟩
  · have h1i : ¬ (100 : Int) < (n : Int) := by omega
    obtain ⟨mb, hmb⟩ : ∃ q, q = mayL l := ⟨_, rfl⟩
    have HM := Lib.hid hmb
    clear hmb
    go_enter Try.func25, Try.ntmps25
    go_wp2_with fail
    refine (bmay_any A n c l w hr hn).mono ?_
    rintro e w1 ⟨rfl, hu1⟩
    rw [← HM.out]
    cases mb
    · have hE : bErr l = 1 := by unfold bErr; rw [if_neg (by rw [← HL.out]; exact h1), ← HM.out]; rfl
      have hL : blkL bs l = [] := by unfold blkL; rw [hE, if_neg (by decide)]
      have HE := Lib.hid hE
      have HB := Lib.hid hL
      clear hE hL
      go_wp2_with fail
      go_ret2
      rw [HE.out, HB.out]
      exact ⟨none, 0, 0, rfl, NIL.out _, hu1⟩
    · have hE : bErr l = 0 := by unfold bErr; rw [if_neg (by rw [← HL.out]; exact h1), ← HM.out]; rfl
      have hL : blkL bs l = bs ++ frameB 2 (itemsB l) := by unfold blkL; rw [if_pos hE]
      obtain ⟨k1, k2, k3, k4, k5, -⟩ := bErr_ok hE
      have hle := itemsB_blk l k1
      have hPE : putE 2 (itemsB l).length = 0 := by unfold putE; rw [if_neg (by omega), if_neg (by omega)]
      have hPL : putL bs 2 (itemsB l) = bs ++ frameB 2 (itemsB l) := by unfold putL; rw [hPE]; rfl
      have HE := Lib.hid hE
      have HB := Lib.hid hL
      have HBE := Lib.hid k5
      have HPE := Lib.hid hPE
      have HPL := Lib.hid hPL
      have HLE := Lib.hid hle
      clear hE hL hPE hPL k3 k4 k5 hle
      go_wp2_with fail
      refine (bytes_any none 0 0 [] A n c l w1 Rd.empty (hr.up hu1) (by omega) (by omega)).mono ?_
      rintro e w2 ⟨D, dn, dc, rfl, hoD, hu2⟩
      rw [HBE.out]
      rw [bytesL_yes HBE.out, List.nil_append] at hoD
      have hdl := hoD.rd
      have hdn := hdl.blen
      have HDN := Lib.hid hdn
      clear hdn
      go_wp2_with fail
      refine (fput_any B bn bc bs 2 D dn dc (itemsB l) w2 (hb.up (hu1.trans hu2)) hdl (by omega) (by have := HDN.out; have := HLE.out; omega)).mono ?_
      rintro e w3 ⟨E1, en, ec, rfl, hoE, hu3⟩
      rw [HPE.out]
      rw [HPL.out] at hoE
      have hsz := (hu1.trans hu2).size
      go_wp2_with fail
      go_ret2
      rw [HE.out, HB.out]
      exact ⟨E1, en, ec, rfl, own_base hoE hsz, (hu1.trans hu2).trans hu3⟩
/-- the block at a place: the error, the items, where it ends -/
def takeB (bs : List UInt8) (at_ : Int) : Nat × List It × Int :=
  let t := takeF bs at_
  if t.1 = 1 then (1, [], 0)
  else if t.1 ≠ 0 ∨ t.2.1 ≠ 2 then (9, [], 0)
  else if (readL t.2.2.1).1 ≠ 0 ∨ bErr (readL t.2.2.1).2 ≠ 0 then (9, [], 0)
  else (0, (readL t.2.2.1).2, t.2.2.2)
def TbPost (r : Nat × List It × Int) (w : World) (e : Ending) (w' : World) : Prop :=
  ∃ R rn rc, e = .returned (.tuple #[.slice R rn rc, .int .i64 r.2.2, .int .i64 (r.1 : Int)]) ∧ Rd w' w'.heap.size 5 R rn (itcs r.2.1) ∧ rn ≤ rc ∧ Up w w'
theorem TbPost.no {r : Nat × List It × Int} {E : Nat} {w w' : World} (h : r = (E, [], 0)) (hu : Up w w') : TbPost r w (.returned (.tuple #[.slice none 0 0, .int .i64 0, .int .i64 (E : Int)])) w' := by
  subst h
  exact ⟨none, 0, 0, rfl, Rd.empty, Nat.le_refl _, hu⟩
theorem own_max {w : World} {base : Nat} {e : TypeId} {sz n c : Nat} {A : Option Addr} {xs : List Value} (h : w.ownsRow base e sz (.slice A n c) n xs) : n ≤ 9223372036854775807 := by
  rcases h.2 with ⟨hv, rfl⟩ | ⟨g, cap, cur, hv, _, _, hn, hm, _⟩
  · exact Nat.zero_le _
  · have : cap ≤ 9223372036854775807 := by simpa only [maxLen] using hm
    omega
theorem itsL_len2 : ∀ (k : Nat) (acc : List It) (l : List UInt8), (itsL k acc l).2.1.length ≤ acc.length + k
  | 0, acc, l => by simp [itsL]
  | k + 1, acc, l => by
    unfold itsL; split
    · have := itsL_len2 k (acc ++ [(oneL l).2.1]) (oneL l).2.2
      rw [List.length_append, List.length_singleton] at this; omega
    · simp
theorem readL_len2 (l : List UInt8) : (readL l).2.length ≤ 2000 := by
  unfold readL
  split
  · simp
  · split
    · simp
    · split
      · simp
      · split
        · have := itsL_len2 (takeL l).1 [] (l.drop (takeL l).2.1)
          simp only [List.length_nil] at this ⊢; omega
        · simp
theorem takeR_body (r : List UInt8) : (takeR r).2.2.1.length ≤ r.length := by
  unfold takeR
  repeat' split
  all_goals first | exact Nat.zero_le _ | (simp only [List.length_take, List.length_drop]; omega)
theorem takeF_len (l : List UInt8) (at_ : Int) : (takeF l at_).2.2.1.length ≤ l.length := by
  unfold takeF
  split
  · exact Nat.zero_le _
  · have h := takeR_body (l.drop at_.toNat)
    rw [List.length_drop] at h
    simp only
    omega
set_option maxRecDepth 100000 in
set_option maxHeartbeats 1600000 in
theorem btake_any (A0 : Option Addr) (n c : Nat) (bs : List UInt8) (at_ : Int) (w : World) (hr : Rd w w.heap.size 1 A0 n (bvs bs)) (hn : n ≤ 549755813888) (hnc : n ≤ c) :
    Calls Try.prog 30 #[.slice A0 n c, .int .i64 at_] w (TbPost (takeB bs at_) w) := by
  have hal := hr.blen
  obtain ⟨E, K, bd, nx, hT⟩ : ∃ E K bd nx, takeF bs at_ = (E, K, bd, nx) := ⟨_, _, _, _, rfl⟩
  have hv : takeB bs at_ = if E = 1 then (1, [], 0) else if E ≠ 0 ∨ K ≠ 2 then (9, [], 0) else if (readL bd).1 ≠ 0 ∨ bErr (readL bd).2 ≠ 0 then (9, [], 0) else (0, (readL bd).2, nx) := by
    unfold takeB; rw [hT]
  have hbd : bd.length ≤ 549755813888 := by
    have h := takeF_len bs at_
    rw [hT] at h
    exact Nat.le_trans h (by omega)
  have HV := Lib.hid hv
  have HT := Lib.hid hT
  have HBD := Lib.hid hbd
  clear hv hT hal hbd
  go_enter Try.func30, Try.ntmps30
  go_wp2_with fail
  refine (ftake_any A0 n c bs at_ w hr (by omega) hnc).mono ?_
  rintro e w3 ⟨B, bn, bc, rfl, hoB, hu3⟩
  rw [HT.out] at hoB ⊢
  (try dsimp only at hoB ⊢)
  have hrB := hoB.rd
  have hbc := own_cap hoB
  have hbl := hrB.blen
  have HBL := Lib.hid hbl
  clear hoB hr hnc hbl
  by_cases hE1 : E = 1
  · have HNO : Hid (takeB bs at_ = (1, [], 0)) := by show _ = _; rw [HV.out, if_pos hE1]
    subst hE1
    have c1 : (((1 : Nat) : Int) == 1) = true := rfl
    clear HV HT
    go_wp2_with fail
    refine bodyPost_ret (v := .tuple #[.slice none 0 0, .int .i64 0, .int .i64 ((1 : Nat) : Int)]) (by simp [results, Try.results30, go_sem]) rfl ?_
    exact TbPost.no HNO.out hu3
  · have c1 : ((E : Int) == 1) = false := by simp; omega
    by_cases hEK : E ≠ 0 ∨ K ≠ 2
    · have HNO : Hid (takeB bs at_ = (9, [], 0)) := by show _ = _; rw [HV.out, if_neg hE1, if_pos hEK]
      by_cases hE0 : E = 0
      · have c2 : ((E : Int) != 0) = false := by simp [hE0]
        have c3 : ((K : Int) != 2) = true := by simp; omega
        clear HV HT hE0 hEK hE1
        go_wp2_with fail
        refine bodyPost_ret (v := .tuple #[.slice none 0 0, .int .i64 0, .int .i64 ((9 : Nat) : Int)]) (by simp [results, Try.results30, go_sem]) rfl ?_
        exact TbPost.no HNO.out hu3
      · have c2 : ((E : Int) != 0) = true := by simp; omega
        clear HV HT hE0 hEK hE1
        go_wp2_with fail
        refine bodyPost_ret (v := .tuple #[.slice none 0 0, .int .i64 0, .int .i64 ((9 : Nat) : Int)]) (by simp [results, Try.results30, go_sem]) rfl ?_
        exact TbPost.no HNO.out hu3
    · have c2 : ((E : Int) != 0) = false := by simp; omega
      have c3 : ((K : Int) != 2) = false := by simp; omega
      have HV2 : Hid (takeB bs at_ = if (readL bd).1 ≠ 0 ∨ bErr (readL bd).2 ≠ 0 then (9, [], 0) else (0, (readL bd).2, nx)) := by show _ = _; rw [HV.out, if_neg hE1, if_neg hEK]
      have hq2 := readL_len2 bd
      clear HV HT hEK hE1
      go_wp2_with fail
      refine (read_any B bn bc bd w3 hrB (by have := HBL.out; have := HBD.out; omega) hbc).mono ?_
      rintro e w4 ⟨Q, qn, qc, rfl, hoQ, hu4⟩
      obtain ⟨qe, ql, hq⟩ : ∃ a b, readL bd = (a, b) := ⟨_, _, rfl⟩
      rw [hq] at hoQ HV2 hq2 ⊢
      (try dsimp only at hoQ HV2 hq2 ⊢)
      clear hq
      have hQ : Rd w4 w4.heap.size 5 Q qn (itcs ql) := Rd.own hoQ
      have hqc : qn ≤ qc := own_cap hoQ
      have hql := hQ.ilen
      have HQL := Lib.hid hql
      have hup4 := hu3.trans hu4
      have hq3 : qn ≤ 2000 := by omega
      clear hql hoQ
      by_cases hqe : qe = 0
      · have c4 : ((qe : Int) != 0) = false := by simp [hqe]
        by_cases h100 : 100 < qn
        · have HNO : Hid (takeB bs at_ = (9, [], 0)) := by
            show _ = _
            rw [HV2.out, if_pos (.inr (by unfold bErr; rw [if_pos (by rw [← HQL.out]; exact h100)]; decide))]
          have c5 : (100 : Int) < (qn : Int) := by omega
          clear HV2 hqe
          go_wp2_with fail
          refine bodyPost_ret (v := .tuple #[.slice none 0 0, .int .i64 0, .int .i64 ((9 : Nat) : Int)]) (by simp [results, Try.results30, go_sem]) rfl ?_
          exact TbPost.no HNO.out hup4
        · have c5 : ¬ (100 : Int) < (qn : Int) := by omega
          go_wp2_with fail
          refine (bmay_any Q qn qc ql w4 hQ (by omega)).mono ?_
          rintro e w5 ⟨rfl, hu5⟩
          obtain ⟨mb, hmb⟩ : ∃ q, q = mayL ql := ⟨_, rfl⟩
          rw [← hmb]
          have HM := Lib.hid hmb
          clear hmb
          cases mb
          · have HNO : Hid (takeB bs at_ = (9, [], 0)) := by
              show _ = _
              rw [HV2.out, if_pos (.inr (by unfold bErr; rw [if_neg (by rw [← HQL.out]; exact h100), ← HM.out]; decide))]
            clear HV2 hqe
            go_wp2_with fail
            refine bodyPost_ret (v := .tuple #[.slice none 0 0, .int .i64 0, .int .i64 ((9 : Nat) : Int)]) (by simp [results, Try.results30, go_sem]) rfl ?_
            exact TbPost.no HNO.out (hup4.trans hu5)
          · have HYES : Hid (takeB bs at_ = (0, ql, nx)) := by
              show _ = _
              rw [HV2.out, if_neg (by
                rintro (h | h)
                · exact h hqe
                · apply h; unfold bErr; rw [if_neg (by rw [← HQL.out]; exact h100), ← HM.out]; rfl)]
            clear HV2 hqe
            go_wp2_with fail
            refine bodyPost_ret (v := .tuple #[.slice Q qn qc, .int .i64 nx, .int .i64 0]) (by simp [results, Try.results30, go_sem]) rfl ?_
            unfold TbPost
            rw [HYES.out]
            exact ⟨Q, qn, qc, rfl, hQ.up hu5, hqc, hup4.trans hu5⟩
      · have HNO : Hid (takeB bs at_ = (9, [], 0)) := by show _ = _; rw [HV2.out, if_pos (.inl hqe)]
        have c4 : ((qe : Int) != 0) = true := by simp; omega
        clear HV2 hqe
        go_wp2_with fail
        refine bodyPost_ret (v := .tuple #[.slice none 0 0, .int .i64 0, .int .i64 ((9 : Nat) : Int)]) (by simp [results, Try.results30, go_sem]) rfl ?_
        exact TbPost.no HNO.out hup4
end Go.Proofs.Ytfmjgkfblejknaa

/-
  Rows of one item each, merged: the plain law.
-/
namespace Go.Proofs.Ytfmjgkfblejknaa
open Go.RowKit
set_option linter.unusedVariables false
set_option linter.unusedSimpArgs false

theorem less_iff (a b : It) : lessB a b = true ↔ (a.s.toInt < b.s.toInt ∨ a.s.toInt = b.s.toInt ∧ (a.k.toInt < b.k.toInt ∨ a.k.toInt = b.k.toInt ∧ a.t.toNat < b.t.toNat)) := by
  simp only [lessB, lessZ, decide_eq_true_eq]
theorem same_iff (a b : It) : sameB a b = true ↔ (a.s.toInt = b.s.toInt ∧ a.k.toInt = b.k.toInt ∧ a.t.toNat = b.t.toNat) := by
  have h1 := less_iff a b
  have h2 := less_iff b a
  unfold sameB
  rw [Bool.and_eq_true, Bool.not_eq_true', Bool.not_eq_true', ← Bool.not_eq_true, ← Bool.not_eq_true, h1, h2]
  omega
/-- one item put into a rising row: of two that are the same the one that wins -/
def insL : List It → It → List It
  | [], x => [x]
  | y :: r, x => if sameB y x then (if winsB x y then x else y) :: r else if lessB y x then y :: insL r x else x :: y :: r
def rowsL (l : List It) : List It := l.foldl insL []
def riseR : List It → Prop
  | [] => True
  | [_] => True
  | a :: b :: r => lessB a b = true ∧ riseR (b :: r)
theorem riseR_tail {a : It} {r : List It} (h : riseR (a :: r)) : riseR r := by
  cases r with
  | nil => trivial
  | cons b r => exact h.2
theorem riseR_cons {a : It} {r : List It} (h : riseR r) (hd : ∀ z t, r = z :: t → lessB a z = true) : riseR (a :: r) := by
  cases r with
  | nil => trivial
  | cons b r => exact ⟨hd b r rfl, h⟩
theorem riseR_head {a : It} {r : List It} (h : riseR (a :: r)) : ∀ z t, r = z :: t → lessB a z = true := by
  rintro z t rfl
  exact h.1
theorem insL_rise : ∀ (out : List It) (x : It), riseR out → riseR (insL out x) ∧ ∀ a, lessB a x = true → (∀ y r, out = y :: r → lessB a y = true) → ∀ z t, insL out x = z :: t → lessB a z = true
  | [], x, _ => ⟨trivial, fun a h _ z t e => by
    unfold insL at e
    injection e with e1 e2
    rw [← e1]; exact h⟩
  | y :: r, x, h => by
    have ih := insL_rise r x (riseR_tail h)
    unfold insL
    by_cases h1 : sameB y x = true
    · rw [if_pos h1]
      have hs := (same_iff y x).1 h1
      have hw : ∀ a, lessB a (if winsB x y then x else y) = true ↔ lessB a y = true := fun a => by
        split
        · rw [less_iff, less_iff]; omega
        · exact Iff.rfl
      have hw2 : ∀ a, lessB (if winsB x y then x else y) a = true ↔ lessB y a = true := fun a => by
        split
        · rw [less_iff, less_iff]; omega
        · exact Iff.rfl
      refine ⟨riseR_cons (riseR_tail h) (fun z t e => (hw2 z).2 (riseR_head h z t e)), fun a ha hy z t e => ?_⟩
      injection e with e1 e2
      rw [← e1]
      exact (hw a).2 (hy y r rfl)
    · rw [if_neg h1]
      by_cases h2 : lessB y x = true
      · rw [if_pos h2]
        refine ⟨riseR_cons ih.1 (fun z t e => ih.2 y h2 (riseR_head h) z t e), fun a ha hy z t e => ?_⟩
        injection e with e1 e2
        rw [← e1]
        exact hy y r rfl
      · rw [if_neg h2]
        have h3 : lessB x y = true := by
          have a1 := mt (same_iff y x).2 h1
          have a2 := mt (less_iff y x).2 h2
          rw [less_iff]
          omega
        refine ⟨⟨h3, h⟩, fun a ha hy z t e => ?_⟩
        injection e with e1 e2
        rw [← e1]
        exact ha
theorem insL_ok (out : List It) (x : It) (h : ∀ y ∈ out, okB y = true) (hx : okB x = true) : ∀ y ∈ insL out x, okB y = true := by
  induction out with
  | nil => intro y hy; simp [insL] at hy; rw [hy]; exact hx
  | cons a r ih =>
    have ih := ih (fun y hy => h y (List.mem_cons_of_mem _ hy))
    intro y hy
    unfold insL at hy
    split at hy
    · rcases List.mem_cons.1 hy with e | hy
      · rw [e]; split
        · exact hx
        · exact h a List.mem_cons_self
      · exact h y (List.mem_cons_of_mem _ hy)
    · split at hy
      · rcases List.mem_cons.1 hy with e | hy
        · rw [e]; exact h a List.mem_cons_self
        · exact ih y hy
      · rcases List.mem_cons.1 hy with e | hy
        · rw [e]; exact hx
        · exact h y hy
theorem insL_len (out : List It) (x : It) : (insL out x).length ≤ out.length + 1 := by
  induction out with
  | nil => simp [insL]
  | cons a r ih =>
    unfold insL
    split
    · simp
    · split
      · simp only [List.length_cons]; omega
      · simp
theorem rowsL_all (l : List It) : ∀ (out : List It), riseR out → (∀ y ∈ out, okB y = true) → (∀ y ∈ l, okB y = true) → riseR (l.foldl insL out) ∧ (∀ y ∈ l.foldl insL out, okB y = true) ∧ (l.foldl insL out).length ≤ out.length + l.length := by
  induction l with
  | nil => intro out h1 h2 _; exact ⟨h1, h2, by simp⟩
  | cons x l ih =>
    intro out h1 h2 h3
    have h := ih (insL out x) (insL_rise out x h1).1 (insL_ok out x h2 (h3 x List.mem_cons_self)) (fun y hy => h3 y (List.mem_cons_of_mem _ hy))
    have hl := insL_len out x
    refine ⟨h.1, h.2.1, ?_⟩
    have h4 := h.2.2
    simp only [List.foldl_cons, List.length_cons]
    omega
theorem riseR_yes : ∀ {l : List It}, riseR l → ∀ j, j + 1 < l.length → lessB (l.getD j noIt) (l.getD (j + 1) noIt) = true
  | [], _, j, hj => absurd hj (Nat.not_lt_zero _)
  | [a], _, j, hj => by simp at hj
  | a :: b :: r, h, 0, _ => h.1
  | a :: b :: r, h, j + 1, hj => by
    have := riseR_yes h.2 j (by simp only [List.length_cons] at hj ⊢; omega)
    simpa using this
/-- what Rows makes of Ok items, each a row, may be a block, if it is not empty and no longer than 100 -/
theorem rowsL_may (l : List It) (h0 : 0 < (rowsL (l.filter okB)).length) (h1 : (rowsL (l.filter okB)).length ≤ 100) : bErr (rowsL (l.filter okB)) = 0 := by
  have h := rowsL_all (l.filter okB) [] trivial (fun y hy => by cases hy) (fun y hy => (List.mem_filter.1 hy).2)
  have hr : risesB (rowsL (l.filter okB)) = true := risesB_yes (riseR_yes h.1)
  have ho : (rowsL (l.filter okB)).all okB = true := List.all_eq_true.2 h.2.1
  unfold bErr
  rw [if_neg (by omega)]
  unfold mayL
  rw [decide_eq_true h0, hr, ho]; rfl
end Go.Proofs.Ytfmjgkfblejknaa

/-
  The walks of slices.Chunk at items, of block.Cut.
-/
namespace Go.Proofs.Ytfmjgkfblejknaa
open Go.RowKit Go.Shelf
set_option linter.unusedVariables false
set_option linter.unusedSimpArgs false
attribute [local go_sem] Oper.semAt_some

/-- the parts of n places, q at a time: k parts -/
def partsN (q n k : Nat) : List (Nat × Nat) := (List.range k).map fun j => (j * q, min q (n - j * q))
theorem partsN_succ (q n k : Nat) : partsN q n (k + 1) = partsN q n k ++ [(k * q, min q (n - k * q))] := by simp [partsN, List.range_succ]
theorem partsN_length (q n k : Nat) : (partsN q n k).length = k := by simp [partsN]
/-- the two boxes of the iterator lie as they lay -/
def KB (Bs Bq : Nat) (W W' : World) : Prop := W.heap.size ≤ W'.heap.size ∧ W'.heap[Bs]? = W.heap[Bs]? ∧ W'.heap[Bq]? = W.heap[Bq]?
theorem KB.refl (Bs Bq : Nat) (W : World) : KB Bs Bq W W := ⟨Nat.le_refl _, rfl, rfl⟩
theorem KB.trans {Bs Bq : Nat} {A B C : World} (h : KB Bs Bq A B) (k : KB Bs Bq B C) : KB Bs Bq A C := ⟨Nat.le_trans h.1 k.1, k.2.1.trans h.2.1, k.2.2.trans h.2.2⟩
theorem KB.cs {Bs Bq : Nat} {A B : World} {v : Value} (h : KB Bs Bq A B) (hc : A.cell? ⟨Bs, 0, none⟩ = some v) : B.cell? ⟨Bs, 0, none⟩ = some v := (World.cell?_of_block h.2.1).trans hc
theorem KB.cq {Bs Bq : Nat} {A B : World} {v : Value} (h : KB Bs Bq A B) (hc : A.cell? ⟨Bq, 0, none⟩ = some v) : B.cell? ⟨Bq, 0, none⟩ = some v := (World.cell?_of_block h.2.2).trans hc
theorem KB.up {Bs Bq : Nat} {A B : World} (h : Up A B) (h1 : Bs < A.heap.size) (h2 : Bq < A.heap.size) : KB Bs Bq A B := ⟨h.size, h.block _ h1, h.block _ h2⟩
/-- a part as a slice, within bounds whatever it says -/
def partV (b o n : Nat) (x : Nat × Nat) : Value := .slice (some ⟨b, o + min x.1 n * 5, none⟩) (min x.2 (n - min x.1 n)) (min x.2 (n - min x.1 n))
theorem sizeOf_i (w : World) : (sizeOf 35).run Try.prog w = .ok 5 w := by
  obtain ⟨_, ⟨i, z, hi, _, hs, _⟩, _⟩ := itemsT
  simp [sizeOf, typeInfo, hi, hs]
theorem elem_i : Try.prog.elem 22 = 35 := by kernel_rfl
theorem cut_from_i (W : World) (A : Option Addr) (n c i : Nat) (h1 : i ≤ n) :
    (Instr.slice 22 (.slice A n c) (some (.int .i64 (i : Int))) none none).run Try.prog W = .ok (.slice (cutA A c i 5) (n - i) (c - i)) W := by
  rw [run_slice_l W 22 A n c (by rw [elem_i]; exact Try.underlying22) .i64 (i : Int) (by omega) (by omega), elem_i, sizeOf_i]
  simp [sliced, cutA]
theorem cut_row (W : World) (b o n c i en : Nat) (h : 1 ≤ en) (h2 : i + en ≤ c) :
    (Instr.slice 22 (.slice (some ⟨b, o, none⟩) n c) (some (.int .i64 (i : Int))) (some (.int .i64 ((i : Int) + (en : Int)))) (some (.int .i64 ((i : Int) + (en : Int))))).run Try.prog W = .ok (.slice (some ⟨b, o + i * 5, none⟩) en en) W := by
  rw [run_slice_lhm W 22 (some ⟨b, o, none⟩) n c (by rw [elem_i]; exact Try.underlying22) .i64 .i64 .i64 (i : Int) ((i : Int) + (en : Int)) ((i : Int) + (en : Int)) (by omega) (by omega) (by omega) (by omega), elem_i, sizeOf_i]
  have e1 : ((i : Int) + (en : Int)).toNat = i + en := by omega
  have e2 : ¬ (i + en = i) := by omega
  have e3 : i + en - i = en := by omega
  have e4 : (⟨b, o, none⟩ : Addr).add (i * 5) = ⟨b, o + i * 5, none⟩ := by unfold Addr.add; split <;> simp_all
  simp only [Result.andThen, sliced, Int.toNat_natCast, e1, if_neg e2, e3, Option.map_some, e4]
set_option maxRecDepth 100000 in
set_option maxHeartbeats 2000000 in
theorem chunk1_in (d : Nat) (hd : 1 ≤ d) (l Bs Bq b o n c q K : Nat) (hq1 : 1 ≤ q) (hq2 : q ≤ 100) (hn : n ≤ 1099511627776) (hnc : n ≤ c) (hK : n ≤ K * q) (hK2 : ∀ k, k < K → k * q < n) (J Jx : List (Nat × Nat) → World → Prop)
    (hY : ∀ pre x W, J pre W → pre.length < K → YieldAt Fence.wide (d - 1) Try.prog l #[partV b o n x] W fun e W' =>
      (e = .returned (.bool true) ∧ J (pre ++ [x]) W' ∧ KB Bs Bq W W') ∨ (e = .returned (.bool false) ∧ Jx (pre ++ [x]) W'))
    (hJg : ∀ pre W W', J pre W → W.grownBy W' none → J pre W')
    (W : World) (hBs : W.cell? ⟨Bs, 0, none⟩ = some (.slice (some ⟨b, o, none⟩) n c)) (hBq : W.cell? ⟨Bq, 0, none⟩ = some (.int .i64 (q : Int))) (h0 : J [] W) :
    CallsIn Fence.wide d Try.prog 57 #[.func (.yield l) #[] #[], .pointer (some ⟨Bs, 0, none⟩), .pointer (some ⟨Bq, 0, none⟩)] W fun e W' => (∃ v, e = .returned v) ∧
      ((∃ ys, ys = partsN q n K ∧ J ys W') ∨ (∃ pre, (∃ k, k ≤ K ∧ pre = partsN q n k) ∧ Jx pre W')) := by
  refine callsIn_of_wp Try.func57 rfl trivial ?_ rfl
  simp only [Try.ntmps57, List.size_toArray, List.length_cons, List.length_nil, Nat.reduceAdd, Nat.reduceSub, Array.replicate_succ, Array.replicate_zero, List.push_toArray, List.append_toArray, List.nil_append, List.cons_append]
  gi_wp2
  gi_loopw [4] (fun i wr => ∃ k i' : Nat, k ≤ K ∧ i = .int .i64 (i' : Int) ∧ i' = k * q ∧ J (partsN q n k) wr ∧ KB Bs Bq W wr)
    (fun i _ => n - (intOf i).toNat)
  case atStart => exact ⟨0, 0, Nat.zero_le _, rfl, by simp, h0, KB.refl _ _ _⟩
  case round =>
    obtain ⟨k, i, hk, rfl, hi, hJs, hnx⟩ := hrel
    have c1 := hnx.cs hBs
    have c2 := hnx.cq hBq
    have l1 : Bs < wr.heap.size := World.block_lt_of_cell? wr ⟨Bs, 0, none⟩ c1
    have l2 : Bq < wr.heap.size := World.block_lt_of_cell? wr ⟨Bq, 0, none⟩ c2
    have HI := Lib.hid hi
    clear hi
    by_cases hlt : k < K
    · have hkq := hK2 k hlt
      rw [← HI.out] at hkq
      obtain ⟨en, hen⟩ : ∃ e, e = min q (n - i) := ⟨_, rfl⟩
      have he1 : 1 ≤ en := by omega
      have he2 : i + en ≤ n := by omega
      have hik : i ≤ 1099511627776 := by omega
      have h1 : (i : Int) < (n : Int) := by omega
      have hmin : (if n - i < q then ((n - i : Nat) : Int) else (q : Int)) = (en : Int) := by split <;> omega
      have CF : ∀ W, (Instr.slice 22 (.slice (some ⟨b, o, none⟩) n c) (some (.int .i64 (i : Int))) none none).run Try.prog W = .ok (.slice (cutA (some ⟨b, o, none⟩) c i 5) (n - i) (c - i)) W := fun W => cut_from_i W _ n c i (by omega)
      have HEN := Lib.hid hen
      clear hen
      have hS : ∀ W', Up wr W' → Up wr W' ∧ W'.cell? ⟨Bs, 0, none⟩ = some (.slice (some ⟨b, o, none⟩) n c) ∧ W'.cell? ⟨Bq, 0, none⟩ = some (.int .i64 (q : Int)) := fun W' h =>
        ⟨h, (h.cell (p := ⟨Bs, 0, none⟩) l1).trans c1, (h.cell (p := ⟨Bq, 0, none⟩) l2).trans c2⟩
      gi_wp2
      refine wpIn_wide.2 ?_
      apply Rg.region_up _ (by kernel_rfl) (by kernel_rfl) hS
      · intro QN hQN
        iterate 7 (apply Rg.RK.ok; (· intro vs w1 hS; go_simp; with_reducible rfl); (· rfl); simp only [Act.put, List.setIfInBounds_toArray, List.set_cons_zero, List.set_cons_succ, Nat.reduceAdd])
        apply Rg.RK.fin []
        intro vs w1 hK hS _
        refine hQN.out _ _ ?_
        clear hQN
        have hu1 := keeps_up hK
        have hJ1 := hJg _ _ _ hJs ⟨hK.os, hK.tape, hK.output, hK.size, fun k hk _ => hK.block k hk (fun h => h)⟩
        have hB1 : KB Bs Bq wr w1 := KB.up hu1 l1 l2
        have CR : ∀ W, (Instr.slice 22 (.slice (some ⟨b, o, none⟩) n c) (some (.int .i64 (i : Int))) (some (.int .i64 ((i : Int) + (en : Int)))) (some (.int .i64 ((i : Int) + (en : Int))))).run Try.prog W = .ok (.slice (some ⟨b, o + i * 5, none⟩) en en) W := fun W => cut_row W b o n c i en he1 (by omega)
        obtain ⟨fn, tmps, assign, body, hy, hR⟩ := hY _ (i, en) w1 hJ1 (by rw [partsN_length]; exact hlt)
        have hpv : partV b o n (i, en) = .slice (some ⟨b, o + i * 5, none⟩) en en := by
          unfold partV
          simp only [Nat.min_eq_left (show i ≤ n by omega), Nat.min_eq_left (show en ≤ n - i by omega)]
        rw [hpv] at hy
        (try dsimp only at hy)
        clear hpv
        obtain ⟨-, d1, d2⟩ := hS
        have hwr : IntKind.i64.wrap ((i : Int) + (en : Int)) = (i : Int) + (en : Int) := IntWalk.i64_in _ (by omega)
        clear hK CF hY
        gi_wp2
        refine hR.mono ?_
        rintro e W3 (⟨rfl, hJ3, hk3⟩ | ⟨rfl, hJx3⟩)
        · have e2 := hk3.cq d2
          have hnx3 := (hnx.trans hB1).trans hk3
          have hwq : IntKind.i64.wrap ((i : Int) + (q : Int)) = (i : Int) + (q : Int) := IntWalk.i64_in _ (by omega)
          gi_wp2
          go_roundw
          case rel => exact ⟨k + 1, i + q, by omega, by go_num, by rw [HI.out, Nat.succ_mul], by rw [partsN_succ, ← HI.out, ← HEN.out]; exact hJ3, hnx3⟩
          case measure => simp [intOf]; omega
        · gi_wp2
          refine bodyPost_ret (results_none rfl _ _ _) rfl ?_
          exact ⟨⟨_, rfl⟩, .inr ⟨_, ⟨k + 1, by omega, by rw [partsN_succ, ← HI.out, ← HEN.out]⟩, hJx3⟩⟩
      · kernel_rfl
    · have hkK : k = K := by omega
      have hin : n ≤ i := by rw [HI.out, hkK]; exact hK
      have h1 : ¬ (i : Int) < (n : Int) := by omega
      gi_wp2
      go_end0
      exact ⟨⟨_, rfl⟩, .inl (by rw [← hkK]; exact hJs)⟩
end Go.Proofs.Ytfmjgkfblejknaa

/-
  A region that draws its order, in the round of a loop over an iterator.
-/
namespace Go.Proofs.Ytfmjgkfblejknaa.Rg
open Go Go.CheckFast Go.RowKit
set_option linter.unusedVariables false
set_option linter.unusedSimpArgs false

section
variable {P : Program} {ops : Array Oper} {Q : Exit → Act → World → Prop} {X0 : Nat → Prop} {w0 : World} {S : World → Prop}
variable {a0 : Act} {F0 : World → Prop}
theorem any_inv {w : World} (S : World → Prop) (X0 : Nat → Prop) (F0 : World → Prop) (hm : P.follows .mixedOrders = true) (hg : globChk ops = true) (hX : ∀ g, X0 g → g < w.heap.size)
    (hF : F0 w.drew) (hF0 : ∀ w1 w2, F0 w1 → Sta (fun g => (g < w.heap.size ∧ ¬ X0 g) ∨ X0 g) w1 w2 → F0 w2) (hS : ∀ w1, Keeps X0 w.drew w1 → S w1)
    (h : ROK P ops Q X0 w.drew S ops.toList 0 [] [G0 ops X0 F0] (fun _ => a0)) : wpAny P .any ops Q ops.size (Array.replicate ops.size false) a0 { w with drawn := w.drawn + 1 } := by
  obtain ⟨D, hD, hA, hfin⟩ := h.data [] rfl (Nat.zero_le _) rfl rfl (fun _ => rfl) rfl
  rw [List.nil_append] at hD
  simp only [List.nil_append, Nat.zero_add] at hA hfin
  refine wpAny_inv (I := fun listed a w1 => ∃ vs, Inv ops X0 w.drew a0 F0 D listed a w1 vs) ?_ ?_ ?_ _ _ _ _ ?_ ?_
  · rintro listed a w1 ⟨vs, hI⟩ hr
    have hg' := hg
    simp only [globChk, Bool.and_eq_true] at hg'
    obtain ⟨⟨⟨hsel, hlook⟩, hdist⟩, htopo⟩ := hg'
    have hall := all_listed htopo hI.size hr
    have ha : a = bGo ops vs D 0 a0 := by
      have h1 : a.tmps = (bGo ops vs D 0 a0).tmps := by
        apply Array.ext_getElem?
        intro t
        by_cases hex : ∃ j, dstOf ops j = some t
        · obtain ⟨j, hj⟩ := hex
          obtain ⟨dj, hdj⟩ : ∃ d, D[j]? = some d := ⟨_, List.getElem?_eq_getElem (by rw [hD]; exact dstOf_lt hj)⟩
          by_cases hts : t < a0.tmps.size
          · rw [hI.slot j t dj (hall j (dstOf_lt hj)) hj hts hdj, bGo_at ops vs (fun i j t => dist_of hdist i j t) t j hj dj D 0 a0 (Nat.zero_le _) (by rw [Nat.sub_zero, hdj]) hts]
          · have hts' : a0.tmps.size ≤ t := Nat.le_of_not_lt hts
            rw [Array.getElem?_eq_none (by rw [hI.tsize]; exact hts'), Array.getElem?_eq_none (by rw [bGo_size]; exact hts')]
        · rw [hI.other t (fun j _ h2 => hex ⟨j, h2⟩), bGo_other ops vs t _ _ _ (fun j _ _ h3 => hex ⟨j, h3⟩)]
      have h2 : a.defers = (bGo ops vs D 0 a0).defers := by rw [bGo_defers, hI.defers]
      cases a
      generalize bGo ops vs D 0 a0 = b at *
      cases b
      simp only at h1 h2
      rw [h1, h2]
    rw [ha]
    refine hfin vs w1 hI.keeps (hS _ hI.keeps) (fun p hp => ?_)
    rw [Fof_G0]
    by_cases hpn : p = ops.size ∨ p < ops.size
    · refine (hI.fact p ?_ ?_).1
      · exact hpn.imp (fun h => by omega) (hall p)
      · intro j d hj hm
        have h1 := List.all_eq_true.1 hp (d.sh (0 + j)) ((mem_shs _ _).2 ⟨j, d, hj, rfl⟩)
        have h2 : (!d.eats.contains p) = true := h1
        rw [List.contains_eq_mem] at h2
        simp [hm] at h2
    · unfold FF
      rw [if_neg (fun e => hpn (.inl e))]
      intro d hd
      have := (List.getElem?_eq_some_iff.1 hd).1
      exact absurd (.inr (by omega)) hpn
  · rintro listed a w1 i ⟨vs, hI⟩ hi
    exact Inv.step (w0 := w.drew) hg hX hF0 hS hD (fun j o d hd ho => hA j o d hd ho) hI hi
  · rintro listed a w1 ⟨vs, hI⟩
    exact hI.size
  · exact Nat.le_trans List.countP_le_length (by simp)
  · have hz : ∀ i, (Array.replicate ops.size false).getD i false = false := fun i => by
      simp only [Array.getD_eq_getD_getElem?, Array.getElem?_replicate]
      split <;> rfl
    have hno : ∀ i, ¬ (Array.replicate ops.size false).getD i false = true := fun i h => by rw [hz] at h; cases h
    refine ⟨fun _ => undef, ⟨by simp, fun i p h => absurd h (hno i), Keeps.refl _ _, rfl, rfl, fun i t d h => absurd h (hno i), fun t _ => rfl, ?_, ?_⟩⟩
    · intro p hp _
      have hp' : ops.size ≤ p := hp.resolve_right (hno p)
      unfold FF OO
      by_cases e : p = ops.size
      · rw [if_pos e]
        refine ⟨hF, fun g hg' => ?_⟩
        rw [if_pos e] at hg'
        exact ⟨hX g hg', fun h => h.2 hg'⟩
      · rw [if_neg e]
        refine ⟨fun d hd => ?_, fun g hg' => ?_⟩
        · have := (List.getElem?_eq_some_iff.1 hd).1; omega
        · rw [if_neg e] at hg'
          obtain ⟨d, hd, _⟩ := hg'
          have := (List.getElem?_eq_some_iff.1 hd).1; omega
    · intro p q hp _ hq _ hpq g h1 h2
      have hp' : ops.size ≤ p := hp.resolve_right (hno p)
      have hq' : ops.size ≤ q := hq.resolve_right (hno q)
      unfold OO at h1 h2
      by_cases e : p = ops.size
      · rw [if_neg (fun e' => hpq (by rw [e, e']))] at h2
        obtain ⟨d, hd, _⟩ := h2
        have := (List.getElem?_eq_some_iff.1 hd).1; omega
      · rw [if_neg e] at h1
        obtain ⟨d, hd, _⟩ := h1
        have := (List.getElem?_eq_some_iff.1 hd).1; omega
end
section
variable {P : Program} {Q : Exit → Act → World → Prop}
theorem rows_bridge {n : Nat} {row : String} {args : Array Value} {w : World} {R : Value → World → Prop} (l : Nat) (h : Rows P row args w R) : RowsIn (Fence.wide.inRound l) n P row args w R :=
  fun c cs _ => let ⟨v, w', r, s⟩ := h c cs; ⟨v, w', r, (stepsIn_wide.2 s : StepsIn (Machine.fenced P Fence.wide) P _ _)⟩
theorem oper_bridge {n l : Nat} {o : Oper} {a : Act} {w : World} {N N' : Act → World → Prop} (hnd : ∀ c, o.op ≠ .defer c) (hN : ∀ a w, N a w → N' a w) (h : o.wp P a w N Q) : o.wpIn (Fence.wide.inRound l) n P a w N' Q := by
  refine ⟨fun _ _ => trivial, ?_⟩
  rw [show (Fence.wide.inRound l).round = some l from rfl, Oper.semAt_some l _ _ hnd]
  unfold Oper.wp at h
  revert h
  cases (execOp a.eval o).run P w with
  | ok nx w' =>
    cases nx with
    | value v => exact fun h => hN _ _ h
    | skip => exact fun h => hN _ _ h
    | defer d => exact fun h => hN _ _ h
    | enter f args =>
      intro h
      refine ⟨fun h0 => (by cases h0), CallsIn.inRound l (callsIn_wide.2 (h.mono ?_))⟩
      intro e w'' h2
      cases e with
      | returned v => exact hN _ _ h2
      | panicked chain => exact h2
      | outgrown => exact h2
    | row row args =>
      intro h
      exact ⟨fun h0 => (by cases h0), rows_bridge l (h.mono fun v w'' h2 => hN _ _ h2)⟩
    | _ => exact fun h => h.elim
  | halt x w' =>
    cases x with
    | panic v => exact fun h => h
    | _ => exact fun h => h.elim
theorem ops_bridge {n l : Nat} {ops : Array Oper} (hnd : ∀ (i : Nat) (o : Oper), ops[i]? = some o → ∀ c, o.op ≠ .defer c) (hQ : ¬ LetsOut Q) : ∀ (is : List Nat) (a : Act) (w : World), wpOps P ops Q is a w → wpOpsIn (Fence.wide.inRound l) n P ops Q is a w
  | [], a, w, h => h
  | i :: rest, a, w, h => by
    unfold wpOps at h
    unfold wpOpsIn
    cases ho : ops[i]? with
    | none =>
      rw [ho] at h
      exact ops_bridge hnd hQ rest a w h
    | some o =>
      rw [ho] at h
      simp only at h ⊢
      split
      · rename_i hw
        rw [if_pos hw] at h
        rcases h with h | ⟨_, h⟩
        · exact oper_bridge (hnd i o ho) (fun a w h => ops_bridge hnd hQ rest a w h) h
        · exact absurd h hQ
      · rename_i hw
        rw [if_neg hw] at h
        exact ⟨fun _ _ => trivial, ops_bridge hnd hQ rest _ _ h⟩
end
section
variable {P : Program} {l : List Oper} {Q : Exit → Act → World → Prop} {a : Act} {w : World} {id : Nat} {out : List Out}
def notDefer (o : Oper) : Bool := match o.op with | .defer _ => false | _ => true
theorem notDefer_all (h : l.all notDefer = true) : ∀ (i : Nat) (o : Oper), l.toArray[i]? = some o → ∀ c, o.op ≠ .defer c := by
  intro i o ho c hc
  rw [List.getElem?_toArray] at ho
  have h1 := List.all_eq_true.1 h o (List.mem_of_getElem? ho)
  unfold notDefer at h1
  rw [hc] at h1
  cases h1
theorem region_own_in {m lp : Nat} (n : Nat) (S : World → Prop) (X0 : Nat → Prop) (F0 : World → Prop) (hQ : ¬ LetsOut Q) (hnd0 : l.all notDefer = true) (hn : l.length = n) (hm : P.follows .mixedOrders = true) (hg : globChk l.toArray = true) (hX : ∀ g, X0 g → g < w.heap.size) (hF : F0 w.drew)
    (hF0 : ∀ w1 w2, F0 w1 → Sta (fun g => (g < w.heap.size ∧ ¬ X0 g) ∨ X0 g) w1 w2 → F0 w2) (hS : ∀ w1, Keeps X0 w.drew w1 → S w1)
    (h : ∀ QN : Act → World → Prop, Shut (∀ a w', Q .normal a w' → QN a w') → RK P QN X0 w.drew S l 0 [⟨n, fun _ => F0, fun _ => X0⟩] (fun _ => a) out) (hc : chkAll l.toArray [] out = true) : (Code.region id l.toArray true).wpIn (Fence.wide.inRound lp) m P Q a w := by
  subst hn
  refine wpIn_region_draw fun t => ops_bridge (notDefer_all hnd0) hQ _ _ _ ?_
  simp only [Region.schedule, hm, Bool.true_or, if_true]
  refine wpAny_sound l.toArray.size t _ a _ ?_
  refine any_inv S X0 F0 hm hg hX hF hF0 hS (show ROK P l.toArray Q X0 w.drew S l 0 [] [⟨l.length, fun _ => F0, fun _ => X0⟩] (fun _ => a) from ?_)
  exact RK.rok (Δ := []) (fun a w h => h) (h (fun a w' => Q .normal a w') (fun a w' h => h)) (fun p vs w h => h) (fun p vs g h => h) (fun e he => by cases he) (by simp) [] hc
end
end Go.Proofs.Ytfmjgkfblejknaa.Rg

/-
  The walks of slices.Chunk, slices.Clone at items, of block.Cut.
-/
namespace Go.Proofs.Ytfmjgkfblejknaa
open Go.RowKit Go.Shelf
set_option linter.unusedVariables false
set_option linter.unusedSimpArgs false
attribute [local go_sem] Oper.semAt_some

set_option maxRecDepth 100000 in
theorem chunk_any (A : Option Addr) (n c q : Nat) (hq : 1 ≤ q) (w : World) :
    Calls Try.prog 39 #[.slice A n c, .int .i64 (q : Int)] w fun e w' => e = .returned (.func (.func 57) #[] #[.pointer (some ⟨w.heap.size, 0, none⟩), .pointer (some ⟨w.heap.size + 1, 0, none⟩)]) ∧ w' = (w.alloc (.cells #[.slice A n c] 22)).alloc (.cells #[.int .i64 (q : Int)] 3) := by
  have h1 : ¬ (q : Int) < 1 := by omega
  go_enter Try.func39, Try.ntmps39
  go_wp2_with fail
  go_ret
  exact ⟨rfl, rfl⟩
set_option maxRecDepth 100000 in
set_option maxHeartbeats 1000000 in
theorem chunk1_nil (d : Nat) (l Bs Bq : Nat) (J : List (Nat × Nat) → World → Prop) (W : World) (c : Nat) (hBs : W.cell? ⟨Bs, 0, none⟩ = some (.slice none 0 c)) (h0 : J [] W) :
    CallsIn Fence.wide d Try.prog 57 #[.func (.yield l) #[] #[], .pointer (some ⟨Bs, 0, none⟩), .pointer (some ⟨Bq, 0, none⟩)] W fun e W' => (∃ v, e = .returned v) ∧ J [] W' := by
  refine callsIn_of_wp Try.func57 rfl trivial ?_ rfl
  simp only [Try.ntmps57, List.size_toArray, List.length_cons, List.length_nil, Nat.reduceAdd, Nat.reduceSub, Array.replicate_succ, Array.replicate_zero, List.push_toArray, List.append_toArray, List.nil_append, List.cons_append]
  gi_wp2
  gi_loopw [4] (fun i wr => i = .int .i64 0 ∧ wr = W) (fun _ _ => 0)
  case atStart => exact ⟨rfl, rfl⟩
  case round =>
    obtain ⟨rfl, rfl⟩ := hrel
    gi_wp2
    go_end0
    exact ⟨⟨_, rfl⟩, h0⟩
/-- how many parts -/
def partsK (q n : Nat) : Nat := (n + q - 1) / q
theorem partsK_le {q n : Nat} (hq : 1 ≤ q) : n ≤ partsK q n * q := by
  unfold partsK
  have h := Nat.div_add_mod (n + q - 1) q
  have h2 := Nat.mod_lt (n + q - 1) (show 0 < q by omega)
  rw [Nat.mul_comm] at h
  omega
theorem partsK_lt {q n k : Nat} (hq : 1 ≤ q) (hk : k < partsK q n) : k * q < n := by
  unfold partsK at hk
  have h := Nat.div_mul_le_self (n + q - 1) q
  have h2 : (k + 1) * q ≤ (n + q - 1) / q * q := Nat.mul_le_mul_right _ hk
  rw [Nat.succ_mul] at h2
  omega
set_option maxRecDepth 100000 in
theorem chunk_stops (d : Nat) (hd : 1 ≤ d) (Bs Bq b o n c q : Nat) (hq1 : 1 ≤ q) (hq2 : q ≤ 100) (hn : n ≤ 1099511627776) (hnc : n ≤ c) (w : World)
    (hBs : w.cell? ⟨Bs, 0, none⟩ = some (.slice (some ⟨b, o, none⟩) n c)) (hBq : w.cell? ⟨Bq, 0, none⟩ = some (.int .i64 (q : Int))) :
    SeqStopsK Fence.wide d Try.prog 57 #[.pointer (some ⟨Bs, 0, none⟩), .pointer (some ⟨Bq, 0, none⟩)] (fun x : Nat × Nat => #[partV b o n x]) (KB Bs Bq) (fun ys => ys = partsN q n (partsK q n)) (fun pre => ∃ k, k ≤ partsK q n ∧ pre = partsN q n k) (partsK q n) w := fun l J Jx W hW hJ _ hY h0 => by
  have c1 := (hW.cell (p := ⟨Bs, 0, none⟩) (World.block_lt_of_cell? w ⟨Bs, 0, none⟩ hBs)).trans hBs
  have c2 := (hW.cell (p := ⟨Bq, 0, none⟩) (World.block_lt_of_cell? w ⟨Bq, 0, none⟩ hBq)).trans hBq
  exact chunk1_in d hd l Bs Bq b o n c q (partsK q n) hq1 hq2 hn hnc (partsK_le hq1) (fun k hk => partsK_lt hq1 hk) J Jx hY (fun pre W W' h hg => hJ pre W W' none h hg (fun r e => by cases e)) W c1 c2 h0
theorem chunk_stops_nil (d : Nat) (Bs Bq c : Nat) (w : World) (hBs : w.cell? ⟨Bs, 0, none⟩ = some (.slice none 0 c)) :
    SeqStopsK Fence.wide d Try.prog 57 #[.pointer (some ⟨Bs, 0, none⟩), .pointer (some ⟨Bq, 0, none⟩)] (fun x : Nat × Nat => #[Value.slice none x.1 x.2]) (KB Bs Bq) (fun ys => ys = []) (fun pre => pre = []) 0 w := fun l J Jx W hW hJ _ hY h0 => by
  have c1 := (hW.cell (p := ⟨Bs, 0, none⟩) (World.block_lt_of_cell? w ⟨Bs, 0, none⟩ hBs)).trans hBs
  exact (chunk1_nil d l Bs Bq J W c c1 h0).mono fun e W' ⟨he, hj⟩ => ⟨he, .inl ⟨_, rfl, hj⟩⟩
set_option maxRecDepth 100000 in
set_option maxHeartbeats 1000000 in
theorem clone_any (A : Option Addr) (n c : Nat) (l : List It) (w : World) (hr : Rd w w.heap.size 5 A n (itcs l)) (hn : n ≤ 1099511627776) :
    Calls Try.prog 40 #[.slice A n c] w fun e w' => ∃ A' c', e = .returned (.slice A' n c') ∧ Rd w' w'.heap.size 5 A' n (itcs l) ∧ n ≤ c' ∧ Up w w' := by
  have hnil : ∀ W, (binOp .eql 22 (.slice A n c) (.slice none 0 0)).run Try.prog W = .ok (.bool A.isNone) W := fun W => Lib.run_eql_slice_nil W 22 35 A n c 0 0 Try.underlying22
  rcases A with _ | ad
  · have h0 : n = 0 := by
      rcases Nat.eq_zero_or_pos n with h | h
      · exact h
      · obtain ⟨b, o, e, _⟩ := hr.2 h
        cases e
    subst h0
    rw [show (none : Option Addr).isNone = true from rfl] at hnil
    go_enter Try.func40, Try.ntmps40
    go_wp2_with fail
    go_ret
    exact ⟨none, 0, rfl, hr, Nat.le_refl _, Up.refl _⟩
  · rw [show (some ad : Option Addr).isNone = false from rfl] at hnil
    have hrow := row_new w #[] 35 (base := w.heap.size) (sz := 5) (n := 0) (Nat.le_refl _) rfl (by omega)
    have hub : Up w (w.alloc (.cells #[] 35)) := (Up.refl w).alloc _
    have hr1 := hr.up hub
    go_enter Try.func40, Try.ntmps40
    go_wp2_with (at_builtin; refine wpList_append_rd _ itemsT hrow hr1 (itcs_one _) (by omega) (by omega) (by simp) rfl rfl rfl rfl ?_; intro v1 w1 hown1 hg1 hat1)
    obtain ⟨A1, c1, rfl⟩ := own_form hown1
    rw [Nat.zero_add, List.nil_append] at hown1
    rw [Nat.zero_add]
    go_ret
    exact ⟨A1, c1, rfl, Rd.own hown1, own_cap hown1, hub.grown hg1 (fun k e => by simp only [Value.ownBlock, Option.some.injEq] at e; omega)⟩
theorem itcs_take (l : List It) (k : Nat) : (itcs l).take (k * 5) = itcs (l.take k) := by
  induction l generalizing k with
  | nil => simp [itcs]
  | cons x l ih =>
    cases k with
    | zero => simp [itcs]
    | succ k =>
      have := ih k
      simp only [itcs, List.flatMap_cons, List.take_succ_cons] at this ⊢
      rw [← this, List.take_append, List.take_of_length_le (by simp [itc]; omega), show (itc x).length = 5 from rfl, show (k + 1) * 5 - 5 = k * 5 by omega]
theorem itcs_drop (l : List It) (k : Nat) : (itcs l).drop (k * 5) = itcs (l.drop k) := by
  induction l generalizing k with
  | nil => simp [itcs]
  | cons x l ih =>
    cases k with
    | zero => simp [itcs]
    | succ k =>
      have := ih k
      simp only [itcs, List.flatMap_cons, List.drop_succ_cons] at this ⊢
      rw [← this, List.drop_append, List.drop_of_length_le (by simp [itc]; omega), show (itc x).length = 5 from rfl, show (k + 1) * 5 - 5 = k * 5 by omega, List.nil_append]
theorem Rd.part {w : World} {B b o n s e : Nat} {l : List It} (h : Rd w B 5 (some ⟨b, o, none⟩) n (itcs l)) (hse : s + e ≤ n) : Rd w B 5 (some ⟨b, o + s * 5, none⟩) e (itcs ((l.drop s).take e)) := by
  have h1 := (h.from_ (k := s) (cap := n + 1) (by omega) (by omega)).to_ (k := e) (by omega)
  rw [if_neg (by omega), itcs_drop, itcs_take] at h1
  have e4 : (⟨b, o, none⟩ : Addr).add (s * 5) = ⟨b, o + s * 5, none⟩ := by unfold Addr.add; split <;> simp_all
  rw [Option.map_some, e4] at h1
  exact h1
theorem Rd.blk1 {W : World} {g : Nat} {x : Value} {t : TypeId} (h : W.heap[g]? = some (.cells #[x] t (0, 0))) : Rd W W.heap.size 1 (some ⟨g, 0, none⟩) 1 [x] := by
  refine ⟨rfl, fun _ => ⟨g, 0, rfl, (Array.getElem?_eq_some_iff.1 h).1, fun j u hu => ?_⟩⟩
  have hj : j = 0 := by have := (List.getElem?_eq_some_iff.1 hu).1; simp at this; omega
  subst hj
  rw [Nat.zero_add, blk_cell h 0]
  simpa using hu
theorem rowsT : SlT Try.prog 48 22 1 24 := SlT.mk' Try.underlying48 (z := .slice none 0 0) (by kernel_rfl) rfl (by decide)
theorem partsK_n {q n : Nat} (hq : 1 ≤ q) : partsK q n ≤ n := by
  unfold partsK
  have h1 : n ≤ q * n := Nat.le_mul_of_pos_left n hq
  have h2 : n + q - 1 < q * (n + 1) := by rw [Nat.mul_add]; omega
  have := Nat.div_lt_of_lt_mul h2
  omega
set_option maxRecDepth 100000 in
set_option maxHeartbeats 4000000 in
theorem cut_weak (A : Option Addr) (n c q : Nat) (l : List It) (w : World) (hn0 : 0 < n) (hr : Rd w w.heap.size 5 A n (itcs l)) (hn : n ≤ 1099511627776) (hnc : n ≤ c) (hq1 : 1 ≤ q) (hq2 : q ≤ 100) :
    Calls Try.prog 22 #[.slice A n c, .int .i64 (q : Int)] w fun e w' => ∃ R rc, e = .returned (.slice R (partsK q n) rc) ∧ Up w w' := by
  have m1 : ¬ (q : Int) < 1 := by omega
  have m2 : ¬ (100 : Int) < (q : Int) := by omega
  have m3 : ¬ (1 : Int) > (q : Int) := by omega
  have m4 : ¬ q < 1 := by omega
  have m5 : ¬ 100 < q := by omega
  refine (callsIn_wide (n := 3)).1 ?_
  refine callsIn_of_wp_marks Try.func22 rfl trivial ?_ rfl
  simp only [Try.ntmps22, List.size_toArray, List.length_cons, List.length_nil, Nat.reduceAdd, Nat.reduceSub, Array.replicate_succ, Array.replicate_zero, List.push_toArray, List.append_toArray, List.nil_append, List.cons_append]
  gi_wp2
  refine ⟨trivial, ?_⟩
  refine (callsIn_wide.2 (chunk_any A n c q hq1 _)).mono ?_
  rintro e w' ⟨rfl, rfl⟩
  gi_wp2
  obtain ⟨b, o, rfl, hbw, -⟩ := hr.2 hn0
  obtain ⟨W0, hW0⟩ : ∃ W0, W0 = ((w.alloc (.cells #[.slice none 0 0] 48)).alloc (.cells #[.slice (some ⟨b, o, none⟩) n c] 22)).alloc (.cells #[.int .i64 (q : Int)] 3) := ⟨_, rfl⟩
  rw [← hW0]
  have hup0 : Up w W0 := by rw [hW0]; exact (((Up.refl w).alloc _).alloc _).alloc _
  have hsz : W0.heap.size = w.heap.size + 3 := by rw [hW0]; simp
  have hBo : Boxed W0 w.heap.size 48 (.slice none 0 0) := by rw [hW0]; exact ((Boxed.new w _ _).alloc _).alloc _
  have hBs : W0.cell? ⟨w.heap.size + 1, 0, none⟩ = some (.slice (some ⟨b, o, none⟩) n c) := by
    rw [hW0]
    have h := (Boxed.new (w.alloc (.cells #[.slice none 0 0] 48)) 22 (.slice (some ⟨b, o, none⟩) n c)).alloc (.cells #[.int .i64 (q : Int)] 3)
    rw [World.size_alloc w] at h
    exact h.cell
  have hBq : W0.cell? ⟨w.heap.size + 1 + 1, 0, none⟩ = some (.int .i64 (q : Int)) := by
    rw [hW0]
    have h := Boxed.new ((w.alloc (.cells #[.slice none 0 0] 48)).alloc (.cells #[.slice (some ⟨b, o, none⟩) n c] 22)) 3 (.int .i64 (q : Int))
    rw [World.size_alloc, World.size_alloc] at h
    exact h.cell
  clear hW0
  refine wpIn_rangeFunc_ownF rfl (by omega) (gf := 57) (lb := #[.pointer (some ⟨w.heap.size + 1, 0, none⟩), .pointer (some ⟨w.heap.size + 1 + 1, 0, none⟩)]) rfl trivial (enters_of Try.func57 (by kernel_rfl) rfl)
    (chunk_stops (3 - 1) (by omega) (w.heap.size + 1) (w.heap.size + 1 + 1) b o n c q hq1 hq2 hn hnc W0 hBs hBq) (fun h k => h.trans k)
    (fun W l o o' hl h _ _ => ⟨by simp, World.putObj_heap_other (by omega), World.putObj_heap_other (by omega)⟩) (Below.refl _ _) (fun _ => rfl)
    (fun pre W => (∃ (xs : List Value) (v : Value), Boxed W w.heap.size 48 v ∧ W.ownsRow (w.heap.size + 3) 22 1 v pre.length xs ∧ True) ∧ (W.heap.size ≥ w.heap.size + 3 ∧ KB (w.heap.size + 1) (w.heap.size + 1 + 1) W0 W) ∧ Below w.heap.size w W)
    (fun _ _ _ => False)
    ?hown
    (fun _ _ _ _ _ hs _ _ => hs)
    ⟨⟨[], .slice none 0 0, hBo, World.ownsRow_nil _ _ _ _, trivial⟩, ⟨by omega, KB.refl _ _ _⟩, hup0⟩
    (fun x => { tmps := #[.slice (some ⟨b, o, none⟩) n c, .int .i64 (q : Int), undef, undef, .slice none 0 0, .pointer (some ⟨w.heap.size, 0, none⟩), partV b o n x, .slice (some ⟨b, o, none⟩) n c, .int .i64 (q : Int), .int .i64 (q : Int), .int .i64 (q : Int), .func (.func 57) #[] #[.pointer (some ⟨w.heap.size + 1, 0, none⟩), .pointer (some ⟨w.heap.size + 1 + 1, 0, none⟩)], partV b o n x, undef, undef, undef, undef, undef, undef], defers := [] }) ?assign ?body ?done ?stop
  case hown =>
    rintro pre W W' row ⟨⟨xs, v, hv⟩, ⟨hs, hk⟩, hB⟩ hg hrw
    have g1 : (some (w.heap.size + 1)) ≠ row := fun e => by have := (hrw _ e.symm).1; omega
    have g2 : (some (w.heap.size + 1 + 1)) ≠ row := fun e => by have := (hrw _ e.symm).1; omega
    refine ⟨?_, ⟨Nat.le_trans hs hg.size, hk.trans ⟨hg.size, hg.block _ (by omega) g1, hg.block _ (by omega) g2⟩⟩, ?_⟩
    · obtain ⟨v', hv'⟩ := (holdsRow_own (w.heap.size + 3) w.heap.size 48 22 1 (fun s : List (Nat × Nat) × List Value => s.1.length) (fun s => s.2) (fun _ _ => True)) (pre, xs) W W' row ⟨v, hv⟩ hg (fun r e => (hrw r e).2)
      exact ⟨xs, v', hv'⟩
    · exact hB.grown hg hB.size (fun k e => by have := (hrw k e).1; omega)
  case assign =>
    intro l x W K hK
    gi_wp2
    exact hK
  case body =>
    rintro l' pre x W ⟨⟨xs, v, hv, hrow, -⟩, ⟨hs, hk⟩, hB⟩ hlen
    obtain ⟨s0, hs0⟩ : ∃ s0, s0 = min x.1 n := ⟨_, rfl⟩
    obtain ⟨e0, he0⟩ : ∃ e0, e0 = min x.2 (n - s0) := ⟨_, rfl⟩
    have hpv : partV b o n x = .slice (some ⟨b, o + s0 * 5, none⟩) e0 e0 := by unfold partV; rw [← hs0, ← he0]
    rw [hpv]
    have hse : s0 + e0 ≤ n := by omega
    clear hpv hs0 he0
    have hpl : pre.length ≤ 1099511627776 := by have := partsK_n (q := q) (n := n) hq1; omega
    have hrB : ∀ W', Below w.heap.size W W' → Rd W' W'.heap.size 5 (some ⟨b, o + s0 * 5, none⟩) e0 (itcs ((l.drop s0).take e0)) := fun W' h => (hr.up (show Up w W' from Below.trans hB h)).part hse
    have hmx : Try.prog.follows .mixedOrders = true := by kernel_rfl
    gi_wp2
    apply Rg.region_own_in 6 (fun W1 => Below w.heap.size W W1) (fun g => g = w.heap.size ∨ Rg.ob v g) (fun W1 => Boxed W1 w.heap.size 48 v ∧ W1.ownsRow (w.heap.size + 3) 22 1 v pre.length xs) ?hQ (by kernel_rfl) rfl (by kernel_rfl) (by kernel_rfl) ?hX ⟨hv, hrow⟩ ?hF0 ?hSS ?walk ?chk
    case hQ => rintro ⟨a, w', h⟩; exact h
    case hX =>
      rintro g (rfl | hg)
      · exact hv.lt
      · exact (hrow.lt g ((ob_of hrow).2 hg)).2
    case hF0 =>
      rintro w1 w2 ⟨h1, h2⟩ hst
      exact ⟨(hst.block _ h1.lt (.inr (.inl rfl))).trans h1, row_sta (Y := fun _ => False) h2 ⟨hst.size, fun g hl hy => hst.block g hl (.inr (.inr (hy.elim False.elim id)))⟩⟩
    case hSS =>
      intro w1 hK
      refine ⟨hK.os, hK.tape, hK.output, hK.size, fun k hk => hK.block k (Nat.lt_of_lt_of_le hk (show w.heap.size ≤ W.heap.size by omega)) ?_⟩
      rintro (h9 | hg)
      · omega
      · have := (hrow.lt k ((ob_of hrow).2 hg)).1; omega
    case chk => kernel_rfl
    case walk =>
      intro QN hQN
      apply Rg.RK.okU [6] (v := v)
      · intro vs w1 hS hf
        obtain ⟨⟨hb1, -⟩, -⟩ := hf
        have hc := Boxed.cell hb1
        go_simp
        (try with_reducible rfl)
      · rfl
      simp only [Act.put, List.setIfInBounds_toArray, List.set_cons_zero, List.set_cons_succ, Nat.reduceAdd]
      (apply Rg.RK.ok; (· intro vs w1 hS; go_simp; with_reducible rfl); (· rfl); simp only [Act.put, List.setIfInBounds_toArray, List.set_cons_zero, List.set_cons_succ, Nat.reduceAdd])
      apply Rg.RK.opn (fun val _ => ∃ A3 c3, val = .slice A3 e0 c3) (fun _ _ => False) [] []
      · exact fun _ _ _ h _ => h
      · rfl
      · intro vs w1 hK hS hf K hKK
        go_simp
        refine (clone_any (some ⟨b, o + s0 * 5, none⟩) e0 e0 ((l.drop s0).take e0) w1 (hrB w1 hS) (by omega)).mono ?_
        rintro e w2 ⟨A3, c3, rfl, -, -, hu2⟩
        exact hKK.out _ _ ⟨A3, c3, rfl⟩ (Rg.Keeps.of_up hu2) (fun g hg => hg.elim)
      simp only [Act.put, List.setIfInBounds_toArray, List.set_cons_zero, List.set_cons_succ, Nat.reduceAdd]
      apply Rg.RK.opD (fun vs W1 => ∃ g, vs 3 = .slice (some ⟨g, 0, none⟩) 1 1 ∧ W1.heap[g]? = some (.cells #[vs 2] 22 (0, 0))) (fun vs g => Rg.ob (vs 3) g) [2] [] [2] (fun vs vs' h => by rw [h 2 (by simp), h 3 (by simp)]; exact ⟨rfl, rfl⟩)
      · rintro vs W1 W2 ⟨g, hv3, hh⟩ hst
        exact ⟨g, hv3, (hst.block g (Array.getElem?_eq_some_iff.1 hh).1 (.inr (by rw [hv3]; rfl))).trans hh⟩
      · rfl
      · intro vs w1 hK hS hf K hKK
        obtain ⟨⟨A3, c3, hv2⟩, -⟩ := hf
        (try dsimp only at hKK ⊢)
        rw [hv2] at hKK ⊢
        go_simp
        refine hKK.out _ _ ⟨w1.heap.size, ?_, ?_⟩ (Rg.Keeps.of_up ((Up.refl _).alloc _)) ?_
        · rw [Rg.upd_same]
        · rw [Rg.upd_ne _ _ (by decide), hv2]; exact heap_alloc_new w1 _
        · rw [Rg.upd_same]
          rintro g rfl
          exact ⟨by simp, .inl (Nat.le_refl _)⟩
      simp only [Act.put, List.setIfInBounds_toArray, List.set_cons_zero, List.set_cons_succ, Nat.reduceAdd]
      apply Rg.RK.opD (fun vs W1 => Boxed W1 w.heap.size 48 v ∧ W1.ownsRow (w.heap.size + 3) 22 1 (vs 4) (pre.length + 1) (xs ++ [vs 2])) (fun vs g => g = w.heap.size ∨ Rg.ob (vs 4) g) [6, 2, 3] [6] [2] (fun vs vs' h => by rw [h 2 (by simp), h 4 (by simp)]; exact ⟨rfl, rfl⟩)
      · rintro vs W1 W2 ⟨h1, h2⟩ hst
        exact ⟨(hst.block _ h1.lt (.inr (.inl rfl))).trans h1, row_sta (Y := fun _ => False) h2 ⟨hst.size, fun g hl hy => hst.block g hl (.inr (.inr (hy.elim False.elim id)))⟩⟩
      · rfl
      · intro vs w1 hK hS hf K hKK
        obtain ⟨⟨hb1, hr1⟩, ⟨A3, c3, hv2⟩, ⟨g, hv3, hh⟩, -⟩ := hf
        (try dsimp only at hKK ⊢)
        rw [hv2] at hKK hh
        (try rw [hv2])
        rw [hv3] at hKK ⊢
        have hr1' : w1.ownsRow (w.heap.size + 3) 22 1 v pre.length xs := hr1
        have hb1' : Boxed w1 w.heap.size 48 v := hb1
        have hsw : W.heap.size ≤ w1.heap.size := hS.size
        refine wp_append_rd _ _ _ rowsT rfl rfl rfl hr1' (Rd.blk1 hh) (by simp [Value.oneCell']) (by omega) (by omega) (by omega) fun v' w5 ho' hg' hat' => ?_
        have hb5 : Boxed w5 w.heap.size 48 v := hb1'.kept hg' (hb1'.not_row (by decide) hr1')
        refine hKK.out _ _ ⟨hb5, ?_⟩ (keeps_grown hr1' hg' fun g hg => ⟨6, by simp, .inr hg⟩) ?_
        · rw [Rg.upd_same, Rg.upd_ne _ _ (by decide), hv2]; exact ho'
        · rw [Rg.upd_same]
          rintro g (h9 | hg)
          · subst h9; exact ⟨hb5.lt, .inr ⟨6, by simp, .inl rfl⟩⟩
          · have h9 := own_grown hr1' ho' hat' (X := fun g => Rg.ob v g) (fun g hg => hg) g hg
            exact ⟨h9.1, h9.2.imp id (fun h => ⟨6, by simp, .inr h⟩)⟩
      simp only [Act.put, List.setIfInBounds_toArray, List.set_cons_zero, List.set_cons_succ, Nat.reduceAdd]
      apply Rg.RK.opD (fun vs W1 => Boxed W1 w.heap.size 48 (vs 4) ∧ W1.ownsRow (w.heap.size + 3) 22 1 (vs 4) (pre.length + 1) (xs ++ [vs 2])) (fun vs g => g = w.heap.size ∨ Rg.ob (vs 4) g) [4] [4] [2, 4] (fun vs vs' h => by rw [h 2 (by simp), h 4 (by simp)]; exact ⟨rfl, rfl⟩)
      · rintro vs W1 W2 ⟨h1, h2⟩ hst
        exact ⟨(hst.block _ h1.lt (.inr (.inl rfl))).trans h1, row_sta (Y := fun _ => False) h2 ⟨hst.size, fun g hl hy => hst.block g hl (.inr (.inr (hy.elim False.elim id)))⟩⟩
      · rfl
      · intro vs w1 hK hS hf K hKK
        obtain ⟨⟨hb1, hr1⟩, -⟩ := hf
        have hr1' : w1.ownsRow (w.heap.size + 3) 22 1 (vs 4) (pre.length + 1) (xs ++ [vs 2]) := hr1
        have hb1' : Boxed w1 w.heap.size 48 v := hb1
        obtain ⟨A4, c4, hv4⟩ := own_form hr1'
        have hne : some w.heap.size ≠ (vs 4).ownBlock := hb1'.not_row (by decide) hr1'
        have hb2 : Boxed (w1.setCell ⟨w.heap.size, 0, none⟩ (vs 4)) w.heap.size 48 (vs 4) := hb1'.set _
        have hr2 : (w1.setCell ⟨w.heap.size, 0, none⟩ (vs 4)).ownsRow (w.heap.size + 3) 22 1 (vs 4) (pre.length + 1) (xs ++ [vs 2]) := hr1'.kept (grownBy_setCell' w1 w.heap.size (vs 4)) (.inr hne.symm)
        have hc := hb1'.cell
        have hfz := hb1'.frozen
        (try dsimp only at hKK ⊢)
        rw [hv4] at hb2 hr2 hKK
        (try rw [hv4])
        go_simp
        have hKp : Rg.Keeps (fun x => x = w.heap.size) w1 (w1.setCell ⟨w.heap.size, 0, none⟩ (.slice A4 (pre.length + 1) c4)) := ⟨rfl, rfl, rfl, by simp, fun k hk hn => (grownBy_setCell' w1 w.heap.size _).block k hk (fun e => hn (by cases e; rfl))⟩
        refine hKK.out undef _ ⟨?_, ?_⟩ (Keeps.weak hKp fun y hy => ⟨4, List.mem_singleton.2 rfl, .inl hy⟩) ?_
        · rw [Rg.upd_ne _ _ (by decide), hv4]; exact hb2
        · rw [Rg.upd_ne _ _ (by decide), Rg.upd_ne _ _ (by decide), hv4]; exact hr2
        · rw [Rg.upd_ne _ _ (by decide)]
          rintro g (h9 | hg)
          · subst h9; exact ⟨hb2.lt, .inr ⟨4, List.mem_singleton.2 rfl, .inl rfl⟩⟩
          · have h8 := (hr1'.lt g ((ob_of hr1').2 hg)).2
            exact ⟨by simpa using h8, .inr ⟨4, List.mem_singleton.2 rfl, .inr hg⟩⟩
      simp only [Act.put, List.setIfInBounds_toArray, List.set_cons_zero, List.set_cons_succ, Nat.reduceAdd]
      apply Rg.RK.fin [5]
      intro vs w8 hK hS hf
      obtain ⟨⟨hb8, hr8⟩, -⟩ := hf
      refine hQN.out _ _ ?_
      clear hQN
      have nx : ∀ k, k < w.heap.size + 3 → k ≠ w.heap.size → ¬ (k = w.heap.size ∨ Rg.ob v k) := fun k h1 h2 h3 => by
        rcases h3 with h3 | h3
        · exact h2 h3
        · have := (hrow.lt k ((ob_of hrow).2 h3)).1; omega
      have hKO : KeepsOthers W w8 := ⟨hK.size, fun k o hko hoc => (hK.block k (Array.getElem?_eq_some_iff.1 hko).1 (fun h3 => by
        rcases h3 with h3 | h3
        · subst h3
          have e9 : some (Obj.cells #[v] 48 (0, 0)) = some o := (show W.heap[w.heap.size]? = _ from hv).symm.trans hko
          injection e9 with e9
          subst e9
          cases hoc
        · rcases hrow.2 with ⟨h4, _⟩ | ⟨g, cap, cur, h4, _, hgb, _⟩
          · rw [h4] at h3; exact h3.elim
          · have h5 := (ob_of hrow).2 h3
            rw [h4] at h5
            simp only [Value.ownBlock, Option.some.injEq] at h5
            subst h5
            rw [hgb] at hko
            injection hko with hko
            subst hko
            cases hoc)).trans hko⟩
      have hKB : KB (w.heap.size + 1) (w.heap.size + 1 + 1) W w8 := ⟨hK.size, hK.block _ (show w.heap.size + 1 < W.heap.size by omega) (nx _ (by omega) (by omega)), hK.block _ (show w.heap.size + 1 + 1 < W.heap.size by omega) (nx _ (by omega) (by omega))⟩
      have hW8 : W.heap.size ≤ w8.heap.size := hK.size
      exact ⟨hKO, hKB, ⟨xs ++ [vs 2], vs 4, hb8, by rw [List.length_append]; exact hr8, trivial⟩, ⟨by omega, hk.trans hKB⟩, Below.trans hB hS⟩
  case done =>
    rintro D ys W hD rfl ⟨⟨xs, v, hv, hrow, -⟩, ⟨hs, hk⟩, hB⟩ hK
    rw [partsN_length] at hrow
    obtain ⟨A4, c4, rfl⟩ := own_form hrow
    have hc := hv.cell
    gi_wp2
    refine ⟨by simp, .inl ⟨_, _, rfl, run_takeDeferred hK, ?_⟩⟩
    refine ⟨_, results_tmp rfl _ _ _, A4, c4, rfl, ?_⟩
    exact hB.trans (belowK_b (w := w) (Nat.le_refl _) W D _ _ (by omega) hK rfl rfl)
  case stop =>
    rintro D c' pre W _ _ h _
    exact h.elim
end Go.Proofs.Ytfmjgkfblejknaa

/-
  The walk of law11's one: the Ok items of a list, each a row.
-/
namespace Go.Proofs.Ytfmjgkfblejknaa
open Go.RowKit
set_option linter.unusedVariables false
set_option linter.unusedSimpArgs false

/-- rows of one item each: where the item lies, and the room behind it -/
def rowsV (b o : Nat) (ps : List (Nat × Nat)) : List Value := ps.map fun r => Value.slice (some ⟨b, o + r.1 * 5, none⟩) 1 r.2
theorem rowsV_len (b o : Nat) (ps : List (Nat × Nat)) : (rowsV b o ps).length = ps.length := by simp [rowsV]
def pick (l : List It) (ps : List (Nat × Nat)) : List It := ps.map fun r => l.getD r.1 noIt
theorem cut_lh_i (W : World) (b o n c i : Nat) (h2 : i + 1 ≤ n) (hnc : n ≤ c) :
    (Instr.slice 22 (.slice (some ⟨b, o, none⟩) n c) (some (.int .i64 (i : Int))) (some (.int .i64 ((i : Int) + 1))) none).run Try.prog W = .ok (.slice (some ⟨b, o + i * 5, none⟩) 1 (c - i)) W := by
  rw [run_slice_lh W 22 (some ⟨b, o, none⟩) n c (by rw [elem_i]; exact Try.underlying22) .i64 .i64 (i : Int) ((i : Int) + 1) (by omega) (by omega) (by omega), elem_i, sizeOf_i]
  have e1 : ((i : Int) + 1).toNat = i + 1 := by omega
  have e2 : ¬ (c = i) := by omega
  have e3 : i + 1 - i = 1 := by omega
  have e4 : (⟨b, o, none⟩ : Addr).add (i * 5) = ⟨b, o + i * 5, none⟩ := by unfold Addr.add; split <;> simp_all
  simp only [Result.andThen, sliced, Int.toNat_natCast, e1, if_neg e2, e3, Option.map_some, e4]
end Go.Proofs.Ytfmjgkfblejknaa

/-
  Stores as laws at the operation: behind one stands SOME world of which it is known what the block holds, and that nothing else turned.
-/
namespace Go.Proofs.Ytfmjgkfblejknaa
open Go.RowKit
set_option linter.unusedVariables false
set_option linter.unusedSimpArgs false

section
variable {P : Program} {ops : Array Oper} {rest : List Oper} {o : Oper} {a : Act} {w : World} {Q : Exit → Act → World → Prop}
/-- nothing but block g has turned -/
abbrev But (g : Nat) (w w' : World) : Prop := Rg.Keeps (fun x => x = g) w w'
theorem setRow_but (w : World) (g : Nat) (cs : Array Value) : But g w (w.setRow g cs) :=
  ⟨rfl, rfl, rfl, by simp, fun k _ hk => setRow_other w g k cs hk⟩
/-- a struct stored whole -/
theorem wpList_store_all (hgd : o.guard = none) (ty : TypeId) (x y : Operand) (ho : o.op = .store ty x y) {g : Nat} {cells : Array Value} (hx : a.eval x = .pointer (some ⟨g, 0, none⟩)) (hy : a.eval y = .agg cells)
    {t : TypeId} {old : Array Value} (hg : w.heap[g]? = some (.cells old t (0, 0))) (hi : (P.info? ty).map (·.size) = some cells.size)
    (hold : old.size = cells.size) (h1 : cells.all (·.oneCell') = true)
    (h : ∀ w', w'.heap[g]? = some (.cells cells t (0, 0)) → But g w w' → wpList P ops Q rest (a.put o.dst undef) w') : wpList P ops Q (o :: rest) a w :=
  wpList_store_row hgd ty x y ho g cells hx hy t old hg hi hold h1 (h _ (setRow_heap w g old cells t _ hg) (setRow_but w g cells))
theorem But.up {g : Nat} {w0 w w' : World} (hu : Up w0 w) (h : But g w w') (hg : w0.heap.size ≤ g) : Up w0 w' :=
  Below.trans hu ⟨h.os, h.tape, h.output, h.size, fun k hk => h.block k (Nat.lt_of_lt_of_le hk hu.size) (fun e => by have h9 : k = g := e; omega)⟩
theorem But.own {g : Nat} {w w' : World} (h : But g w w') {base : Nat} {e : TypeId} {sz n : Nat} {v : Value} {xs : List Value} (ho : w.ownsRow base e sz v n xs) (hv : v.ownBlock ≠ some g) : w'.ownsRow base e sz v n xs := by
  refine ⟨ho.1, ?_⟩
  rcases ho.2 with h2 | ⟨k, cap, cur, hk, hb, hh, r⟩
  · exact .inl h2
  · exact .inr ⟨k, cap, cur, hk, hb, (h.block k (Array.getElem?_eq_some_iff.1 hh).1 (fun e9 => by have h9 : k = g := e9; exact hv (by rw [hk, h9]; rfl))).trans hh, r⟩
end
end Go.Proofs.Ytfmjgkfblejknaa

/-
  An item stored whole: the law at the operation.
-/
namespace Go.Proofs.Ytfmjgkfblejknaa
open Go.RowKit
set_option linter.unusedVariables false
set_option linter.unusedSimpArgs false
theorem item_info5 : (Try.prog.info? 35).map (·.size) = some 5 := by kernel_rfl
theorem item_one (i : It) : (#[.int .i64 i.s.toInt, .int .i64 i.k.toInt, .int .u64 (i.t.toNat : Int), .int .u64 (i.v.toNat : Int), .int .i64 i.x.toInt] : Array Value).all (·.oneCell') = true := by simp [Value.oneCell']
theorem wpList_store_item {ops : Array Oper} {rest : List Oper} {o : Oper} {a : Act} {w : World} {Q : Exit → Act → World → Prop} (hgd : o.guard = none) (x y : Operand) (ho : o.op = .store 35 x y) {g : Nat} {i j : It} {t : TypeId} (hx : a.eval x = .pointer (some ⟨g, 0, none⟩)) (hy : a.eval y = .agg #[.int .i64 i.s.toInt, .int .i64 i.k.toInt, .int .u64 (i.t.toNat : Int), .int .u64 (i.v.toNat : Int), .int .i64 i.x.toInt])
    (hg : w.heap[g]? = some (.cells #[.int .i64 j.s.toInt, .int .i64 j.k.toInt, .int .u64 (j.t.toNat : Int), .int .u64 (j.v.toNat : Int), .int .i64 j.x.toInt] t (0, 0)))
    (h : ∀ w', w'.heap[g]? = some (.cells #[.int .i64 i.s.toInt, .int .i64 i.k.toInt, .int .u64 (i.t.toNat : Int), .int .u64 (i.v.toNat : Int), .int .i64 i.x.toInt] t (0, 0)) → But g w w' → wpList Try.prog ops Q rest (a.put o.dst undef) w') : wpList Try.prog ops Q (o :: rest) a w :=
  wpList_store_all hgd 35 x y ho hx hy hg item_info5 (show (5 : Nat) = 5 from rfl) (item_one i) h
theorem wpList_store_it5 {ops : Array Oper} {rest : List Oper} {o : Oper} {a : Act} {w : World} {Q : Exit → Act → World → Prop} (hgd : o.guard = none) (x y : Operand) (ho : o.op = .store 35 x y) {g : Nat} {z0 z1 z2 z3 z4 a0 a1 a2 a3 a4 : Value} {t : TypeId} (hx : a.eval x = .pointer (some ⟨g, 0, none⟩)) (hy : a.eval y = .agg #[z0, z1, z2, z3, z4])
    (hg : w.heap[g]? = some (.cells #[a0, a1, a2, a3, a4] t (0, 0))) (h1 : (#[z0, z1, z2, z3, z4] : Array Value).all (·.oneCell') = true)
    (h : ∀ w', w'.heap[g]? = some (.cells #[z0, z1, z2, z3, z4] t (0, 0)) → But g w w' → wpList Try.prog ops Q rest (a.put o.dst undef) w') : wpList Try.prog ops Q (o :: rest) a w :=
  wpList_store_all hgd 35 x y ho hx hy hg item_info5 (show (5 : Nat) = 5 from rfl) h1 h
end Go.Proofs.Ytfmjgkfblejknaa

/-
  The walk of the document's Rows, at rows of one item each.
-/
namespace Go.Proofs.Ytfmjgkfblejknaa
open Go.RowKit
set_option linter.unusedVariables false
set_option linter.unusedSimpArgs false

theorem rowsL_succ {xs : List It} {k : Nat} (h : k < xs.length) : rowsL (xs.take (k + 1)) = insL (rowsL (xs.take k)) xs[k] := by
  unfold rowsL
  rw [List.take_succ_eq_append_getElem h, List.foldl_append]; rfl
/-- what is still to come -/
def restL (k : Nat) (r : List It) (x : It) : List It := if k = 0 then insL r x else r
theorem restL_same {r : List It} {y x : It} {t : List It} (hr : r = y :: t) (h : sameB y x = true) : restL 0 r x = (if winsB x y then x else y) :: t := by
  subst hr; unfold restL insL; rw [if_pos rfl, if_pos h]
theorem restL_less {r : List It} {y x : It} {t : List It} (hr : r = y :: t) (h : sameB y x = false) (h2 : lessB y x = true) : restL 0 r x = y :: restL 0 t x := by
  subst hr; unfold restL; rw [if_pos rfl, if_pos rfl]; conv => lhs; unfold insL
  rw [if_neg (by rw [h]; simp), if_pos h2]
theorem restL_else {r : List It} {y x : It} {t : List It} (hr : r = y :: t) (h : sameB y x = false) (h2 : lessB y x = false) : restL 0 r x = x :: r := by
  subst hr; unfold restL; rw [if_pos rfl]; unfold insL
  rw [if_neg (by rw [h]; simp), if_neg (by rw [h2]; simp)]
theorem Rd.one_item {W : World} {i : It} {t : TypeId} : Rd (W.alloc (.cells #[.int .i64 i.s.toInt, .int .i64 i.k.toInt, .int .u64 (i.t.toNat : Int), .int .u64 (i.v.toNat : Int), .int .i64 i.x.toInt] t)) (W.alloc (.cells #[.int .i64 i.s.toInt, .int .i64 i.k.toInt, .int .u64 (i.t.toNat : Int), .int .u64 (i.v.toNat : Int), .int .i64 i.x.toInt] t)).heap.size 5 (some ⟨W.heap.size, 0, none⟩) 1 (itcs [i]) :=
  Rd.ilit_at W [i] #[.int .i64 i.s.toInt, .int .i64 i.k.toInt, .int .u64 (i.t.toNat : Int), .int .u64 (i.v.toNat : Int), .int .i64 i.x.toInt] t rfl (by simp [itcs, itc])
theorem Up.keeps_out {w w1 w2 : World} {X : Nat → Prop} (hu : Up w w1) (h : Rg.Keeps X w1 w2) (hX : ∀ g, X g → w.heap.size ≤ g) : Up w w2 :=
  Below.trans hu ⟨h.os, h.tape, h.output, h.size, fun k hk => h.block k (Nat.lt_of_lt_of_le hk hu.size) (fun hx => by have := hX k hx; omega)⟩
end Go.Proofs.Ytfmjgkfblejknaa

/-
  Rows of items.
-/
namespace Go.Proofs.Ytfmjgkfblejknaa
open Go.RowKit
set_option linter.unusedVariables false
set_option linter.unusedSimpArgs false

/-- a row of items and what it holds -/
structure Rw where
  A : Option Addr
  n : Nat
  c : Nat
  l : List It
def Rw.v (r : Rw) : Value := .slice r.A r.n r.c
def rwv (rs : List Rw) : List Value := rs.map Rw.v
def rwl (rs : List Rw) : List (List It) := rs.map Rw.l
/-- each of the rows reads so -/
def RwOk (w : World) (rs : List Rw) : Prop := ∀ r ∈ rs, Rd w w.heap.size 5 r.A r.n (itcs r.l) ∧ r.n ≤ r.c
theorem RwOk.nil (w : World) : RwOk w [] := fun r hr => by cases hr
theorem RwOk.up {w w' : World} {rs : List Rw} (h : RwOk w rs) (hu : Up w w') : RwOk w' rs := fun r hr => ⟨(h r hr).1.up hu, (h r hr).2⟩
theorem RwOk.snoc {w : World} {rs : List Rw} (h : RwOk w rs) {A : Option Addr} {n c : Nat} {l : List It} (hr : Rd w w.heap.size 5 A n (itcs l)) (hc : n ≤ c) : RwOk w (rs ++ [⟨A, n, c, l⟩]) := fun r hr' => by
  rcases List.mem_append.1 hr' with h1 | h1
  · exact h r h1
  · simp at h1; subst h1; exact ⟨hr, hc⟩
end Go.Proofs.Ytfmjgkfblejknaa

/-
  Plain laws of items' bytes.
-/
namespace Go.Proofs.Ytfmjgkfblejknaa
open Go.RowKit
set_option linter.unusedVariables false
set_option linter.unusedSimpArgs false

theorem ok_bd {i : It} (h : okB i = true) : 0 ≤ i.s.toInt ∧ i.s.toInt ≤ 255 ∧ 1 ≤ i.k.toInt ∧ i.k.toInt ≤ 2 := by
  simp only [okB, okZ, decide_eq_true_eq] at h; omega
theorem byteOf_val {z : Int} (h0 : 0 ≤ z) (h1 : z ≤ 255) : ((byteOf z).toNat : Int) = z := by
  unfold byteOf; simp; omega
theorem takesL_ok {k : Nat} {acc : List Nat} {x : Nat} {r : List UInt8} (hx : x < 18446744073709551616) : takesL (k + 1) acc (numB x ++ r) = takesL k (acc ++ [x]) r := by
  conv => lhs; unfold takesL
  rw [takeL_numB x r hx, if_pos rfl]
  simp
theorem mkIt_self {i : It} (h : okB i = true) : mkIt (byteOf i.s.toInt).toNat (byteOf i.k.toInt).toNat i.t.toNat i.v.toNat (signN i.x.toInt) = i := by
  obtain ⟨a1, a2, a3, a4⟩ := ok_bd h
  have s1 := byteOf_val a1 a2
  have k1 := byteOf_val (z := i.k.toInt) (by omega) (by omega)
  have hx : unsignZ (signN i.x.toInt) = i.x.toInt := unsign_sign _
  unfold mkIt
  rw [s1, k1, hx]
  simp
theorem oneL_it {i : It} (r : List UInt8) (h : okB i = true) : oneL (itB i ++ r) = (0, i, r) := by
  have hl : ¬ (itB i ++ r).length < 2 := by simp [itB]
  have hd : (itB i ++ r).drop 2 = numB i.t.toNat ++ (numB i.v.toNat ++ (numB (signN i.x.toInt) ++ r)) := by simp [itB]
  have h0 : (itB i ++ r).getD 0 0 = byteOf i.s.toInt := by simp [itB]
  have h1 : (itB i ++ r).getD 1 0 = byteOf i.k.toInt := by simp [itB]
  have ht : takesL 3 [] ((itB i ++ r).drop 2) = (0, [i.t.toNat, i.v.toNat, signN i.x.toInt], r) := by
    rw [hd, takesL_ok i.t.toNat_lt, takesL_ok i.v.toNat_lt, takesL_ok (signN_lt _ (i64_bd i.x).1 (i64_bd i.x).2)]; rfl
  unfold oneL
  rw [if_neg hl, ht, if_pos rfl, h0, h1]
  simp only [List.getD_cons_zero, List.getD_cons_succ]
  rw [mkIt_self h]
theorem takesL_nil {k : Nat} {acc : List Nat} {l : List UInt8} (h : (takeL l).2.2 ≠ 0) : (takesL (k + 1) acc l).1 ≠ 0 := by
  unfold takesL; rw [if_neg h]; exact h
theorem takes1_cut {x j k : Nat} {acc : List Nat} (hx : x < 18446744073709551616) (hj : j < (numB x).length) : (takesL (k + 1) acc ((numB x).take j)).1 ≠ 0 :=
  takesL_nil (by rw [takeL_cut hx hj]; decide)
theorem takes_step_cut {x j k : Nat} {acc : List Nat} {r : List UInt8} (hx : x < 18446744073709551616) (ih : ∀ j acc, j < r.length → (takesL k acc (r.take j)).1 ≠ 0) (hj : j < (numB x ++ r).length) : (takesL (k + 1) acc ((numB x ++ r).take j)).1 ≠ 0 := by
  by_cases hlt : j < (numB x).length
  · rw [List.take_append_of_le_length (by omega)]
    exact takes1_cut hx hlt
  · rw [List.take_append, List.take_of_length_le (by omega), takesL_ok hx]
    exact ih _ _ (by rw [List.length_append] at hj; omega)
theorem oneL_cut {i : It} {j : Nat} (hj : j < (itB i).length) : (oneL ((itB i).take j)).1 ≠ 0 := by
  unfold oneL
  by_cases h2 : ((itB i).take j).length < 2
  · rw [if_pos h2]; decide
  · rw [if_neg h2]
    have hj2 : 2 ≤ j := by rw [List.length_take] at h2; omega
    have hd : ((itB i).take j).drop 2 = (numB i.t.toNat ++ (numB i.v.toNat ++ numB (signN i.x.toInt))).take (j - 2) := by
      rw [List.drop_take]; rfl
    have hjl : j - 2 < (numB i.t.toNat ++ (numB i.v.toNat ++ numB (signN i.x.toInt))).length := by
      simp only [itB, List.length_cons] at hj; omega
    have hne : (takesL 3 [] (((itB i).take j).drop 2)).1 ≠ 0 := by
      rw [hd]
      refine takes_step_cut i.t.toNat_lt (fun j acc hj => ?_) hjl
      refine takes_step_cut i.v.toNat_lt (fun j acc hj => ?_) hj
      exact takes1_cut (signN_lt _ (i64_bd i.x).1 (i64_bd i.x).2) hj
    rw [if_neg hne]; exact hne
theorem itsL_ok : ∀ (l : List It) (acc : List It) (r : List UInt8), l.all okB = true → itsL l.length acc (l.flatMap itB ++ r) = (0, acc ++ l, r)
  | [], acc, r, _ => by simp [itsL]
  | i :: l, acc, r, h => by
    simp only [List.all_cons, Bool.and_eq_true] at h
    rw [List.length_cons, List.flatMap_cons, List.append_assoc]
    conv => lhs; unfold itsL
    rw [oneL_it _ h.1, if_pos rfl, itsL_ok l _ r h.2]
    simp
theorem itsL_cut : ∀ (l : List It) (acc : List It) (j : Nat), l.all okB = true → j < (l.flatMap itB).length → (itsL l.length acc ((l.flatMap itB).take j)).1 ≠ 0
  | [], _, j, _, hj => by simp at hj
  | i :: l, acc, j, h, hj => by
    simp only [List.all_cons, Bool.and_eq_true] at h
    rw [List.length_cons, List.flatMap_cons]
    by_cases hlt : j < (itB i).length
    · rw [List.take_append_of_le_length (by omega)]
      unfold itsL
      rw [if_neg (oneL_cut hlt)]
      exact oneL_cut hlt
    · rw [List.take_append, List.take_of_length_le (by omega)]
      conv => lhs; unfold itsL
      rw [oneL_it _ h.1, if_pos rfl]
      exact itsL_cut l _ _ h.2 (by rw [List.flatMap_cons, List.length_append] at hj; omega)
theorem may_all {l : List It} (h : bytesE l = 0) : l.length ≤ 2000 ∧ l.all okB = true := by
  unfold bytesE at h
  by_cases h1 : 2000 < l.length
  · rw [if_pos h1] at h; cases h
  · rw [if_neg h1] at h
    refine ⟨by omega, ?_⟩
    cases ha : l.all okB
    · rw [ha] at h; simp at h
    · rfl
theorem readL_row {l : List It} (r : List UInt8) (h : bytesE l = 0) : readL (itemsB l ++ r) = if r.length = 0 then (0, l) else (3, []) := by
  obtain ⟨h1, h2⟩ := may_all h
  have ht := takeL_numB l.length (l.flatMap itB ++ r) (by omega)
  have hi := itsL_ok l [] r h2
  unfold readL
  rw [show itemsB l ++ r = numB l.length ++ (l.flatMap itB ++ r) by simp [itemsB], ht]
  simp only [ne_eq, not_true, if_false, List.drop_left', hi, List.nil_append]
  rw [if_neg (by omega)]
  by_cases hr : r.length = 0
  · rw [if_pos ⟨hr, h2⟩, if_pos hr]
  · rw [if_neg (fun h => hr h.1), if_neg hr]
theorem readL_cut {l : List It} {j : Nat} (h : bytesE l = 0) (hj : j < (itemsB l).length) : (readL ((itemsB l).take j)).1 ≠ 0 := by
  obtain ⟨h1, h2⟩ := may_all h
  unfold readL
  by_cases hlt : j < (numB l.length).length
  · have e : (itemsB l).take j = (numB l.length).take j := by unfold itemsB; rw [List.take_append_of_le_length (by omega)]
    have hn : (takeL ((numB l.length).take j)).2.2 ≠ 0 := by rw [takeL_cut (by omega) hlt]; decide
    rw [e, if_pos hn]; exact hn
  · have e : (itemsB l).take j = numB l.length ++ (l.flatMap itB).take (j - (numB l.length).length) := by
      unfold itemsB; rw [List.take_append, List.take_of_length_le (by omega)]
    have hc := itsL_cut l [] (j - (numB l.length).length) h2 (by unfold itemsB at hj; rw [List.length_append] at hj; omega)
    rw [e, takeL_numB l.length _ (by omega)]
    simp only [ne_eq, not_true, if_false, List.drop_left']
    rw [if_neg (by omega), if_pos hc]
    exact hc
end Go.Proofs.Ytfmjgkfblejknaa

/-
  Plain laws of frames; the walk of the laws' own test.
-/
namespace Go.Proofs.Ytfmjgkfblejknaa
open Go.RowKit
set_option linter.unusedVariables false
set_option linter.unusedSimpArgs false

theorem openE_seal (l : List UInt8) : openE (sealB l) = 0 := by
  have h : (sealB l).length - 4 = l.length := by rw [sealB_len]; omega
  have h2 : (sealB l).take l.length = l := by unfold sealB; rw [List.take_left]
  unfold openE
  rw [if_neg (by rw [sealB_len]; omega), h, h2, if_pos rfl]
theorem openL_seal (l : List UInt8) : openL (sealB l) = l := by
  unfold openL
  rw [if_pos (openE_seal l), sealB_len, Nat.add_sub_cancel]
  unfold sealB; rw [List.take_left]
theorem byteOf_nat (k : Nat) (h : k < 256) : (byteOf (k : Int)).toNat = k := by
  unfold byteOf
  rw [show ((k : Int) % 256).toNat = k by omega]
  simp; omega
/-- a frame that stands at the beginning is taken -/
theorem takeR_frame (k : Nat) (l rest : List UInt8) (hk1 : 1 ≤ k) (hk2 : k ≤ 100) (hl : l.length ≤ 60000) : takeR (frameB (k : Int) l ++ rest) = (0, k, l, l.length + 12) := by
  have e : frameB (k : Int) l ++ rest = sealB (headB (k : Int) l.length) ++ (sealB l ++ rest) := by simp [frameB]
  have hh : (sealB (headB (k : Int) l.length)).length = 8 := by rw [sealB_len]; rfl
  have hlen : (frameB (k : Int) l ++ rest).length = 12 + l.length + rest.length := by rw [List.length_append, frameB_len]; omega
  have h8 : (frameB (k : Int) l ++ rest).take 8 = sealB (headB (k : Int) l.length) := by rw [e, ← hh, List.take_left]
  have hd : (frameB (k : Int) l ++ rest).drop 8 = sealB l ++ rest := by rw [e, ← hh, List.drop_left]
  have g : ∀ j, j < 4 → (frameB (k : Int) l ++ rest).getD j 0 = (headB (k : Int) l.length).getD j 0 := by
    intro j hj
    rw [e]
    unfold sealB
    simp only [List.getD_eq_getElem?_getD]
    rw [List.append_assoc, List.getElem?_append_left (by simpa [headB] using hj)]
  have hN : headN (frameB (k : Int) l ++ rest) = l.length := by
    unfold headN
    rw [g 1 (by omega), g 2 (by omega), g 3 (by omega)]
    have e1 : (l.length / 65536) % 256 * 65536 + (l.length / 256) % 256 * 256 + l.length % 256 = l.length := by omega
    simpa [headB, List.getD] using e1
  have h0 : ((frameB (k : Int) l ++ rest).getD 0 0).toNat = k := by rw [g 0 (by omega)]; exact byteOf_nat k (by omega)
  unfold takeR
  have ht : (sealB l ++ rest).take (l.length + 4) = sealB l := by rw [← sealB_len l, List.take_left]
  have ht2 : (sealB l ++ rest).take l.length = l := by unfold sealB; rw [List.append_assoc, List.take_left]
  rw [if_neg (by rw [hlen]; omega), h8, openE_seal, if_neg (by simp), h0, hN, if_neg (by omega), if_neg (by rw [hlen]; omega), hd, ht, openE_seal, if_neg (by simp), ht2]
theorem takeF_frame (b : List UInt8) (k : Nat) (l rest : List UInt8) (hk1 : 1 ≤ k) (hk2 : k ≤ 100) (hl : l.length ≤ 60000) : takeF (b ++ (frameB (k : Int) l ++ rest)) (b.length : Int) = (0, k, l, ((b.length + (l.length + 12) : Nat) : Int)) := by
  unfold takeF
  rw [if_neg (by simp; omega)]
  have e : (b ++ (frameB (k : Int) l ++ rest)).drop ((b.length : Int)).toNat = frameB (k : Int) l ++ rest := by simp
  rw [e, takeR_frame k l rest hk1 hk2 hl]
  simp

end Go.Proofs.Ytfmjgkfblejknaa

/-
  Plain laws of blocks; the walk of law11's awake.
-/
namespace Go.Proofs.Ytfmjgkfblejknaa.Rg
open Go Go.CheckFast Go.RowKit
section
variable {P : Program} {QN : Act → World → Prop} {X0 : Nat → Prop} {w0 : World} {S : World → Prop} {o : Oper} {rest : List Oper} {k : Nat} {Γ : List Ent} {b : Vs → Act} {out : List Out}
/-- opn, guarded and asked -/
theorem RK.gopn {g t : Nat} {x : Bool} (G : Value → World → Prop) (own : Value → Nat → Prop) (uses eats : List Nat)
    (hs : ∀ v w w', G v w → Sta (fun g => (g < w0.heap.size ∧ ¬ X0 g) ∨ own v g) w w' → G v w') (hg : o.guard = some (g, x)) (ht : ∀ vs, (b vs).tmps[t]? = some (.bool x))
    (h : ∀ vs w, Keeps X0 w0 w → S w → Fall Γ uses vs w → ∀ K : Act → World → Prop, Shut (∀ v w', G v w' → Keeps (fun g => ∃ p ∈ eats, Oof Γ p vs g) w w' → (∀ g, own v g → g < w'.heap.size ∧ (w.heap.size ≤ g ∨ ∃ p ∈ eats, Oof Γ p vs g)) → K ((b vs).put o.dst v) w') → o.wp P (b vs) w K (fun _ _ _ => False))
    (hr : RK P QN X0 w0 S rest (k + 1) (Γ ++ [⟨k, fun vs => G (vs k), fun vs => own (vs k)⟩]) (fun vs => (b vs).put o.dst (vs k)) out) : RK P QN X0 w0 S (o :: rest) k Γ b (⟨k, uses, eats, some (g, t), []⟩ :: out) :=
  .op (fun vs => G (vs k)) (fun vs => own (vs k)) uses eats [] (some (g, t)) (fun vs vs' he => by rw [he k List.mem_cons_self]; exact ⟨rfl, rfl⟩) (fun vs w w' hg hst => hs _ _ _ hg hst) (fun vs w hK hS hf => ⟨true, by simp only [Want, hg]; exact ⟨trivial, x, ht vs, by cases x <;> rfl⟩, fun K hKK => by
    rw [if_pos rfl]
    refine h vs w hK hS (Fall.mk hf) K (fun v w' h1 h2 h3 => hKK v w' ⟨?_, h2, fun g hg => h3 g ?_⟩)
    · show G (upd vs k v k) w'
      rw [upd_same]; exact h1
    · have hg' : own (upd vs k v k) g := hg
      rwa [upd_same] at hg'⟩) hr
/-- okU, guarded and asked -/
theorem RK.gokU {g t : Nat} {x : Bool} (uses : List Nat) {v : Value} (h : ∀ vs w, S w → Fall Γ uses vs w → (execOp (b vs).eval o).run P w = .ok (.value v) w) (hg : o.guard = some (g, x)) (ht : ∀ vs, (b vs).tmps[t]? = some (.bool x))
    (hr : RK P QN X0 w0 S rest (k + 1) Γ (fun vs => (b vs).put o.dst v) out) : RK P QN X0 w0 S (o :: rest) k Γ b (⟨k, uses, [], some (g, t), []⟩ :: out) :=
  .val v uses (some (g, t)) (fun vs w hK hS hf => ⟨true, .inl (by simp only [Want, hg]; exact ⟨trivial, x, ht vs, by cases x <;> rfl⟩), fun K hKK => by
    rw [if_pos rfl]
    unfold Oper.wp
    rw [h vs w hS (Fall.mk hf)]
    exact hKK.out w (Below.refl _ _)⟩) hr
end
end Go.Proofs.Ytfmjgkfblejknaa.Rg
namespace Go.Proofs.Ytfmjgkfblejknaa
open Go.RowKit
set_option linter.unusedVariables false
set_option linter.unusedSimpArgs false

def zit : It := ⟨0, 0, 0, 0, 0⟩
theorem zit_c : itc zit = [.int .i64 0, .int .i64 0, .int .u64 0, .int .u64 0, .int .i64 0] := by kernel_rfl
theorem zit_ok : okB zit = false := by decide +kernel
def zi (n : Nat) : Array Value := (itcs (List.replicate n zit)).toArray
theorem zi_made (n : Nat) : madeCells #[.int .i64 0, .int .i64 0, .int .u64 0, .int .u64 0, .int .i64 0] (n * 5) = zi n := by
  apply Array.ext'
  apply List.ext_getElem?
  intro q
  have hz : (zi n).toList = itcs (List.replicate n zit) := rfl
  rw [hz]
  by_cases hq : q < n * 5
  · have hk : q / 5 < (List.replicate n zit).length := by rw [List.length_replicate]; omega
    have h1 := itcs_at (List.replicate n zit) hk (j := q % 5) (by omega)
    rw [show q / 5 * 5 + q % 5 = q by omega] at h1
    rw [h1, List.getElem_replicate, zit_c]
    have h5 : q % 5 < 5 := by omega
    simp only [madeCells, Array.toList_map, Array.toList_range, List.getElem?_map, List.getElem?_range hq, Option.map_some]
    generalize q % 5 = j at h5
    match j, h5 with
    | 0, _ => rfl
    | 1, _ => rfl
    | 2, _ => rfl
    | 3, _ => rfl
    | 4, _ => rfl
  · rw [List.getElem?_eq_none (by simp [size_madeCells]; omega), List.getElem?_eq_none (by rw [itcs_length, List.length_replicate]; omega)]
theorem make_i (w : World) (n : Nat) (hn : n ≤ 1000000) : (Instr.makeSlice 22 (.int .i64 (n : Int)) (.int .i64 (n : Int))).run Try.prog w = .ok (.slice (some ⟨w.heap.size, 0, none⟩) n n) (w.alloc (.cells (zi n) 35)) := by
  obtain ⟨i, hi, hz, hs, hby⟩ := info_parts (P := Try.prog) (e := 35) (z := .agg #[.int .i64 0, .int .i64 0, .int .u64 0, .int .u64 0, .int .i64 0]) (size := 5) (bytes := 40) (by kernel_rfl)
  rw [run_make w _ _ i _ itemsT.ut hi hz .i64 .i64 (n : Int) (n : Int) (by omega) (Int.le_refl _) (by rw [hby]; omega) (by omega)]
  rw [hs, Int.toNat_natCast]
  exact congrArg (fun c => Result.ok (Value.slice (some ⟨w.heap.size, 0, none⟩) n n) (w.alloc (.cells c 35))) (zi_made n)
theorem zi_rd (w : World) (n : Nat) : Rd (w.alloc (.cells (zi n) 35)) (w.alloc (.cells (zi n) 35)).heap.size 5 (some ⟨w.heap.size, 0, none⟩) n (itcs (List.replicate n zit)) := by
  have := Rd.ilit_at w (List.replicate n zit) (zi n) 35 rfl rfl
  rwa [List.length_replicate] at this
/-- a block behind any bytes is taken as it was -/
theorem takeB_frame (b : List UInt8) {l : List It} (rest : List UInt8) (h : bErr l = 0) : takeB (b ++ (frameB 2 (itemsB l) ++ rest)) (b.length : Int) = (0, l, ((b.length + ((itemsB l).length + 12) : Nat) : Int)) := by
  obtain ⟨h1, h2, h3, h4, h5, h6⟩ := bErr_ok h
  have hle := itemsB_blk l h1
  have ht := takeF_frame b 2 (itemsB l) rest (by omega) (by omega) (by omega)
  have ht2 : takeF (b ++ (frameB 2 (itemsB l) ++ rest)) (b.length : Int) = (0, 2, itemsB l, ((b.length + ((itemsB l).length + 12) : Nat) : Int)) := ht
  have hq : readL (itemsB l) = (0, l) := by
    have h7 := readL_row [] h5
    rw [List.append_nil] at h7
    rw [h7]; rfl
  unfold takeB
  simp only [ht2, hq]
  rw [if_neg (by decide), if_neg (by decide), if_neg (by rintro (h | h); exact h rfl; exact h (by assumption))]
end Go.Proofs.Ytfmjgkfblejknaa

/-
  Opening arguments: a slice out of its elements.
-/
namespace Go.Proofs.Ytfmjgkfblejknaa
open Go.ChangeShapes Go.WideShapes Go.ChangeAt Go.RowKit Go.Deep
set_option linter.unusedVariables false

theorem flat_len {α : Type} (f : α → List Value) {sz : Nat} (hf : ∀ x, (f x).length = sz) (l : List α) : (l.flatMap f).length = l.length * sz := by
  induction l with
  | nil => simp
  | cons x l ih => rw [List.flatMap_cons, List.length_append, hf, ih, List.length_cons, Nat.add_mul]; omega
theorem flat_at {α : Type} (f : α → List Value) {sz : Nat} (hf : ∀ x, (f x).length = sz) (l : List α) {k : Nat} (hk : k < l.length) {j : Nat} (hj : j < sz) : (l.flatMap f)[k * sz + j]? = (f l[k])[j]? := by
  induction l generalizing k with
  | nil => simp at hk
  | cons x l ih =>
    cases k with
    | zero =>
      simp only [List.flatMap_cons, Nat.zero_mul, Nat.zero_add, List.getElem_cons_zero]
      rw [List.getElem?_append_left (by rw [hf]; exact hj)]
    | succ k =>
      have hk' : k < l.length := by simpa using hk
      have := ih hk'
      simp only [List.flatMap_cons, List.getElem_cons_succ]
      rw [List.getElem?_append_right (by rw [hf, Nat.add_mul]; omega), ← this]
      congr 1; rw [hf, Nat.add_mul]; omega

theorem add_at (b o k : Nat) : (⟨b, o, none⟩ : Addr).add k = ⟨b, o + k, none⟩ := by unfold Addr.add; split <;> simp_all
theorem rd_elems {α : Type} [Inhabited α] {W : World} (f : α → List Value) {sz : Nat} (hf : ∀ x, (f x).length = sz) (hsz : 0 < sz) {a : Addr} {len base : Nat}
    (h : ∀ i, i < len → ∃ cs', W.cells? base (a.add (i * sz)) sz = some cs' ∧ ∃ x, cs' = f x) : ∃ l : List α, l.length = len ∧ Rd W W.heap.size sz (some a) len (l.flatMap f) := by
  obtain ⟨g, hg⟩ := choose_lt (p := fun i x => W.cells? base (a.add (i * sz)) sz = some (f x)) (n := len) (fun i hi => by
    obtain ⟨cs', h1, x, rfl⟩ := h i hi
    exact ⟨x, h1⟩)
  refine ⟨(List.range len).map g, by simp, by rw [flat_len f hf]; simp, fun hn => ?_⟩
  obtain ⟨b, o, spot⟩ := a
  have h0 := (World.cells?_some (hg 0 hn)).2.2 0 hsz
  have hx0 : (f (g 0))[0]? = some ((f (g 0))[0]'(by rw [hf]; exact hsz)) := List.getElem?_eq_getElem _
  rw [hx0] at h0
  have add0 : ∀ a : Addr, a.add 0 = a := fun a => by simp [Addr.add]
  rw [Nat.zero_mul, add0, add0] at h0
  have hspot : spot = none := World.cell?_spot h0
  subst hspot
  have hb : b < W.heap.size := World.block_lt_of_cell? W _ h0
  refine ⟨b, o, rfl, hb, fun j u hu => ?_⟩
  have hj : j < len * sz := by
    have := (List.getElem?_eq_some_iff.1 hu).1
    rw [flat_len f hf] at this; simpa using this
  have hi : j / sz < len := by rw [Nat.div_lt_iff_lt_mul hsz]; exact hj
  have hr : j % sz < sz := Nat.mod_lt _ hsz
  have hjj : j = j / sz * sz + j % sz := by rw [Nat.mul_comm]; exact (Nat.div_add_mod j sz).symm
  have hc := (World.cells?_some (hg _ hi)).2.2 _ hr
  have e : ((⟨b, o, none⟩ : Addr).add (j / sz * sz)).add (j % sz) = ⟨b, o + j, none⟩ := by
    rw [add_at, add_at, Nat.add_assoc, ← hjj]
  rw [e] at hc
  have hfl := flat_at f hf ((List.range len).map g) (k := j / sz) (by simpa using hi) hr
  rw [← hjj] at hfl
  rw [hc, ← hu, hfl]
  simp

end Go.Proofs.Ytfmjgkfblejknaa

/-
  Opening arguments: slices of slices of bytes.
-/
namespace Go.Proofs.Ytfmjgkfblejknaa
open Go.ChangeShapes Go.WideShapes Go.ChangeAt Go.RowKit Go.Deep
set_option linter.unusedVariables false

/-- a slice of slices of bytes that came in -/
def IsR (w : World) (A : Option Addr) (n c : Nat) (ps : List Pt) : Prop := Rd w w.heap.size 1 A n (ps.map Pt.v) ∧ (∀ p ∈ ps, IsB w p.A p.n p.c p.l) ∧ n ≤ c ∧ c ≤ 9223372036854775807
section
variable {H : Type} {enc : TypeId × Value → H} {W : World} {sp : Nat → Bool} {a : Option Addr} {len cap : Nat} {d : DataW H} {p : List MemPlace}
theorem body_cells {fuel : Nat} {cs : List Value} {y : DataW H × List MemPlace} (hf : DataW.trod enc Try.prog W 0 (fun _ => true) true fuel 24 cs = some y) : ∃ p : Pt, cs = [p.v] ∧ IsB W p.A p.n p.c p.l := by
  rcases open_ints Try.underlying24 Try.underlying5 (by kernel_rfl) hf with ⟨hcs, _⟩ | ⟨x, l, c, zs, hcs, _, hl, hm, hz, _, hcell, hwz⟩
  · exact ⟨⟨none, 0, 0, []⟩, hcs, Rd.empty, by simp, by simp⟩
  · refine ⟨⟨some x, l, c, _⟩, hcs, rd_ints bv (fun n => UInt8.ofNat n.toNat) (fun n hn => ?_) hl (by simpa using hz) hcell hwz, hl, by simpa only [maxLen] using hm⟩
    have := bd_u8 hn
    rw [bv_ofNat]; congr 1; omega
instance : Inhabited { p : Pt // IsB W p.A p.n p.c p.l } := ⟨⟨⟨none, 0, 0, []⟩, Rd.empty, by simp, by simp⟩⟩
theorem is_r (h : DataW.Trod enc Try.prog W 0 (fun _ => true) true 100 (.slice a len cap) d p) : ∃ ps, IsR W a len cap ps := by
  obtain ⟨fuel, hf⟩ := h
  rcases open_slice Try.underlying100 hf with ⟨hcs, _⟩ | ⟨x, l, c, m, n, D, Pl, hcs, _, hl, hm, hmm, _, hx⟩
  · simp [Value.cells] at hcs
    obtain ⟨rfl, rfl, rfl⟩ := hcs
    exact ⟨[], Rd.empty, fun p hp => (by cases hp), by omega, by omega⟩
  · simp [Value.cells] at hcs
    obtain ⟨rfl, rfl, rfl⟩ := hcs
    have hC : Try.prog.cellsOf 24 = 1 := by kernel_rfl
    rw [hC] at hx
    obtain ⟨L, hL, hr⟩ := rd_elems (α := { p : Pt // IsB W p.A p.n p.c p.l }) (W := W) (len := len) (a := x) (base := 0) (fun p => [p.1.v]) (sz := 1) (fun _ => rfl) (by omega) (fun i hi => by
      obtain ⟨cs', h1, h2⟩ := hx i (by simp at hmm; omega)
      obtain ⟨p, e, hp⟩ := body_cells h2
      exact ⟨cs', h1, ⟨p, hp⟩, e⟩)
    refine ⟨L.map (·.1), ?_, fun p hp => ?_, hl, by simpa only [maxLen] using hm⟩
    · have e : (L.map (·.1)).map Pt.v = L.flatMap fun p => [p.1.v] := by
        clear hr hL
        induction L with
        | nil => rfl
        | cons q r ih => simp only [List.map_cons, List.flatMap_cons, List.singleton_append, ih]
      rw [e]; exact hr
    · obtain ⟨q, _, rfl⟩ := List.mem_map.1 hp
      exact q.2
end
end Go.Proofs.Ytfmjgkfblejknaa

/-
  The walk of the laws' made.
-/
namespace Go.Proofs.Ytfmjgkfblejknaa
open Go.RowKit
set_option linter.unusedVariables false
set_option linter.unusedSimpArgs false

/-- the kind of the record with this number -/
def kindOf (k : Nat) : Nat := k * 9 % 100 + 1
theorem kindOf_bd (k : Nat) : 1 ≤ kindOf k ∧ kindOf k ≤ 100 := by unfold kindOf; omega
/-- records, one behind the other, their kinds from number i on -/
def frsB : Nat → List (List UInt8) → List UInt8
  | _, [] => []
  | i, l :: r => frameB (kindOf i : Int) l ++ frsB (i + 1) r
theorem frsB_append : ∀ (i : Nat) (a b : List (List UInt8)), frsB i (a ++ b) = frsB i a ++ frsB (i + a.length) b
  | i, [], b => by simp [frsB]
  | i, l :: r, b => by rw [List.cons_append, frsB, frsB, frsB_append (i + 1) r b, List.append_assoc, List.length_cons]; congr 3; omega
theorem frsB_snoc (L : List (List UInt8)) {k : Nat} (hk : k < L.length) : frsB 0 (L.take (k + 1)) = frsB 0 (L.take k) ++ frameB (kindOf k : Int) (L[k]) := by
  rw [List.take_succ_eq_append_getElem hk, frsB_append, List.length_take, Nat.min_eq_left (by omega), Nat.zero_add]
  simp [frsB]
def endAt (L : List (List UInt8)) (k : Nat) : Nat := (frsB 0 (L.take k)).length
def endsL (L : List (List UInt8)) (k : Nat) : List Nat := (List.range (k + 1)).map (endAt L)
theorem endsL_snoc (L : List (List UInt8)) (k : Nat) : endsL L (k + 1) = endsL L k ++ [endAt L (k + 1)] := by
  unfold endsL; rw [List.range_succ, List.map_append]; rfl
theorem endAt_snoc (L : List (List UInt8)) {k : Nat} (hk : k < L.length) : endAt L (k + 1) = endAt L k + (L[k].length + 12) := by
  unfold endAt; rw [frsB_snoc L hk, List.length_append, frameB_len]

def ptls (ps : List Pt) : List (List UInt8) := ps.map (·.l)
/-- a slice of slices that came in: number k -/
theorem IsR.at_ {w : World} {A : Option Addr} {n c : Nat} {ps : List Pt} (h : IsR w A n c ps) {k : Nat} (hk : k < n) :
    ∃ b o p, A = some ⟨b, o, none⟩ ∧ ps[k]? = some p ∧ (ptls ps)[k]? = some p.l ∧ p.n ≤ p.c ∧ p.n = p.l.length ∧ p.c ≤ 9223372036854775807 ∧ ∀ W, Up w W → W.cell? ⟨b, o + k, none⟩ = some (.slice p.A p.n p.c) ∧ Rd W W.heap.size 1 p.A p.n (bvs p.l) := by
  obtain ⟨hr, hp, hc1, hc2⟩ := h
  have hn : n = ps.length := by have := hr.1; rw [List.length_map] at this; omega
  obtain ⟨b, o, e, hb, hc⟩ := hr.2 (by omega)
  have hkl : k < ps.length := by omega
  have hpm := hp ps[k] (List.getElem_mem _)
  refine ⟨b, o, ps[k], e, List.getElem?_eq_getElem hkl, by simp [ptls, hkl], hpm.2.1, hpm.1.blen, hpm.2.2, fun W hW => ⟨?_, hpm.1.up hW⟩⟩
  have h1 := hc k (ps[k]).v (by simp [hkl])
  exact (hW.cell (p := ⟨b, o + k, none⟩) hb).trans h1
theorem IsR.len {w : World} {A : Option Addr} {n c : Nat} {ps : List Pt} (h : IsR w A n c ps) : n = (ptls ps).length := by have := h.1.1; simp [ptls] at *; omega

end Go.Proofs.Ytfmjgkfblejknaa

/-
  Plain laws of rows of frames.
-/
namespace Go.Proofs.Ytfmjgkfblejknaa
open Go.RowKit
set_option linter.unusedVariables false
set_option linter.unusedSimpArgs false

def kindsL (i : Nat) (n : Nat) : List Nat := (List.range n).map fun j => kindOf (i + j)
theorem kindsL_len (i n : Nat) : (kindsL i n).length = n := by simp [kindsL]
theorem kindsL_succ (i n : Nat) : kindsL i (n + 1) = kindOf i :: kindsL (i + 1) n := by
  unfold kindsL
  rw [List.range_succ_eq_map, List.map_cons, List.map_map]
  congr 1
  apply List.map_congr_left
  intro j _
  show kindOf (i + (j + 1)) = kindOf (i + 1 + j)
  congr 1; omega
theorem frsB_pos {i : Nat} {l : List UInt8} {r : List (List UInt8)} : 0 < (frsB i (l :: r)).length := by rw [frsB, List.length_append, frameB_len]; omega
/-- Split goes over whole frames -/
theorem splitG_frs (l : List UInt8) : ∀ (L : List (List UInt8)) (i f : Nat) (pre rest : List UInt8) (ks : List Nat) (bs : List (List UInt8)), l = pre ++ (frsB i L ++ rest) → (∀ x ∈ L, x.length ≤ 60000) →
    splitG l (f + L.length) pre.length ks bs = splitG l f (pre.length + (frsB i L).length) (ks ++ kindsL i L.length) (bs ++ L)
  | [], i, f, pre, rest, ks, bs, _, _ => by simp [frsB, kindsL]
  | x :: L, i, f, pre, rest, ks, bs, h, hx => by
    have hkb := kindOf_bd i
    have hx1 := hx x List.mem_cons_self
    have hd : l.drop pre.length = frameB (kindOf i : Int) x ++ (frsB (i + 1) L ++ rest) := by
      rw [h, List.drop_left, frsB, List.append_assoc]
    have ht := takeR_frame (kindOf i) x (frsB (i + 1) L ++ rest) hkb.1 hkb.2 hx1
    have hlt : pre.length < l.length := by
      rw [h, frsB]; simp only [List.length_append, frameB_len]; omega
    rw [List.length_cons, show f + (L.length + 1) = (f + L.length) + 1 by omega]
    conv => lhs; unfold splitG
    rw [if_pos hlt, hd, ht, if_pos rfl]
    have h' : l = (pre ++ frameB (kindOf i : Int) x) ++ (frsB (i + 1) L ++ rest) := by rw [h, frsB]; simp
    have ih := splitG_frs l L (i + 1) f (pre ++ frameB (kindOf i : Int) x) rest (ks ++ [kindOf i]) (bs ++ [x]) h' (fun y hy => hx y (List.mem_cons_of_mem _ hy))
    have hpl : (pre ++ frameB (kindOf i : Int) x).length = pre.length + (x.length + 12) := by rw [List.length_append, frameB_len]
    rw [hpl] at ih
    simp only []
    rw [ih]
    congr 1
    · rw [frsB, List.length_append, frameB_len]; omega
    · rw [kindsL_succ, List.append_assoc]; rfl
    · rw [List.append_assoc]; rfl
/-- a frame that is cut is torn -/
theorem takeR_cut {k : Nat} {l : List UInt8} {j : Nat} (hk1 : 1 ≤ k) (hk2 : k ≤ 100) (hl : l.length ≤ 60000) (hj : j < (frameB (k : Int) l).length) : (takeR ((frameB (k : Int) l).take j)).1 = 4 := by
  have hfl := frameB_len (k : Int) l
  by_cases h8 : j < 8
  · unfold takeR
    rw [if_pos (by rw [List.length_take]; omega)]
  · have e : frameB (k : Int) l = sealB (headB (k : Int) l.length) ++ sealB l := rfl
    have hh : (sealB (headB (k : Int) l.length)).length = 8 := by rw [sealB_len]; rfl
    have hlen : ((frameB (k : Int) l).take j).length = j := by rw [List.length_take]; omega
    have ht8 : ((frameB (k : Int) l).take j).take 8 = sealB (headB (k : Int) l.length) := by
      rw [List.take_take, Nat.min_eq_left (by omega), e, ← hh, List.take_left]
    have g : ∀ q, q < 4 → ((frameB (k : Int) l).take j).getD q 0 = (headB (k : Int) l.length).getD q 0 := by
      intro q hq
      rw [take_getD _ (by omega), e]
      unfold sealB
      simp only [List.getD_eq_getElem?_getD]
      rw [List.append_assoc, List.getElem?_append_left (by simpa [headB] using hq)]
    have hN : headN ((frameB (k : Int) l).take j) = l.length := by
      unfold headN
      rw [g 1 (by omega), g 2 (by omega), g 3 (by omega)]
      have e1 : (l.length / 65536) % 256 * 65536 + (l.length / 256) % 256 * 256 + l.length % 256 = l.length := by omega
      simpa [headB, List.getD] using e1
    have h0 : (((frameB (k : Int) l).take j).getD 0 0).toNat = k := by rw [g 0 (by omega)]; exact byteOf_nat k (by omega)
    unfold takeR
    rw [if_neg (by rw [hlen]; omega), ht8, openE_seal, if_neg (by simp), h0, hN, if_neg (by omega), if_pos (by rw [hlen]; omega)]
/-- rows of frames that are cut: what Split tells -/
theorem split_cut (L : List (List UInt8)) (n k : Nat) (hL : ∀ x ∈ L, x.length ≤ 60000) (hn : n ≤ L.length) (h1 : endAt L n ≤ k) (h2 : n < L.length → k < endAt L (n + 1)) (hk : k ≤ endAt L L.length) :
    splitL ((frsB 0 L).take k) = (kindsL 0 n, L.take n, endAt L n, if k = endAt L n then 0 else 4) := by
  have hfull : endAt L L.length = (frsB 0 L).length := by unfold endAt; rw [List.take_length]
  have hsplit : frsB 0 L = frsB 0 (L.take n) ++ frsB n (L.drop n) := by
    conv => lhs; rw [← List.take_append_drop n L]
    rw [frsB_append, List.length_take, Nat.min_eq_left hn, Nat.zero_add]
  have hl : (frsB 0 L).take k = [] ++ (frsB 0 (L.take n) ++ (frsB n (L.drop n)).take (k - endAt L n)) := by
    rw [hsplit, List.take_append, List.nil_append]
    congr 1
    exact List.take_of_length_le h1
  have hlen : ((frsB 0 L).take k).length = k := by rw [List.length_take, ← hfull]; omega
  have hkn : n ≤ k := by
    have : ∀ n, n ≤ L.length → n ≤ endAt L n := by
      intro n
      induction n with
      | zero => intro _; omega
      | succ m ih => intro hm; have := ih (by omega); rw [endAt_snoc L (show m < L.length by omega)]; omega
    have := this n hn; omega
  have hgo := splitG_frs ((frsB 0 L).take k) (L.take n) 0 (k + 1 - n) [] _ [] [] hl (fun x hx => hL x (List.mem_of_mem_take hx))
  rw [List.length_take, Nat.min_eq_left hn, List.length_nil, Nat.zero_add, List.nil_append, List.nil_append, show k + 1 - n + n = k + 1 by omega] at hgo
  unfold splitL
  rw [hlen, hgo]
  have hend : (frsB 0 (L.take n)).length = endAt L n := rfl
  rw [hend]
  obtain ⟨f, hf⟩ : ∃ f, k + 1 - n = f + 1 := ⟨k - n, by omega⟩
  rw [hf]
  unfold splitG
  by_cases hke : k = endAt L n
  · rw [if_neg (by rw [hlen]; omega), if_pos hke]
  · rw [if_pos (by rw [hlen]; omega)]
    have hnl : n < L.length := by
      rcases Nat.lt_or_ge n L.length with h | h
      · exact h
      · have : n = L.length := by omega
        subst this; omega
    have hd : ((frsB 0 L).take k).drop (endAt L n) = (frameB (kindOf n : Int) L[n]).take (k - endAt L n) := by
      rw [hl, List.nil_append, ← hend, List.drop_left, hend, List.drop_eq_getElem_cons hnl, frsB]
      rw [List.take_append_of_le_length]
      have := h2 hnl
      rw [endAt_snoc L hnl] at this
      rw [frameB_len]; omega
    have hj : k - endAt L n < (frameB (kindOf n : Int) L[n]).length := by
      have := h2 hnl
      rw [endAt_snoc L hnl] at this
      rw [frameB_len]; omega
    have htk := takeR_cut (kindOf_bd n).1 (kindOf_bd n).2 (hL _ (List.getElem_mem hnl)) hj
    rw [hd, htk, if_neg (by decide), if_neg hke]
end Go.Proofs.Ytfmjgkfblejknaa

/-
  Sums of texts: what turned bits do to them. Up to three of them are found in any text of less than 2^28 bytes.
-/
namespace Go.Proofs.Ytfmjgkfblejknaa
open Go.RowKit
set_option linter.unusedVariables false
set_option linter.unusedSimpArgs false

theorem crcN_add : ∀ (a b n : Nat), crcN (a + b) n = crcN b (crcN a n)
  | 0, b, n => by rw [Nat.zero_add]; rfl
  | a + 1, b, n => by rw [Nat.add_right_comm]; exact crcN_add a b (crcS n)
theorem xor_swap (a b c : Nat) : a ^^^ b ^^^ c = a ^^^ c ^^^ b := by rw [Nat.xor_assoc, Nat.xor_comm b c, ← Nat.xor_assoc]
theorem xor_half (a b : Nat) : (a ^^^ b) / 2 = a / 2 ^^^ b / 2 := Nat.xor_div_two
theorem xor_odd (a b : Nat) : (a ^^^ b) % 2 = (a % 2 + b % 2) % 2 := by
  have h := Nat.xor_mod_two_eq_one (a := a) (b := b)
  have h1 := Nat.mod_two_eq_zero_or_one (a ^^^ b)
  have h2 := Nat.mod_two_eq_zero_or_one a
  have h3 := Nat.mod_two_eq_zero_or_one b
  rcases h1 with h1 | h1 <;> rcases h2 with h2 | h2 <;> rcases h3 with h3 | h3 <;> simp [h1, h2, h3] at h ⊢
theorem crcS_xor (a b : Nat) : crcS (a ^^^ b) = crcS a ^^^ crcS b := by
  have h2 := Nat.mod_two_eq_zero_or_one a
  have h3 := Nat.mod_two_eq_zero_or_one b
  unfold crcS
  rw [xor_odd, xor_half]
  rcases h2 with h2 | h2 <;> rcases h3 with h3 | h3 <;> simp only [h2, h3] <;> simp
  · rw [Nat.xor_assoc]
  · rw [xor_swap]
  · rw [Nat.xor_assoc, Nat.xor_comm (2197175160) (b / 2 ^^^ 2197175160), Nat.xor_assoc, Nat.xor_self, Nat.xor_zero]
theorem crcN_xor : ∀ (k a b : Nat), crcN k (a ^^^ b) = crcN k a ^^^ crcN k b
  | 0, _, _ => rfl
  | k + 1, a, b => by show crcN k (crcS (a ^^^ b)) = _; rw [crcS_xor, crcN_xor k]; rfl
theorem xor_zero_eq {a b : Nat} (h : a ^^^ b = 0) : a = b := by
  have h2 : (a ^^^ b) ^^^ b = 0 ^^^ b := by rw [h]
  rwa [Nat.xor_assoc, Nat.xor_self, Nat.xor_zero, Nat.zero_xor] at h2
theorem crcS_zero {a : Nat} (ha : a < 4294967296) (h : crcS a = 0) : a = 0 := by
  unfold crcS at h
  split at h
  · have := xor_zero_eq h; omega
  · omega
theorem crcN_zero : ∀ (k : Nat) {a : Nat}, a < 4294967296 → crcN k a = 0 → a = 0
  | 0, _, _, h => h
  | k + 1, _, ha, h => crcS_zero ha (crcN_zero k (crcS_lt ha) h)
theorem xor_lt32 {a b : Nat} (ha : a < 4294967296) (hb : b < 4294967296) : a ^^^ b < 4294967296 := by
  have h2 : a ^^^ b < 2 ^ 32 := Nat.xor_lt_two_pow (by omega) (by omega)
  omega
theorem crcN_inj (k : Nat) {a b : Nat} (ha : a < 4294967296) (hb : b < 4294967296) (h : crcN k a = crcN k b) : a = b :=
  xor_zero_eq (crcN_zero k (xor_lt32 ha hb) (by rw [crcN_xor, h, Nat.xor_self]))

/-- how many of the first k bits are set: odd or not -/
def par : Nat → Nat → Bool
  | 0, _ => false
  | k + 1, n => (n % 2 == 1) ^^ par k (n / 2)
theorem par_xor : ∀ (k a b : Nat), par k (a ^^^ b) = (par k a ^^ par k b)
  | 0, _, _ => rfl
  | k + 1, a, b => by
    unfold par
    rw [xor_odd, xor_half, par_xor k]
    have h2 := Nat.mod_two_eq_zero_or_one a
    have h3 := Nat.mod_two_eq_zero_or_one b
    rcases h2 with h2 | h2 <;> rcases h3 with h3 | h3 <;> simp [h2, h3]
theorem par_zero : ∀ k, par k 0 = false
  | 0 => rfl
  | k + 1 => by unfold par; simp [par_zero k]
theorem par_more : ∀ (k n : Nat), n < 2 ^ k → par (k + 1) n = par k n
  | 0, n, h => by
    have : n = 0 := by simpa using h
    subst this; rfl
  | k + 1, n, h => by
    conv => lhs; unfold par
    conv => rhs; unfold par
    rw [par_more k (n / 2) (by rw [Nat.pow_succ] at h; omega)]
theorem par_crcS {n : Nat} (h : n < 4294967296) : par 32 (crcS n) = par 32 n := by
  have e : par 32 n = ((n % 2 == 1) ^^ par 31 (n / 2)) := rfl
  have e2 := par_more 31 (n / 2) (by omega)
  rw [e, ← e2]
  unfold crcS
  split
  · rename_i h1
    rw [par_xor, h1, show par 32 2197175160 = true by decide]
    cases par 32 (n / 2) <;> rfl
  · rename_i h1
    rw [show (n % 2 == 1) = false by simp; omega]
    simp
theorem par_crcN : ∀ (k : Nat) {n : Nat}, n < 4294967296 → par 32 (crcN k n) = par 32 n
  | 0, _, _ => rfl
  | k + 1, _, h => (par_crcN k (crcS_lt h)).trans (par_crcS h)

/-- a sum that goes on from two registers together -/
theorem addC_lin (l : List UInt8) : ∀ (u v : Nat), addC (u ^^^ v) l = addC u l ^^^ crcN (8 * l.length) v := by
  induction l with
  | nil => intro u v; rfl
  | cons b l ih =>
    intro u v
    show addC (crcB (u ^^^ v) b) l = addC (crcB u b) l ^^^ _
    have e : crcB (u ^^^ v) b = crcB u b ^^^ crcN 8 v := by
      unfold crcB
      rw [xor_swap, crcN_xor]
    rw [e, ih, List.length_cons, show 8 * (l.length + 1) = 8 + 8 * l.length by omega, crcN_add]
theorem addC_set (m : UInt8) : ∀ (l : List UInt8) (n i : Nat), i < l.length → addC n (l.set i (l.getD i 0 ^^^ m)) = addC n l ^^^ crcN (8 * (l.length - i)) m.toNat
  | b :: l, n, 0, _ => by
    show addC (crcB n (b ^^^ m)) l = addC (crcB n b) l ^^^ _
    have e : crcB n (b ^^^ m) = crcB n b ^^^ crcN 8 m.toNat := by
      unfold crcB
      rw [UInt8.toNat_xor, ← Nat.xor_assoc, crcN_xor]
    rw [e, addC_lin, List.length_cons, show 8 * (l.length + 1 - 0) = 8 + 8 * l.length by omega, crcN_add]
  | b :: l, n, i + 1, h => by
    have h2 : i < l.length := by simpa using h
    show addC (crcB n b) (l.set i (l.getD i 0 ^^^ m)) = addC (crcB n b) l ^^^ _
    rw [addC_set m l _ i h2, List.length_cons, show l.length + 1 - (i + 1) = l.length - i by omega]

/-- one bit turned -/
def flipB (l : List UInt8) (p : Nat) : List UInt8 := l.set (p / 8) (l.getD (p / 8) 0 ^^^ UInt8.ofNat (2 ^ (p % 8)))
theorem flipB_len (l : List UInt8) (p : Nat) : (flipB l p).length = l.length := by unfold flipB; rw [List.length_set]
def flipsB (l : List UInt8) (ps : List Nat) : List UInt8 := ps.foldl flipB l
theorem flipsB_len : ∀ (ps : List Nat) (l : List UInt8), (flipsB l ps).length = l.length
  | [], _ => rfl
  | p :: ps, l => (flipsB_len ps (flipB l p)).trans (flipB_len l p)
theorem pow_bits : ∀ t, t < 8 → crcN t (2 ^ t) = 1 ∧ (UInt8.ofNat (2 ^ t)).toNat = 2 ^ t := by decide
theorem addC_flip {l : List UInt8} {p : Nat} (n : Nat) (h : p < 8 * l.length) : addC n (flipB l p) = addC n l ^^^ crcN (8 * l.length - p) 1 := by
  unfold flipB
  rw [addC_set _ _ _ _ (by omega)]
  obtain ⟨h1, h2⟩ := pow_bits (p % 8) (by omega)
  rw [h2, show 8 * (l.length - p / 8) = p % 8 + (8 * l.length - p) by omega, crcN_add, h1]
theorem flipB_flipB {l : List UInt8} {p : Nat} (h : p < 8 * l.length) : flipB (flipB l p) p = l := by
  have h8 : p / 8 < l.length := by omega
  unfold flipB
  have e : (l.set (p / 8) (l.getD (p / 8) 0 ^^^ UInt8.ofNat (2 ^ (p % 8)))).getD (p / 8) 0 = l.getD (p / 8) 0 ^^^ UInt8.ofNat (2 ^ (p % 8)) := by
    simp [List.getD, h8]
  rw [e, List.set_set, UInt8.xor_assoc, UInt8.xor_self, UInt8.xor_zero]
  simp [List.getD, h8]

-- the order of the step

/-- a linear step of 32 bits by its columns -/
def appC : List Nat → Nat → Nat
  | [], _ => 0
  | c :: cs, n => if n % 2 = 1 then c ^^^ appC cs (n / 2) else appC cs (n / 2)
theorem appC_eq (g : Nat → Nat) (g0 : g 0 = 0) (gx : ∀ a b, g (a ^^^ b) = g a ^^^ g b) : ∀ (k i n : Nat), n < 2 ^ k → appC ((List.range' i k).map fun j => g (2 ^ j)) n = g (n * 2 ^ i)
  | 0, i, n, h => by
    have : n = 0 := by simpa using h
    subst this
    rw [Nat.zero_mul, g0]; rfl
  | k + 1, i, n, h => by
    rw [List.range'_succ, List.map_cons]
    have hlt : n / 2 < 2 ^ k := by rw [Nat.pow_succ] at h; omega
    have ih := appC_eq g g0 gx k (i + 1) (n / 2) hlt
    unfold appC
    rw [ih]
    have e2 : n / 2 * 2 ^ (i + 1) = 2 * (n / 2) * 2 ^ i := by rw [Nat.pow_succ]; rw [Nat.mul_comm (2 ^ i) 2, ← Nat.mul_assoc, Nat.mul_comm (n / 2) 2]
    split
    · rename_i h1
      rw [← gx]
      congr 1
      rw [e2]
      have h3 : n * 2 ^ i = 2 * (n / 2) * 2 ^ i + 2 ^ i := by
        have : n = 2 * (n / 2) + 1 := by omega
        conv => lhs; rw [this]
        rw [Nat.add_mul, Nat.one_mul]
      rw [h3]
      apply Nat.eq_of_testBit_eq
      intro j
      rw [show 2 * (n / 2) * 2 ^ i + 2 ^ i = (2 * (n / 2) + 1) * 2 ^ i by rw [Nat.add_mul, Nat.one_mul], Nat.testBit_xor, Nat.testBit_mul_two_pow, Nat.testBit_mul_two_pow, Nat.testBit_two_pow]
      by_cases hj : i ≤ j
      · obtain ⟨q, rfl⟩ : ∃ q, j = i + q := ⟨j - i, by omega⟩
        rw [show i + q - i = q by omega]
        cases q with
        | zero => simp
        | succ q =>
          simp [Nat.testBit_succ]
          rw [show (2 * (n / 2) + 1) / 2 = n / 2 by omega]
      · simp [hj]
        intro h; omega
    · rename_i h1
      rw [e2, show 2 * (n / 2) = n by omega]
def colsC : Nat → List Nat
  | 0 => (List.range' 0 32).map fun j => crcS (2 ^ j)
  | k + 1 => (colsC k).map (appC (colsC k))
theorem crcN_0 (k : Nat) : crcN k 0 = 0 := by
  have h := crcN_xor k 0 0
  rw [Nat.xor_self, Nat.xor_self] at h
  exact h
theorem colsC_eq : ∀ k, colsC k = (List.range' 0 32).map fun j => crcN (2 ^ k) (2 ^ j)
  | 0 => rfl
  | k + 1 => by
    show (colsC k).map (appC (colsC k)) = _
    rw [colsC_eq k, List.map_map]
    apply List.map_congr_left
    intro j hj
    show appC _ (crcN (2 ^ k) (2 ^ j)) = _
    have hj2 : j < 32 := by simp [List.mem_range'] at hj; omega
    have hlt : 2 ^ j < 4294967296 := Nat.pow_lt_pow_right (by omega) hj2
    have h := appC_eq (fun x => crcN (2 ^ k) x) (crcN_0 _) (crcN_xor _) 32 0 (crcN (2 ^ k) (2 ^ j)) (crcN_lt _ hlt)
    rw [h]
    show crcN (2 ^ k) (crcN (2 ^ k) (2 ^ j) * 2 ^ 0) = crcN (2 ^ (k + 1)) (2 ^ j)
    rw [Nat.pow_zero, Nat.mul_one, ← crcN_add, Nat.pow_succ, Nat.mul_two]
/-- the columns, step by step, each list made once -/
def stepC : Nat → List Nat → List Nat
  | 0, l => l
  | k + 1, l => stepC k (l.map (appC l))
theorem stepC_eq : ∀ k j, stepC k (colsC j) = colsC (j + k)
  | 0, _ => rfl
  | k + 1, j => by
    show stepC k (colsC (j + 1)) = _
    rw [stepC_eq k (j + 1), Nat.add_right_comm, Nat.add_assoc]
def colK0 : List Nat := [2197175160, 1, 2, 4, 8, 16, 32, 64, 128, 256, 512, 1024, 2048, 4096, 8192, 16384, 32768, 65536, 131072, 262144, 524288, 1048576, 2097152, 4194304, 8388608, 16777216, 33554432, 67108864, 134217728, 268435456, 536870912, 1073741824]
def colK1 : List Nat := [1098587580, 2197175160, 1, 2, 4, 8, 16, 32, 64, 128, 256, 512, 1024, 2048, 4096, 8192, 16384, 32768, 65536, 131072, 262144, 524288, 1048576, 2097152, 4194304, 8388608, 16777216, 33554432, 67108864, 134217728, 268435456, 536870912]
def colK2 : List Nat := [274646895, 549293790, 1098587580, 2197175160, 1, 2, 4, 8, 16, 32, 64, 128, 256, 512, 1024, 2048, 4096, 8192, 16384, 32768, 65536, 131072, 262144, 524288, 1048576, 2097152, 4194304, 8388608, 16777216, 33554432, 67108864, 134217728]
def colK3 : List Nat := [4067132163, 3778769143, 3348797215, 2329499855, 274646895, 549293790, 1098587580, 2197175160, 1, 2, 4, 8, 16, 32, 64, 128, 256, 512, 1024, 2048, 4096, 8192, 16384, 32768, 65536, 131072, 262144, 524288, 1048576, 2097152, 4194304, 8388608]
def colK4 : List Nat := [329422967, 658845934, 1317691868, 2635383736, 1069937025, 2139874050, 4279748100, 4223924985, 4067132163, 3778769143, 3348797215, 2329499855, 274646895, 549293790, 1098587580, 2197175160, 1, 2, 4, 8, 16, 32, 64, 128, 256, 512, 1024, 2048, 4096, 8192, 16384, 32768]
def colK5 : List Nat := [3712330424, 3211207553, 2065838579, 4131677158, 3915690301, 3609531531, 2879807463, 1386268991, 2772537982, 1332695565, 2665391130, 944848581, 1889697162, 3779394324, 3345318105, 2334619459, 329422967, 658845934, 1317691868, 2635383736, 1069937025, 2139874050, 4279748100, 4223924985, 4067132163, 3778769143, 3348797215, 2329499855, 274646895, 549293790, 1098587580, 2197175160]
def colK6 : List Nat := [1228700967, 2457401934, 555582061, 1111164122, 2222328244, 218129817, 436259634, 872519268, 1745038536, 3490077072, 2782971345, 1311636819, 2623273638, 1029407677, 2058815354, 4117630708, 4012927769, 3683426499, 3002414967, 1611012127, 3222024254, 2247366285, 235166699, 470333398, 940666796, 1881333592, 3762667184, 3311864721, 2401395155, 464041303, 928082606, 1856165212]
def colK7 : List Nat := [4060876286, 3790892301, 3322195179, 2313498407, 371599551, 743199102, 1486398204, 2972796408, 1737424129, 3474848258, 2614592245, 843281179, 1686562358, 3373124716, 2549607977, 704883363, 1409766726, 2819533452, 1441866729, 2883733458, 1378416981, 2756833962, 1297060773, 2594121546, 819083365, 1638166730, 3276333460, 2206053849, 51846467, 103692934, 207385868, 414771736]
def colK8 : List Nat := [1034342603, 2068685206, 4137370412, 3906662569, 3562641315, 2908707255, 1599260063, 3198520126, 2024235149, 4048470298, 3883005125, 3406798715, 2482194439, 571139839, 1142279678, 2284559356, 364593417, 729186834, 1458373668, 2916747336, 1582851681, 3165703362, 2089676661, 4179353322, 4158376741, 3931889851, 3512448903, 2807765503, 1264207119, 2528414238, 679830221, 1359660442]
def colK9 : List Nat := [1947135746, 3894271492, 3587689209, 2923684611, 1500229879, 3000459758, 1614984493, 3229968986, 2229707333, 203502203, 407004406, 814008812, 1628017624, 3256035248, 2177513873, 108529107, 217058214, 434116428, 868232856, 1736465712, 3472931424, 2616001073, 842429075, 1684858150, 3369716300, 2489311849, 760459811, 1520919622, 3041839244, 1869735913, 3739471826, 3089885525]
def colK10 : List Nat := [1771228834, 3542457668, 2745650297, 1117974019, 2235948038, 258461437, 516922874, 1033845748, 2067691496, 4135382992, 3910510929, 3620152403, 2858565207, 1361578591, 2723157182, 1095524237, 2191048474, 14485701, 28971402, 57942804, 115885608, 231771216, 463542432, 927084864, 1854169728, 3708339456, 3221093617, 2048364307, 4096728614, 3987884733, 3733513099, 3103633895]
def colK11 : List Nat := [3702618788, 3163456441, 2096198019, 4192396038, 4129927421, 3921614603, 3599915239, 2831730495, 1417541775, 2835083550, 1411093709, 2822187418, 1434592709, 2869185418, 1407508965, 2815017930, 1249898853, 2499797706, 739488613, 1478977226, 2957954452, 1701965273, 3403930546, 2418786709, 633075163, 1266150326, 2532300652, 674486313, 1348972626, 2697945252, 1148368825, 2296737650]
def colK12 : List Nat := [3178201592, 2134078721, 4268157442, 4179731189, 4155454235, 3937538247, 3498596223, 2768033807, 1276495599, 2552991198, 901475661, 1802951322, 3605902644, 2822184089, 1434603459, 2869206918, 1407535613, 2815071226, 1249464581, 2498929162, 738800357, 1477600714, 2955201428, 1705370073, 3410740146, 2474373525, 589010395, 1178020790, 2356041580, 489740329, 979480658, 1958961316]
def colK13 : List Nat := [4264641112, 4186894913, 4143026803, 3893318167, 3589460703, 2919879503, 1509937263, 3019874526, 1645426509, 3290853018, 2376117189, 514662779, 1029325558, 2058651116, 4117302232, 4013842753, 3683693683, 2999787031, 1618365151, 3236730302, 2218089869, 226938347, 453876694, 907753388, 1815506776, 3631013552, 3040201617, 1871176147, 3742352294, 3153326525, 1913361803, 3826723606]
def colK14 : List Nat := [4149242244, 3947668985, 3547675907, 2735082743, 1138781983, 2277563966, 174967437, 349934874, 699869748, 1399739496, 2799478992, 1213540177, 2427080354, 616098741, 1232197482, 2464394964, 539700057, 1079400114, 2158800228, 78982201, 157964402, 315928804, 631857608, 1263715216, 2527430432, 682064049, 1364128098, 2728256196, 1087878009, 2175756018, 112376597, 224753194]
def colK15 : List Nat := [3265640030, 2158434893, 77742699, 155485398, 310970796, 621941592, 1243883184, 2487766368, 763161649, 1526323298, 3052646596, 1846220665, 3692441330, 3183487765, 2121015515, 4242031030, 4233950621, 4250246603, 4282862951, 4217564223, 4079595151, 3820956655, 3264356655, 2160604335, 75243439, 150486878, 300973756, 601947512, 1203895024, 2407790048, 451648817, 903297634]
def colK16 : List Nat := [3762348204, 3312301993, 2402752931, 461522359, 923044718, 1846089436, 3692178872, 3184012673, 2122067443, 4244134886, 4229742909, 4258657419, 4266106855, 4184033599, 4146783375, 3954819055, 3533637935, 2698142895, 1145618351, 2291236702, 349079629, 698159258, 1396318516, 2792637032, 1225060897, 2450121794, 570408565, 1140817130, 2281634260, 168920409, 337840818, 675681636]
def colK17 : List Nat := [3351957165, 2323245995, 287285671, 574571342, 1149142684, 2298285368, 337013889, 674027778, 1348055556, 2696111112, 1149943521, 2299887042, 398888309, 797776618, 1595553236, 3191106472, 2038735265, 4077470530, 3825135733, 3255932443, 2177850055, 108184447, 216368894, 432737788, 865475576, 1730951152, 3461902304, 2572986673, 928326803, 1856653606, 3713307212, 3208991337]
def colK18 : List Nat := [83680447, 167360894, 334721788, 669443576, 1338887152, 2677774304, 987453745, 1974907490, 3949814980, 3543580537, 2743142403, 1122920183, 2245840366, 240512301, 481024602, 962049204, 1924098408, 3848196816, 3478246225, 2605699155, 863229527, 1726459054, 3452918108, 2658321481, 956956259, 1913912518, 3827825036, 3450045929, 2662038819, 951749815, 1903499630, 3806999260]
def colK19 : List Nat := [1806683169, 3613366338, 2874361461, 1397422619, 2794845238, 1221041821, 2442083642, 653397125, 1306794250, 2613588500, 846992089, 1693984178, 3387968356, 2517426233, 703968899, 1407937798, 2815875596, 1245823721, 2491647442, 753630549, 1507261098, 3014522196, 1656200281, 3312400562, 2402420629, 461928923, 923857846, 1847715692, 3695431384, 3177966401, 2134614131, 4269228262]
def colK20 : List Nat := [335823302, 671646604, 1343293208, 2686586416, 1168665233, 2337330466, 323869877, 647739754, 1295479508, 2590959016, 825343393, 1650686786, 3301373572, 2355207161, 489636099, 979272198, 1958544396, 3917088792, 3608700609, 2883369843, 1381302295, 2762604590, 1287157421, 2574314842, 923642949, 1847285898, 3694571796, 3179353305, 2129551171, 4259102342, 4266986493, 4182139147]
def colK21 : List Nat := [1746360842, 3492721684, 2779848409, 1317948227, 2635896454, 1070947325, 2141894650, 4283789300, 4215712025, 4083229891, 3811458935, 3283093535, 2190239439, 16038767, 32077534, 64155068, 128310136, 256620272, 513240544, 1026481088, 2052962176, 4105924352, 3969558769, 3705218835, 3160291543, 2102396767, 4204793534, 4037831565, 3837043179, 3431281959, 2632326335, 1008750479]
def colK22 : List Nat := [3791599207, 3323075135, 2311602831, 377287663, 754575326, 1509150652, 3018301304, 1646479361, 3292958722, 2371966709, 523164443, 1046328886, 2092657772, 4185315544, 4144088897, 3958372467, 3526592023, 2710272735, 1190822735, 2381645470, 503741389, 1007482778, 2014965556, 4029931112, 3851143713, 3472614067, 2551952279, 903549407, 1807098814, 3614197628, 2872375305, 1401259747]
def colK23 : List Nat := [2339516652, 319297321, 638594642, 1277189284, 2554378568, 896336993, 1792673986, 3585347972, 2927908345, 1491393795, 2982787590, 1719599869, 3439199738, 2618326277, 1036815611, 2073631222, 4147262444, 3951563049, 3539752099, 2685722551, 1170590111, 2341180222, 318460045, 636920090, 1273840180, 2547680360, 710508065, 1421016130, 2842032260, 1462208505, 2924417010, 1500670229]
def colK24 : List Nat := [1444372256, 2888744512, 1571883633, 3143767266, 1932025653, 3864051306, 3377269285, 2541118139, 721466247, 1442932494, 2885864988, 1575611081, 3151222162, 1917574613, 3835149226, 3435332005, 2624222651, 1027120519, 2054241038, 4108482076, 3962084041, 3720168291, 3197562935, 2025952927, 4051905854, 3874106509, 3359125483, 2510039335, 785654975, 1571309950, 3142619900, 1934447369]
def colK25 : List Nat := [3114523856, 1990971217, 3981942434, 3745729461, 3144343963, 1933161927, 3866323854, 3372917229, 2549691691, 706616487, 1413232974, 2826465948, 1427936201, 2855872402, 1369323989, 2738647978, 1133810085, 2267620170, 197013605, 394027210, 788054420, 1576108840, 3152217680, 1915386449, 3830772898, 3443892149, 2674346395, 992142791, 1984285582, 3968571164, 3707459785, 3155871587]
def colK26 : List Nat := [3710744734, 3216410573, 2055305579, 4110611158, 4025062237, 3661582411, 2979190375, 1724504639, 3449009278, 2664111629, 947538667, 1895077334, 3790154668, 3325960617, 2307929507, 382475703, 764951406, 1529902812, 3059805624, 1764601217, 3529202434, 2707079413, 1197078299, 2394156598, 411806365, 823612730, 1647225460, 3294450920, 2371280673, 524404915, 1048809830, 2097619660]
def colK27 : List Nat := [1141075018, 2282150036, 367118297, 734236594, 1468473188, 2936946376, 1542458209, 3084916418, 1781291893, 3562583786, 2908560165, 1599488187, 3198976374, 2025157661, 4050315322, 3879315077, 3416210427, 2463236359, 541619455, 1083238910, 2166477820, 128962825, 257925650, 515851300, 1031702600, 2063405200, 4126810400, 3994563761, 3655081875, 3058977239, 1766122847, 3532245694]
def colK28 : List Nat := [1175610749, 2351221498, 497410821, 994821642, 1989643284, 3979286568, 3753002657, 3129539507, 1895661975, 3791323950, 3323621549, 2312673195, 375216551, 750433102, 1500866204, 3001732408, 1614408833, 3228817666, 2232141045, 268173083, 536346166, 1072692332, 2145384664, 4290769328, 4203976081, 4039859667, 3833253207, 3441028191, 2682236495, 978528879, 1957057758, 3914115516]
def colK29 : List Nat := [1481463145, 2962926290, 1691951957, 3383903914, 2525559717, 687702459, 1375404918, 2750809836, 1107327785, 2214655570, 233675349, 467350698, 934701396, 1869402792, 3738805584, 3093249105, 1968311891, 3936623782, 3500429245, 2762271115, 1285924327, 2571848654, 930799981, 1861599962, 3723199924, 3191569817, 2040171971, 4080343942, 3817226749, 3269522699, 2150472935, 95899455]
def colK30 : List Nat := [3905762274, 3564507445, 2902480027, 1609359303, 3218718606, 2053048813, 4106097626, 3968880965, 3704411259, 3161841159, 2097662719, 4195325438, 4059258125, 3859467499, 3388600103, 2518657215, 701704079, 1403408158, 2806816316, 1265977993, 2531955986, 674847957, 1349695914, 2699391828, 1143378009, 2286756018, 360069013, 720138026, 1440276052, 2880552104, 1385107361, 2770214722]
def colK31 : List Nat := [2197175160, 1, 2, 4, 8, 16, 32, 64, 128, 256, 512, 1024, 2048, 4096, 8192, 16384, 32768, 65536, 131072, 262144, 524288, 1048576, 2097152, 4194304, 8388608, 16777216, 33554432, 67108864, 134217728, 268435456, 536870912, 1073741824]
theorem colK0_eq : colsC 0 = colK0 := by decide
theorem colK1_eq : colsC 1 = colK1 := by
  show (colsC 0).map (appC (colsC 0)) = _
  rw [colK0_eq]
  kernel_rfl
theorem colK2_eq : colsC 2 = colK2 := by
  show (colsC 1).map (appC (colsC 1)) = _
  rw [colK1_eq]
  kernel_rfl
theorem colK3_eq : colsC 3 = colK3 := by
  show (colsC 2).map (appC (colsC 2)) = _
  rw [colK2_eq]
  kernel_rfl
theorem colK4_eq : colsC 4 = colK4 := by
  show (colsC 3).map (appC (colsC 3)) = _
  rw [colK3_eq]
  kernel_rfl
theorem colK5_eq : colsC 5 = colK5 := by
  show (colsC 4).map (appC (colsC 4)) = _
  rw [colK4_eq]
  kernel_rfl
theorem colK6_eq : colsC 6 = colK6 := by
  show (colsC 5).map (appC (colsC 5)) = _
  rw [colK5_eq]
  kernel_rfl
theorem colK7_eq : colsC 7 = colK7 := by
  show (colsC 6).map (appC (colsC 6)) = _
  rw [colK6_eq]
  kernel_rfl
theorem colK8_eq : colsC 8 = colK8 := by
  show (colsC 7).map (appC (colsC 7)) = _
  rw [colK7_eq]
  kernel_rfl
theorem colK9_eq : colsC 9 = colK9 := by
  show (colsC 8).map (appC (colsC 8)) = _
  rw [colK8_eq]
  kernel_rfl
theorem colK10_eq : colsC 10 = colK10 := by
  show (colsC 9).map (appC (colsC 9)) = _
  rw [colK9_eq]
  kernel_rfl
theorem colK11_eq : colsC 11 = colK11 := by
  show (colsC 10).map (appC (colsC 10)) = _
  rw [colK10_eq]
  kernel_rfl
theorem colK12_eq : colsC 12 = colK12 := by
  show (colsC 11).map (appC (colsC 11)) = _
  rw [colK11_eq]
  kernel_rfl
theorem colK13_eq : colsC 13 = colK13 := by
  show (colsC 12).map (appC (colsC 12)) = _
  rw [colK12_eq]
  kernel_rfl
theorem colK14_eq : colsC 14 = colK14 := by
  show (colsC 13).map (appC (colsC 13)) = _
  rw [colK13_eq]
  kernel_rfl
theorem colK15_eq : colsC 15 = colK15 := by
  show (colsC 14).map (appC (colsC 14)) = _
  rw [colK14_eq]
  kernel_rfl
theorem colK16_eq : colsC 16 = colK16 := by
  show (colsC 15).map (appC (colsC 15)) = _
  rw [colK15_eq]
  kernel_rfl
theorem colK17_eq : colsC 17 = colK17 := by
  show (colsC 16).map (appC (colsC 16)) = _
  rw [colK16_eq]
  kernel_rfl
theorem colK18_eq : colsC 18 = colK18 := by
  show (colsC 17).map (appC (colsC 17)) = _
  rw [colK17_eq]
  kernel_rfl
theorem colK19_eq : colsC 19 = colK19 := by
  show (colsC 18).map (appC (colsC 18)) = _
  rw [colK18_eq]
  kernel_rfl
theorem colK20_eq : colsC 20 = colK20 := by
  show (colsC 19).map (appC (colsC 19)) = _
  rw [colK19_eq]
  kernel_rfl
theorem colK21_eq : colsC 21 = colK21 := by
  show (colsC 20).map (appC (colsC 20)) = _
  rw [colK20_eq]
  kernel_rfl
theorem colK22_eq : colsC 22 = colK22 := by
  show (colsC 21).map (appC (colsC 21)) = _
  rw [colK21_eq]
  kernel_rfl
theorem colK23_eq : colsC 23 = colK23 := by
  show (colsC 22).map (appC (colsC 22)) = _
  rw [colK22_eq]
  kernel_rfl
theorem colK24_eq : colsC 24 = colK24 := by
  show (colsC 23).map (appC (colsC 23)) = _
  rw [colK23_eq]
  kernel_rfl
theorem colK25_eq : colsC 25 = colK25 := by
  show (colsC 24).map (appC (colsC 24)) = _
  rw [colK24_eq]
  kernel_rfl
theorem colK26_eq : colsC 26 = colK26 := by
  show (colsC 25).map (appC (colsC 25)) = _
  rw [colK25_eq]
  kernel_rfl
theorem colK27_eq : colsC 27 = colK27 := by
  show (colsC 26).map (appC (colsC 26)) = _
  rw [colK26_eq]
  kernel_rfl
theorem colK28_eq : colsC 28 = colK28 := by
  show (colsC 27).map (appC (colsC 27)) = _
  rw [colK27_eq]
  kernel_rfl
theorem colK29_eq : colsC 29 = colK29 := by
  show (colsC 28).map (appC (colsC 28)) = _
  rw [colK28_eq]
  kernel_rfl
theorem colK30_eq : colsC 30 = colK30 := by
  show (colsC 29).map (appC (colsC 29)) = _
  rw [colK29_eq]
  kernel_rfl
theorem colK31_eq : colsC 31 = colK31 := by
  show (colsC 30).map (appC (colsC 30)) = _
  rw [colK30_eq]
  kernel_rfl
theorem crcN_big : crcN (2 ^ 31) 1 = crcN 1 1 := by
  have h : (colsC 31).getD 0 0 = 2197175160 := by rw [colK31_eq]; rfl
  have e : ∀ f : Nat → Nat, ((List.range' 0 32).map f).getD 0 0 = f 0 := fun f => rfl
  rw [colsC_eq, e] at h
  rw [show crcN 1 1 = 2197175160 by decide]
  rw [Nat.pow_zero] at h
  exact h
theorem crcN_per : crcN 2147483647 1 = 1 := by
  have h := crcN_big
  rw [show 2 ^ 31 = 2147483647 + 1 by decide, crcN_add] at h
  exact crcN_inj 1 (crcN_lt _ (by decide)) (by decide) h

/-- no number of a row of 2 ^ k divides the great prime -/
def noDiv : Nat → Nat → Bool
  | 0, lo => 2147483647 % lo != 0
  | k + 1, lo => noDiv k lo && noDiv k (lo + 2 ^ k)
theorem noDiv_at : ∀ (k lo : Nat), noDiv k lo = true → ∀ t, lo ≤ t → t < lo + 2 ^ k → 2147483647 % t ≠ 0
  | 0, lo, h, t, h1, h2 => by
    have : t = lo := by rw [Nat.pow_zero] at h2; omega
    subst this
    simpa [noDiv] using h
  | k + 1, lo, h, t, h1, h2 => by
    unfold noDiv at h
    rw [Bool.and_eq_true] at h
    rw [Nat.pow_succ] at h2
    by_cases ht : t < lo + 2 ^ k
    · exact noDiv_at k lo h.1 t h1 ht
    · exact noDiv_at k (lo + 2 ^ k) h.2 t (by omega) (by omega)
theorem prime_M {g h : Nat} (e : 2147483647 = g * h) (hg : 1 < g) : h ≤ 1 := by
  have key : ∀ t, 2 ≤ t → t < 2 + 2 ^ 16 → 2147483647 % t ≠ 0 := noDiv_at 16 2 (by kernel_rfl)
  rcases Nat.lt_or_ge 1 h with h1 | h1
  · rcases Nat.lt_or_ge g 65538 with h2 | h2
    · exact absurd (by rw [e]; exact Nat.mul_mod_right g h) (key g hg (by omega))
    · rcases Nat.lt_or_ge h 65538 with h3 | h3
      · exact absurd (by rw [e]; exact Nat.mul_mod_left g h) (key h h1 (by omega))
      · have := Nat.mul_le_mul h2 h3
        omega
  · exact h1
theorem crcN_mul {d : Nat} (hd : crcN d 1 = 1) : ∀ q, crcN (d * q) 1 = 1
  | 0 => rfl
  | q + 1 => by rw [Nat.mul_succ, crcN_add, crcN_mul hd q, hd]
theorem crcN_gcd (a b : Nat) : crcN a 1 = 1 → crcN b 1 = 1 → crcN (Nat.gcd a b) 1 = 1 := by
  induction a, b using Nat.gcd.induction with
  | H0 n => intro _ h; rwa [Nat.gcd_zero_left]
  | H1 m n hm ih =>
    intro h1 h2
    rw [Nat.gcd_rec]
    refine ih ?_ h1
    have e : crcN (m * (n / m) + n % m) 1 = 1 := by rw [Nat.div_add_mod]; exact h2
    rw [crcN_add, crcN_mul h1] at e
    exact e
/-- two bits that are less than 2 ^ 31 - 1 places apart are told from each other -/
theorem crcN_order {d : Nat} (h0 : 0 < d) (h1 : d < 2147483647) : crcN d 1 ≠ 1 := by
  intro h
  have hg := crcN_gcd d 2147483647 h crcN_per
  obtain ⟨q, hq⟩ := Nat.gcd_dvd_right d 2147483647
  have hle := Nat.le_of_dvd h0 (Nat.gcd_dvd_left d 2147483647)
  generalize Nat.gcd d 2147483647 = g at *
  rcases Nat.lt_or_ge 1 g with h2 | h2
  · have := prime_M hq h2
    have h3 : q = 0 ∨ q = 1 := by omega
    rcases h3 with rfl | rfl <;> omega
  · have h3 : g = 0 ∨ g = 1 := by omega
    rcases h3 with rfl | rfl
    · omega
    · exact absurd hg (by decide)

-- what was sealed, turned
theorem crcN_hi : ∀ (m : Nat), crcN 8 (256 * m) = m := by
  intro m
  have h2 : ∀ x, crcS (2 * x) = x := by
    intro x; unfold crcS; rw [if_neg (by omega)]; omega
  rw [show 256 * m = 2 * (2 * (2 * (2 * (2 * (2 * (2 * (2 * m))))))) by omega]
  simp only [crcN, h2]
theorem lo_hi (c : Nat) : c = c % 256 ^^^ 256 * (c / 256) := by
  apply Nat.eq_of_testBit_eq
  intro j
  rw [Nat.testBit_xor, show (256 : Nat) = 2 ^ 8 by decide, Nat.testBit_mod_two_pow, Nat.testBit_two_pow_mul, Nat.testBit_div_two_pow]
  by_cases hj : j < 8
  · simp [hj, show ¬ 8 ≤ j by omega]
  · simp [hj, show 8 ≤ j by omega, show j - 8 + 8 = j by omega]
theorem crcN_byte (n c : Nat) : crcN 8 (n ^^^ c) = crcB n (UInt8.ofNat c) ^^^ c / 256 := by
  unfold crcB
  rw [UInt8.toNat_ofNat', show (2 : Nat) ^ 8 = 256 by decide]
  conv => lhs; rw [lo_hi c]
  rw [← Nat.xor_assoc, crcN_xor, crcN_hi]
theorem addC_sumB (r c : Nat) (hc : c < 4294967296) : addC r (sumB c) = crcN 32 (r ^^^ c) := by
  rw [show (32 : Nat) = 8 + (8 + (8 + 8)) by decide, crcN_add, crcN_byte, crcN_add, crcN_byte, crcN_add, crcN_byte, crcN_byte]
  rw [show c / 256 / 256 = c / 65536 by omega, show c / 65536 / 256 = c / 16777216 by omega, show c / 16777216 / 256 = 0 by omega, Nat.xor_zero]
  rfl
theorem xor_not {r : Nat} (h : r < 4294967296) : r ^^^ (4294967295 - r) = 4294967295 := by
  apply Nat.eq_of_testBit_eq
  intro j
  rw [Nat.testBit_xor, show 4294967295 - r = 2 ^ 32 - (r + 1) by omega, Nat.testBit_two_pow_sub_succ (by omega), show (4294967295 : Nat) = 2 ^ 32 - 1 by decide, Nat.testBit_two_pow_sub_one]
  by_cases hj : j < 32
  · simp [hj]
  · have : r.testBit j = false := Nat.testBit_lt_two_pow (Nat.lt_of_lt_of_le (show r < 2 ^ 32 by omega) (Nat.pow_le_pow_right (by omega) (by omega)))
    simp [hj, this]
theorem open_sum {l : List UInt8} (h : openE l = 0) : addC 4294967295 l = crcN 32 4294967295 := by
  unfold openE at h
  split at h
  · omega
  · split at h
    · rename_i h4 hs
      have hr := addC_lt (l.take (l.length - 4)) (n := 4294967295) (by decide)
      rw [← hs]
      unfold sealB
      rw [addC_append, addC_sumB _ _ (sumC_lt _)]
      unfold sumC
      rw [xor_not hr]
    · omega

def xorsC (T : Nat) (ps : List Nat) : Nat := ps.foldr (fun p x => crcN (T - p) 1 ^^^ x) 0
theorem addC_flips (n : Nat) : ∀ (ps : List Nat) (l : List UInt8), (∀ p ∈ ps, p < 8 * l.length) → addC n (flipsB l ps) = addC n l ^^^ xorsC (8 * l.length) ps
  | [], l, _ => by show _ = _ ^^^ 0; rw [Nat.xor_zero]; rfl
  | p :: ps, l, h => by
    show addC n (flipsB (flipB l p) ps) = _
    have hp := h p List.mem_cons_self
    rw [addC_flips n ps (flipB l p) (fun q hq => by rw [flipB_len]; exact h q (List.mem_cons_of_mem _ hq)), addC_flip n hp, flipB_len]
    show _ = addC n l ^^^ (crcN (8 * l.length - p) 1 ^^^ xorsC (8 * l.length) ps)
    rw [Nat.xor_assoc]
theorem par_one (k : Nat) : par 32 (crcN k 1) = true := by rw [par_crcN k (by decide)]; decide
theorem crcN_one_lt (k : Nat) : crcN k 1 < 4294967296 := crcN_lt k (by decide)
theorem crcN_two {T p q : Nat} (hp : p < T) (hq : q < T) (hT : T ≤ 2147483647) (h : crcN (T - p) 1 = crcN (T - q) 1) : p = q := by
  have key : ∀ a b : Nat, a < b → b < T → crcN (T - a) 1 = crcN (T - b) 1 → False := by
    intro a b hab hb h
    rw [show T - a = (b - a) + (T - b) by omega, crcN_add] at h
    exact crcN_order (show 0 < b - a by omega) (by omega) (crcN_inj _ (crcN_one_lt _) (by decide) h)
  rcases Nat.lt_trichotomy p q with h1 | h1 | h1
  · exact (key p q h1 hq h).elim
  · exact h1
  · exact (key q p h1 hp h.symm).elim
/-- up to three bits that are turned in what is sealed are found -/
theorem open_flips {l : List UInt8} {ps : List Nat} (h : openE l = 0) (h3 : ps.length ≤ 3) (hb : ∀ p ∈ ps, p < 8 * l.length) (hM : 8 * l.length ≤ 2147483647) (h' : openE (flipsB l ps) = 0) : flipsB l ps = l := by
  have e := addC_flips 4294967295 ps l hb
  rw [open_sum h', open_sum h] at e
  have hx : xorsC (8 * l.length) ps = 0 := by
    have : crcN 32 4294967295 ^^^ crcN 32 4294967295 = crcN 32 4294967295 ^^^ (crcN 32 4294967295 ^^^ xorsC (8 * l.length) ps) := by rw [← e]
    rw [← Nat.xor_assoc, Nat.xor_self, Nat.zero_xor] at this
    exact this.symm
  match ps, h3, hb, hx with
  | [], _, _, _ => rfl
  | [p], _, hb, hx => exact absurd (congrArg (par 32) hx) (by show ¬ par 32 (_ ^^^ 0) = _; rw [Nat.xor_zero, par_one, par_zero]; decide)
  | [p, q], _, hb, hx =>
    have hx2 : crcN (8 * l.length - p) 1 ^^^ (crcN (8 * l.length - q) 1 ^^^ 0) = 0 := hx
    rw [Nat.xor_zero] at hx2
    have hp := hb p List.mem_cons_self
    have hpq := crcN_two hp (hb q (List.mem_cons_of_mem _ List.mem_cons_self)) hM (xor_zero_eq hx2)
    subst hpq
    exact flipB_flipB hp
  | [p, q, r], _, hb, hx => exact absurd (congrArg (par 32) hx) (by show ¬ par 32 (_ ^^^ (_ ^^^ (_ ^^^ 0))) = _; rw [Nat.xor_zero, par_xor, par_xor, par_one, par_one, par_one, par_zero]; decide)
  | _ :: _ :: _ :: _ :: _, h3, _, _ => exact absurd h3 (by simp)

-- flips in rows of parts
theorem flipB_left {a b : List UInt8} {p : Nat} (h : p < 8 * a.length) : flipB (a ++ b) p = flipB a p ++ b := by
  have h8 : p / 8 < a.length := by omega
  unfold flipB
  rw [List.set_append_left _ _ h8]
  simp [List.getD, List.getElem?_append_left h8]
theorem flipB_right {a b : List UInt8} {p : Nat} (h : 8 * a.length ≤ p) : flipB (a ++ b) p = a ++ flipB b (p - 8 * a.length) := by
  have h8 : a.length ≤ p / 8 := by omega
  unfold flipB
  rw [List.set_append_right _ _ h8, show (p - 8 * a.length) / 8 = p / 8 - a.length by omega, show (p - 8 * a.length) % 8 = p % 8 by omega]
  simp [List.getD, List.getElem?_append_right h8]
/-- the flips that fall into a row's first T bits, and the others -/
theorem flips_split : ∀ (ps : List Nat) (a b : List UInt8), (∀ p ∈ ps, p < 8 * (a.length + b.length)) → ∃ p1 p2 : List Nat, flipsB (a ++ b) ps = flipsB a p1 ++ flipsB b p2 ∧ p1.length ≤ ps.length ∧ p2.length ≤ ps.length ∧ (∀ p ∈ p1, p < 8 * a.length) ∧ (∀ p ∈ p2, p < 8 * b.length)
  | [], a, b, _ => ⟨[], [], rfl, Nat.le_refl _, Nat.le_refl _, fun _ h => by simp at h, fun _ h => by simp at h⟩
  | p :: ps, a, b, h => by
    have hp := h p List.mem_cons_self
    have hr := fun q hq => h q (List.mem_cons_of_mem p hq)
    by_cases h1 : p < 8 * a.length
    · obtain ⟨p1, p2, e, l1, l2, b1, b2⟩ := flips_split ps (flipB a p) b (by rw [flipB_len]; exact hr)
      rw [flipB_len] at b1
      refine ⟨p :: p1, p2, ?_, by simp; omega, by simp; omega, ?_, b2⟩
      · show flipsB (flipB (a ++ b) p) ps = flipsB (flipB a p) p1 ++ _
        rw [flipB_left h1, e]
      · intro q hq
        rcases List.mem_cons.1 hq with rfl | hq
        · exact h1
        · exact b1 q hq
    · obtain ⟨p1, p2, e, l1, l2, b1, b2⟩ := flips_split ps a (flipB b (p - 8 * a.length)) (by rw [flipB_len]; exact hr)
      rw [flipB_len] at b2
      refine ⟨p1, (p - 8 * a.length) :: p2, ?_, by simp; omega, by simp; omega, b1, ?_⟩
      · show flipsB (flipB (a ++ b) p) ps = _ ++ flipsB (flipB b (p - 8 * a.length)) p2
        rw [flipB_right (by omega), e]
      · intro q hq
        rcases List.mem_cons.1 hq with rfl | hq
        · omega
        · exact b2 q hq
end Go.Proofs.Ytfmjgkfblejknaa

/-
  Frames with bits turned: the plain law.
-/
namespace Go.Proofs.Ytfmjgkfblejknaa
open Go.RowKit
set_option linter.unusedVariables false
set_option linter.unusedSimpArgs false

theorem flipB_mid {pre F post : List UInt8} {p : Nat} (h : p < 8 * F.length) : flipB (pre ++ (F ++ post)) (8 * pre.length + p) = pre ++ (flipB F p ++ post) := by
  rw [flipB_right (by omega), show 8 * pre.length + p - 8 * pre.length = p by omega, flipB_left h]
theorem flips_mid : ∀ (ps : List Nat) (pre F post : List UInt8), (∀ p ∈ ps, p < 8 * F.length) → flipsB (pre ++ (F ++ post)) (ps.map (8 * pre.length + ·)) = pre ++ (flipsB F ps ++ post)
  | [], _, _, _, _ => rfl
  | p :: ps, pre, F, post, h => by
    show flipsB (flipB (pre ++ (F ++ post)) (8 * pre.length + p)) _ = _
    rw [flipB_mid (h p List.mem_cons_self), flips_mid ps pre (flipB F p) post (fun q hq => by rw [flipB_len]; exact h q (List.mem_cons_of_mem _ hq))]
    rfl
theorem headN_head (k : Int) (n : Nat) (hn : n ≤ 60000) (x : List UInt8) : headN (sealB (headB k n) ++ x) = n := by
  have g : ∀ j, j < 4 → (sealB (headB k n) ++ x).getD j 0 = (headB k n).getD j 0 := by
    intro j hj
    unfold sealB
    simp only [List.getD_eq_getElem?_getD]
    rw [List.append_assoc, List.getElem?_append_left (by simpa [headB] using hj)]
  unfold headN
  rw [g 1 (by omega), g 2 (by omega), g 3 (by omega)]
  have e1 : (n / 65536) % 256 * 65536 + (n / 256) % 256 * 256 + n % 256 = n := by omega
  simpa [headB, List.getD] using e1
theorem takeR_bad1 {r : List UInt8} (h : openE (r.take 8) ≠ 0) : (takeR r).1 ≠ 0 := by
  unfold takeR
  split
  · decide
  · exact h
theorem takeR_bad2 {r : List UInt8} (h : openE ((r.drop 8).take (headN r + 4)) ≠ 0) : (takeR r).1 ≠ 0 := by
  unfold takeR
  split
  · decide
  · split
    · assumption
    · split
      · decide
      · split
        · decide
        · exact h
/-- a frame with up to three bits turned is told as it was, or refused -/
theorem frame_flips (k : Int) (l post : List UInt8) (hl : l.length ≤ 60000) {ps : List Nat} (h3 : ps.length ≤ 3) (hb : ∀ p ∈ ps, p < 8 * (frameB k l).length) :
    flipsB (frameB k l) ps = frameB k l ∨ (takeR (flipsB (frameB k l) ps ++ post)).1 ≠ 0 := by
  have hH : (sealB (headB k l.length)).length = 8 := by rw [sealB_len]; rfl
  have hB := sealB_len l
  have hf : frameB k l = sealB (headB k l.length) ++ sealB l := rfl
  rw [frameB_len] at hb
  obtain ⟨p1, p2, e, l1, l2, b1, b2⟩ := flips_split ps (sealB (headB k l.length)) (sealB l) (fun p hp => by have := hb p hp; omega)
  rw [hf, e]
  have fl1 := flipsB_len p1 (sealB (headB k l.length))
  have fl2 := flipsB_len p2 (sealB l)
  by_cases o1 : openE (flipsB (sealB (headB k l.length)) p1) = 0
  · have e1 := open_flips (openE_seal _) (by omega) b1 (by omega) o1
    rw [e1]
    by_cases o2 : openE (flipsB (sealB l) p2) = 0
    · left
      rw [open_flips (openE_seal _) (by omega) b2 (by omega) o2]
    · right
      apply takeR_bad2
      rw [List.append_assoc, headN_head k _ hl]
      have e3 : (sealB (headB k l.length) ++ (flipsB (sealB l) p2 ++ post)).drop 8 = flipsB (sealB l) p2 ++ post := by rw [← hH, List.drop_left]
      have e4 : (flipsB (sealB l) p2 ++ post).take (l.length + 4) = flipsB (sealB l) p2 := by rw [← hB, ← fl2, List.take_left]
      rw [e3, e4]
      exact o2
  · right
    apply takeR_bad1
    have e3 : (flipsB (sealB (headB k l.length)) p1 ++ flipsB (sealB l) p2 ++ post).take 8 = flipsB (sealB (headB k l.length)) p1 := by
      rw [List.append_assoc, show (8 : Nat) = (flipsB (sealB (headB k l.length)) p1).length by rw [fl1, hH], List.take_left]
    rw [e3]
    exact o1
/-- rows of frames, of which one has up to three bits turned -/
theorem split_flips (L : List (List UInt8)) (hL : ∀ x ∈ L, x.length ≤ 60000) {m : Nat} (hm : m < L.length) {ps : List Nat} (h3 : ps.length ≤ 3) (hb : ∀ p ∈ ps, p < 8 * (endAt L (m + 1) - endAt L m)) :
    (flipsB (frsB 0 L) (ps.map (8 * endAt L m + ·)) = frsB 0 L ∧ splitL (flipsB (frsB 0 L) (ps.map (8 * endAt L m + ·))) = (kindsL 0 L.length, L, endAt L L.length, 0)) ∨
    (flipsB (frsB 0 L) (ps.map (8 * endAt L m + ·)) ≠ frsB 0 L ∧ ∃ e, e ≠ 0 ∧ splitL (flipsB (frsB 0 L) (ps.map (8 * endAt L m + ·))) = (kindsL 0 m, L.take m, endAt L m, e)) := by
  have hsplit : frsB 0 L = frsB 0 (L.take m) ++ (frameB (kindOf m : Int) L[m] ++ frsB (m + 1) (L.drop (m + 1))) := by
    conv => lhs; rw [← List.take_append_drop m L]
    rw [frsB_append, List.length_take, Nat.min_eq_left (by omega), Nat.zero_add, List.drop_eq_getElem_cons hm, frsB]
  have hend : (frsB 0 (L.take m)).length = endAt L m := rfl
  have hlen := frameB_len (kindOf m : Int) L[m]
  have hb2 : ∀ p ∈ ps, p < 8 * (frameB (kindOf m : Int) L[m]).length := by
    intro p hp
    have := hb p hp
    rw [endAt_snoc L hm] at this
    omega
  have hmid := flips_mid ps (frsB 0 (L.take m)) (frameB (kindOf m : Int) L[m]) (frsB (m + 1) (L.drop (m + 1))) hb2
  rw [← hsplit, hend] at hmid
  rcases frame_flips (kindOf m : Int) L[m] (frsB (m + 1) (L.drop (m + 1))) (hL _ (List.getElem_mem hm)) h3 hb2 with he | he
  · left
    rw [he, ← hsplit] at hmid
    rw [hmid]
    refine ⟨rfl, ?_⟩
    have hfull : (frsB 0 L).length = endAt L L.length := by unfold endAt; rw [List.take_length]
    have h := split_cut L L.length (endAt L L.length) hL (Nat.le_refl _) (Nat.le_refl _) (fun h => absurd h (by omega)) (Nat.le_refl _)
    rw [← hfull, List.take_length, List.take_length, if_pos rfl] at h
    rw [h, hfull]
  · right
    have hfl := flipsB_len ps (frameB (kindOf m : Int) L[m])
    generalize flipsB (frameB (kindOf m : Int) L[m]) ps = F at *
    generalize frsB (m + 1) (L.drop (m + 1)) = post at *
    rw [hmid]
    have hsp : splitL (frsB 0 (L.take m) ++ (F ++ post)) = (kindsL 0 m, L.take m, endAt L m, (takeR (F ++ post)).1) := by
      have hlm : (L.take m).length = m := by rw [List.length_take]; omega
      have hmm : m ≤ (frsB 0 (L.take m)).length := by
        have : ∀ n, n ≤ L.length → n ≤ endAt L n := by
          intro n
          induction n with
          | zero => intro _; omega
          | succ m ih => intro hm; have := ih (by omega); rw [endAt_snoc L (show m < L.length by omega)]; omega
        exact this m (by omega)
      have hgo := splitG_frs (frsB 0 (L.take m) ++ (F ++ post)) (L.take m) 0 ((frsB 0 (L.take m) ++ (F ++ post)).length + 1 - m) [] (F ++ post) [] [] rfl (fun x hx => hL x (List.mem_of_mem_take hx))
      have hle : (frsB 0 (L.take m) ++ (F ++ post)).length = endAt L m + F.length + post.length := by rw [List.length_append, List.length_append, hend]; omega
      rw [hend] at hmm
      rw [hlm, List.length_nil, Nat.zero_add, List.nil_append, List.nil_append, hend, hle, show endAt L m + F.length + post.length + 1 - m + m = endAt L m + F.length + post.length + 1 by omega] at hgo
      unfold splitL
      rw [hle, hgo]
      obtain ⟨f, hf⟩ : ∃ f, endAt L m + F.length + post.length + 1 - m = f + 1 := ⟨endAt L m + F.length + post.length - m, by omega⟩
      rw [hf]
      unfold splitG
      have hd : (frsB 0 (L.take m) ++ (F ++ post)).drop (endAt L m) = F ++ post := by rw [← hend, List.drop_left]
      rw [if_pos (by rw [hle]; omega), hd, if_neg he]
    refine ⟨fun h => he ?_, _, he, hsp⟩
    rw [h] at hsp
    have hfull : (frsB 0 L).length = endAt L L.length := by unfold endAt; rw [List.take_length]
    have h := split_cut L L.length (endAt L L.length) hL (Nat.le_refl _) (Nat.le_refl _) (fun h => absurd h (by omega)) (Nat.le_refl _)
    rw [← hfull, List.take_length, List.take_length, if_pos rfl, hsp] at h
    exact congrArg (fun x => x.2.2.2) h
end Go.Proofs.Ytfmjgkfblejknaa

/-
  The walk of clepsydraref1.Split.
-/
namespace Go.Proofs.Ytfmjgkfblejknaa
open Go.RowKit
set_option linter.unusedVariables false
set_option linter.unusedSimpArgs false

end Go.Proofs.Ytfmjgkfblejknaa

/-
  []byte(s): a new slice that holds a text's bytes.
-/
namespace Go.Proofs.Ytfmjgkfblejknaa
open Go.RowKit
set_option linter.unusedVariables false
set_option linter.unusedSimpArgs false

theorem conv_b (w : World) (l : List UInt8) : ∃ c w', (convert 9 24 (.string (tx l))).run Try.prog w = .ok (.slice (some ⟨w.heap.size, 0, none⟩) l.length c) w' ∧ l.length ≤ c ∧
    Rd w' w'.heap.size 1 (some ⟨w.heap.size, 0, none⟩) l.length (bvs l) ∧ Up w w' ∧ (∀ j, j < l.length → w'.frozen? ⟨w.heap.size, j, none⟩ = false) ∧ w.heap.size < w'.heap.size := by
  have hrun := Lib.run_convert_string_bytes (P := Try.prog) w 9 24 5 (tx l) Try.underlying9 bytesT.ut Try.underlying5
  rw [tx_size] at hrun
  refine ⟨_, _, hrun, grownCap_ge w _ 0 _, ⟨by rw [bvs_length, Nat.mul_one], fun _ => ⟨w.heap.size, 0, rfl, by rw [Lib.bytesWorld_size]; omega, fun j u hu => ?_⟩⟩, ⟨rfl, rfl, rfl, by rw [Lib.bytesWorld_size]; omega, fun k hk => Lib.bytesWorld_at_old w _ _ k hk⟩, fun j hj => ?_, by rw [Lib.bytesWorld_size]; omega⟩
  · rw [Nat.zero_add]
    have hj := (List.getElem?_eq_some_iff.1 hu).1
    rw [bvs_length] at hj
    rw [Lib.bytesWorld_cell w _ _ j (by rw [tx_size]; exact hj), tx_list, ← hu]
    simp [bvs, bv, hj, List.getD]
  · have hge := grownCap_ge w l.length 0 5
    unfold World.frozen?
    rw [Lib.bytesWorld_at_new]
    have hs : j < (Lib.bytesCells w 5 (tx l)).size := by
      unfold Lib.bytesCells
      simp [tx_size]; omega
    simp
    omega
end Go.Proofs.Ytfmjgkfblejknaa

/-
  []byte(s) whose bytes are written: the new block itself.
-/
namespace Go.Proofs.Ytfmjgkfblejknaa
open Go.RowKit
set_option linter.unusedVariables false
set_option linter.unusedSimpArgs false

/-- the block g begins with these bytes; none of them is shut -/
def Beg (g : Nat) (l : List UInt8) (w : World) : Prop := ∃ (cs : Array Value) (t : TypeId) (fz : Nat × Nat), w.heap[g]? = some (.cells cs t fz) ∧ l.length ≤ cs.size ∧ l.length ≤ fz.1 ∧ ∀ j, j < l.length → cs[j]? = some (bv (l.getD j 0))
theorem Beg.sta {g : Nat} {l : List UInt8} {w w' : World} {Y : Nat → Prop} (h : Beg g l w) (hs : Rg.Sta Y w w') (hy : Y g) : Beg g l w' := by
  obtain ⟨cs, t, fz, hh, h2, h3⟩ := h
  exact ⟨cs, t, fz, (hs.block g (Array.getElem?_eq_some_iff.1 hh).1 hy).trans hh, h2, h3⟩
theorem Beg.up {g : Nat} {l : List UInt8} {w w' : World} (h : Beg g l w) (hu : Up w w') : Beg g l w' := by
  obtain ⟨cs, t, fz, hh, h2, h3⟩ := h
  exact ⟨cs, t, fz, (hu.block g (Array.getElem?_eq_some_iff.1 hh).1).trans hh, h2, h3⟩
theorem Beg.cell {g : Nat} {l : List UInt8} {w : World} (h : Beg g l w) {j : Nat} (hj : j < l.length) : w.cell? ⟨g, j, none⟩ = some (bv (l.getD j 0)) := by
  obtain ⟨cs, t, fz, hh, h2, h4, h3⟩ := h
  rw [cell_of_row w g j cs t fz hh, h3 j hj]
theorem Beg.free {g : Nat} {l : List UInt8} {w : World} (h : Beg g l w) {j : Nat} (hj : j < l.length) : w.frozen? ⟨g, j, none⟩ = false := by
  obtain ⟨cs, t, fz, hh, h2, h4, h3⟩ := h
  simp [World.frozen?, hh]
  omega
theorem Beg.lt {g : Nat} {l : List UInt8} {w : World} (h : Beg g l w) : g < w.heap.size := by
  obtain ⟨cs, t, fz, hh, h2, h3⟩ := h
  exact (Array.getElem?_eq_some_iff.1 hh).1
theorem Beg.rd {g : Nat} {l : List UInt8} {w : World} (h : Beg g l w) : Rd w w.heap.size 1 (some ⟨g, 0, none⟩) l.length (bvs l) := by
  refine ⟨by rw [bvs_length, Nat.mul_one], fun _ => ⟨g, 0, rfl, h.lt, fun j u hu => ?_⟩⟩
  have hj := (List.getElem?_eq_some_iff.1 hu).1
  rw [bvs_length] at hj
  rw [Nat.zero_add, h.cell hj, ← hu]
  simp [bvs, bv, hj, List.getD]
theorem Beg.set {g : Nat} {l : List UInt8} {w : World} (h : Beg g l w) {j : Nat} (hj : j < l.length) (x : UInt8) : Beg g (l.set j x) (w.setCell ⟨g, j, none⟩ (bv x)) := by
  obtain ⟨cs, t, fz, hh, h2, h4, h3⟩ := h
  refine ⟨cs.setIfInBounds j (bv x), t, fz, by simp [World.setCell, Array.getElem?_modify, hh], by simp; exact h2, by simp; exact h4, fun i hi => ?_⟩
  rw [List.length_set] at hi
  by_cases hij : j = i
  · subst hij
    rw [Array.getElem?_setIfInBounds_self_of_lt (by omega)]
    simp [List.getD, hj]
  · rw [Array.getElem?_setIfInBounds_ne hij, h3 i hi]
    simp [List.getD, List.getElem?_set_ne hij]
theorem conv_beg (w : World) (l : List UInt8) : ∃ c w', (convert 9 24 (.string (tx l))).run Try.prog w = .ok (.slice (some ⟨w.heap.size, 0, none⟩) l.length c) w' ∧ l.length ≤ c ∧
    Beg w.heap.size l w' ∧ Up w w' := by
  have hrun := Lib.run_convert_string_bytes (P := Try.prog) w 9 24 5 (tx l) Try.underlying9 bytesT.ut Try.underlying5
  rw [tx_size] at hrun
  refine ⟨_, _, hrun, grownCap_ge w _ 0 _, ?_, ⟨rfl, rfl, rfl, by rw [Lib.bytesWorld_size]; omega, fun k hk => Lib.bytesWorld_at_old w _ _ k hk⟩⟩
  have hge := grownCap_ge w l.length 0 5
  have hs : l.length ≤ (Lib.bytesCells w 5 (tx l)).size := by
    unfold Lib.bytesCells
    simp [tx_size]
  refine ⟨_, _, _, Lib.bytesWorld_at_new w _ _, hs, hs, fun j hj => ?_⟩
  have hc := Lib.bytesWorld_cell w 5 (tx l) j (by rw [tx_size]; exact hj)
  rw [tx_list] at hc
  rw [cell_of_row _ _ _ _ _ _ (Lib.bytesWorld_at_new w _ _)] at hc
  exact hc
end Go.Proofs.Ytfmjgkfblejknaa

/-
  Rows of items that are rows of the call's own.
-/
namespace Go.Proofs.Ytfmjgkfblejknaa
open Go.RowKit
set_option linter.unusedVariables false
set_option linter.unusedSimpArgs false

/-- each of the rows is a row of its own -/
def RwOwn (w : World) (base : Nat) (rs : List Rw) : Prop := ∀ r ∈ rs, OwnI w base r.A r.n r.c r.l
theorem RwOwn.nil (w : World) (base : Nat) : RwOwn w base [] := fun r hr => by cases hr
theorem RwOwn.ok {w : World} {base : Nat} {rs : List Rw} (h : RwOwn w base rs) : RwOk w rs := fun r hr => ⟨Rd.own (h r hr), own_cap (h r hr)⟩
theorem RwOwn.snoc {w : World} {base : Nat} {rs : List Rw} (h : RwOwn w base rs) {A : Option Addr} {n c : Nat} {l : List It} (hr : OwnI w base A n c l) : RwOwn w base (rs ++ [⟨A, n, c, l⟩]) := fun r hr' => by
  rcases List.mem_append.1 hr' with h1 | h1
  · exact h r h1
  · simp at h1; subst h1; exact hr
theorem RwOwn.up {w w' : World} {base : Nat} {rs : List Rw} (h : RwOwn w base rs) (hu : Up w w') : RwOwn w' base rs := fun r hr => own_up (h r hr) hu
theorem RwOwn.base {w : World} {base base' : Nat} {rs : List Rw} (h : RwOwn w base rs) (hb : base' ≤ base) : RwOwn w base' rs := fun r hr => own_base (h r hr) hb
theorem rwv_len (rs : List Rw) : (rwv rs).length = rs.length := by simp [rwv]
theorem rwl_len (rs : List Rw) : (rwl rs).length = rs.length := by simp [rwl]
theorem rwv_snoc (rs : List Rw) (r : Rw) : rwv (rs ++ [r]) = rwv rs ++ [r.v] := by simp [rwv]
theorem rwl_snoc (rs : List Rw) (r : Rw) : rwl (rs ++ [r]) = rwl rs ++ [r.l] := by simp [rwl]
theorem rwv_one (rs : List Rw) : ∀ u ∈ rwv rs, u.oneCell' = true := fun u hu => by
  obtain ⟨r, _, rfl⟩ := List.mem_map.1 hu
  rfl
theorem Rd.rlen {w : World} {B n : Nat} {A : Option Addr} {rs : List Rw} (h : Rd w B 1 A n (rwv rs)) : n = rs.length := by have := h.1; rw [rwv_len, Nat.mul_one] at this; exact this.symm
/-- the value of row k -/
theorem Rd.row_at {w : World} {B n : Nat} {A : Option Addr} {rs : List Rw} (h : Rd w B 1 A n (rwv rs)) {k : Nat} (hk : k < n) : ∃ b o r, A = some ⟨b, o, none⟩ ∧ b < B ∧ rs[k]? = some r ∧ w.cell? ⟨b, o + k, none⟩ = some (.slice r.A r.n r.c) := by
  obtain ⟨b, o, rfl, hb, hc⟩ := h.2 (by omega)
  have hl := h.rlen
  have hk2 : k < rs.length := by omega
  exact ⟨b, o, rs[k], rfl, hb, List.getElem?_eq_getElem hk2, hc k _ (by simp [rwv, hk2, Rw.v])⟩
end Go.Proofs.Ytfmjgkfblejknaa

/-
  Frames one behind the other, folded: as Split has them, and one by one. Plain laws.
-/
namespace Go.Proofs.Ytfmjgkfblejknaa
open Go.RowKit
set_option linter.unusedVariables false
set_option linter.unusedSimpArgs false

section
variable {σ : Type} (step : σ → Nat → List UInt8 → Option σ)
/-- one by one: a torn frame ends it, any other error is none -/
def seqF (l : List UInt8) : Nat → Nat → σ → Option (σ × Nat)
  | 0, k, s => some (s, k)
  | f + 1, k, s => if k < l.length then
      (if (takeR (l.drop k)).1 = 0 then (match step s (takeR (l.drop k)).2.1 (takeR (l.drop k)).2.2.1 with | none => none | some s' => seqF l f (k + (takeR (l.drop k)).2.2.2) s')
       else if (takeR (l.drop k)).1 = 4 then some (s, k) else none)
    else some (s, k)
def foldF : σ → List Nat → List (List UInt8) → Option σ
  | s, k :: ks, b :: bs => match step s k b with | none => none | some s' => foldF s' ks bs
  | s, _, _ => some s
theorem splitG_acc (l : List UInt8) : ∀ (f k : Nat) (ks : List Nat) (bs : List (List UInt8)), splitG l f k ks bs = (ks ++ (splitG l f k [] []).1, bs ++ (splitG l f k [] []).2.1, (splitG l f k [] []).2.2.1, (splitG l f k [] []).2.2.2)
  | 0, k, ks, bs => by simp [splitG]
  | f + 1, k, ks, bs => by
    unfold splitG
    by_cases h1 : k < l.length
    · rw [if_pos h1, if_pos h1]
      by_cases h2 : (takeR (l.drop k)).1 = 0
      · rw [if_pos h2, if_pos h2, splitG_acc l f _ (ks ++ _) (bs ++ _), splitG_acc l f _ ([] ++ _) ([] ++ _)]
        simp
      · rw [if_neg h2, if_neg h2]; simp
    · rw [if_neg h1, if_neg h1]; simp
theorem seq_split (l : List UInt8) : ∀ (f k : Nat) (s : σ), seqF step l f k s = (if (splitG l f k [] []).2.2.2 = 0 ∨ (splitG l f k [] []).2.2.2 = 4 then (foldF step s (splitG l f k [] []).1 (splitG l f k [] []).2.1).map (fun x => (x, (splitG l f k [] []).2.2.1)) else none)
  | 0, k, s => by simp [seqF, splitG, foldF]
  | f + 1, k, s => by
    unfold seqF splitG
    by_cases h1 : k < l.length
    · simp only [if_pos h1]
      by_cases h2 : (takeR (l.drop k)).1 = 0
      · simp only [if_pos h2]
        rw [splitG_acc l f]
        simp only [List.nil_append, List.singleton_append, foldF]
        cases hs : step s (takeR (l.drop k)).2.1 (takeR (l.drop k)).2.2.1 with
        | none => simp
        | some s' => simp only []; exact seq_split l f _ s'
      · simp only [if_neg h2]
        by_cases h3 : (takeR (l.drop k)).1 = 4
        · rw [if_pos h3, if_pos (.inr h3)]; simp [foldF]
        · rw [if_neg h3, if_neg (by omega)]
    · simp only [if_neg h1]
      simp [foldF]
theorem foldF_append : ∀ (ks ks' : List Nat) (bs bs' : List (List UInt8)) (s : σ), ks.length = bs.length → foldF step s (ks ++ ks') (bs ++ bs') = (foldF step s ks bs).bind fun s' => foldF step s' ks' bs'
  | [], ks', [], bs', s, _ => rfl
  | k :: ks, ks', b :: bs, bs', s, h => by
    simp only [List.cons_append, foldF]
    cases step s k b with
    | none => rfl
    | some s' => exact foldF_append ks ks' bs bs' s' (by simpa using h)
theorem foldF_snoc {ks : List Nat} {bs : List (List UInt8)} {k : Nat} {b : List UInt8} {s s' : σ} (h : ks.length = bs.length) (hs : foldF step s ks bs = some s') : foldF step s (ks ++ [k]) (bs ++ [b]) = step s' k b := by
  rw [foldF_append step ks [k] bs [b] s h, hs]
  simp only [Option.bind_some, foldF]
  cases step s' k b <;> rfl
/-- what has failed stays so -/
theorem foldF_take_none {ks : List Nat} {bs : List (List UInt8)} {s : σ} (j : Nat) (h : ks.length = bs.length) (hn : foldF step s (ks.take j) (bs.take j) = none) : foldF step s ks bs = none := by
  have h2 := foldF_append step (ks.take j) (ks.drop j) (bs.take j) (bs.drop j) s (by simp [h])
  rw [List.take_append_drop, List.take_append_drop] at h2
  rw [h2, hn]; rfl
/-- the fold over what stands whole behind what was put before -/
theorem takeR_bd {r : List UInt8} (h : (takeR r).1 = 0) : 0 < (takeR r).2.2.2 := by have := (takeR_ok h).1; omega
theorem seqF_more (l : List UInt8) : ∀ (f f' k : Nat) (s : σ), l.length - k < f → l.length - k < f' → seqF step l f k s = seqF step l f' k s
  | 0, _, k, s, h, _ => absurd h (Nat.not_lt_zero _)
  | _ + 1, 0, k, s, _, h => absurd h (Nat.not_lt_zero _)
  | f + 1, f' + 1, k, s, h, h' => by
    unfold seqF
    by_cases h1 : k < l.length
    · rw [if_pos h1, if_pos h1]
      by_cases h2 : (takeR (l.drop k)).1 = 0
      · rw [if_pos h2, if_pos h2]
        have hb := takeR_bd h2
        cases step s (takeR (l.drop k)).2.1 (takeR (l.drop k)).2.2.1 with
        | none => rfl
        | some s' => exact seqF_more l f f' _ s' (by omega) (by omega)
      · rw [if_neg h2, if_neg h2]
    · rw [if_neg h1, if_neg h1]
end
theorem takeR_bl (r : List UInt8) : (takeR r).2.2.1.length ≤ r.length := by
  unfold takeR
  repeat' split
  all_goals first | exact Nat.zero_le _ | (simp only [List.length_take, List.length_drop]; omega)
theorem splitG_body (l : List UInt8) : ∀ (f k : Nat), ∀ b ∈ (splitG l f k [] []).2.1, b.length ≤ l.length
  | 0, k, b, hb => by simp [splitG] at hb
  | f + 1, k, b, hb => by
    unfold splitG at hb
    by_cases h1 : k < l.length
    · rw [if_pos h1] at hb
      by_cases h2 : (takeR (l.drop k)).1 = 0
      · rw [if_pos h2, splitG_acc l f] at hb
        simp only [List.nil_append, List.singleton_append, List.mem_cons] at hb
        rcases hb with e | hb
        · rw [e]
          have := takeR_bl (l.drop k)
          rw [List.length_drop] at this
          omega
        · exact splitG_body l f _ b hb
      · rw [if_neg h2] at hb; simp at hb
    · rw [if_neg h1] at hb; simp at hb
theorem splitL_body (l : List UInt8) : ∀ b ∈ (splitL l).2.1, b.length ≤ l.length := splitG_body l _ _
theorem splitG_lens (l : List UInt8) : ∀ (f k : Nat), (splitG l f k [] []).1.length = (splitG l f k [] []).2.1.length ∧ (splitG l f k [] []).1.length ≤ f
  | 0, k => by simp [splitG]
  | f + 1, k => by
    unfold splitG
    by_cases h1 : k < l.length
    · rw [if_pos h1]
      by_cases h2 : (takeR (l.drop k)).1 = 0
      · rw [if_pos h2, splitG_acc l f]
        have ih := splitG_lens l f (k + (takeR (l.drop k)).2.2.2)
        simp only [List.nil_append, List.singleton_append, List.length_cons]
        omega
      · rw [if_neg h2]; simp
    · rw [if_neg h1]; simp
theorem splitL_lens (l : List UInt8) : (splitL l).1.length = (splitL l).2.1.length ∧ (splitL l).1.length ≤ l.length + 1 := splitG_lens l _ _
end Go.Proofs.Ytfmjgkfblejknaa

/-
  Batches: plain words.
-/
namespace Go.Proofs.Ytfmjgkfblejknaa
open Go.RowKit
set_option linter.unusedVariables false
set_option linter.unusedSimpArgs false

/-- a batch's error -/
def batE (l : List It) : Nat := if l.length = 0 then 1 else if bytesE l ≠ 0 then bytesE l else if 60000 < (itemsB l).length then 2 else 0
def batB (l : List It) : List UInt8 := if batE l = 0 then frameB 1 (itemsB l) else []
theorem batE_ok {l : List It} (h : batE l = 0) : 0 < l.length ∧ bytesE l = 0 ∧ (itemsB l).length ≤ 60000 ∧ l.length ≤ 2000 ∧ l.all okB = true := by
  unfold batE at h
  split at h
  · cases h
  · split at h
    · omega
    · split at h
      · cases h
      · rename_i h1 h2 h3
        have h4 : bytesE l = 0 := by omega
        refine ⟨by omega, h4, by omega, ?_⟩
        unfold bytesE at h4
        split at h4
        · cases h4
        · split at h4
          · exact ⟨by omega, by assumption⟩
          · cases h4
theorem itemsB_two (l : List It) (h : l.length ≤ 2000) : (itemsB l).length ≤ 64010 := by
  have h1 := numB_ten (n := l.length) (by omega)
  have h2 : ∀ q : List It, (q.flatMap itB).length ≤ 32 * q.length := fun q => by
    induction q with
    | nil => simp
    | cons i q ih => have := itB_len i; simp only [List.flatMap_cons, List.length_append, List.length_cons]; omega
  have h3 := h2 l
  unfold itemsB
  rw [List.length_append]
  omega
theorem bytesE_le {l : List It} (h : bytesE l = 0) : l.length ≤ 2000 := by
  unfold bytesE at h
  split at h
  · cases h
  · omega
end Go.Proofs.Ytfmjgkfblejknaa

/-
  Logs of batches: plain laws.
-/
namespace Go.Proofs.Ytfmjgkfblejknaa
open Go.RowKit
set_option linter.unusedVariables false
set_option linter.unusedSimpArgs false

section
variable {σ : Type} (step : σ → Nat → List UInt8 → Option σ)
theorem seqF_stepG (l : List UInt8) {f k : Nat} {s : σ} (h : k < l.length) : seqF step l (f + 1) k s = (if (takeR (l.drop k)).1 = 0 then (match step s (takeR (l.drop k)).2.1 (takeR (l.drop k)).2.2.1 with | none => none | some s' => seqF step l f (k + (takeR (l.drop k)).2.2.2) s')
       else if (takeR (l.drop k)).1 = 4 then some (s, k) else none) := by
  conv => lhs; unfold seqF
  rw [if_pos h]
  all_goals rfl
theorem seqF_stepB (l : List UInt8) {f k : Nat} {s : σ} (h : k < l.length) : seqF step l (f + 1) k s = (if (takeR (l.drop k)).1 = 0 then (step s (takeR (l.drop k)).2.1 (takeR (l.drop k)).2.2.1).bind fun s' => seqF step l f (k + (takeR (l.drop k)).2.2.2) s'
       else if (takeR (l.drop k)).1 = 4 then some (s, k) else none) := by
  rw [seqF_stepG step l h]
  cases step s (takeR (l.drop k)).2.1 (takeR (l.drop k)).2.2.1 <;> rfl
theorem seqF_stopG (l : List UInt8) {f k : Nat} {s : σ} (h : l.length ≤ k) : seqF step l f k s = some (s, k) := by
  cases f with
  | zero => rfl
  | succ f => unfold seqF; rw [if_neg (by omega)]
end
/-- a log with one frame more -/
def stepL (s : List (List It)) (k : Nat) (b : List UInt8) : Option (List (List It)) :=
  if k = 1 ∧ (readL b).1 = 0 ∧ 0 < (readL b).2.length then some (s ++ [(readL b).2]) else none
/-- what Replay tells -/
def replL (l : List UInt8) : Option (List (List It) × Nat) := seqF stepL l (l.length + 1) 0 []
theorem repl_split (l : List UInt8) : replL l = if (splitL l).2.2.2 ≠ 0 ∧ (splitL l).2.2.2 ≠ 4 then none else (foldF stepL [] (splitL l).1 (splitL l).2.1).map fun s => (s, (splitL l).2.2.1) := by
  unfold replL
  rw [seq_split]
  have hs : splitG l (l.length + 1) 0 [] [] = splitL l := rfl
  rw [hs]
  by_cases h : (splitL l).2.2.2 = 0 ∨ (splitL l).2.2.2 = 4
  · rw [if_pos h, if_neg (by omega)]
  · rw [if_neg h, if_pos (by omega)]
theorem itsL_len3 : ∀ (k : Nat) (acc : List It) (l : List UInt8), (itsL k acc l).2.1.length ≤ acc.length + k
  | 0, acc, l => by simp [itsL]
  | k + 1, acc, l => by
    unfold itsL; split
    · have := itsL_len3 k (acc ++ [(oneL l).2.1]) (oneL l).2.2
      rw [List.length_append, List.length_singleton] at this; omega
    · simp
theorem readL_len3 (l : List UInt8) : (readL l).2.length ≤ 2000 := by
  unfold readL
  split
  · simp
  · split
    · simp
    · split
      · simp
      · split
        · have := itsL_len3 (takeL l).1 [] (l.drop (takeL l).2.1)
          simp only [List.length_nil] at this ⊢; omega
        · simp
section
variable {σ : Type} (step : σ → Nat → List UInt8 → Option σ)
/-- what each step keeps holds of what the fold comes to -/
theorem seqF_inv (l : List UInt8) (P : σ → Nat → Prop) (hP : ∀ s s' k kd b d, P s k → step s kd b = some s' → 12 ≤ d → P s' (k + d)) :
    ∀ (f k : Nat) (s : σ), P s k → ∀ r, seqF step l f k s = some r → P r.1 r.2 ∧ (k ≤ l.length → r.2 ≤ l.length)
  | 0, k, s, h, r, e => by
    injection e with e
    subst e
    exact ⟨h, id⟩
  | f + 1, k, s, h, r, e => by
    by_cases hk : k < l.length
    · rw [seqF_stepB step l hk] at e
      by_cases h0 : (takeR (l.drop k)).1 = 0
      · rw [if_pos h0] at e
        obtain ⟨h1, h2, -⟩ := takeR_ok h0
        rw [List.length_drop] at h2
        cases hs : step s (takeR (l.drop k)).2.1 (takeR (l.drop k)).2.2.1 with
        | none => rw [hs] at e; cases e
        | some s' =>
          rw [hs] at e
          have ih := seqF_inv l P hP f _ s' (hP _ _ _ _ _ _ h hs h1) r e
          exact ⟨ih.1, fun _ => ih.2 (by omega)⟩
      · rw [if_neg h0] at e
        by_cases h4 : (takeR (l.drop k)).1 = 4
        · rw [if_pos h4] at e
          injection e with e
          subst e
          exact ⟨h, id⟩
        · rw [if_neg h4] at e; cases e
    · rw [seqF_stopG step l (by omega)] at e
      injection e with e
      subst e
      exact ⟨h, id⟩
end
/-- what Replay tells is not long -/
theorem replL_bd {l : List UInt8} {r : List (List It) × Nat} (h : replL l = some r) : r.1.length ≤ r.2 ∧ r.2 ≤ l.length ∧ ∀ q ∈ r.1, q.length ≤ 2000 := by
  have h1 := seqF_inv stepL l (fun s k => s.length ≤ k ∧ ∀ q ∈ s, q.length ≤ 2000) (fun s s' k kd b d hs he hd => by
    unfold stepL at he
    split at he
    · injection he with he
      subst he
      refine ⟨by rw [List.length_append, List.length_singleton]; omega, fun q hq => ?_⟩
      rcases List.mem_append.1 hq with hq | hq
      · exact hs.2 q hq
      · rw [List.mem_singleton] at hq
        subst hq
        exact readL_len3 b
    · cases he) (l.length + 1) 0 [] ⟨Nat.le_refl _, fun q hq => by cases hq⟩ r h
  exact ⟨h1.1.1, h1.2 (Nat.zero_le _), h1.1.2⟩
/-- the log of batches -/
def logB (g : List (List It)) : List UInt8 := g.flatMap batB
def goodL (l : List (List It)) : List (List It) := l.filter fun q => batE q == 0
def endL (g : List (List It)) (n : Nat) : Nat := (logB (g.take n)).length
theorem goodL_ok {l : List (List It)} : ∀ q ∈ goodL l, batE q = 0 := fun q hq => by
  have := (List.mem_filter.1 hq).2
  simpa using this
theorem batB_frame {q : List It} (h : batE q = 0) : batB q = frameB ((1 : Nat) : Int) (itemsB q) ∧ (itemsB q).length ≤ 60000 := by
  obtain ⟨-, -, h3, -, -⟩ := batE_ok h
  unfold batB
  rw [if_pos h]
  exact ⟨rfl, h3⟩
theorem batB_len {q : List It} (h : batE q = 0) : 12 ≤ (batB q).length ∧ (batB q).length ≤ 60012 := by
  obtain ⟨h1, h2⟩ := batB_frame h
  rw [h1, frameB_len]; omega
theorem logB_append (a b : List (List It)) : logB (a ++ b) = logB a ++ logB b := by simp [logB]
theorem logB_cons (q : List It) (g : List (List It)) : logB (q :: g) = batB q ++ logB g := by simp [logB]
theorem logB_one (q : List It) : logB [q] = batB q := by simp [logB]
theorem logB_len (g : List (List It)) (h : ∀ q ∈ g, batE q = 0) : 12 * g.length ≤ (logB g).length ∧ (logB g).length ≤ 60012 * g.length := by
  induction g with
  | nil => simp [logB]
  | cons q g ih =>
    have h1 := ih (fun x hx => h x (List.mem_cons_of_mem _ hx))
    have h2 := batB_len (h q (List.mem_cons_self ..))
    have e : logB (q :: g) = batB q ++ logB g := by simp [logB]
    rw [e, List.length_append, List.length_cons]
    omega
theorem stepL_bat (s : List (List It)) {q : List It} (h : batE q = 0) : stepL s 1 (itemsB q) = some (s ++ [q]) := by
  obtain ⟨h1, h2, -, -, -⟩ := batE_ok h
  have h3 := readL_row [] h2
  rw [List.append_nil] at h3
  have h3 : readL (itemsB q) = (0, q) := h3
  unfold stepL
  rw [h3, if_pos ⟨rfl, rfl, h1⟩]
/-- whole batches are gone over -/
theorem seq_logs : ∀ (g : List (List It)) (pre T : List UInt8) (f : Nat) (s : List (List It)), (∀ q ∈ g, batE q = 0) →
    seqF stepL (pre ++ (logB g ++ T)) (f + g.length) pre.length s = seqF stepL (pre ++ (logB g ++ T)) f (pre ++ logB g).length (s ++ g)
  | [], pre, T, f, s, _ => by simp [logB]
  | q :: g, pre, T, f, s, h => by
    have hq := h q (List.mem_cons_self ..)
    obtain ⟨hb, hl⟩ := batB_frame hq
    have e : pre ++ (logB (q :: g) ++ T) = (pre ++ batB q) ++ (logB g ++ T) := by simp [logB]
    have ih := seq_logs g (pre ++ batB q) T f (s ++ [q]) (fun x hx => h x (List.mem_cons_of_mem _ hx))
    have hlen := batB_len hq
    have hd : ((pre ++ batB q) ++ (logB g ++ T)).drop pre.length = frameB ((1 : Nat) : Int) (itemsB q) ++ (logB g ++ T) := by
      rw [List.append_assoc, List.drop_left, hb]
    have ht := takeR_frame 1 (itemsB q) (logB g ++ T) (by omega) (by omega) hl
    rw [e, List.length_cons, show f + (g.length + 1) = (f + g.length) + 1 by omega, seqF_stepG stepL _ (by rw [List.length_append, List.length_append]; omega), hd, ht]
    simp only [if_true, stepL_bat s hq]
    have hpl : pre.length + ((itemsB q).length + 12) = (pre ++ batB q).length := by rw [List.length_append, hb, frameB_len]
    rw [hpl, ih]
    have e1 : pre ++ logB (q :: g) = pre ++ batB q ++ logB g := by simp [logB]
    have e2 : s ++ [q] ++ g = s ++ (q :: g) := by simp
    rw [e1, e2]
theorem replL_more (l : List UInt8) {f : Nat} (h : l.length < f) : replL l = seqF stepL l f 0 [] := seqF_more stepL l _ _ 0 [] (by omega) (by omega)
theorem repl_logs (g : List (List It)) (T : List UInt8) (h : ∀ q ∈ g, batE q = 0) : replL (logB g ++ T) = seqF stepL (logB g ++ T) (T.length + 1) (logB g).length g := by
  have h1 := logB_len g h
  have h2 := seq_logs g [] T ((logB g ++ T).length + 1) [] h
  simp only [List.nil_append, List.length_nil] at h2
  rw [replL_more (logB g ++ T) (f := (logB g ++ T).length + 1 + g.length) (by omega), h2]
  exact seqF_more stepL _ _ _ _ _ (by rw [List.length_append]; omega) (by rw [List.length_append]; omega)
/-- a log tells its batches -/
theorem repl_all (g : List (List It)) (h : ∀ q ∈ g, batE q = 0) : replL (logB g) = some (g, (logB g).length) := by
  have h1 := repl_logs g [] h
  rw [List.append_nil] at h1
  rw [h1, seqF_stopG stepL _ (Nat.le_refl _)]
/-- what is torn behind whole batches ends it -/
theorem repl_torn (g : List (List It)) (T : List UInt8) (h : ∀ q ∈ g, batE q = 0) (hT : (takeR T).1 = 4) : replL (logB g ++ T) = some (g, (logB g).length) := by
  rw [repl_logs g T h]
  by_cases h0 : T.length = 0
  · have : T = [] := List.eq_nil_of_length_eq_zero h0
    subst this
    rw [seqF_stopG stepL _ (by simp)]
  · rw [seqF_stepG stepL _ (by rw [List.length_append]; omega), List.drop_left, hT, if_neg (by decide), if_pos rfl]
/-- what is spoilt behind whole batches spoils all -/
theorem repl_bad (g : List (List It)) (T : List UInt8) (h : ∀ q ∈ g, batE q = 0) (h0 : 0 < T.length) (hT : (takeR T).1 ≠ 0) (hT4 : (takeR T).1 ≠ 4) : replL (logB g ++ T) = none := by
  rw [repl_logs g T h, seqF_stepG stepL _ (by rw [List.length_append]; omega), List.drop_left, if_neg hT, if_neg hT4]
theorem endL_zero (g : List (List It)) : endL g 0 = 0 := by simp [endL, logB]
theorem endL_all (g : List (List It)) : endL g g.length = (logB g).length := by simp [endL]
theorem endL_snoc (g : List (List It)) {n : Nat} (h : n < g.length) : endL g (n + 1) = endL g n + (batB g[n]).length := by
  unfold endL
  rw [List.take_succ_eq_append_getElem h, logB_append, List.length_append, logB_one]
theorem logB_take (g : List (List It)) (n : Nat) : (logB g).take (endL g n) = logB (g.take n) ∧ (logB g).drop (endL g n) = logB (g.drop n) := by
  have e : logB g = logB (g.take n) ++ logB (g.drop n) := by rw [← logB_append, List.take_append_drop]
  unfold endL
  constructor
  · conv => lhs; rw [e]
    rw [List.take_left]
  · conv => lhs; rw [e]
    rw [List.drop_left]
theorem endL_le (g : List (List It)) (n : Nat) : endL g n ≤ (logB g).length := by
  have e : logB g = logB (g.take n) ++ logB (g.drop n) := by rw [← logB_append, List.take_append_drop]
  rw [e, List.length_append]; unfold endL; omega
theorem endL_mono (g : List (List It)) (n : Nat) : endL g n ≤ endL g (n + 1) := by
  by_cases h : n < g.length
  · rw [endL_snoc g h]; omega
  · unfold endL; rw [List.take_of_length_le (by omega), List.take_of_length_le (by omega)]; exact Nat.le_refl _
/-- a log that is cut -/
theorem repl_cut (g : List (List It)) (n k : Nat) (h : ∀ q ∈ g, batE q = 0) (hn : n ≤ g.length) (h1 : endL g n ≤ k) (h2 : n < g.length → k < endL g (n + 1)) (hk : k ≤ (logB g).length) :
    replL ((logB g).take k) = some (g.take n, endL g n) := by
  have hg : ∀ q ∈ g.take n, batE q = 0 := fun q hq => h q (List.mem_of_mem_take hq)
  have e : (logB g).take k = logB (g.take n) ++ (logB (g.drop n)).take (k - endL g n) := by
    conv => lhs; rw [← List.take_append_drop n g, logB_append]
    rw [List.take_append, List.take_of_length_le h1]
    rfl
  rw [e]
  by_cases hnl : n < g.length
  · have h3 := h2 hnl
    rw [endL_snoc g hnl] at h3
    have hq := h g[n] (List.getElem_mem hnl)
    obtain ⟨hb, hl⟩ := batB_frame hq
    have e2 : logB (g.drop n) = batB g[n] ++ logB (g.drop (n + 1)) := by
      rw [List.drop_eq_getElem_cons hnl, logB_cons]
    rw [e2, List.take_append_of_le_length (by omega)]
    refine repl_torn _ _ hg ?_
    rw [hb] at h3 ⊢
    exact takeR_cut (by omega) (by omega) hl (by omega)
  · have hne : n = g.length := by omega
    subst hne
    rw [List.drop_length]
    have := repl_all (g.take g.length) hg
    simpa [logB, endL] using this
/-- a frame with up to three bits turned is as it was, or spoilt -/
theorem takeR_bad1' {r : List UInt8} (h8 : 8 ≤ r.length) (h : openE (r.take 8) ≠ 0) : (takeR r).1 ≠ 0 ∧ (takeR r).1 ≠ 4 := by
  unfold takeR
  rw [if_neg (by omega), if_pos h]
  refine ⟨h, ?_⟩
  show openE (r.take 8) ≠ 4
  unfold openE at h ⊢
  rw [List.length_take, if_neg (by omega)] at h ⊢
  split
  · decide
  · decide
theorem takeR_bad2' {r : List UInt8} (h8 : openE (r.take 8) = 0) (hl : headN r + 12 ≤ r.length) (hk : ¬ ((r.getD 0 0).toNat < 1 ∨ 100 < (r.getD 0 0).toNat ∨ 60000 < headN r)) (h : openE ((r.drop 8).take (headN r + 4)) ≠ 0) : (takeR r).1 ≠ 0 ∧ (takeR r).1 ≠ 4 := by
  unfold takeR
  rw [if_neg (by omega), if_neg (by omega), if_neg hk, if_neg (by omega), if_pos h]
  refine ⟨h, ?_⟩
  show openE ((r.drop 8).take (headN r + 4)) ≠ 4
  unfold openE at h ⊢
  rw [List.length_take, List.length_drop, if_neg (by omega)] at h ⊢
  split
  · decide
  · decide
theorem frame_flips' (k : Nat) (l post : List UInt8) (hk1 : 1 ≤ k) (hk2 : k ≤ 100) (hl : l.length ≤ 60000) {ps : List Nat} (h3 : ps.length ≤ 3) (hb : ∀ p ∈ ps, p < 8 * (frameB (k : Int) l).length) :
    flipsB (frameB (k : Int) l) ps = frameB (k : Int) l ∨ ((takeR (flipsB (frameB (k : Int) l) ps ++ post)).1 ≠ 0 ∧ (takeR (flipsB (frameB (k : Int) l) ps ++ post)).1 ≠ 4) := by
  have hH : (sealB (headB (k : Int) l.length)).length = 8 := by rw [sealB_len]; rfl
  have hB := sealB_len l
  have hf : frameB (k : Int) l = sealB (headB (k : Int) l.length) ++ sealB l := rfl
  rw [frameB_len] at hb
  obtain ⟨p1, p2, e, l1, l2, b1, b2⟩ := flips_split ps (sealB (headB (k : Int) l.length)) (sealB l) (fun p hp => by have := hb p hp; omega)
  rw [hf, e]
  have fl1 := flipsB_len p1 (sealB (headB (k : Int) l.length))
  have fl2 := flipsB_len p2 (sealB l)
  by_cases o1 : openE (flipsB (sealB (headB (k : Int) l.length)) p1) = 0
  · have e1 := open_flips (openE_seal _) (by omega) b1 (by omega) o1
    rw [e1]
    by_cases o2 : openE (flipsB (sealB l) p2) = 0
    · left
      rw [open_flips (openE_seal _) (by omega) b2 (by omega) o2]
    · right
      have hN := headN_head (k : Int) l.length hl (flipsB (sealB l) p2 ++ post)
      have e8 : (sealB (headB (k : Int) l.length) ++ (flipsB (sealB l) p2 ++ post)).take 8 = sealB (headB (k : Int) l.length) := by rw [← hH, List.take_left]
      have g0 : ((sealB (headB (k : Int) l.length) ++ (flipsB (sealB l) p2 ++ post)).getD 0 0).toNat = k := by
        have : (sealB (headB (k : Int) l.length) ++ (flipsB (sealB l) p2 ++ post)).getD 0 0 = byteOf (k : Int) := by
          unfold sealB headB
          simp
        rw [this]; exact byteOf_nat k (by omega)
      rw [List.append_assoc]
      apply takeR_bad2'
      · rw [e8, openE_seal]
      · rw [hN, List.length_append, List.length_append]; omega
      · rw [g0, hN]; omega
      · rw [hN]
        have e3 : (sealB (headB (k : Int) l.length) ++ (flipsB (sealB l) p2 ++ post)).drop 8 = flipsB (sealB l) p2 ++ post := by rw [← hH, List.drop_left]
        have e4 : (flipsB (sealB l) p2 ++ post).take (l.length + 4) = flipsB (sealB l) p2 := by rw [← hB, ← fl2, List.take_left]
        rw [e3, e4]
        exact o2
  · right
    apply takeR_bad1'
    · rw [List.length_append, List.length_append]; omega
    · have e3 : (flipsB (sealB (headB (k : Int) l.length)) p1 ++ flipsB (sealB l) p2 ++ post).take 8 = flipsB (sealB (headB (k : Int) l.length)) p1 := by
        rw [List.append_assoc, show (8 : Nat) = (flipsB (sealB (headB (k : Int) l.length)) p1).length by rw [fl1, hH], List.take_left]
      rw [e3]
      exact o1
/-- a log of which one batch has up to three bits turned -/
theorem repl_flips (g : List (List It)) (h : ∀ q ∈ g, batE q = 0) {m : Nat} (hm : m < g.length) {ps : List Nat} (h3 : ps.length ≤ 3) (hb : ∀ p ∈ ps, p < 8 * (endL g (m + 1) - endL g m)) :
    flipsB (logB g) (ps.map (8 * endL g m + ·)) = logB g ∨ replL (flipsB (logB g) (ps.map (8 * endL g m + ·))) = none := by
  have hsplit : logB g = logB (g.take m) ++ (batB g[m] ++ logB (g.drop (m + 1))) := by
    conv => lhs; rw [← List.take_append_drop m g, logB_append]
    rw [List.drop_eq_getElem_cons hm, logB_cons]
  have hq := h g[m] (List.getElem_mem hm)
  obtain ⟨hbf, hl⟩ := batB_frame hq
  have hb2 : ∀ p ∈ ps, p < 8 * (batB g[m]).length := by
    intro p hp
    have := hb p hp
    rw [endL_snoc g hm] at this
    omega
  have hend : (logB (g.take m)).length = endL g m := rfl
  have hmid := flips_mid ps (logB (g.take m)) (batB g[m]) (logB (g.drop (m + 1))) hb2
  rw [← hsplit, hend] at hmid
  have hfl := flipsB_len ps (batB g[m])
  rw [hbf] at hmid hb2 hfl
  rcases frame_flips' 1 (itemsB g[m]) (logB (g.drop (m + 1))) (by omega) (by omega) hl h3 hb2 with he | ⟨he, he4⟩
  · left
    rw [he, ← hbf, ← hsplit] at hmid
    exact hmid
  · right
    rw [hmid]
    refine repl_bad _ _ (fun q hq => h q (List.mem_of_mem_take hq)) ?_ he he4
    rw [List.length_append, hfl, frameB_len]; omega
end Go.Proofs.Ytfmjgkfblejknaa
