/-
  Texts of this claim, joined: BlkW6, ItemLaw, FrameLaw, BlkLaw, OpenE, OpenR, FrameW9, FrameLaw2, Crc, FrameLaw3, BlkQ, Canon, FrameW11, Conv, FrameW12, BegC, OpenI, OpenIR, MsgW1, MsgW2, BlkCut3.
-/
import Derived.Lib.MinMax
import Derived.Deep.Slices
import Derived.Deep.Fields
import Derived.Lib.ConvBytes
import Derived.SizedLaws
import Derived.Test.YtijekbeofpaojaaZ3
/-
  The walks of law11's take (the document's answer of Take), of the document's Cut, of block.Find.
-/
namespace Go.Proofs.Ytijekbeofpaojaa
open Go.RowKit
set_option linter.unusedVariables false
set_option linter.unusedSimpArgs false

theorem openE_ne1 (l : List UInt8) : openE l ≠ 1 := by
  unfold openE
  split
  · omega
  · split <;> omega
theorem takeR_ne1 (r : List UInt8) : (takeR r).1 ≠ 1 := by
  unfold takeR
  repeat' split
  all_goals first | exact openE_ne1 _ | exact (by decide : (4 : Nat) ≠ 1) | exact (by decide : (3 : Nat) ≠ 1) | exact (by decide : (0 : Nat) ≠ 1)
theorem takeF_one {l : List UInt8} {at_ : Int} : (takeF l at_).1 = 1 ↔ (at_ < 0 ∨ (l.length : Int) < at_) := by
  unfold takeF
  split
  · exact ⟨fun _ => by assumption, fun _ => rfl⟩
  · rename_i h
    exact ⟨fun h1 => absurd h1 (takeR_ne1 _), fun h1 => absurd h1 h⟩
set_option maxRecDepth 100000 in
set_option maxHeartbeats 1600000 in
theorem ltake_any (l : List UInt8) (at_ : Int) (w : World) (hl : l.length ≤ 549755813888) :
    Calls Try.prog 16 #[.string (tx l), .int .i64 at_] w (TbPost (takeB l at_) w) := by
  have hz : (tx l).size = l.length := tx_size l
  have h1 := @takeF_one l at_
  obtain ⟨E, K, bd, nx, hT⟩ : ∃ E K bd nx, takeF l at_ = (E, K, bd, nx) := ⟨_, _, _, _, rfl⟩
  have hv : takeB l at_ = if E = 1 then (1, [], 0) else if E ≠ 0 ∨ K ≠ 2 then (9, [], 0) else if (readL bd).1 ≠ 0 ∨ bErr (readL bd).2 ≠ 0 then (9, [], 0) else (0, (readL bd).2, nx) := by
    unfold takeB; rw [hT]
  rw [hT] at h1
  have hbd : bd.length ≤ 549755813888 := by
    have h := takeF_len l at_
    rw [hT] at h
    exact Nat.le_trans h (by omega)
  have HV := Lib.hid hv
  have HT := Lib.hid hT
  have HBD := Lib.hid hbd
  clear hv hT hbd
  by_cases h0 : at_ < 0 ∨ (l.length : Int) < at_
  · have HNO : Hid (takeB l at_ = (1, [], 0)) := by show _ = _; rw [HV.out, if_pos (h1.2 h0)]
    clear HV HT h1
    rcases (by omega : at_ < 0 ∨ (¬ at_ < 0 ∧ (l.length : Int) < at_)) with h0 | ⟨h0, h2⟩
    · go_enter Try.func16, Try.ntmps16
      go_wp2_with fail
      refine bodyPost_ret (v := .tuple #[.slice none 0 0, .int .i64 0, .int .i64 ((1 : Nat) : Int)]) (by simp [results, Try.results16, go_sem]) rfl ?_
      exact TbPost.no HNO.out (Up.refl _)
    · go_enter Try.func16, Try.ntmps16
      go_wp2_with fail
      refine bodyPost_ret (v := .tuple #[.slice none 0 0, .int .i64 0, .int .i64 ((1 : Nat) : Int)]) (by simp [results, Try.results16, go_sem]) rfl ?_
      exact TbPost.no HNO.out (Up.refl _)
  · have h2 : ¬ at_ < 0 := by omega
    have h3 : ¬ (l.length : Int) < at_ := by omega
    have hE1 : E ≠ 1 := fun h => h0 (h1.1 h)
    clear h1 h0
    go_enter Try.func16, Try.ntmps16
    go_wp2_with fail
    refine (unframe_any l at_ w hl).mono ?_
    rintro e w3 ⟨rfl, hu3⟩
    rw [HT.out]
    (try dsimp only)
    by_cases hEK : E ≠ 0 ∨ K ≠ 2
    · have HNO : Hid (takeB l at_ = (9, [], 0)) := by show _ = _; rw [HV.out, if_neg hE1, if_pos hEK]
      by_cases hE0 : E = 0
      · have c2 : ((E : Int) != 0) = false := by simp [hE0]
        have c3 : ((K : Int) != 2) = true := by simp; omega
        clear HV HT hE0 hEK hE1
        go_wp2_with fail
        refine bodyPost_ret (v := .tuple #[.slice none 0 0, .int .i64 0, .int .i64 ((9 : Nat) : Int)]) (by simp [results, Try.results16, go_sem]) rfl ?_
        exact TbPost.no HNO.out hu3
      · have c2 : ((E : Int) != 0) = true := by simp; omega
        clear HV HT hE0 hEK hE1
        go_wp2_with fail
        refine bodyPost_ret (v := .tuple #[.slice none 0 0, .int .i64 0, .int .i64 ((9 : Nat) : Int)]) (by simp [results, Try.results16, go_sem]) rfl ?_
        exact TbPost.no HNO.out hu3
    · have c2 : ((E : Int) != 0) = false := by simp; omega
      have c3 : ((K : Int) != 2) = false := by simp; omega
      have HV2 : Hid (takeB l at_ = if (readL bd).1 ≠ 0 ∨ bErr (readL bd).2 ≠ 0 then (9, [], 0) else (0, (readL bd).2, nx)) := by show _ = _; rw [HV.out, if_neg hE1, if_neg hEK]
      have hq2 := readL_len2 bd
      clear HV HT hEK hE1
      go_wp2_with fail
      refine (rread_any bd w3 (by have := HBD.out; omega)).mono ?_
      rintro e w4 ⟨Q, qn, qc, rfl, hoQ, hu4⟩
      obtain ⟨qe, ql, hq⟩ : ∃ a b, readL bd = (a, b) := ⟨_, _, rfl⟩
      rw [hq] at hoQ HV2 hq2 ⊢
      (try dsimp only at hoQ HV2 hq2 ⊢)
      clear hq
      have hQ : Rd w4 w4.heap.size 5 Q qn (itcs ql) := Rd.own hoQ
      have hqc : qn ≤ qc := own_cap hoQ
      have hql := hQ.ilen
      have HQL := Lib.hid hql
      have hup4 := hu3.trans hu4
      have hq3 : qn ≤ 2000 := by omega
      clear hql hoQ
      by_cases hqe : qe = 0
      · have c4 : ((qe : Int) != 0) = false := by simp [hqe]
        go_wp2_with fail
        refine (rbmay_any Q qn qc ql w4 hQ (by omega)).mono ?_
        rintro e w5 ⟨rfl, hu5⟩
        obtain ⟨be, hbe⟩ : ∃ q, q = bErr ql := ⟨_, rfl⟩
        rw [← hbe]
        have HM := Lib.hid hbe
        clear hbe
        by_cases hb0 : be = 0
        · have HYES : Hid (takeB l at_ = (0, ql, nx)) := by
            show _ = _
            rw [HV2.out, if_neg (by
              rintro (h | h)
              · exact h hqe
              · exact h (HM.out.symm.trans hb0))]
          have c5 : ((be : Int) != 0) = false := by simp [hb0]
          clear HV2 hqe
          go_wp2_with fail
          refine bodyPost_ret (v := .tuple #[.slice Q qn qc, .int .i64 nx, .int .i64 0]) (by simp [results, Try.results16, go_sem]) rfl ?_
          unfold TbPost
          rw [HYES.out]
          exact ⟨Q, qn, qc, rfl, hQ.up hu5, hqc, hup4.trans hu5⟩
        · have HNO : Hid (takeB l at_ = (9, [], 0)) := by
            show _ = _
            rw [HV2.out, if_pos (.inr (fun h => hb0 (HM.out.trans h)))]
          have c5 : ((be : Int) != 0) = true := by simp; omega
          clear HV2 hqe hb0
          go_wp2_with fail
          refine bodyPost_ret (v := .tuple #[.slice none 0 0, .int .i64 0, .int .i64 ((9 : Nat) : Int)]) (by simp [results, Try.results16, go_sem]) rfl ?_
          exact TbPost.no HNO.out (hup4.trans hu5)
      · have HNO : Hid (takeB l at_ = (9, [], 0)) := by show _ = _; rw [HV2.out, if_pos (.inl hqe)]
        have c4 : ((qe : Int) != 0) = true := by simp; omega
        clear HV2 hqe
        go_wp2_with fail
        refine bodyPost_ret (v := .tuple #[.slice none 0 0, .int .i64 0, .int .i64 ((9 : Nat) : Int)]) (by simp [results, Try.results16, go_sem]) rfl ?_
        exact TbPost.no HNO.out hup4
/-- a row of items and what it holds -/
structure Rw where
  A : Option Addr
  n : Nat
  c : Nat
  l : List It
def Rw.v (r : Rw) : Value := .slice r.A r.n r.c
def rwv (rs : List Rw) : List Value := rs.map Rw.v
def rwl (rs : List Rw) : List (List It) := rs.map Rw.l
/-- each of the rows reads so -/
def RwOk (w : World) (rs : List Rw) : Prop := ∀ r ∈ rs, Rd w w.heap.size 5 r.A r.n (itcs r.l) ∧ r.n ≤ r.c
theorem RwOk.nil (w : World) : RwOk w [] := fun r hr => by cases hr
theorem RwOk.up {w w' : World} {rs : List Rw} (h : RwOk w rs) (hu : Up w w') : RwOk w' rs := fun r hr => ⟨(h r hr).1.up hu, (h r hr).2⟩
theorem RwOk.snoc {w : World} {rs : List Rw} (h : RwOk w rs) {A : Option Addr} {n c : Nat} {l : List It} (hr : Rd w w.heap.size 5 A n (itcs l)) (hc : n ≤ c) : RwOk w (rs ++ [⟨A, n, c, l⟩]) := fun r hr' => by
  rcases List.mem_append.1 hr' with h1 | h1
  · exact h r h1
  · simp at h1; subst h1; exact ⟨hr, hc⟩
/-- items in rows of q, k rows -/
def cutK (q : Nat) (l : List It) (k : Nat) : List (List It) := (List.range k).map fun j => (l.drop (j * q)).take q
theorem cutK_succ (q : Nat) (l : List It) (k : Nat) : cutK q l (k + 1) = cutK q l k ++ [(l.drop (k * q)).take q] := by simp [cutK, List.range_succ]
def cutL (q : Nat) (l : List It) : List (List It) := cutK q l (partsK q l.length)
def CutPost (q : Nat) (l : List It) (w : World) (e : Ending) (w' : World) : Prop :=
  ∃ (R : Option Addr) (m rc : Nat) (rs : List Rw), e = .returned (.slice R m rc) ∧ Rd w' w'.heap.size 1 R m (rwv rs) ∧ RwOk w' rs ∧ rwl rs = cutL q l ∧ Up w w'
theorem cut_to_i (W : World) (A : Option Addr) (n c i : Nat) (h1 : i ≤ c) :
    (Instr.slice 23 (.slice A n c) none (some (.int .i64 (i : Int))) none).run Try.prog W = .ok (.slice A i c) W := by
  rw [run_slice_h W 23 A n c (by rw [elem_i]; exact Try.underlying23) .i64 (i : Int) (by omega) (by omega), elem_i, sizeOf_i]
  have e4 : ∀ a : Addr, a.add 0 = a := fun a => by unfold Addr.add; simp
  simp [sliced, e4]
/-- how many rows a bound says -/
def mostQ (m : Int) : Nat := (min (max m 1) 100).toNat
theorem mostQ_bd (m : Int) : 1 ≤ mostQ m ∧ mostQ m ≤ 100 := by unfold mostQ; omega
theorem partsK_gt {q n k : Nat} (hq : 1 ≤ q) (h : k * q < n) : k + 1 ≤ partsK q n := by
  unfold partsK
  rw [Nat.le_div_iff_mul_le (by omega), Nat.succ_mul]
  omega
theorem partsK_end {q n k : Nat} (hq : 1 ≤ q) (h : n ≤ k * q) : partsK q n ≤ k := by
  unfold partsK
  refine Nat.le_of_lt_succ ((Nat.div_lt_iff_lt_mul (by omega)).2 ?_)
  rw [Nat.succ_mul]
  omega
theorem Rd.cuti {w : World} {B n c z : Nat} {A : Option Addr} {l : List It} (h : Rd w B 5 A n (itcs l)) (hz : z ≤ n) (hc : n ≤ c) : Rd w B 5 (cutA A c z 5) (n - z) (itcs (l.drop z)) := by
  have h1 := h.from_ hz hc
  rw [itcs_drop] at h1
  exact h1
theorem Rd.toi {w : World} {B n z : Nat} {A : Option Addr} {l : List It} (h : Rd w B 5 A n (itcs l)) (hz : z ≤ n) : Rd w B 5 A z (itcs (l.take z)) := by
  have h1 := h.to_ hz
  rw [itcs_take] at h1
  exact h1
set_option maxRecDepth 100000 in
set_option maxHeartbeats 1600000 in
theorem rcut_any (A : Option Addr) (n c : Nat) (m : Int) (l : List It) (w : World) (hr : Rd w w.heap.size 5 A n (itcs l)) (hnc : n ≤ c) (hn : n ≤ 1000000) (h1 : -9223372036854775808 ≤ m) (h2 : m ≤ 9223372036854775807) :
    Calls Try.prog 17 #[.slice A n c, .int .i64 m] w (CutPost (mostQ m) l w) := by
  have hl := hr.ilen
  have hq := mostQ_bd m
  obtain ⟨q, hqm⟩ : ∃ q, q = mostQ m := ⟨_, rfl⟩
  rw [← hqm] at hq ⊢
  obtain ⟨hq1, hq2⟩ := hq
  have hmn : min (max m 1) 100 = (q : Int) := by rw [hqm]; unfold mostQ; omega
  have HL := Lib.hid hl
  clear hl hqm
  have nil0 : ∀ w0, World.ownsRow w0 w.heap.size 23 1 (.slice none 0 0) 0 (rwv []) := fun w0 => World.ownsRow_nil _ _ _ _
  have NIL := Lib.hid nil0
  clear nil0
  go_enter Try.func17, Try.ntmps17
  go_wp2_with fail
  clear hmn
  go_loopw [0, 5] (fun lv ov wr => ∃ (k : Nat) (A1 : Option Addr) (n1 c1 : Nat) (R : Option Addr) (rc : Nat) (rs : List Rw), lv = .slice A1 n1 c1 ∧ ov = .slice R k rc ∧ n1 ≤ c1 ∧ k + n1 ≤ n ∧ n1 ≤ n - k * q ∧ n - k * q ≤ n1 ∧ Hid (k ≤ partsK q n) ∧ Rd w w.heap.size 5 A1 n1 (itcs (l.drop (k * q))) ∧ wr.ownsRow w.heap.size 23 1 (.slice R k rc) k (rwv rs) ∧ RwOk w rs ∧ Hid (rwl rs = cutK q l k) ∧ Up w wr) (fun lv _ _ => match lv with | .slice _ n1 _ => n1 | _ => 0)
  case atStart =>
    exact ⟨0, A, n, c, none, 0, [], rfl, rfl, hnc, by omega, by omega, by omega, Nat.zero_le _, by rw [Nat.zero_mul, List.drop_zero]; exact hr, NIL.out _, RwOk.nil _, rfl, Up.refl _⟩
  case round =>
    obtain ⟨k, A1, n1, c1, R, rc, rs, rfl, rfl, hc1, hkn, hn1, hn2, hkp, hrd, hown, hok, hcut, hu⟩ := hrel
    by_cases h0 : 0 < n1
    · have h0i : (0 : Int) < (n1 : Int) := by omega
      obtain ⟨z, hz⟩ : ∃ z, z = min q n1 := ⟨_, rfl⟩
      have hmn : min (q : Int) (n1 : Int) = (z : Int) := by omega
      have hz1 : 1 ≤ z := by omega
      have hz2 : z ≤ n1 := by omega
      have CT := fun W => cut_to_i W A1 n1 c1 z (by omega)
      have CF := fun W => cut_from_i W A1 n1 c1 z (by omega)
      have HZ := Lib.hid hz
      clear hz
      go_wp2_with (at_builtin; refine wpList_append_rd _ rowsT (news := [.slice A1 z c1]) (hown.alloc _) (Rd.blk1 (heap_alloc_new wr _)) (by simp [Value.oneCell']) (by omega) (by omega) (by simp; have := hu.size; omega) rfl rfl rfl rfl ?_; intro v5 w5 hown5 hg5 hat5)
      obtain ⟨V5, vc5, rfl⟩ := own_form hown5
      have hu6 : Up w w5 := (hu.alloc _).grown hg5 (fun g hg => (hown.lt g hg).1)
      go_roundw
      case rel =>
        refine ⟨k + 1, cutA A1 c1 z 5, n1 - z, c1 - z, V5, vc5, rs ++ [⟨A1, z, c1, (l.drop (k * q)).take q⟩], rfl, rfl, by omega, by omega, ?_, ?_, ?_, ?_, ?_, ?_, ?_, hu6⟩
        · rw [Nat.succ_mul]; omega
        · rw [Nat.succ_mul]; omega
        · exact partsK_gt hq1 (by omega)
        · have h := hrd.cuti hz2 hc1
          rw [List.drop_drop] at h
          have hll := HL.out
          have e : l.drop (k * q + z) = l.drop ((k + 1) * q) := by
            rw [Nat.succ_mul]
            have hzz := HZ.out
            rcases (by omega : z = q ∨ (z = n1 ∧ n1 ≤ q)) with h1 | ⟨h1, h2⟩
            · rw [h1]
            · rw [List.drop_eq_nil_of_le (by omega), List.drop_eq_nil_of_le (by omega)]
          rw [e] at h
          exact h
        · have e : rwv (rs ++ [⟨A1, z, c1, (l.drop (k * q)).take q⟩]) = rwv rs ++ [.slice A1 z c1] := by simp [rwv, Rw.v]
          rw [e]; exact hown5
        · have h := hrd.toi hz2
          have e : (l.drop (k * q)).take z = (l.drop (k * q)).take q := by
            have hzz := HZ.out
            have hll := HL.out
            rcases (by omega : z = q ∨ (z = n1 ∧ n1 ≤ q)) with h1 | ⟨h1, h2⟩
            · rw [h1]
            · rw [List.take_of_length_le (by rw [List.length_drop]; omega), List.take_of_length_le (by rw [List.length_drop]; omega)]
          rw [e] at h
          exact hok.snoc h (by omega)
        · show _ = _
          rw [cutK_succ, ← hcut.out]
          simp [rwl]
      case measure => show n1 - z < n1; omega
    · go_wp2_with fail
      go_ret
      have hkn' : k = partsK q n := Nat.le_antisymm hkp.out (partsK_end hq1 (by omega))
      refine ⟨R, k, rc, rs, rfl, Rd.own hown, hok.up hu, ?_, hu⟩
      unfold cutL
      rw [hcut.out, ← HL.out, hkn']
end Go.Proofs.Ytijekbeofpaojaa

/-
  Plain laws of items' bytes.
-/
namespace Go.Proofs.Ytijekbeofpaojaa
open Go.RowKit
set_option linter.unusedVariables false
set_option linter.unusedSimpArgs false

theorem ok_bd {i : It} (h : okB i = true) : 0 ≤ i.s.toInt ∧ i.s.toInt ≤ 255 ∧ 1 ≤ i.k.toInt ∧ i.k.toInt ≤ 2 := by
  simp only [okB, okZ, decide_eq_true_eq] at h; omega
theorem byteOf_val {z : Int} (h0 : 0 ≤ z) (h1 : z ≤ 255) : ((byteOf z).toNat : Int) = z := by
  unfold byteOf; simp; omega
theorem takesL_ok {k : Nat} {acc : List Nat} {x : Nat} {r : List UInt8} (hx : x < 18446744073709551616) : takesL (k + 1) acc (numB x ++ r) = takesL k (acc ++ [x]) r := by
  conv => lhs; unfold takesL
  rw [takeL_numB x r hx, if_pos rfl]
  simp
theorem mkIt_self {i : It} (h : okB i = true) : mkIt (byteOf i.s.toInt).toNat (byteOf i.k.toInt).toNat i.t.toNat i.v.toNat (signN i.x.toInt) = i := by
  obtain ⟨a1, a2, a3, a4⟩ := ok_bd h
  have s1 := byteOf_val a1 a2
  have k1 := byteOf_val (z := i.k.toInt) (by omega) (by omega)
  have hx : unsignZ (signN i.x.toInt) = i.x.toInt := unsign_sign _
  unfold mkIt
  rw [s1, k1, hx]
  simp
theorem oneL_it {i : It} (r : List UInt8) (h : okB i = true) : oneL (itB i ++ r) = (0, i, r) := by
  have hl : ¬ (itB i ++ r).length < 2 := by simp [itB]
  have hd : (itB i ++ r).drop 2 = numB i.t.toNat ++ (numB i.v.toNat ++ (numB (signN i.x.toInt) ++ r)) := by simp [itB]
  have h0 : (itB i ++ r).getD 0 0 = byteOf i.s.toInt := by simp [itB]
  have h1 : (itB i ++ r).getD 1 0 = byteOf i.k.toInt := by simp [itB]
  have ht : takesL 3 [] ((itB i ++ r).drop 2) = (0, [i.t.toNat, i.v.toNat, signN i.x.toInt], r) := by
    rw [hd, takesL_ok i.t.toNat_lt, takesL_ok i.v.toNat_lt, takesL_ok (signN_lt _ (i64_bd i.x).1 (i64_bd i.x).2)]; rfl
  unfold oneL
  rw [if_neg hl, ht, if_pos rfl, h0, h1]
  simp only [List.getD_cons_zero, List.getD_cons_succ]
  rw [mkIt_self h]
theorem takesL_nil {k : Nat} {acc : List Nat} {l : List UInt8} (h : (takeL l).2.2 ≠ 0) : (takesL (k + 1) acc l).1 ≠ 0 := by
  unfold takesL; rw [if_neg h]; exact h
theorem takes1_cut {x j k : Nat} {acc : List Nat} (hx : x < 18446744073709551616) (hj : j < (numB x).length) : (takesL (k + 1) acc ((numB x).take j)).1 ≠ 0 :=
  takesL_nil (by rw [takeL_cut hx hj]; decide)
theorem takes_step_cut {x j k : Nat} {acc : List Nat} {r : List UInt8} (hx : x < 18446744073709551616) (ih : ∀ j acc, j < r.length → (takesL k acc (r.take j)).1 ≠ 0) (hj : j < (numB x ++ r).length) : (takesL (k + 1) acc ((numB x ++ r).take j)).1 ≠ 0 := by
  by_cases hlt : j < (numB x).length
  · rw [List.take_append_of_le_length (by omega)]
    exact takes1_cut hx hlt
  · rw [List.take_append, List.take_of_length_le (by omega), takesL_ok hx]
    exact ih _ _ (by rw [List.length_append] at hj; omega)
theorem oneL_cut {i : It} {j : Nat} (hj : j < (itB i).length) : (oneL ((itB i).take j)).1 ≠ 0 := by
  unfold oneL
  by_cases h2 : ((itB i).take j).length < 2
  · rw [if_pos h2]; decide
  · rw [if_neg h2]
    have hj2 : 2 ≤ j := by rw [List.length_take] at h2; omega
    have hd : ((itB i).take j).drop 2 = (numB i.t.toNat ++ (numB i.v.toNat ++ numB (signN i.x.toInt))).take (j - 2) := by
      rw [List.drop_take]; rfl
    have hjl : j - 2 < (numB i.t.toNat ++ (numB i.v.toNat ++ numB (signN i.x.toInt))).length := by
      simp only [itB, List.length_cons] at hj; omega
    have hne : (takesL 3 [] (((itB i).take j).drop 2)).1 ≠ 0 := by
      rw [hd]
      refine takes_step_cut i.t.toNat_lt (fun j acc hj => ?_) hjl
      refine takes_step_cut i.v.toNat_lt (fun j acc hj => ?_) hj
      exact takes1_cut (signN_lt _ (i64_bd i.x).1 (i64_bd i.x).2) hj
    rw [if_neg hne]; exact hne
theorem itsL_ok : ∀ (l : List It) (acc : List It) (r : List UInt8), l.all okB = true → itsL l.length acc (l.flatMap itB ++ r) = (0, acc ++ l, r)
  | [], acc, r, _ => by simp [itsL]
  | i :: l, acc, r, h => by
    simp only [List.all_cons, Bool.and_eq_true] at h
    rw [List.length_cons, List.flatMap_cons, List.append_assoc]
    conv => lhs; unfold itsL
    rw [oneL_it _ h.1, if_pos rfl, itsL_ok l _ r h.2]
    simp
theorem itsL_cut : ∀ (l : List It) (acc : List It) (j : Nat), l.all okB = true → j < (l.flatMap itB).length → (itsL l.length acc ((l.flatMap itB).take j)).1 ≠ 0
  | [], _, j, _, hj => by simp at hj
  | i :: l, acc, j, h, hj => by
    simp only [List.all_cons, Bool.and_eq_true] at h
    rw [List.length_cons, List.flatMap_cons]
    by_cases hlt : j < (itB i).length
    · rw [List.take_append_of_le_length (by omega)]
      unfold itsL
      rw [if_neg (oneL_cut hlt)]
      exact oneL_cut hlt
    · rw [List.take_append, List.take_of_length_le (by omega)]
      conv => lhs; unfold itsL
      rw [oneL_it _ h.1, if_pos rfl]
      exact itsL_cut l _ _ h.2 (by rw [List.flatMap_cons, List.length_append] at hj; omega)
theorem may_all {l : List It} (h : bytesE l = 0) : l.length ≤ 2000 ∧ l.all okB = true := by
  unfold bytesE at h
  by_cases h1 : 2000 < l.length
  · rw [if_pos h1] at h; cases h
  · rw [if_neg h1] at h
    refine ⟨by omega, ?_⟩
    cases ha : l.all okB
    · rw [ha] at h; simp at h
    · rfl
theorem readL_row {l : List It} (r : List UInt8) (h : bytesE l = 0) : readL (itemsB l ++ r) = if r.length = 0 then (0, l) else (3, []) := by
  obtain ⟨h1, h2⟩ := may_all h
  have ht := takeL_numB l.length (l.flatMap itB ++ r) (by omega)
  have hi := itsL_ok l [] r h2
  unfold readL
  rw [show itemsB l ++ r = numB l.length ++ (l.flatMap itB ++ r) by simp [itemsB], ht]
  simp only [ne_eq, not_true, if_false, List.drop_left', hi, List.nil_append]
  rw [if_neg (by omega)]
  by_cases hr : r.length = 0
  · rw [if_pos ⟨hr, h2⟩, if_pos hr]
  · rw [if_neg (fun h => hr h.1), if_neg hr]
theorem readL_cut {l : List It} {j : Nat} (h : bytesE l = 0) (hj : j < (itemsB l).length) : (readL ((itemsB l).take j)).1 ≠ 0 := by
  obtain ⟨h1, h2⟩ := may_all h
  unfold readL
  by_cases hlt : j < (numB l.length).length
  · have e : (itemsB l).take j = (numB l.length).take j := by unfold itemsB; rw [List.take_append_of_le_length (by omega)]
    have hn : (takeL ((numB l.length).take j)).2.2 ≠ 0 := by rw [takeL_cut (by omega) hlt]; decide
    rw [e, if_pos hn]; exact hn
  · have e : (itemsB l).take j = numB l.length ++ (l.flatMap itB).take (j - (numB l.length).length) := by
      unfold itemsB; rw [List.take_append, List.take_of_length_le (by omega)]
    have hc := itsL_cut l [] (j - (numB l.length).length) h2 (by unfold itemsB at hj; rw [List.length_append] at hj; omega)
    rw [e, takeL_numB l.length _ (by omega)]
    simp only [ne_eq, not_true, if_false, List.drop_left']
    rw [if_neg (by omega), if_pos hc]
    exact hc
end Go.Proofs.Ytijekbeofpaojaa

/-
  Plain laws of frames; the walk of the laws' own test.
-/
namespace Go.Proofs.Ytijekbeofpaojaa
open Go.RowKit
set_option linter.unusedVariables false
set_option linter.unusedSimpArgs false

theorem openE_seal (l : List UInt8) : openE (sealB l) = 0 := by
  have h : (sealB l).length - 4 = l.length := by rw [sealB_len]; omega
  have h2 : (sealB l).take l.length = l := by unfold sealB; rw [List.take_left]
  unfold openE
  rw [if_neg (by rw [sealB_len]; omega), h, h2, if_pos rfl]
theorem openL_seal (l : List UInt8) : openL (sealB l) = l := by
  unfold openL
  rw [if_pos (openE_seal l), sealB_len, Nat.add_sub_cancel]
  unfold sealB; rw [List.take_left]
theorem byteOf_nat (k : Nat) (h : k < 256) : (byteOf (k : Int)).toNat = k := by
  unfold byteOf
  rw [show ((k : Int) % 256).toNat = k by omega]
  simp; omega
/-- a frame that stands at the beginning is taken -/
theorem takeR_frame (k : Nat) (l rest : List UInt8) (hk1 : 1 ≤ k) (hk2 : k ≤ 100) (hl : l.length ≤ 60000) : takeR (frameB (k : Int) l ++ rest) = (0, k, l, l.length + 12) := by
  have e : frameB (k : Int) l ++ rest = sealB (headB (k : Int) l.length) ++ (sealB l ++ rest) := by simp [frameB]
  have hh : (sealB (headB (k : Int) l.length)).length = 8 := by rw [sealB_len]; rfl
  have hlen : (frameB (k : Int) l ++ rest).length = 12 + l.length + rest.length := by rw [List.length_append, frameB_len]; omega
  have h8 : (frameB (k : Int) l ++ rest).take 8 = sealB (headB (k : Int) l.length) := by rw [e, ← hh, List.take_left]
  have hd : (frameB (k : Int) l ++ rest).drop 8 = sealB l ++ rest := by rw [e, ← hh, List.drop_left]
  have g : ∀ j, j < 4 → (frameB (k : Int) l ++ rest).getD j 0 = (headB (k : Int) l.length).getD j 0 := by
    intro j hj
    rw [e]
    unfold sealB
    simp only [List.getD_eq_getElem?_getD]
    rw [List.append_assoc, List.getElem?_append_left (by simpa [headB] using hj)]
  have hN : headN (frameB (k : Int) l ++ rest) = l.length := by
    unfold headN
    rw [g 1 (by omega), g 2 (by omega), g 3 (by omega)]
    have e1 : (l.length / 65536) % 256 * 65536 + (l.length / 256) % 256 * 256 + l.length % 256 = l.length := by omega
    simpa [headB, List.getD] using e1
  have h0 : ((frameB (k : Int) l ++ rest).getD 0 0).toNat = k := by rw [g 0 (by omega)]; exact byteOf_nat k (by omega)
  unfold takeR
  have ht : (sealB l ++ rest).take (l.length + 4) = sealB l := by rw [← sealB_len l, List.take_left]
  have ht2 : (sealB l ++ rest).take l.length = l := by unfold sealB; rw [List.append_assoc, List.take_left]
  rw [if_neg (by rw [hlen]; omega), h8, openE_seal, if_neg (by simp), h0, hN, if_neg (by omega), if_neg (by rw [hlen]; omega), hd, ht, openE_seal, if_neg (by simp), ht2]
theorem takeF_frame (b : List UInt8) (k : Nat) (l rest : List UInt8) (hk1 : 1 ≤ k) (hk2 : k ≤ 100) (hl : l.length ≤ 60000) : takeF (b ++ (frameB (k : Int) l ++ rest)) (b.length : Int) = (0, k, l, ((b.length + (l.length + 12) : Nat) : Int)) := by
  unfold takeF
  rw [if_neg (by simp; omega)]
  have e : (b ++ (frameB (k : Int) l ++ rest)).drop ((b.length : Int)).toNat = frameB (k : Int) l ++ rest := by simp
  rw [e, takeR_frame k l rest hk1 hk2 hl]
  simp

end Go.Proofs.Ytijekbeofpaojaa

/-
  Plain laws of blocks; the walk of law11's awake.
-/
namespace Go.Proofs.Ytijekbeofpaojaa.Rg
open Go Go.CheckFast Go.RowKit
section
variable {P : Program} {QN : Act → World → Prop} {X0 : Nat → Prop} {w0 : World} {S : World → Prop} {o : Oper} {rest : List Oper} {k : Nat} {Γ : List Ent} {b : Vs → Act} {out : List Out}
/-- opn, guarded and asked -/
theorem RK.gopn {g t : Nat} {x : Bool} (G : Value → World → Prop) (own : Value → Nat → Prop) (uses eats : List Nat)
    (hs : ∀ v w w', G v w → Sta (fun g => (g < w0.heap.size ∧ ¬ X0 g) ∨ own v g) w w' → G v w') (hg : o.guard = some (g, x)) (ht : ∀ vs, (b vs).tmps[t]? = some (.bool x))
    (h : ∀ vs w, Keeps X0 w0 w → S w → Fall Γ uses vs w → ∀ K : Act → World → Prop, Shut (∀ v w', G v w' → Keeps (fun g => ∃ p ∈ eats, Oof Γ p vs g) w w' → (∀ g, own v g → g < w'.heap.size ∧ (w.heap.size ≤ g ∨ ∃ p ∈ eats, Oof Γ p vs g)) → K ((b vs).put o.dst v) w') → o.wp P (b vs) w K (fun _ _ _ => False))
    (hr : RK P QN X0 w0 S rest (k + 1) (Γ ++ [⟨k, fun vs => G (vs k), fun vs => own (vs k)⟩]) (fun vs => (b vs).put o.dst (vs k)) out) : RK P QN X0 w0 S (o :: rest) k Γ b (⟨k, uses, eats, some (g, t), []⟩ :: out) :=
  .op (fun vs => G (vs k)) (fun vs => own (vs k)) uses eats [] (some (g, t)) (fun vs vs' he => by rw [he k List.mem_cons_self]; exact ⟨rfl, rfl⟩) (fun vs w w' hg hst => hs _ _ _ hg hst) (fun vs w hK hS hf => ⟨true, by simp only [Want, hg]; exact ⟨trivial, x, ht vs, by cases x <;> rfl⟩, fun K hKK => by
    rw [if_pos rfl]
    refine h vs w hK hS (Fall.mk hf) K (fun v w' h1 h2 h3 => hKK v w' ⟨?_, h2, fun g hg => h3 g ?_⟩)
    · show G (upd vs k v k) w'
      rw [upd_same]; exact h1
    · have hg' : own (upd vs k v k) g := hg
      rwa [upd_same] at hg'⟩) hr
/-- okU, guarded and asked -/
theorem RK.gokU {g t : Nat} {x : Bool} (uses : List Nat) {v : Value} (h : ∀ vs w, S w → Fall Γ uses vs w → (execOp (b vs).eval o).run P w = .ok (.value v) w) (hg : o.guard = some (g, x)) (ht : ∀ vs, (b vs).tmps[t]? = some (.bool x))
    (hr : RK P QN X0 w0 S rest (k + 1) Γ (fun vs => (b vs).put o.dst v) out) : RK P QN X0 w0 S (o :: rest) k Γ b (⟨k, uses, [], some (g, t), []⟩ :: out) :=
  .val v uses (some (g, t)) (fun vs w hK hS hf => ⟨true, .inl (by simp only [Want, hg]; exact ⟨trivial, x, ht vs, by cases x <;> rfl⟩), fun K hKK => by
    rw [if_pos rfl]
    unfold Oper.wp
    rw [h vs w hS (Fall.mk hf)]
    exact hKK.out w (Below.refl _ _)⟩) hr
end
end Go.Proofs.Ytijekbeofpaojaa.Rg
namespace Go.Proofs.Ytijekbeofpaojaa
open Go.RowKit
set_option linter.unusedVariables false
set_option linter.unusedSimpArgs false

def zit : It := ⟨0, 0, 0, 0, 0⟩
theorem zit_c : itc zit = [.int .i64 0, .int .i64 0, .int .u64 0, .int .u64 0, .int .i64 0] := by kernel_rfl
theorem zit_ok : okB zit = false := by decide +kernel
def zi (n : Nat) : Array Value := (itcs (List.replicate n zit)).toArray
theorem zi_made (n : Nat) : madeCells #[.int .i64 0, .int .i64 0, .int .u64 0, .int .u64 0, .int .i64 0] (n * 5) = zi n := by
  apply Array.ext'
  apply List.ext_getElem?
  intro q
  have hz : (zi n).toList = itcs (List.replicate n zit) := rfl
  rw [hz]
  by_cases hq : q < n * 5
  · have hk : q / 5 < (List.replicate n zit).length := by rw [List.length_replicate]; omega
    have h1 := itcs_at (List.replicate n zit) hk (j := q % 5) (by omega)
    rw [show q / 5 * 5 + q % 5 = q by omega] at h1
    rw [h1, List.getElem_replicate, zit_c]
    have h5 : q % 5 < 5 := by omega
    simp only [madeCells, Array.toList_map, Array.toList_range, List.getElem?_map, List.getElem?_range hq, Option.map_some]
    generalize q % 5 = j at h5
    match j, h5 with
    | 0, _ => rfl
    | 1, _ => rfl
    | 2, _ => rfl
    | 3, _ => rfl
    | 4, _ => rfl
  · rw [List.getElem?_eq_none (by simp [size_madeCells]; omega), List.getElem?_eq_none (by rw [itcs_length, List.length_replicate]; omega)]
theorem make_i (w : World) (n : Nat) (hn : n ≤ 1000000) : (Instr.makeSlice 23 (.int .i64 (n : Int)) (.int .i64 (n : Int))).run Try.prog w = .ok (.slice (some ⟨w.heap.size, 0, none⟩) n n) (w.alloc (.cells (zi n) 46)) := by
  obtain ⟨i, hi, hz, hs, hby⟩ := info_parts (P := Try.prog) (e := 46) (z := .agg #[.int .i64 0, .int .i64 0, .int .u64 0, .int .u64 0, .int .i64 0]) (size := 5) (bytes := 40) (by kernel_rfl)
  rw [run_make w _ _ i _ itemsT.ut hi hz .i64 .i64 (n : Int) (n : Int) (by omega) (Int.le_refl _) (by rw [hby]; omega) (by omega)]
  rw [hs, Int.toNat_natCast]
  exact congrArg (fun c => Result.ok (Value.slice (some ⟨w.heap.size, 0, none⟩) n n) (w.alloc (.cells c 46))) (zi_made n)
theorem zi_rd (w : World) (n : Nat) : Rd (w.alloc (.cells (zi n) 46)) (w.alloc (.cells (zi n) 46)).heap.size 5 (some ⟨w.heap.size, 0, none⟩) n (itcs (List.replicate n zit)) := by
  have := Rd.ilit_at w (List.replicate n zit) (zi n) 46 rfl rfl
  rwa [List.length_replicate] at this
/-- a block behind any bytes is taken as it was -/
theorem takeB_frame (b : List UInt8) {l : List It} (rest : List UInt8) (h : bErr l = 0) : takeB (b ++ (frameB 2 (itemsB l) ++ rest)) (b.length : Int) = (0, l, ((b.length + ((itemsB l).length + 12) : Nat) : Int)) := by
  obtain ⟨h1, h2, h3, h4, h5, h6⟩ := bErr_ok h
  have hle := itemsB_blk l h1
  have ht := takeF_frame b 2 (itemsB l) rest (by omega) (by omega) (by omega)
  have ht2 : takeF (b ++ (frameB 2 (itemsB l) ++ rest)) (b.length : Int) = (0, 2, itemsB l, ((b.length + ((itemsB l).length + 12) : Nat) : Int)) := ht
  have hq : readL (itemsB l) = (0, l) := by
    have h7 := readL_row [] h5
    rw [List.append_nil] at h7
    rw [h7]; rfl
  unfold takeB
  simp only [ht2, hq]
  rw [if_neg (by decide), if_neg (by decide), if_neg (by rintro (h | h); exact h rfl; exact h (by assumption))]
def itW : It := ⟨1, 2, 0, 2, 0⟩
theorem itW_c : itcs [itW] = [.int .i64 1, .int .i64 2, .int .u64 0, .int .u64 2, .int .i64 0] := rfl
theorem itW_err : bErr [itW] = 0 := by decide
set_option maxRecDepth 100000 in
set_option maxHeartbeats 4000000 in
theorem awake11_any (w : World) : Calls Try.prog 8 #[] w fun e w' => e = .returned (.bool true) ∧ Up w w' := by
  have hbl : blkL [] [itW] = frameB 2 (itemsB [itW]) := by unfold blkL; rw [if_pos itW_err]; rfl
  have htk : takeB (frameB 2 (itemsB [itW])) 0 = (0, [itW], (((frameB 2 (itemsB [itW])).length : Nat) : Int)) := by
    have h := takeB_frame [] [] itW_err
    rw [List.append_nil, List.nil_append] at h
    have hl := frameB_len 2 (itemsB [itW])
    rw [show (([] : List UInt8).length : Int) = 0 from rfl] at h
    rw [h, hl]
    simp
  have hflen : (frameB 2 (itemsB [itW])).length ≤ 4000 := by
    have h1 := frameB_len 2 (itemsB [itW])
    have h2 := itemsB_blk [itW] (by decide)
    omega
  have hp : ∃ w2 : World, w2 = w := ⟨w, rfl⟩
  have HBL := Lib.hid hbl
  have HTK := Lib.hid htk
  have HFL := Lib.hid hflen
  have HE := Lib.hid itW_err
  have he0 : bErr [] = 1 := by decide
  have HE0 := Lib.hid he0
  have hb0 : blkL [] [] = [] := by unfold blkL; rw [he0, if_neg (by decide)]
  have HB0 := Lib.hid hb0
  clear hbl htk hflen hp he0 hb0
  obtain ⟨w1, hw1⟩ : ∃ w1, w1 = (w.alloc (.cells #[.int .i64 1, .int .i64 2, .int .u64 0, .int .u64 2, .int .i64 0] 46)).alloc (.cells #[.int .i64 1, .int .i64 2, .int .u64 0, .int .u64 2, .int .i64 0] 46) := ⟨_, rfl⟩
  have hu1 : Up w w1 := by rw [hw1]; exact ((Up.refl w).alloc _).alloc _
  have hx1 : w1.heap[w.heap.size]? = some (.cells #[.int .i64 1, .int .i64 2, .int .u64 0, .int .u64 2, .int .i64 0] 46 (0, 0)) := by
    rw [hw1, Below.heap_alloc _ _ _ (by simp)]; exact heap_alloc_new w _
  have hr1 : Rd w1 w1.heap.size 5 (some ⟨w.heap.size + 1, 0, none⟩) 1 (itcs [itW]) := by
    rw [hw1]
    exact Rd.ilit_at (w.alloc (.cells #[.int .i64 1, .int .i64 2, .int .u64 0, .int .u64 2, .int .i64 0] 46)) [itW] #[.int .i64 1, .int .i64 2, .int .u64 0, .int .u64 2, .int .i64 0] 46 (World.size_alloc w _) itW_c.symm
  have HW := Lib.hid hw1
  clear hw1
  go_enter Try.func8, Try.ntmps8
  go_wp2_with fail
  rw [← HW.out]
  clear HW
  generalize w.heap.size + 1 = g2 at hr1 ⊢
  generalize w.heap.size = g1 at hx1 ⊢
  refine (bput_any none 0 0 [] (some ⟨g2, 0, none⟩) 1 1 [itW] w1 Rd.empty (by omega) hr1 (by omega)).mono ?_
  rintro e w2 ⟨B, bn, bc, rfl, hoB, hu2⟩
  rw [HE.out]
  rw [HBL.out] at hoB
  have hrB := hoB.rd
  have hbc := own_cap hoB
  have hbl := hrB.blen
  have HBN := Lib.hid hbl
  have hx2 := blk_up hu2 hx1
  have hup2 := hu1.trans hu2
  clear hbl hoB hr1 hx1 hu1 hu2
  go_wp2_with fail
  refine (btake_any B bn bc _ 0 w2 hrB (by have := HBN.out; have := HFL.out; omega) hbc).mono ?_
  rintro e w3 ⟨L, ln, lc, rfl, hL, hlc, hu3⟩
  rw [HTK.out, ← HBN.out] at hL ⊢
  (try dsimp only at hL ⊢)
  have hln : ln = 1 := hL.ilen
  subst hln
  have hx3 := blk_up hu3 hx2
  have hup3 := hup2.trans hu3
  clear hx2 hup2 hu3 hrB
  go_wp2_with fail
  refine (bput_any none 0 0 [] none 0 0 [] w3 Rd.empty (by omega) Rd.empty (by omega)).mono ?_
  rintro e w4 ⟨C, cn, cc', rfl, hoC, hu4⟩
  rw [HE0.out]
  have hx4 := blk_up hu4 hx3
  have hup4 := hup3.trans hu4
  have hL4 := hL.up hu4
  clear hx3 hup3 hu4 hL hoC
  obtain ⟨b, o, i, rfl, hbb, hi, c0, c1, c2, c3, c4⟩ := hL4.item_at (k := 0) (by omega)
  obtain rfl : itW = i := by simpa using hi
  simp only [Nat.zero_mul, Nat.add_zero] at c0 c1 c2 c3 c4
  have hS : ∀ W, Up w4 W → Up w4 W ∧ (W.cell? ⟨b, o, none⟩ = some (.int .i64 1) ∧ W.cell? ⟨b, o + 1, none⟩ = some (.int .i64 2) ∧ W.cell? ⟨b, o + 2, none⟩ = some (.int .u64 0) ∧ W.cell? ⟨b, o + 3, none⟩ = some (.int .u64 2) ∧ W.cell? ⟨b, o + 4, none⟩ = some (.int .i64 0)) ∧
      (W.cell? ⟨g1, 0, none⟩ = some (.int .i64 1) ∧ W.cell? ⟨g1, 1, none⟩ = some (.int .i64 2) ∧ W.cell? ⟨g1, 2, none⟩ = some (.int .u64 0) ∧ W.cell? ⟨g1, 3, none⟩ = some (.int .u64 2) ∧ W.cell? ⟨g1, 4, none⟩ = some (.int .i64 0)) := fun W h => by
    have hx5 := blk_up h hx4
    exact ⟨h, ⟨(h.cell (p := ⟨b, o, none⟩) hbb).trans c0, (h.cell (p := ⟨b, o + 1, none⟩) hbb).trans c1, (h.cell (p := ⟨b, o + 2, none⟩) hbb).trans c2, (h.cell (p := ⟨b, o + 3, none⟩) hbb).trans c3, (h.cell (p := ⟨b, o + 4, none⟩) hbb).trans c4⟩,
      blk_cell hx5 0, blk_cell hx5 1, blk_cell hx5 2, blk_cell hx5 3, blk_cell hx5 4⟩
  have MK : ∀ W : World, (Instr.makeSlice 23 (.int .i64 5) (.int .i64 5)).run Try.prog W = .ok (.slice (some ⟨W.heap.size, 0, none⟩) 5 5) (W.alloc (.cells (zi 5) 46)) := fun W => make_i W 5 (by omega)
  have hp3 : partsK 2 5 = 3 := rfl
  clear c0 c1 c2 c3 c4 hi
  go_wp2_with fail
  apply Rg.region_up _ (by kernel_rfl) (by kernel_rfl) hS
  · intro QN hQN
    iterate 3 (apply Rg.RK.ok; (· intro vs w1 hS; go_simp; with_reducible rfl); (· rfl); simp only [Act.put, List.setIfInBounds_toArray, List.set_cons_zero, List.set_cons_succ, Nat.reduceAdd])
    iterate 2 (apply Rg.RK.gok (t := 28); (· intro vs w1 hS; go_simp; with_reducible rfl); (· rfl); (· intro vs; rfl); simp only [Act.put, List.setIfInBounds_toArray, List.set_cons_zero, List.set_cons_succ, Nat.reduceAdd])
    iterate 2 (apply Rg.RK.ok; (· intro vs w1 hS; go_simp; with_reducible rfl); (· rfl); simp only [Act.put, List.setIfInBounds_toArray, List.set_cons_zero, List.set_cons_succ, Nat.reduceAdd])
    iterate 4 (apply Rg.RK.gok (t := 32); (· intro vs w1 hS; go_simp; with_reducible rfl); (· rfl); (· intro vs; rfl); simp only [Act.put, List.setIfInBounds_toArray, List.set_cons_zero, List.set_cons_succ, Nat.reduceAdd])
    iterate 2 (apply Rg.RK.ok; (· intro vs w1 hS; go_simp; with_reducible rfl); (· rfl); simp only [Act.put, List.setIfInBounds_toArray, List.set_cons_zero, List.set_cons_succ, Nat.reduceAdd])
    iterate 3 (apply Rg.RK.gok (t := 38); (· intro vs w1 hS; go_simp; with_reducible rfl); (· rfl); (· intro vs; rfl); simp only [Act.put, List.setIfInBounds_toArray, List.set_cons_zero, List.set_cons_succ, Nat.reduceAdd])
    iterate 2 (apply Rg.RK.ok; (· intro vs w1 hS; go_simp; with_reducible rfl); (· rfl); simp only [Act.put, List.setIfInBounds_toArray, List.set_cons_zero, List.set_cons_succ, Nat.reduceAdd])
    iterate 5 (apply Rg.RK.gok (t := 43); (· intro vs w1 hS; go_simp; with_reducible rfl); (· rfl); (· intro vs; rfl); simp only [Act.put, List.setIfInBounds_toArray, List.set_cons_zero, List.set_cons_succ, Nat.reduceAdd])
    iterate 2 (apply Rg.RK.ok; (· intro vs w1 hS; go_simp; with_reducible rfl); (· rfl); simp only [Act.put, List.setIfInBounds_toArray, List.set_cons_zero, List.set_cons_succ, Nat.reduceAdd])
    iterate 2 (apply Rg.RK.gok (t := 50); (· intro vs w1 hS; go_simp; with_reducible rfl); (· rfl); (· intro vs; rfl); simp only [Act.put, List.setIfInBounds_toArray, List.set_cons_zero, List.set_cons_succ, Nat.reduceAdd])
    iterate 2 (apply Rg.RK.ok; (· intro vs w1 hS; go_simp; with_reducible rfl); (· rfl); simp only [Act.put, List.setIfInBounds_toArray, List.set_cons_zero, List.set_cons_succ, Nat.reduceAdd])
    apply Rg.RK.gopn (t := 54) (Sl 5 (itcs (List.replicate 5 zit))) Rg.ob [] []
    · exact fun v W1 W2 h hs => h.sta hs
    · rfl
    · intro vs; rfl
    · intro vs w5 hK hS hf K hKK
      go_simp
      exact hKK.out _ _ ⟨some ⟨w5.heap.size, 0, none⟩, 5, 5, rfl, Nat.le_refl _, zi_rd w5 5⟩ (Rg.Keeps.of_up ((Up.refl _).alloc _)) (by rintro g rfl; exact ⟨by simp, .inl (Nat.le_refl _)⟩)
    simp only [Act.put, List.setIfInBounds_toArray, List.set_cons_zero, List.set_cons_succ, Nat.reduceAdd]
    apply Rg.RK.gopn (t := 54) (fun v _ => ∃ R rc, v = .slice R 3 rc) (fun _ _ => False) [29] []
    · exact fun _ _ _ h _ => h
    · rfl
    · intro vs; rfl
    · intro vs w5 hK hS hf K hKK
      obtain ⟨⟨A5, n5, c5, hv, hnc, hrd⟩, -⟩ := hf
      have hn5 : n5 = 5 := by have h := hrd.ilen; rw [List.length_replicate] at h; exact h
      subst hn5
      (try dsimp only at hKK ⊢)
      rw [hv] at hKK ⊢
      go_simp
      refine (cut_weak A5 5 c5 2 (List.replicate 5 zit) w5 (by omega) hrd (by omega) hnc (by omega) (by omega)).mono ?_
      rintro e w6 ⟨R, rc, rfl, hu6⟩
      exact hKK.out _ _ ⟨R, rc, rfl⟩ (Rg.Keeps.of_up hu6) (fun g hg => hg.elim)
    simp only [Act.put, List.setIfInBounds_toArray, List.set_cons_zero, List.set_cons_succ, Nat.reduceAdd]
    apply Rg.RK.gokU (t := 54) [30] (v := .int .i64 3)
    · intro vs w5 hS hf
      obtain ⟨⟨R, rc, hv⟩, -⟩ := hf
      rw [hv]
      go_simp
      (try with_reducible rfl)
    · rfl
    · intro vs; rfl
    simp only [Act.put, List.setIfInBounds_toArray, List.set_cons_zero, List.set_cons_succ, Nat.reduceAdd]
    iterate 1 (apply Rg.RK.gok (t := 54); (· intro vs w1 hS; go_simp; with_reducible rfl); (· rfl); (· intro vs; rfl); simp only [Act.put, List.setIfInBounds_toArray, List.set_cons_zero, List.set_cons_succ, Nat.reduceAdd])
    iterate 2 (apply Rg.RK.ok; (· intro vs w1 hS; go_simp; with_reducible rfl); (· rfl); simp only [Act.put, List.setIfInBounds_toArray, List.set_cons_zero, List.set_cons_succ, Nat.reduceAdd])
    apply Rg.RK.fin []
    intro vs w1 hK hS _
    refine hQN.out _ _ ?_
    clear hQN
    have hup9 := hup4.trans (keeps_up hK)
    go_wp2_with fail
    go_ret
    exact ⟨rfl, hup9⟩
  · kernel_rfl
end Go.Proofs.Ytijekbeofpaojaa

/-
  Opening arguments: a slice out of its elements.
-/
namespace Go.Proofs.Ytijekbeofpaojaa
open Go.ChangeShapes Go.WideShapes Go.ChangeAt Go.RowKit Go.Deep
set_option linter.unusedVariables false

theorem flat_len {α : Type} (f : α → List Value) {sz : Nat} (hf : ∀ x, (f x).length = sz) (l : List α) : (l.flatMap f).length = l.length * sz := by
  induction l with
  | nil => simp
  | cons x l ih => rw [List.flatMap_cons, List.length_append, hf, ih, List.length_cons, Nat.add_mul]; omega
theorem flat_at {α : Type} (f : α → List Value) {sz : Nat} (hf : ∀ x, (f x).length = sz) (l : List α) {k : Nat} (hk : k < l.length) {j : Nat} (hj : j < sz) : (l.flatMap f)[k * sz + j]? = (f l[k])[j]? := by
  induction l generalizing k with
  | nil => simp at hk
  | cons x l ih =>
    cases k with
    | zero =>
      simp only [List.flatMap_cons, Nat.zero_mul, Nat.zero_add, List.getElem_cons_zero]
      rw [List.getElem?_append_left (by rw [hf]; exact hj)]
    | succ k =>
      have hk' : k < l.length := by simpa using hk
      have := ih hk'
      simp only [List.flatMap_cons, List.getElem_cons_succ]
      rw [List.getElem?_append_right (by rw [hf, Nat.add_mul]; omega), ← this]
      congr 1; rw [hf, Nat.add_mul]; omega

theorem add_at (b o k : Nat) : (⟨b, o, none⟩ : Addr).add k = ⟨b, o + k, none⟩ := by unfold Addr.add; split <;> simp_all
theorem rd_elems {α : Type} [Inhabited α] {W : World} (f : α → List Value) {sz : Nat} (hf : ∀ x, (f x).length = sz) (hsz : 0 < sz) {a : Addr} {len base : Nat}
    (h : ∀ i, i < len → ∃ cs', W.cells? base (a.add (i * sz)) sz = some cs' ∧ ∃ x, cs' = f x) : ∃ l : List α, l.length = len ∧ Rd W W.heap.size sz (some a) len (l.flatMap f) := by
  obtain ⟨g, hg⟩ := choose_lt (p := fun i x => W.cells? base (a.add (i * sz)) sz = some (f x)) (n := len) (fun i hi => by
    obtain ⟨cs', h1, x, rfl⟩ := h i hi
    exact ⟨x, h1⟩)
  refine ⟨(List.range len).map g, by simp, by rw [flat_len f hf]; simp, fun hn => ?_⟩
  obtain ⟨b, o, spot⟩ := a
  have h0 := (World.cells?_some (hg 0 hn)).2.2 0 hsz
  have hx0 : (f (g 0))[0]? = some ((f (g 0))[0]'(by rw [hf]; exact hsz)) := List.getElem?_eq_getElem _
  rw [hx0] at h0
  have add0 : ∀ a : Addr, a.add 0 = a := fun a => by simp [Addr.add]
  rw [Nat.zero_mul, add0, add0] at h0
  have hspot : spot = none := World.cell?_spot h0
  subst hspot
  have hb : b < W.heap.size := World.block_lt_of_cell? W _ h0
  refine ⟨b, o, rfl, hb, fun j u hu => ?_⟩
  have hj : j < len * sz := by
    have := (List.getElem?_eq_some_iff.1 hu).1
    rw [flat_len f hf] at this; simpa using this
  have hi : j / sz < len := by rw [Nat.div_lt_iff_lt_mul hsz]; exact hj
  have hr : j % sz < sz := Nat.mod_lt _ hsz
  have hjj : j = j / sz * sz + j % sz := by rw [Nat.mul_comm]; exact (Nat.div_add_mod j sz).symm
  have hc := (World.cells?_some (hg _ hi)).2.2 _ hr
  have e : ((⟨b, o, none⟩ : Addr).add (j / sz * sz)).add (j % sz) = ⟨b, o + j, none⟩ := by
    rw [add_at, add_at, Nat.add_assoc, ← hjj]
  rw [e] at hc
  have hfl := flat_at f hf ((List.range len).map g) (k := j / sz) (by simpa using hi) hr
  rw [← hjj] at hfl
  rw [hc, ← hu, hfl]
  simp

end Go.Proofs.Ytijekbeofpaojaa

/-
  Opening arguments: slices of slices of bytes.
-/
namespace Go.Proofs.Ytijekbeofpaojaa
open Go.ChangeShapes Go.WideShapes Go.ChangeAt Go.RowKit Go.Deep
set_option linter.unusedVariables false

/-- a slice of slices of bytes that came in -/
def IsR (w : World) (A : Option Addr) (n c : Nat) (ps : List Pt) : Prop := Rd w w.heap.size 1 A n (ps.map Pt.v) ∧ (∀ p ∈ ps, IsB w p.A p.n p.c p.l) ∧ n ≤ c ∧ c ≤ 9223372036854775807
section
variable {H : Type} {enc : TypeId × Value → H} {W : World} {sp : Nat → Bool} {a : Option Addr} {len cap : Nat} {d : DataW H} {p : List MemPlace}
theorem body_cells {fuel : Nat} {cs : List Value} {y : DataW H × List MemPlace} (hf : DataW.trod enc Try.prog W 0 (fun _ => true) true fuel 22 cs = some y) : ∃ p : Pt, cs = [p.v] ∧ IsB W p.A p.n p.c p.l := by
  rcases open_ints Try.underlying22 Try.underlying5 (by kernel_rfl) hf with ⟨hcs, _⟩ | ⟨x, l, c, zs, hcs, _, hl, hm, hz, _, hcell, hwz⟩
  · exact ⟨⟨none, 0, 0, []⟩, hcs, Rd.empty, by simp, by simp⟩
  · refine ⟨⟨some x, l, c, _⟩, hcs, rd_ints bv (fun n => UInt8.ofNat n.toNat) (fun n hn => ?_) hl (by simpa using hz) hcell hwz, hl, by simpa only [maxLen] using hm⟩
    have := bd_u8 hn
    rw [bv_ofNat]; congr 1; omega
instance : Inhabited { p : Pt // IsB W p.A p.n p.c p.l } := ⟨⟨⟨none, 0, 0, []⟩, Rd.empty, by simp, by simp⟩⟩
theorem is_r (h : DataW.Trod enc Try.prog W 0 (fun _ => true) true 91 (.slice a len cap) d p) : ∃ ps, IsR W a len cap ps := by
  obtain ⟨fuel, hf⟩ := h
  rcases open_slice Try.underlying91 hf with ⟨hcs, _⟩ | ⟨x, l, c, m, n, D, Pl, hcs, _, hl, hm, hmm, _, hx⟩
  · simp [Value.cells] at hcs
    obtain ⟨rfl, rfl, rfl⟩ := hcs
    exact ⟨[], Rd.empty, fun p hp => (by cases hp), by omega, by omega⟩
  · simp [Value.cells] at hcs
    obtain ⟨rfl, rfl, rfl⟩ := hcs
    have hC : Try.prog.cellsOf 22 = 1 := by kernel_rfl
    rw [hC] at hx
    obtain ⟨L, hL, hr⟩ := rd_elems (α := { p : Pt // IsB W p.A p.n p.c p.l }) (W := W) (len := len) (a := x) (base := 0) (fun p => [p.1.v]) (sz := 1) (fun _ => rfl) (by omega) (fun i hi => by
      obtain ⟨cs', h1, h2⟩ := hx i (by simp at hmm; omega)
      obtain ⟨p, e, hp⟩ := body_cells h2
      exact ⟨cs', h1, ⟨p, hp⟩, e⟩)
    refine ⟨L.map (·.1), ?_, fun p hp => ?_, hl, by simpa only [maxLen] using hm⟩
    · have e : (L.map (·.1)).map Pt.v = L.flatMap fun p => [p.1.v] := by
        clear hr hL
        induction L with
        | nil => rfl
        | cons q r ih => simp only [List.map_cons, List.flatMap_cons, List.singleton_append, ih]
      rw [e]; exact hr
    · obtain ⟨q, _, rfl⟩ := List.mem_map.1 hp
      exact q.2
end
end Go.Proofs.Ytijekbeofpaojaa

/-
  The walk of the laws' made.
-/
namespace Go.Proofs.Ytijekbeofpaojaa
open Go.RowKit
set_option linter.unusedVariables false
set_option linter.unusedSimpArgs false

/-- the kind of the record with this number -/
def kindOf (k : Nat) : Nat := k * 9 % 100 + 1
theorem kindOf_bd (k : Nat) : 1 ≤ kindOf k ∧ kindOf k ≤ 100 := by unfold kindOf; omega
/-- records, one behind the other, their kinds from number i on -/
def frsB : Nat → List (List UInt8) → List UInt8
  | _, [] => []
  | i, l :: r => frameB (kindOf i : Int) l ++ frsB (i + 1) r
theorem frsB_append : ∀ (i : Nat) (a b : List (List UInt8)), frsB i (a ++ b) = frsB i a ++ frsB (i + a.length) b
  | i, [], b => by simp [frsB]
  | i, l :: r, b => by rw [List.cons_append, frsB, frsB, frsB_append (i + 1) r b, List.append_assoc, List.length_cons]; congr 3; omega
theorem frsB_snoc (L : List (List UInt8)) {k : Nat} (hk : k < L.length) : frsB 0 (L.take (k + 1)) = frsB 0 (L.take k) ++ frameB (kindOf k : Int) (L[k]) := by
  rw [List.take_succ_eq_append_getElem hk, frsB_append, List.length_take, Nat.min_eq_left (by omega), Nat.zero_add]
  simp [frsB]
def endAt (L : List (List UInt8)) (k : Nat) : Nat := (frsB 0 (L.take k)).length
def endsL (L : List (List UInt8)) (k : Nat) : List Nat := (List.range (k + 1)).map (endAt L)
theorem endsL_snoc (L : List (List UInt8)) (k : Nat) : endsL L (k + 1) = endsL L k ++ [endAt L (k + 1)] := by
  unfold endsL; rw [List.range_succ, List.map_append]; rfl
theorem endAt_snoc (L : List (List UInt8)) {k : Nat} (hk : k < L.length) : endAt L (k + 1) = endAt L k + (L[k].length + 12) := by
  unfold endAt; rw [frsB_snoc L hk, List.length_append, frameB_len]

def ptls (ps : List Pt) : List (List UInt8) := ps.map (·.l)
/-- a slice of slices that came in: number k -/
theorem IsR.at_ {w : World} {A : Option Addr} {n c : Nat} {ps : List Pt} (h : IsR w A n c ps) {k : Nat} (hk : k < n) :
    ∃ b o p, A = some ⟨b, o, none⟩ ∧ ps[k]? = some p ∧ (ptls ps)[k]? = some p.l ∧ p.n ≤ p.c ∧ p.n = p.l.length ∧ p.c ≤ 9223372036854775807 ∧ ∀ W, Up w W → W.cell? ⟨b, o + k, none⟩ = some (.slice p.A p.n p.c) ∧ Rd W W.heap.size 1 p.A p.n (bvs p.l) := by
  obtain ⟨hr, hp, hc1, hc2⟩ := h
  have hn : n = ps.length := by have := hr.1; rw [List.length_map] at this; omega
  obtain ⟨b, o, e, hb, hc⟩ := hr.2 (by omega)
  have hkl : k < ps.length := by omega
  have hpm := hp ps[k] (List.getElem_mem _)
  refine ⟨b, o, ps[k], e, List.getElem?_eq_getElem hkl, by simp [ptls, hkl], hpm.2.1, hpm.1.blen, hpm.2.2, fun W hW => ⟨?_, hpm.1.up hW⟩⟩
  have h1 := hc k (ps[k]).v (by simp [hkl])
  exact (hW.cell (p := ⟨b, o + k, none⟩) hb).trans h1
theorem IsR.len {w : World} {A : Option Addr} {n c : Nat} {ps : List Pt} (h : IsR w A n c ps) : n = (ptls ps).length := by have := h.1.1; simp [ptls] at *; omega

end Go.Proofs.Ytijekbeofpaojaa

/-
  Plain laws of rows of frames.
-/
namespace Go.Proofs.Ytijekbeofpaojaa
open Go.RowKit
set_option linter.unusedVariables false
set_option linter.unusedSimpArgs false

def kindsL (i : Nat) (n : Nat) : List Nat := (List.range n).map fun j => kindOf (i + j)
theorem kindsL_len (i n : Nat) : (kindsL i n).length = n := by simp [kindsL]
theorem kindsL_succ (i n : Nat) : kindsL i (n + 1) = kindOf i :: kindsL (i + 1) n := by
  unfold kindsL
  rw [List.range_succ_eq_map, List.map_cons, List.map_map]
  congr 1
  apply List.map_congr_left
  intro j _
  show kindOf (i + (j + 1)) = kindOf (i + 1 + j)
  congr 1; omega
theorem frsB_pos {i : Nat} {l : List UInt8} {r : List (List UInt8)} : 0 < (frsB i (l :: r)).length := by rw [frsB, List.length_append, frameB_len]; omega
/-- Split goes over whole frames -/
theorem splitG_frs (l : List UInt8) : ∀ (L : List (List UInt8)) (i f : Nat) (pre rest : List UInt8) (ks : List Nat) (bs : List (List UInt8)), l = pre ++ (frsB i L ++ rest) → (∀ x ∈ L, x.length ≤ 60000) →
    splitG l (f + L.length) pre.length ks bs = splitG l f (pre.length + (frsB i L).length) (ks ++ kindsL i L.length) (bs ++ L)
  | [], i, f, pre, rest, ks, bs, _, _ => by simp [frsB, kindsL]
  | x :: L, i, f, pre, rest, ks, bs, h, hx => by
    have hkb := kindOf_bd i
    have hx1 := hx x List.mem_cons_self
    have hd : l.drop pre.length = frameB (kindOf i : Int) x ++ (frsB (i + 1) L ++ rest) := by
      rw [h, List.drop_left, frsB, List.append_assoc]
    have ht := takeR_frame (kindOf i) x (frsB (i + 1) L ++ rest) hkb.1 hkb.2 hx1
    have hlt : pre.length < l.length := by
      rw [h, frsB]; simp only [List.length_append, frameB_len]; omega
    rw [List.length_cons, show f + (L.length + 1) = (f + L.length) + 1 by omega]
    conv => lhs; unfold splitG
    rw [if_pos hlt, hd, ht, if_pos rfl]
    have h' : l = (pre ++ frameB (kindOf i : Int) x) ++ (frsB (i + 1) L ++ rest) := by rw [h, frsB]; simp
    have ih := splitG_frs l L (i + 1) f (pre ++ frameB (kindOf i : Int) x) rest (ks ++ [kindOf i]) (bs ++ [x]) h' (fun y hy => hx y (List.mem_cons_of_mem _ hy))
    have hpl : (pre ++ frameB (kindOf i : Int) x).length = pre.length + (x.length + 12) := by rw [List.length_append, frameB_len]
    rw [hpl] at ih
    simp only []
    rw [ih]
    congr 1
    · rw [frsB, List.length_append, frameB_len]; omega
    · rw [kindsL_succ, List.append_assoc]; rfl
    · rw [List.append_assoc]; rfl
/-- a frame that is cut is torn -/
theorem takeR_cut {k : Nat} {l : List UInt8} {j : Nat} (hk1 : 1 ≤ k) (hk2 : k ≤ 100) (hl : l.length ≤ 60000) (hj : j < (frameB (k : Int) l).length) : (takeR ((frameB (k : Int) l).take j)).1 = 4 := by
  have hfl := frameB_len (k : Int) l
  by_cases h8 : j < 8
  · unfold takeR
    rw [if_pos (by rw [List.length_take]; omega)]
  · have e : frameB (k : Int) l = sealB (headB (k : Int) l.length) ++ sealB l := rfl
    have hh : (sealB (headB (k : Int) l.length)).length = 8 := by rw [sealB_len]; rfl
    have hlen : ((frameB (k : Int) l).take j).length = j := by rw [List.length_take]; omega
    have ht8 : ((frameB (k : Int) l).take j).take 8 = sealB (headB (k : Int) l.length) := by
      rw [List.take_take, Nat.min_eq_left (by omega), e, ← hh, List.take_left]
    have g : ∀ q, q < 4 → ((frameB (k : Int) l).take j).getD q 0 = (headB (k : Int) l.length).getD q 0 := by
      intro q hq
      rw [take_getD _ (by omega), e]
      unfold sealB
      simp only [List.getD_eq_getElem?_getD]
      rw [List.append_assoc, List.getElem?_append_left (by simpa [headB] using hq)]
    have hN : headN ((frameB (k : Int) l).take j) = l.length := by
      unfold headN
      rw [g 1 (by omega), g 2 (by omega), g 3 (by omega)]
      have e1 : (l.length / 65536) % 256 * 65536 + (l.length / 256) % 256 * 256 + l.length % 256 = l.length := by omega
      simpa [headB, List.getD] using e1
    have h0 : (((frameB (k : Int) l).take j).getD 0 0).toNat = k := by rw [g 0 (by omega)]; exact byteOf_nat k (by omega)
    unfold takeR
    rw [if_neg (by rw [hlen]; omega), ht8, openE_seal, if_neg (by simp), h0, hN, if_neg (by omega), if_pos (by rw [hlen]; omega)]
/-- rows of frames that are cut: what Split tells -/
theorem split_cut (L : List (List UInt8)) (n k : Nat) (hL : ∀ x ∈ L, x.length ≤ 60000) (hn : n ≤ L.length) (h1 : endAt L n ≤ k) (h2 : n < L.length → k < endAt L (n + 1)) (hk : k ≤ endAt L L.length) :
    splitL ((frsB 0 L).take k) = (kindsL 0 n, L.take n, endAt L n, if k = endAt L n then 0 else 4) := by
  have hfull : endAt L L.length = (frsB 0 L).length := by unfold endAt; rw [List.take_length]
  have hsplit : frsB 0 L = frsB 0 (L.take n) ++ frsB n (L.drop n) := by
    conv => lhs; rw [← List.take_append_drop n L]
    rw [frsB_append, List.length_take, Nat.min_eq_left hn, Nat.zero_add]
  have hl : (frsB 0 L).take k = [] ++ (frsB 0 (L.take n) ++ (frsB n (L.drop n)).take (k - endAt L n)) := by
    rw [hsplit, List.take_append, List.nil_append]
    congr 1
    exact List.take_of_length_le h1
  have hlen : ((frsB 0 L).take k).length = k := by rw [List.length_take, ← hfull]; omega
  have hkn : n ≤ k := by
    have : ∀ n, n ≤ L.length → n ≤ endAt L n := by
      intro n
      induction n with
      | zero => intro _; omega
      | succ m ih => intro hm; have := ih (by omega); rw [endAt_snoc L (show m < L.length by omega)]; omega
    have := this n hn; omega
  have hgo := splitG_frs ((frsB 0 L).take k) (L.take n) 0 (k + 1 - n) [] _ [] [] hl (fun x hx => hL x (List.mem_of_mem_take hx))
  rw [List.length_take, Nat.min_eq_left hn, List.length_nil, Nat.zero_add, List.nil_append, List.nil_append, show k + 1 - n + n = k + 1 by omega] at hgo
  unfold splitL
  rw [hlen, hgo]
  have hend : (frsB 0 (L.take n)).length = endAt L n := rfl
  rw [hend]
  obtain ⟨f, hf⟩ : ∃ f, k + 1 - n = f + 1 := ⟨k - n, by omega⟩
  rw [hf]
  unfold splitG
  by_cases hke : k = endAt L n
  · rw [if_neg (by rw [hlen]; omega), if_pos hke]
  · rw [if_pos (by rw [hlen]; omega)]
    have hnl : n < L.length := by
      rcases Nat.lt_or_ge n L.length with h | h
      · exact h
      · have : n = L.length := by omega
        subst this; omega
    have hd : ((frsB 0 L).take k).drop (endAt L n) = (frameB (kindOf n : Int) L[n]).take (k - endAt L n) := by
      rw [hl, List.nil_append, ← hend, List.drop_left, hend, List.drop_eq_getElem_cons hnl, frsB]
      rw [List.take_append_of_le_length]
      have := h2 hnl
      rw [endAt_snoc L hnl] at this
      rw [frameB_len]; omega
    have hj : k - endAt L n < (frameB (kindOf n : Int) L[n]).length := by
      have := h2 hnl
      rw [endAt_snoc L hnl] at this
      rw [frameB_len]; omega
    have htk := takeR_cut (kindOf_bd n).1 (kindOf_bd n).2 (hL _ (List.getElem_mem hnl)) hj
    rw [hd, htk, if_neg (by decide), if_neg hke]
end Go.Proofs.Ytijekbeofpaojaa

/-
  Sums of texts: what turned bits do to them. Up to three of them are found in any text of less than 2^28 bytes.
-/
namespace Go.Proofs.Ytijekbeofpaojaa
open Go.RowKit
set_option linter.unusedVariables false
set_option linter.unusedSimpArgs false

theorem crcN_add : ∀ (a b n : Nat), crcN (a + b) n = crcN b (crcN a n)
  | 0, b, n => by rw [Nat.zero_add]; rfl
  | a + 1, b, n => by rw [Nat.add_right_comm]; exact crcN_add a b (crcS n)
theorem xor_swap (a b c : Nat) : a ^^^ b ^^^ c = a ^^^ c ^^^ b := by rw [Nat.xor_assoc, Nat.xor_comm b c, ← Nat.xor_assoc]
theorem xor_half (a b : Nat) : (a ^^^ b) / 2 = a / 2 ^^^ b / 2 := Nat.xor_div_two
theorem xor_odd (a b : Nat) : (a ^^^ b) % 2 = (a % 2 + b % 2) % 2 := by
  have h := Nat.xor_mod_two_eq_one (a := a) (b := b)
  have h1 := Nat.mod_two_eq_zero_or_one (a ^^^ b)
  have h2 := Nat.mod_two_eq_zero_or_one a
  have h3 := Nat.mod_two_eq_zero_or_one b
  rcases h1 with h1 | h1 <;> rcases h2 with h2 | h2 <;> rcases h3 with h3 | h3 <;> simp [h1, h2, h3] at h ⊢
theorem crcS_xor (a b : Nat) : crcS (a ^^^ b) = crcS a ^^^ crcS b := by
  have h2 := Nat.mod_two_eq_zero_or_one a
  have h3 := Nat.mod_two_eq_zero_or_one b
  unfold crcS
  rw [xor_odd, xor_half]
  rcases h2 with h2 | h2 <;> rcases h3 with h3 | h3 <;> simp only [h2, h3] <;> simp
  · rw [Nat.xor_assoc]
  · rw [xor_swap]
  · rw [Nat.xor_assoc, Nat.xor_comm (2197175160) (b / 2 ^^^ 2197175160), Nat.xor_assoc, Nat.xor_self, Nat.xor_zero]
theorem crcN_xor : ∀ (k a b : Nat), crcN k (a ^^^ b) = crcN k a ^^^ crcN k b
  | 0, _, _ => rfl
  | k + 1, a, b => by show crcN k (crcS (a ^^^ b)) = _; rw [crcS_xor, crcN_xor k]; rfl
theorem xor_zero_eq {a b : Nat} (h : a ^^^ b = 0) : a = b := by
  have h2 : (a ^^^ b) ^^^ b = 0 ^^^ b := by rw [h]
  rwa [Nat.xor_assoc, Nat.xor_self, Nat.xor_zero, Nat.zero_xor] at h2
theorem crcS_zero {a : Nat} (ha : a < 4294967296) (h : crcS a = 0) : a = 0 := by
  unfold crcS at h
  split at h
  · have := xor_zero_eq h; omega
  · omega
theorem crcN_zero : ∀ (k : Nat) {a : Nat}, a < 4294967296 → crcN k a = 0 → a = 0
  | 0, _, _, h => h
  | k + 1, _, ha, h => crcS_zero ha (crcN_zero k (crcS_lt ha) h)
theorem xor_lt32 {a b : Nat} (ha : a < 4294967296) (hb : b < 4294967296) : a ^^^ b < 4294967296 := by
  have h2 : a ^^^ b < 2 ^ 32 := Nat.xor_lt_two_pow (by omega) (by omega)
  omega
theorem crcN_inj (k : Nat) {a b : Nat} (ha : a < 4294967296) (hb : b < 4294967296) (h : crcN k a = crcN k b) : a = b :=
  xor_zero_eq (crcN_zero k (xor_lt32 ha hb) (by rw [crcN_xor, h, Nat.xor_self]))

/-- how many of the first k bits are set: odd or not -/
def par : Nat → Nat → Bool
  | 0, _ => false
  | k + 1, n => (n % 2 == 1) ^^ par k (n / 2)
theorem par_xor : ∀ (k a b : Nat), par k (a ^^^ b) = (par k a ^^ par k b)
  | 0, _, _ => rfl
  | k + 1, a, b => by
    unfold par
    rw [xor_odd, xor_half, par_xor k]
    have h2 := Nat.mod_two_eq_zero_or_one a
    have h3 := Nat.mod_two_eq_zero_or_one b
    rcases h2 with h2 | h2 <;> rcases h3 with h3 | h3 <;> simp [h2, h3]
theorem par_zero : ∀ k, par k 0 = false
  | 0 => rfl
  | k + 1 => by unfold par; simp [par_zero k]
theorem par_more : ∀ (k n : Nat), n < 2 ^ k → par (k + 1) n = par k n
  | 0, n, h => by
    have : n = 0 := by simpa using h
    subst this; rfl
  | k + 1, n, h => by
    conv => lhs; unfold par
    conv => rhs; unfold par
    rw [par_more k (n / 2) (by rw [Nat.pow_succ] at h; omega)]
theorem par_crcS {n : Nat} (h : n < 4294967296) : par 32 (crcS n) = par 32 n := by
  have e : par 32 n = ((n % 2 == 1) ^^ par 31 (n / 2)) := rfl
  have e2 := par_more 31 (n / 2) (by omega)
  rw [e, ← e2]
  unfold crcS
  split
  · rename_i h1
    rw [par_xor, h1, show par 32 2197175160 = true by decide]
    cases par 32 (n / 2) <;> rfl
  · rename_i h1
    rw [show (n % 2 == 1) = false by simp; omega]
    simp
theorem par_crcN : ∀ (k : Nat) {n : Nat}, n < 4294967296 → par 32 (crcN k n) = par 32 n
  | 0, _, _ => rfl
  | k + 1, _, h => (par_crcN k (crcS_lt h)).trans (par_crcS h)

/-- a sum that goes on from two registers together -/
theorem addC_lin (l : List UInt8) : ∀ (u v : Nat), addC (u ^^^ v) l = addC u l ^^^ crcN (8 * l.length) v := by
  induction l with
  | nil => intro u v; rfl
  | cons b l ih =>
    intro u v
    show addC (crcB (u ^^^ v) b) l = addC (crcB u b) l ^^^ _
    have e : crcB (u ^^^ v) b = crcB u b ^^^ crcN 8 v := by
      unfold crcB
      rw [xor_swap, crcN_xor]
    rw [e, ih, List.length_cons, show 8 * (l.length + 1) = 8 + 8 * l.length by omega, crcN_add]
theorem addC_set (m : UInt8) : ∀ (l : List UInt8) (n i : Nat), i < l.length → addC n (l.set i (l.getD i 0 ^^^ m)) = addC n l ^^^ crcN (8 * (l.length - i)) m.toNat
  | b :: l, n, 0, _ => by
    show addC (crcB n (b ^^^ m)) l = addC (crcB n b) l ^^^ _
    have e : crcB n (b ^^^ m) = crcB n b ^^^ crcN 8 m.toNat := by
      unfold crcB
      rw [UInt8.toNat_xor, ← Nat.xor_assoc, crcN_xor]
    rw [e, addC_lin, List.length_cons, show 8 * (l.length + 1 - 0) = 8 + 8 * l.length by omega, crcN_add]
  | b :: l, n, i + 1, h => by
    have h2 : i < l.length := by simpa using h
    show addC (crcB n b) (l.set i (l.getD i 0 ^^^ m)) = addC (crcB n b) l ^^^ _
    rw [addC_set m l _ i h2, List.length_cons, show l.length + 1 - (i + 1) = l.length - i by omega]

/-- one bit turned -/
def flipB (l : List UInt8) (p : Nat) : List UInt8 := l.set (p / 8) (l.getD (p / 8) 0 ^^^ UInt8.ofNat (2 ^ (p % 8)))
theorem flipB_len (l : List UInt8) (p : Nat) : (flipB l p).length = l.length := by unfold flipB; rw [List.length_set]
def flipsB (l : List UInt8) (ps : List Nat) : List UInt8 := ps.foldl flipB l
theorem flipsB_len : ∀ (ps : List Nat) (l : List UInt8), (flipsB l ps).length = l.length
  | [], _ => rfl
  | p :: ps, l => (flipsB_len ps (flipB l p)).trans (flipB_len l p)
theorem pow_bits : ∀ t, t < 8 → crcN t (2 ^ t) = 1 ∧ (UInt8.ofNat (2 ^ t)).toNat = 2 ^ t := by decide
theorem addC_flip {l : List UInt8} {p : Nat} (n : Nat) (h : p < 8 * l.length) : addC n (flipB l p) = addC n l ^^^ crcN (8 * l.length - p) 1 := by
  unfold flipB
  rw [addC_set _ _ _ _ (by omega)]
  obtain ⟨h1, h2⟩ := pow_bits (p % 8) (by omega)
  rw [h2, show 8 * (l.length - p / 8) = p % 8 + (8 * l.length - p) by omega, crcN_add, h1]
theorem flipB_flipB {l : List UInt8} {p : Nat} (h : p < 8 * l.length) : flipB (flipB l p) p = l := by
  have h8 : p / 8 < l.length := by omega
  unfold flipB
  have e : (l.set (p / 8) (l.getD (p / 8) 0 ^^^ UInt8.ofNat (2 ^ (p % 8)))).getD (p / 8) 0 = l.getD (p / 8) 0 ^^^ UInt8.ofNat (2 ^ (p % 8)) := by
    simp [List.getD, h8]
  rw [e, List.set_set, UInt8.xor_assoc, UInt8.xor_self, UInt8.xor_zero]
  simp [List.getD, h8]

-- the order of the step

/-- a linear step of 32 bits by its columns -/
def appC : List Nat → Nat → Nat
  | [], _ => 0
  | c :: cs, n => if n % 2 = 1 then c ^^^ appC cs (n / 2) else appC cs (n / 2)
theorem appC_eq (g : Nat → Nat) (g0 : g 0 = 0) (gx : ∀ a b, g (a ^^^ b) = g a ^^^ g b) : ∀ (k i n : Nat), n < 2 ^ k → appC ((List.range' i k).map fun j => g (2 ^ j)) n = g (n * 2 ^ i)
  | 0, i, n, h => by
    have : n = 0 := by simpa using h
    subst this
    rw [Nat.zero_mul, g0]; rfl
  | k + 1, i, n, h => by
    rw [List.range'_succ, List.map_cons]
    have hlt : n / 2 < 2 ^ k := by rw [Nat.pow_succ] at h; omega
    have ih := appC_eq g g0 gx k (i + 1) (n / 2) hlt
    unfold appC
    rw [ih]
    have e2 : n / 2 * 2 ^ (i + 1) = 2 * (n / 2) * 2 ^ i := by rw [Nat.pow_succ]; rw [Nat.mul_comm (2 ^ i) 2, ← Nat.mul_assoc, Nat.mul_comm (n / 2) 2]
    split
    · rename_i h1
      rw [← gx]
      congr 1
      rw [e2]
      have h3 : n * 2 ^ i = 2 * (n / 2) * 2 ^ i + 2 ^ i := by
        have : n = 2 * (n / 2) + 1 := by omega
        conv => lhs; rw [this]
        rw [Nat.add_mul, Nat.one_mul]
      rw [h3]
      apply Nat.eq_of_testBit_eq
      intro j
      rw [show 2 * (n / 2) * 2 ^ i + 2 ^ i = (2 * (n / 2) + 1) * 2 ^ i by rw [Nat.add_mul, Nat.one_mul], Nat.testBit_xor, Nat.testBit_mul_two_pow, Nat.testBit_mul_two_pow, Nat.testBit_two_pow]
      by_cases hj : i ≤ j
      · obtain ⟨q, rfl⟩ : ∃ q, j = i + q := ⟨j - i, by omega⟩
        rw [show i + q - i = q by omega]
        cases q with
        | zero => simp
        | succ q =>
          simp [Nat.testBit_succ]
          rw [show (2 * (n / 2) + 1) / 2 = n / 2 by omega]
      · simp [hj]
        intro h; omega
    · rename_i h1
      rw [e2, show 2 * (n / 2) = n by omega]
def colsC : Nat → List Nat
  | 0 => (List.range' 0 32).map fun j => crcS (2 ^ j)
  | k + 1 => (colsC k).map (appC (colsC k))
theorem crcN_0 (k : Nat) : crcN k 0 = 0 := by
  have h := crcN_xor k 0 0
  rw [Nat.xor_self, Nat.xor_self] at h
  exact h
theorem colsC_eq : ∀ k, colsC k = (List.range' 0 32).map fun j => crcN (2 ^ k) (2 ^ j)
  | 0 => rfl
  | k + 1 => by
    show (colsC k).map (appC (colsC k)) = _
    rw [colsC_eq k, List.map_map]
    apply List.map_congr_left
    intro j hj
    show appC _ (crcN (2 ^ k) (2 ^ j)) = _
    have hj2 : j < 32 := by simp [List.mem_range'] at hj; omega
    have hlt : 2 ^ j < 4294967296 := Nat.pow_lt_pow_right (by omega) hj2
    have h := appC_eq (fun x => crcN (2 ^ k) x) (crcN_0 _) (crcN_xor _) 32 0 (crcN (2 ^ k) (2 ^ j)) (crcN_lt _ hlt)
    rw [h]
    show crcN (2 ^ k) (crcN (2 ^ k) (2 ^ j) * 2 ^ 0) = crcN (2 ^ (k + 1)) (2 ^ j)
    rw [Nat.pow_zero, Nat.mul_one, ← crcN_add, Nat.pow_succ, Nat.mul_two]
/-- the columns, step by step, each list made once -/
def stepC : Nat → List Nat → List Nat
  | 0, l => l
  | k + 1, l => stepC k (l.map (appC l))
theorem stepC_eq : ∀ k j, stepC k (colsC j) = colsC (j + k)
  | 0, _ => rfl
  | k + 1, j => by
    show stepC k (colsC (j + 1)) = _
    rw [stepC_eq k (j + 1), Nat.add_right_comm, Nat.add_assoc]
def colK0 : List Nat := [2197175160, 1, 2, 4, 8, 16, 32, 64, 128, 256, 512, 1024, 2048, 4096, 8192, 16384, 32768, 65536, 131072, 262144, 524288, 1048576, 2097152, 4194304, 8388608, 16777216, 33554432, 67108864, 134217728, 268435456, 536870912, 1073741824]
def colK1 : List Nat := [1098587580, 2197175160, 1, 2, 4, 8, 16, 32, 64, 128, 256, 512, 1024, 2048, 4096, 8192, 16384, 32768, 65536, 131072, 262144, 524288, 1048576, 2097152, 4194304, 8388608, 16777216, 33554432, 67108864, 134217728, 268435456, 536870912]
def colK2 : List Nat := [274646895, 549293790, 1098587580, 2197175160, 1, 2, 4, 8, 16, 32, 64, 128, 256, 512, 1024, 2048, 4096, 8192, 16384, 32768, 65536, 131072, 262144, 524288, 1048576, 2097152, 4194304, 8388608, 16777216, 33554432, 67108864, 134217728]
def colK3 : List Nat := [4067132163, 3778769143, 3348797215, 2329499855, 274646895, 549293790, 1098587580, 2197175160, 1, 2, 4, 8, 16, 32, 64, 128, 256, 512, 1024, 2048, 4096, 8192, 16384, 32768, 65536, 131072, 262144, 524288, 1048576, 2097152, 4194304, 8388608]
def colK4 : List Nat := [329422967, 658845934, 1317691868, 2635383736, 1069937025, 2139874050, 4279748100, 4223924985, 4067132163, 3778769143, 3348797215, 2329499855, 274646895, 549293790, 1098587580, 2197175160, 1, 2, 4, 8, 16, 32, 64, 128, 256, 512, 1024, 2048, 4096, 8192, 16384, 32768]
def colK5 : List Nat := [3712330424, 3211207553, 2065838579, 4131677158, 3915690301, 3609531531, 2879807463, 1386268991, 2772537982, 1332695565, 2665391130, 944848581, 1889697162, 3779394324, 3345318105, 2334619459, 329422967, 658845934, 1317691868, 2635383736, 1069937025, 2139874050, 4279748100, 4223924985, 4067132163, 3778769143, 3348797215, 2329499855, 274646895, 549293790, 1098587580, 2197175160]
def colK6 : List Nat := [1228700967, 2457401934, 555582061, 1111164122, 2222328244, 218129817, 436259634, 872519268, 1745038536, 3490077072, 2782971345, 1311636819, 2623273638, 1029407677, 2058815354, 4117630708, 4012927769, 3683426499, 3002414967, 1611012127, 3222024254, 2247366285, 235166699, 470333398, 940666796, 1881333592, 3762667184, 3311864721, 2401395155, 464041303, 928082606, 1856165212]
def colK7 : List Nat := [4060876286, 3790892301, 3322195179, 2313498407, 371599551, 743199102, 1486398204, 2972796408, 1737424129, 3474848258, 2614592245, 843281179, 1686562358, 3373124716, 2549607977, 704883363, 1409766726, 2819533452, 1441866729, 2883733458, 1378416981, 2756833962, 1297060773, 2594121546, 819083365, 1638166730, 3276333460, 2206053849, 51846467, 103692934, 207385868, 414771736]
def colK8 : List Nat := [1034342603, 2068685206, 4137370412, 3906662569, 3562641315, 2908707255, 1599260063, 3198520126, 2024235149, 4048470298, 3883005125, 3406798715, 2482194439, 571139839, 1142279678, 2284559356, 364593417, 729186834, 1458373668, 2916747336, 1582851681, 3165703362, 2089676661, 4179353322, 4158376741, 3931889851, 3512448903, 2807765503, 1264207119, 2528414238, 679830221, 1359660442]
def colK9 : List Nat := [1947135746, 3894271492, 3587689209, 2923684611, 1500229879, 3000459758, 1614984493, 3229968986, 2229707333, 203502203, 407004406, 814008812, 1628017624, 3256035248, 2177513873, 108529107, 217058214, 434116428, 868232856, 1736465712, 3472931424, 2616001073, 842429075, 1684858150, 3369716300, 2489311849, 760459811, 1520919622, 3041839244, 1869735913, 3739471826, 3089885525]
def colK10 : List Nat := [1771228834, 3542457668, 2745650297, 1117974019, 2235948038, 258461437, 516922874, 1033845748, 2067691496, 4135382992, 3910510929, 3620152403, 2858565207, 1361578591, 2723157182, 1095524237, 2191048474, 14485701, 28971402, 57942804, 115885608, 231771216, 463542432, 927084864, 1854169728, 3708339456, 3221093617, 2048364307, 4096728614, 3987884733, 3733513099, 3103633895]
def colK11 : List Nat := [3702618788, 3163456441, 2096198019, 4192396038, 4129927421, 3921614603, 3599915239, 2831730495, 1417541775, 2835083550, 1411093709, 2822187418, 1434592709, 2869185418, 1407508965, 2815017930, 1249898853, 2499797706, 739488613, 1478977226, 2957954452, 1701965273, 3403930546, 2418786709, 633075163, 1266150326, 2532300652, 674486313, 1348972626, 2697945252, 1148368825, 2296737650]
def colK12 : List Nat := [3178201592, 2134078721, 4268157442, 4179731189, 4155454235, 3937538247, 3498596223, 2768033807, 1276495599, 2552991198, 901475661, 1802951322, 3605902644, 2822184089, 1434603459, 2869206918, 1407535613, 2815071226, 1249464581, 2498929162, 738800357, 1477600714, 2955201428, 1705370073, 3410740146, 2474373525, 589010395, 1178020790, 2356041580, 489740329, 979480658, 1958961316]
def colK13 : List Nat := [4264641112, 4186894913, 4143026803, 3893318167, 3589460703, 2919879503, 1509937263, 3019874526, 1645426509, 3290853018, 2376117189, 514662779, 1029325558, 2058651116, 4117302232, 4013842753, 3683693683, 2999787031, 1618365151, 3236730302, 2218089869, 226938347, 453876694, 907753388, 1815506776, 3631013552, 3040201617, 1871176147, 3742352294, 3153326525, 1913361803, 3826723606]
def colK14 : List Nat := [4149242244, 3947668985, 3547675907, 2735082743, 1138781983, 2277563966, 174967437, 349934874, 699869748, 1399739496, 2799478992, 1213540177, 2427080354, 616098741, 1232197482, 2464394964, 539700057, 1079400114, 2158800228, 78982201, 157964402, 315928804, 631857608, 1263715216, 2527430432, 682064049, 1364128098, 2728256196, 1087878009, 2175756018, 112376597, 224753194]
def colK15 : List Nat := [3265640030, 2158434893, 77742699, 155485398, 310970796, 621941592, 1243883184, 2487766368, 763161649, 1526323298, 3052646596, 1846220665, 3692441330, 3183487765, 2121015515, 4242031030, 4233950621, 4250246603, 4282862951, 4217564223, 4079595151, 3820956655, 3264356655, 2160604335, 75243439, 150486878, 300973756, 601947512, 1203895024, 2407790048, 451648817, 903297634]
def colK16 : List Nat := [3762348204, 3312301993, 2402752931, 461522359, 923044718, 1846089436, 3692178872, 3184012673, 2122067443, 4244134886, 4229742909, 4258657419, 4266106855, 4184033599, 4146783375, 3954819055, 3533637935, 2698142895, 1145618351, 2291236702, 349079629, 698159258, 1396318516, 2792637032, 1225060897, 2450121794, 570408565, 1140817130, 2281634260, 168920409, 337840818, 675681636]
def colK17 : List Nat := [3351957165, 2323245995, 287285671, 574571342, 1149142684, 2298285368, 337013889, 674027778, 1348055556, 2696111112, 1149943521, 2299887042, 398888309, 797776618, 1595553236, 3191106472, 2038735265, 4077470530, 3825135733, 3255932443, 2177850055, 108184447, 216368894, 432737788, 865475576, 1730951152, 3461902304, 2572986673, 928326803, 1856653606, 3713307212, 3208991337]
def colK18 : List Nat := [83680447, 167360894, 334721788, 669443576, 1338887152, 2677774304, 987453745, 1974907490, 3949814980, 3543580537, 2743142403, 1122920183, 2245840366, 240512301, 481024602, 962049204, 1924098408, 3848196816, 3478246225, 2605699155, 863229527, 1726459054, 3452918108, 2658321481, 956956259, 1913912518, 3827825036, 3450045929, 2662038819, 951749815, 1903499630, 3806999260]
def colK19 : List Nat := [1806683169, 3613366338, 2874361461, 1397422619, 2794845238, 1221041821, 2442083642, 653397125, 1306794250, 2613588500, 846992089, 1693984178, 3387968356, 2517426233, 703968899, 1407937798, 2815875596, 1245823721, 2491647442, 753630549, 1507261098, 3014522196, 1656200281, 3312400562, 2402420629, 461928923, 923857846, 1847715692, 3695431384, 3177966401, 2134614131, 4269228262]
def colK20 : List Nat := [335823302, 671646604, 1343293208, 2686586416, 1168665233, 2337330466, 323869877, 647739754, 1295479508, 2590959016, 825343393, 1650686786, 3301373572, 2355207161, 489636099, 979272198, 1958544396, 3917088792, 3608700609, 2883369843, 1381302295, 2762604590, 1287157421, 2574314842, 923642949, 1847285898, 3694571796, 3179353305, 2129551171, 4259102342, 4266986493, 4182139147]
def colK21 : List Nat := [1746360842, 3492721684, 2779848409, 1317948227, 2635896454, 1070947325, 2141894650, 4283789300, 4215712025, 4083229891, 3811458935, 3283093535, 2190239439, 16038767, 32077534, 64155068, 128310136, 256620272, 513240544, 1026481088, 2052962176, 4105924352, 3969558769, 3705218835, 3160291543, 2102396767, 4204793534, 4037831565, 3837043179, 3431281959, 2632326335, 1008750479]
def colK22 : List Nat := [3791599207, 3323075135, 2311602831, 377287663, 754575326, 1509150652, 3018301304, 1646479361, 3292958722, 2371966709, 523164443, 1046328886, 2092657772, 4185315544, 4144088897, 3958372467, 3526592023, 2710272735, 1190822735, 2381645470, 503741389, 1007482778, 2014965556, 4029931112, 3851143713, 3472614067, 2551952279, 903549407, 1807098814, 3614197628, 2872375305, 1401259747]
def colK23 : List Nat := [2339516652, 319297321, 638594642, 1277189284, 2554378568, 896336993, 1792673986, 3585347972, 2927908345, 1491393795, 2982787590, 1719599869, 3439199738, 2618326277, 1036815611, 2073631222, 4147262444, 3951563049, 3539752099, 2685722551, 1170590111, 2341180222, 318460045, 636920090, 1273840180, 2547680360, 710508065, 1421016130, 2842032260, 1462208505, 2924417010, 1500670229]
def colK24 : List Nat := [1444372256, 2888744512, 1571883633, 3143767266, 1932025653, 3864051306, 3377269285, 2541118139, 721466247, 1442932494, 2885864988, 1575611081, 3151222162, 1917574613, 3835149226, 3435332005, 2624222651, 1027120519, 2054241038, 4108482076, 3962084041, 3720168291, 3197562935, 2025952927, 4051905854, 3874106509, 3359125483, 2510039335, 785654975, 1571309950, 3142619900, 1934447369]
def colK25 : List Nat := [3114523856, 1990971217, 3981942434, 3745729461, 3144343963, 1933161927, 3866323854, 3372917229, 2549691691, 706616487, 1413232974, 2826465948, 1427936201, 2855872402, 1369323989, 2738647978, 1133810085, 2267620170, 197013605, 394027210, 788054420, 1576108840, 3152217680, 1915386449, 3830772898, 3443892149, 2674346395, 992142791, 1984285582, 3968571164, 3707459785, 3155871587]
def colK26 : List Nat := [3710744734, 3216410573, 2055305579, 4110611158, 4025062237, 3661582411, 2979190375, 1724504639, 3449009278, 2664111629, 947538667, 1895077334, 3790154668, 3325960617, 2307929507, 382475703, 764951406, 1529902812, 3059805624, 1764601217, 3529202434, 2707079413, 1197078299, 2394156598, 411806365, 823612730, 1647225460, 3294450920, 2371280673, 524404915, 1048809830, 2097619660]
def colK27 : List Nat := [1141075018, 2282150036, 367118297, 734236594, 1468473188, 2936946376, 1542458209, 3084916418, 1781291893, 3562583786, 2908560165, 1599488187, 3198976374, 2025157661, 4050315322, 3879315077, 3416210427, 2463236359, 541619455, 1083238910, 2166477820, 128962825, 257925650, 515851300, 1031702600, 2063405200, 4126810400, 3994563761, 3655081875, 3058977239, 1766122847, 3532245694]
def colK28 : List Nat := [1175610749, 2351221498, 497410821, 994821642, 1989643284, 3979286568, 3753002657, 3129539507, 1895661975, 3791323950, 3323621549, 2312673195, 375216551, 750433102, 1500866204, 3001732408, 1614408833, 3228817666, 2232141045, 268173083, 536346166, 1072692332, 2145384664, 4290769328, 4203976081, 4039859667, 3833253207, 3441028191, 2682236495, 978528879, 1957057758, 3914115516]
def colK29 : List Nat := [1481463145, 2962926290, 1691951957, 3383903914, 2525559717, 687702459, 1375404918, 2750809836, 1107327785, 2214655570, 233675349, 467350698, 934701396, 1869402792, 3738805584, 3093249105, 1968311891, 3936623782, 3500429245, 2762271115, 1285924327, 2571848654, 930799981, 1861599962, 3723199924, 3191569817, 2040171971, 4080343942, 3817226749, 3269522699, 2150472935, 95899455]
def colK30 : List Nat := [3905762274, 3564507445, 2902480027, 1609359303, 3218718606, 2053048813, 4106097626, 3968880965, 3704411259, 3161841159, 2097662719, 4195325438, 4059258125, 3859467499, 3388600103, 2518657215, 701704079, 1403408158, 2806816316, 1265977993, 2531955986, 674847957, 1349695914, 2699391828, 1143378009, 2286756018, 360069013, 720138026, 1440276052, 2880552104, 1385107361, 2770214722]
def colK31 : List Nat := [2197175160, 1, 2, 4, 8, 16, 32, 64, 128, 256, 512, 1024, 2048, 4096, 8192, 16384, 32768, 65536, 131072, 262144, 524288, 1048576, 2097152, 4194304, 8388608, 16777216, 33554432, 67108864, 134217728, 268435456, 536870912, 1073741824]
theorem colK0_eq : colsC 0 = colK0 := by decide
theorem colK1_eq : colsC 1 = colK1 := by
  show (colsC 0).map (appC (colsC 0)) = _
  rw [colK0_eq]
  kernel_rfl
theorem colK2_eq : colsC 2 = colK2 := by
  show (colsC 1).map (appC (colsC 1)) = _
  rw [colK1_eq]
  kernel_rfl
theorem colK3_eq : colsC 3 = colK3 := by
  show (colsC 2).map (appC (colsC 2)) = _
  rw [colK2_eq]
  kernel_rfl
theorem colK4_eq : colsC 4 = colK4 := by
  show (colsC 3).map (appC (colsC 3)) = _
  rw [colK3_eq]
  kernel_rfl
theorem colK5_eq : colsC 5 = colK5 := by
  show (colsC 4).map (appC (colsC 4)) = _
  rw [colK4_eq]
  kernel_rfl
theorem colK6_eq : colsC 6 = colK6 := by
  show (colsC 5).map (appC (colsC 5)) = _
  rw [colK5_eq]
  kernel_rfl
theorem colK7_eq : colsC 7 = colK7 := by
  show (colsC 6).map (appC (colsC 6)) = _
  rw [colK6_eq]
  kernel_rfl
theorem colK8_eq : colsC 8 = colK8 := by
  show (colsC 7).map (appC (colsC 7)) = _
  rw [colK7_eq]
  kernel_rfl
theorem colK9_eq : colsC 9 = colK9 := by
  show (colsC 8).map (appC (colsC 8)) = _
  rw [colK8_eq]
  kernel_rfl
theorem colK10_eq : colsC 10 = colK10 := by
  show (colsC 9).map (appC (colsC 9)) = _
  rw [colK9_eq]
  kernel_rfl
theorem colK11_eq : colsC 11 = colK11 := by
  show (colsC 10).map (appC (colsC 10)) = _
  rw [colK10_eq]
  kernel_rfl
theorem colK12_eq : colsC 12 = colK12 := by
  show (colsC 11).map (appC (colsC 11)) = _
  rw [colK11_eq]
  kernel_rfl
theorem colK13_eq : colsC 13 = colK13 := by
  show (colsC 12).map (appC (colsC 12)) = _
  rw [colK12_eq]
  kernel_rfl
theorem colK14_eq : colsC 14 = colK14 := by
  show (colsC 13).map (appC (colsC 13)) = _
  rw [colK13_eq]
  kernel_rfl
theorem colK15_eq : colsC 15 = colK15 := by
  show (colsC 14).map (appC (colsC 14)) = _
  rw [colK14_eq]
  kernel_rfl
theorem colK16_eq : colsC 16 = colK16 := by
  show (colsC 15).map (appC (colsC 15)) = _
  rw [colK15_eq]
  kernel_rfl
theorem colK17_eq : colsC 17 = colK17 := by
  show (colsC 16).map (appC (colsC 16)) = _
  rw [colK16_eq]
  kernel_rfl
theorem colK18_eq : colsC 18 = colK18 := by
  show (colsC 17).map (appC (colsC 17)) = _
  rw [colK17_eq]
  kernel_rfl
theorem colK19_eq : colsC 19 = colK19 := by
  show (colsC 18).map (appC (colsC 18)) = _
  rw [colK18_eq]
  kernel_rfl
theorem colK20_eq : colsC 20 = colK20 := by
  show (colsC 19).map (appC (colsC 19)) = _
  rw [colK19_eq]
  kernel_rfl
theorem colK21_eq : colsC 21 = colK21 := by
  show (colsC 20).map (appC (colsC 20)) = _
  rw [colK20_eq]
  kernel_rfl
theorem colK22_eq : colsC 22 = colK22 := by
  show (colsC 21).map (appC (colsC 21)) = _
  rw [colK21_eq]
  kernel_rfl
theorem colK23_eq : colsC 23 = colK23 := by
  show (colsC 22).map (appC (colsC 22)) = _
  rw [colK22_eq]
  kernel_rfl
theorem colK24_eq : colsC 24 = colK24 := by
  show (colsC 23).map (appC (colsC 23)) = _
  rw [colK23_eq]
  kernel_rfl
theorem colK25_eq : colsC 25 = colK25 := by
  show (colsC 24).map (appC (colsC 24)) = _
  rw [colK24_eq]
  kernel_rfl
theorem colK26_eq : colsC 26 = colK26 := by
  show (colsC 25).map (appC (colsC 25)) = _
  rw [colK25_eq]
  kernel_rfl
theorem colK27_eq : colsC 27 = colK27 := by
  show (colsC 26).map (appC (colsC 26)) = _
  rw [colK26_eq]
  kernel_rfl
theorem colK28_eq : colsC 28 = colK28 := by
  show (colsC 27).map (appC (colsC 27)) = _
  rw [colK27_eq]
  kernel_rfl
theorem colK29_eq : colsC 29 = colK29 := by
  show (colsC 28).map (appC (colsC 28)) = _
  rw [colK28_eq]
  kernel_rfl
theorem colK30_eq : colsC 30 = colK30 := by
  show (colsC 29).map (appC (colsC 29)) = _
  rw [colK29_eq]
  kernel_rfl
theorem colK31_eq : colsC 31 = colK31 := by
  show (colsC 30).map (appC (colsC 30)) = _
  rw [colK30_eq]
  kernel_rfl
theorem crcN_big : crcN (2 ^ 31) 1 = crcN 1 1 := by
  have h : (colsC 31).getD 0 0 = 2197175160 := by rw [colK31_eq]; rfl
  have e : ∀ f : Nat → Nat, ((List.range' 0 32).map f).getD 0 0 = f 0 := fun f => rfl
  rw [colsC_eq, e] at h
  rw [show crcN 1 1 = 2197175160 by decide]
  rw [Nat.pow_zero] at h
  exact h
theorem crcN_per : crcN 2147483647 1 = 1 := by
  have h := crcN_big
  rw [show 2 ^ 31 = 2147483647 + 1 by decide, crcN_add] at h
  exact crcN_inj 1 (crcN_lt _ (by decide)) (by decide) h

/-- no number of a row of 2 ^ k divides the great prime -/
def noDiv : Nat → Nat → Bool
  | 0, lo => 2147483647 % lo != 0
  | k + 1, lo => noDiv k lo && noDiv k (lo + 2 ^ k)
theorem noDiv_at : ∀ (k lo : Nat), noDiv k lo = true → ∀ t, lo ≤ t → t < lo + 2 ^ k → 2147483647 % t ≠ 0
  | 0, lo, h, t, h1, h2 => by
    have : t = lo := by rw [Nat.pow_zero] at h2; omega
    subst this
    simpa [noDiv] using h
  | k + 1, lo, h, t, h1, h2 => by
    unfold noDiv at h
    rw [Bool.and_eq_true] at h
    rw [Nat.pow_succ] at h2
    by_cases ht : t < lo + 2 ^ k
    · exact noDiv_at k lo h.1 t h1 ht
    · exact noDiv_at k (lo + 2 ^ k) h.2 t (by omega) (by omega)
theorem prime_M {g h : Nat} (e : 2147483647 = g * h) (hg : 1 < g) : h ≤ 1 := by
  have key : ∀ t, 2 ≤ t → t < 2 + 2 ^ 16 → 2147483647 % t ≠ 0 := noDiv_at 16 2 (by kernel_rfl)
  rcases Nat.lt_or_ge 1 h with h1 | h1
  · rcases Nat.lt_or_ge g 65538 with h2 | h2
    · exact absurd (by rw [e]; exact Nat.mul_mod_right g h) (key g hg (by omega))
    · rcases Nat.lt_or_ge h 65538 with h3 | h3
      · exact absurd (by rw [e]; exact Nat.mul_mod_left g h) (key h h1 (by omega))
      · have := Nat.mul_le_mul h2 h3
        omega
  · exact h1
theorem crcN_mul {d : Nat} (hd : crcN d 1 = 1) : ∀ q, crcN (d * q) 1 = 1
  | 0 => rfl
  | q + 1 => by rw [Nat.mul_succ, crcN_add, crcN_mul hd q, hd]
theorem crcN_gcd (a b : Nat) : crcN a 1 = 1 → crcN b 1 = 1 → crcN (Nat.gcd a b) 1 = 1 := by
  induction a, b using Nat.gcd.induction with
  | H0 n => intro _ h; rwa [Nat.gcd_zero_left]
  | H1 m n hm ih =>
    intro h1 h2
    rw [Nat.gcd_rec]
    refine ih ?_ h1
    have e : crcN (m * (n / m) + n % m) 1 = 1 := by rw [Nat.div_add_mod]; exact h2
    rw [crcN_add, crcN_mul h1] at e
    exact e
/-- two bits that are less than 2 ^ 31 - 1 places apart are told from each other -/
theorem crcN_order {d : Nat} (h0 : 0 < d) (h1 : d < 2147483647) : crcN d 1 ≠ 1 := by
  intro h
  have hg := crcN_gcd d 2147483647 h crcN_per
  obtain ⟨q, hq⟩ := Nat.gcd_dvd_right d 2147483647
  have hle := Nat.le_of_dvd h0 (Nat.gcd_dvd_left d 2147483647)
  generalize Nat.gcd d 2147483647 = g at *
  rcases Nat.lt_or_ge 1 g with h2 | h2
  · have := prime_M hq h2
    have h3 : q = 0 ∨ q = 1 := by omega
    rcases h3 with rfl | rfl <;> omega
  · have h3 : g = 0 ∨ g = 1 := by omega
    rcases h3 with rfl | rfl
    · omega
    · exact absurd hg (by decide)

-- what was sealed, turned
theorem crcN_hi : ∀ (m : Nat), crcN 8 (256 * m) = m := by
  intro m
  have h2 : ∀ x, crcS (2 * x) = x := by
    intro x; unfold crcS; rw [if_neg (by omega)]; omega
  rw [show 256 * m = 2 * (2 * (2 * (2 * (2 * (2 * (2 * (2 * m))))))) by omega]
  simp only [crcN, h2]
theorem lo_hi (c : Nat) : c = c % 256 ^^^ 256 * (c / 256) := by
  apply Nat.eq_of_testBit_eq
  intro j
  rw [Nat.testBit_xor, show (256 : Nat) = 2 ^ 8 by decide, Nat.testBit_mod_two_pow, Nat.testBit_two_pow_mul, Nat.testBit_div_two_pow]
  by_cases hj : j < 8
  · simp [hj, show ¬ 8 ≤ j by omega]
  · simp [hj, show 8 ≤ j by omega, show j - 8 + 8 = j by omega]
theorem crcN_byte (n c : Nat) : crcN 8 (n ^^^ c) = crcB n (UInt8.ofNat c) ^^^ c / 256 := by
  unfold crcB
  rw [UInt8.toNat_ofNat', show (2 : Nat) ^ 8 = 256 by decide]
  conv => lhs; rw [lo_hi c]
  rw [← Nat.xor_assoc, crcN_xor, crcN_hi]
theorem addC_sumB (r c : Nat) (hc : c < 4294967296) : addC r (sumB c) = crcN 32 (r ^^^ c) := by
  rw [show (32 : Nat) = 8 + (8 + (8 + 8)) by decide, crcN_add, crcN_byte, crcN_add, crcN_byte, crcN_add, crcN_byte, crcN_byte]
  rw [show c / 256 / 256 = c / 65536 by omega, show c / 65536 / 256 = c / 16777216 by omega, show c / 16777216 / 256 = 0 by omega, Nat.xor_zero]
  rfl
theorem xor_not {r : Nat} (h : r < 4294967296) : r ^^^ (4294967295 - r) = 4294967295 := by
  apply Nat.eq_of_testBit_eq
  intro j
  rw [Nat.testBit_xor, show 4294967295 - r = 2 ^ 32 - (r + 1) by omega, Nat.testBit_two_pow_sub_succ (by omega), show (4294967295 : Nat) = 2 ^ 32 - 1 by decide, Nat.testBit_two_pow_sub_one]
  by_cases hj : j < 32
  · simp [hj]
  · have : r.testBit j = false := Nat.testBit_lt_two_pow (Nat.lt_of_lt_of_le (show r < 2 ^ 32 by omega) (Nat.pow_le_pow_right (by omega) (by omega)))
    simp [hj, this]
theorem open_sum {l : List UInt8} (h : openE l = 0) : addC 4294967295 l = crcN 32 4294967295 := by
  unfold openE at h
  split at h
  · omega
  · split at h
    · rename_i h4 hs
      have hr := addC_lt (l.take (l.length - 4)) (n := 4294967295) (by decide)
      rw [← hs]
      unfold sealB
      rw [addC_append, addC_sumB _ _ (sumC_lt _)]
      unfold sumC
      rw [xor_not hr]
    · omega

def xorsC (T : Nat) (ps : List Nat) : Nat := ps.foldr (fun p x => crcN (T - p) 1 ^^^ x) 0
theorem addC_flips (n : Nat) : ∀ (ps : List Nat) (l : List UInt8), (∀ p ∈ ps, p < 8 * l.length) → addC n (flipsB l ps) = addC n l ^^^ xorsC (8 * l.length) ps
  | [], l, _ => by show _ = _ ^^^ 0; rw [Nat.xor_zero]; rfl
  | p :: ps, l, h => by
    show addC n (flipsB (flipB l p) ps) = _
    have hp := h p List.mem_cons_self
    rw [addC_flips n ps (flipB l p) (fun q hq => by rw [flipB_len]; exact h q (List.mem_cons_of_mem _ hq)), addC_flip n hp, flipB_len]
    show _ = addC n l ^^^ (crcN (8 * l.length - p) 1 ^^^ xorsC (8 * l.length) ps)
    rw [Nat.xor_assoc]
theorem par_one (k : Nat) : par 32 (crcN k 1) = true := by rw [par_crcN k (by decide)]; decide
theorem crcN_one_lt (k : Nat) : crcN k 1 < 4294967296 := crcN_lt k (by decide)
theorem crcN_two {T p q : Nat} (hp : p < T) (hq : q < T) (hT : T ≤ 2147483647) (h : crcN (T - p) 1 = crcN (T - q) 1) : p = q := by
  have key : ∀ a b : Nat, a < b → b < T → crcN (T - a) 1 = crcN (T - b) 1 → False := by
    intro a b hab hb h
    rw [show T - a = (b - a) + (T - b) by omega, crcN_add] at h
    exact crcN_order (show 0 < b - a by omega) (by omega) (crcN_inj _ (crcN_one_lt _) (by decide) h)
  rcases Nat.lt_trichotomy p q with h1 | h1 | h1
  · exact (key p q h1 hq h).elim
  · exact h1
  · exact (key q p h1 hp h.symm).elim
/-- up to three bits that are turned in what is sealed are found -/
theorem open_flips {l : List UInt8} {ps : List Nat} (h : openE l = 0) (h3 : ps.length ≤ 3) (hb : ∀ p ∈ ps, p < 8 * l.length) (hM : 8 * l.length ≤ 2147483647) (h' : openE (flipsB l ps) = 0) : flipsB l ps = l := by
  have e := addC_flips 4294967295 ps l hb
  rw [open_sum h', open_sum h] at e
  have hx : xorsC (8 * l.length) ps = 0 := by
    have : crcN 32 4294967295 ^^^ crcN 32 4294967295 = crcN 32 4294967295 ^^^ (crcN 32 4294967295 ^^^ xorsC (8 * l.length) ps) := by rw [← e]
    rw [← Nat.xor_assoc, Nat.xor_self, Nat.zero_xor] at this
    exact this.symm
  match ps, h3, hb, hx with
  | [], _, _, _ => rfl
  | [p], _, hb, hx => exact absurd (congrArg (par 32) hx) (by show ¬ par 32 (_ ^^^ 0) = _; rw [Nat.xor_zero, par_one, par_zero]; decide)
  | [p, q], _, hb, hx =>
    have hx2 : crcN (8 * l.length - p) 1 ^^^ (crcN (8 * l.length - q) 1 ^^^ 0) = 0 := hx
    rw [Nat.xor_zero] at hx2
    have hp := hb p List.mem_cons_self
    have hpq := crcN_two hp (hb q (List.mem_cons_of_mem _ List.mem_cons_self)) hM (xor_zero_eq hx2)
    subst hpq
    exact flipB_flipB hp
  | [p, q, r], _, hb, hx => exact absurd (congrArg (par 32) hx) (by show ¬ par 32 (_ ^^^ (_ ^^^ (_ ^^^ 0))) = _; rw [Nat.xor_zero, par_xor, par_xor, par_one, par_one, par_one, par_zero]; decide)
  | _ :: _ :: _ :: _ :: _, h3, _, _ => exact absurd h3 (by simp)

-- flips in rows of parts
theorem flipB_left {a b : List UInt8} {p : Nat} (h : p < 8 * a.length) : flipB (a ++ b) p = flipB a p ++ b := by
  have h8 : p / 8 < a.length := by omega
  unfold flipB
  rw [List.set_append_left _ _ h8]
  simp [List.getD, List.getElem?_append_left h8]
theorem flipB_right {a b : List UInt8} {p : Nat} (h : 8 * a.length ≤ p) : flipB (a ++ b) p = a ++ flipB b (p - 8 * a.length) := by
  have h8 : a.length ≤ p / 8 := by omega
  unfold flipB
  rw [List.set_append_right _ _ h8, show (p - 8 * a.length) / 8 = p / 8 - a.length by omega, show (p - 8 * a.length) % 8 = p % 8 by omega]
  simp [List.getD, List.getElem?_append_right h8]
/-- the flips that fall into a row's first T bits, and the others -/
theorem flips_split : ∀ (ps : List Nat) (a b : List UInt8), (∀ p ∈ ps, p < 8 * (a.length + b.length)) → ∃ p1 p2 : List Nat, flipsB (a ++ b) ps = flipsB a p1 ++ flipsB b p2 ∧ p1.length ≤ ps.length ∧ p2.length ≤ ps.length ∧ (∀ p ∈ p1, p < 8 * a.length) ∧ (∀ p ∈ p2, p < 8 * b.length)
  | [], a, b, _ => ⟨[], [], rfl, Nat.le_refl _, Nat.le_refl _, fun _ h => by simp at h, fun _ h => by simp at h⟩
  | p :: ps, a, b, h => by
    have hp := h p List.mem_cons_self
    have hr := fun q hq => h q (List.mem_cons_of_mem p hq)
    by_cases h1 : p < 8 * a.length
    · obtain ⟨p1, p2, e, l1, l2, b1, b2⟩ := flips_split ps (flipB a p) b (by rw [flipB_len]; exact hr)
      rw [flipB_len] at b1
      refine ⟨p :: p1, p2, ?_, by simp; omega, by simp; omega, ?_, b2⟩
      · show flipsB (flipB (a ++ b) p) ps = flipsB (flipB a p) p1 ++ _
        rw [flipB_left h1, e]
      · intro q hq
        rcases List.mem_cons.1 hq with rfl | hq
        · exact h1
        · exact b1 q hq
    · obtain ⟨p1, p2, e, l1, l2, b1, b2⟩ := flips_split ps a (flipB b (p - 8 * a.length)) (by rw [flipB_len]; exact hr)
      rw [flipB_len] at b2
      refine ⟨p1, (p - 8 * a.length) :: p2, ?_, by simp; omega, by simp; omega, b1, ?_⟩
      · show flipsB (flipB (a ++ b) p) ps = _ ++ flipsB (flipB b (p - 8 * a.length)) p2
        rw [flipB_right (by omega), e]
      · intro q hq
        rcases List.mem_cons.1 hq with rfl | hq
        · omega
        · exact b2 q hq
end Go.Proofs.Ytijekbeofpaojaa

/-
  Frames with bits turned: the plain law.
-/
namespace Go.Proofs.Ytijekbeofpaojaa
open Go.RowKit
set_option linter.unusedVariables false
set_option linter.unusedSimpArgs false

theorem flipB_mid {pre F post : List UInt8} {p : Nat} (h : p < 8 * F.length) : flipB (pre ++ (F ++ post)) (8 * pre.length + p) = pre ++ (flipB F p ++ post) := by
  rw [flipB_right (by omega), show 8 * pre.length + p - 8 * pre.length = p by omega, flipB_left h]
theorem flips_mid : ∀ (ps : List Nat) (pre F post : List UInt8), (∀ p ∈ ps, p < 8 * F.length) → flipsB (pre ++ (F ++ post)) (ps.map (8 * pre.length + ·)) = pre ++ (flipsB F ps ++ post)
  | [], _, _, _, _ => rfl
  | p :: ps, pre, F, post, h => by
    show flipsB (flipB (pre ++ (F ++ post)) (8 * pre.length + p)) _ = _
    rw [flipB_mid (h p List.mem_cons_self), flips_mid ps pre (flipB F p) post (fun q hq => by rw [flipB_len]; exact h q (List.mem_cons_of_mem _ hq))]
    rfl
theorem headN_head (k : Int) (n : Nat) (hn : n ≤ 60000) (x : List UInt8) : headN (sealB (headB k n) ++ x) = n := by
  have g : ∀ j, j < 4 → (sealB (headB k n) ++ x).getD j 0 = (headB k n).getD j 0 := by
    intro j hj
    unfold sealB
    simp only [List.getD_eq_getElem?_getD]
    rw [List.append_assoc, List.getElem?_append_left (by simpa [headB] using hj)]
  unfold headN
  rw [g 1 (by omega), g 2 (by omega), g 3 (by omega)]
  have e1 : (n / 65536) % 256 * 65536 + (n / 256) % 256 * 256 + n % 256 = n := by omega
  simpa [headB, List.getD] using e1
theorem takeR_bad1 {r : List UInt8} (h : openE (r.take 8) ≠ 0) : (takeR r).1 ≠ 0 := by
  unfold takeR
  split
  · decide
  · exact h
theorem takeR_bad2 {r : List UInt8} (h : openE ((r.drop 8).take (headN r + 4)) ≠ 0) : (takeR r).1 ≠ 0 := by
  unfold takeR
  split
  · decide
  · split
    · assumption
    · split
      · decide
      · split
        · decide
        · exact h
/-- a frame with up to three bits turned is told as it was, or refused -/
theorem frame_flips (k : Int) (l post : List UInt8) (hl : l.length ≤ 60000) {ps : List Nat} (h3 : ps.length ≤ 3) (hb : ∀ p ∈ ps, p < 8 * (frameB k l).length) :
    flipsB (frameB k l) ps = frameB k l ∨ (takeR (flipsB (frameB k l) ps ++ post)).1 ≠ 0 := by
  have hH : (sealB (headB k l.length)).length = 8 := by rw [sealB_len]; rfl
  have hB := sealB_len l
  have hf : frameB k l = sealB (headB k l.length) ++ sealB l := rfl
  rw [frameB_len] at hb
  obtain ⟨p1, p2, e, l1, l2, b1, b2⟩ := flips_split ps (sealB (headB k l.length)) (sealB l) (fun p hp => by have := hb p hp; omega)
  rw [hf, e]
  have fl1 := flipsB_len p1 (sealB (headB k l.length))
  have fl2 := flipsB_len p2 (sealB l)
  by_cases o1 : openE (flipsB (sealB (headB k l.length)) p1) = 0
  · have e1 := open_flips (openE_seal _) (by omega) b1 (by omega) o1
    rw [e1]
    by_cases o2 : openE (flipsB (sealB l) p2) = 0
    · left
      rw [open_flips (openE_seal _) (by omega) b2 (by omega) o2]
    · right
      apply takeR_bad2
      rw [List.append_assoc, headN_head k _ hl]
      have e3 : (sealB (headB k l.length) ++ (flipsB (sealB l) p2 ++ post)).drop 8 = flipsB (sealB l) p2 ++ post := by rw [← hH, List.drop_left]
      have e4 : (flipsB (sealB l) p2 ++ post).take (l.length + 4) = flipsB (sealB l) p2 := by rw [← hB, ← fl2, List.take_left]
      rw [e3, e4]
      exact o2
  · right
    apply takeR_bad1
    have e3 : (flipsB (sealB (headB k l.length)) p1 ++ flipsB (sealB l) p2 ++ post).take 8 = flipsB (sealB (headB k l.length)) p1 := by
      rw [List.append_assoc, show (8 : Nat) = (flipsB (sealB (headB k l.length)) p1).length by rw [fl1, hH], List.take_left]
    rw [e3]
    exact o1
/-- rows of frames, of which one has up to three bits turned -/
theorem split_flips (L : List (List UInt8)) (hL : ∀ x ∈ L, x.length ≤ 60000) {m : Nat} (hm : m < L.length) {ps : List Nat} (h3 : ps.length ≤ 3) (hb : ∀ p ∈ ps, p < 8 * (endAt L (m + 1) - endAt L m)) :
    (flipsB (frsB 0 L) (ps.map (8 * endAt L m + ·)) = frsB 0 L ∧ splitL (flipsB (frsB 0 L) (ps.map (8 * endAt L m + ·))) = (kindsL 0 L.length, L, endAt L L.length, 0)) ∨
    (flipsB (frsB 0 L) (ps.map (8 * endAt L m + ·)) ≠ frsB 0 L ∧ ∃ e, e ≠ 0 ∧ splitL (flipsB (frsB 0 L) (ps.map (8 * endAt L m + ·))) = (kindsL 0 m, L.take m, endAt L m, e)) := by
  have hsplit : frsB 0 L = frsB 0 (L.take m) ++ (frameB (kindOf m : Int) L[m] ++ frsB (m + 1) (L.drop (m + 1))) := by
    conv => lhs; rw [← List.take_append_drop m L]
    rw [frsB_append, List.length_take, Nat.min_eq_left (by omega), Nat.zero_add, List.drop_eq_getElem_cons hm, frsB]
  have hend : (frsB 0 (L.take m)).length = endAt L m := rfl
  have hlen := frameB_len (kindOf m : Int) L[m]
  have hb2 : ∀ p ∈ ps, p < 8 * (frameB (kindOf m : Int) L[m]).length := by
    intro p hp
    have := hb p hp
    rw [endAt_snoc L hm] at this
    omega
  have hmid := flips_mid ps (frsB 0 (L.take m)) (frameB (kindOf m : Int) L[m]) (frsB (m + 1) (L.drop (m + 1))) hb2
  rw [← hsplit, hend] at hmid
  rcases frame_flips (kindOf m : Int) L[m] (frsB (m + 1) (L.drop (m + 1))) (hL _ (List.getElem_mem hm)) h3 hb2 with he | he
  · left
    rw [he, ← hsplit] at hmid
    rw [hmid]
    refine ⟨rfl, ?_⟩
    have hfull : (frsB 0 L).length = endAt L L.length := by unfold endAt; rw [List.take_length]
    have h := split_cut L L.length (endAt L L.length) hL (Nat.le_refl _) (Nat.le_refl _) (fun h => absurd h (by omega)) (Nat.le_refl _)
    rw [← hfull, List.take_length, List.take_length, if_pos rfl] at h
    rw [h, hfull]
  · right
    have hfl := flipsB_len ps (frameB (kindOf m : Int) L[m])
    generalize flipsB (frameB (kindOf m : Int) L[m]) ps = F at *
    generalize frsB (m + 1) (L.drop (m + 1)) = post at *
    rw [hmid]
    have hsp : splitL (frsB 0 (L.take m) ++ (F ++ post)) = (kindsL 0 m, L.take m, endAt L m, (takeR (F ++ post)).1) := by
      have hlm : (L.take m).length = m := by rw [List.length_take]; omega
      have hmm : m ≤ (frsB 0 (L.take m)).length := by
        have : ∀ n, n ≤ L.length → n ≤ endAt L n := by
          intro n
          induction n with
          | zero => intro _; omega
          | succ m ih => intro hm; have := ih (by omega); rw [endAt_snoc L (show m < L.length by omega)]; omega
        exact this m (by omega)
      have hgo := splitG_frs (frsB 0 (L.take m) ++ (F ++ post)) (L.take m) 0 ((frsB 0 (L.take m) ++ (F ++ post)).length + 1 - m) [] (F ++ post) [] [] rfl (fun x hx => hL x (List.mem_of_mem_take hx))
      have hle : (frsB 0 (L.take m) ++ (F ++ post)).length = endAt L m + F.length + post.length := by rw [List.length_append, List.length_append, hend]; omega
      rw [hend] at hmm
      rw [hlm, List.length_nil, Nat.zero_add, List.nil_append, List.nil_append, hend, hle, show endAt L m + F.length + post.length + 1 - m + m = endAt L m + F.length + post.length + 1 by omega] at hgo
      unfold splitL
      rw [hle, hgo]
      obtain ⟨f, hf⟩ : ∃ f, endAt L m + F.length + post.length + 1 - m = f + 1 := ⟨endAt L m + F.length + post.length - m, by omega⟩
      rw [hf]
      unfold splitG
      have hd : (frsB 0 (L.take m) ++ (F ++ post)).drop (endAt L m) = F ++ post := by rw [← hend, List.drop_left]
      rw [if_pos (by rw [hle]; omega), hd, if_neg he]
    refine ⟨fun h => he ?_, _, he, hsp⟩
    rw [h] at hsp
    have hfull : (frsB 0 L).length = endAt L L.length := by unfold endAt; rw [List.take_length]
    have h := split_cut L L.length (endAt L L.length) hL (Nat.le_refl _) (Nat.le_refl _) (fun h => absurd h (by omega)) (Nat.le_refl _)
    rw [← hfull, List.take_length, List.take_length, if_pos rfl, hsp] at h
    exact congrArg (fun x => x.2.2.2) h
end Go.Proofs.Ytijekbeofpaojaa

/-
  What the laws of blocks begin with: the Ok items of a list, each a row, merged.
-/
namespace Go.Proofs.Ytijekbeofpaojaa
open Go.RowKit
set_option linter.unusedVariables false
set_option linter.unusedSimpArgs false

/-- the Ok items of a list, merged -/
def qL (l : List It) : List It := rowsL (l.filter okB)
theorem qL_len (l : List It) : (qL l).length ≤ l.length := by
  have h := (rowsL_all (l.filter okB) [] trivial (fun y hy => by cases hy) (fun y hy => (List.mem_filter.1 hy).2)).2.2
  have h2 := List.length_filter_le okB l
  rw [List.length_nil, Nat.zero_add] at h
  exact Nat.le_trans h h2
theorem qL_rise (l : List It) : riseR (qL l) := (rowsL_all (l.filter okB) [] trivial (fun y hy => by cases hy) (fun y hy => (List.mem_filter.1 hy).2)).1
theorem Rd.zero {w : World} {B : Nat} {A A' : Option Addr} {sz : Nat} {xs : List Value} (h : Rd w B sz A 0 xs) : Rd w B sz A' 0 xs := ⟨h.1, fun h0 => absurd h0 (by omega)⟩
/-- Rows of what 'one' came to -/
theorem rowsQ_any (A : Option Addr) (n : Nat) (l : List It) (w w1 : World) (hr : Rd w w.heap.size 5 A n (itcs l)) (hn : n ≤ 3518437208780) {e1 : Ending} (h : OnePost A n l w e1 w1) :
    ∃ V m vc, e1 = .returned (.slice V m vc) ∧ Up w w1 ∧ Calls Try.prog 9 #[.slice V m vc] w1 fun e w' => ∃ R rn rc, e = .returned (.slice R rn rc) ∧ OwnI w' w1.heap.size R rn rc (qL l) ∧ Up w1 w' := by
  obtain ⟨V, m, vc, b, o, ps, rfl, hv, hA, hps, hpk, hu⟩ := h
  have hpl : ps.length ≤ l.length := by
    have h1 := congrArg List.length hpk
    have h2 := List.length_filter_le okB l
    simp only [pick, List.length_map] at h1
    omega
  have hvl : m = ps.length := by have h := hv.1; rw [rowsV_len, Nat.mul_one] at h; exact h.symm
  have hl := hr.ilen
  have hr1 : Rd w1 w1.heap.size 5 (some ⟨b, o, none⟩) n (itcs l) := by
    rcases Nat.eq_zero_or_pos n with h0 | h0
    · subst h0; exact (hr.up hu).zero
    · have h1 := hr.up hu
      rw [hA h0] at h1; exact h1
  refine ⟨V, m, vc, rfl, hu, ?_⟩
  have h9 := rows11_any V m vc b o n ps l w1 (Rd.own hv) hr1 hps (by omega)
  rw [hpk] at h9
  exact h9
theorem frame_one {q : List It} (h : bErr q = 0) : takeB (frameB 2 (itemsB q)) 0 = (0, q, (((frameB 2 (itemsB q)).length : Nat) : Int)) := by
  have h9 := takeB_frame [] [] h
  rw [List.append_nil, List.nil_append] at h9
  have hl := frameB_len 2 (itemsB q)
  rw [show (([] : List UInt8).length : Int) = 0 from rfl] at h9
  rw [h9, hl]
  simp
theorem takeB_bad {c : List UInt8} {at_ : Int} (h0 : 0 ≤ at_) (h1 : at_ ≤ (c.length : Int)) (h : (takeF c at_).1 ≠ 0) : takeB c at_ = (9, [], 0) := by
  have h2 : (takeF c at_).1 ≠ 1 := fun e => by have := takeF_one.1 e; omega
  unfold takeB
  simp only []
  rw [if_neg h2, if_pos (.inl h)]
theorem blk_flips {q : List It} (h : bErr q = 0) {ps : List Nat} (h3 : ps.length ≤ 3) (hb : ∀ p ∈ ps, p < 8 * (frameB 2 (itemsB q)).length) :
    (flipsB (frameB 2 (itemsB q)) ps = frameB 2 (itemsB q) ∧ takeB (flipsB (frameB 2 (itemsB q)) ps) 0 = (0, q, (((frameB 2 (itemsB q)).length : Nat) : Int))) ∨
    (flipsB (frameB 2 (itemsB q)) ps ≠ frameB 2 (itemsB q) ∧ takeB (flipsB (frameB 2 (itemsB q)) ps) 0 = (9, [], 0)) := by
  have hl := itemsB_blk q (bErr_ok h).1
  by_cases he : flipsB (frameB 2 (itemsB q)) ps = frameB 2 (itemsB q)
  · left
    refine ⟨he, ?_⟩
    rw [he]
    exact frame_one h
  · right
    refine ⟨he, ?_⟩
    have h1 := (frame_flips 2 (itemsB q) [] (by omega) h3 hb).resolve_left he
    rw [List.append_nil] at h1
    have hlen := flipsB_len ps (frameB 2 (itemsB q))
    generalize flipsB (frameB 2 (itemsB q)) ps = c at *
    refine takeB_bad (by omega) (by omega) ?_
    unfold takeF
    rw [if_neg (by omega)]
    exact h1
end Go.Proofs.Ytijekbeofpaojaa

/-
  What is read is written just so: numbers, items, frames, blocks. Plain laws.
-/
namespace Go.Proofs.Ytijekbeofpaojaa
open Go.RowKit
set_option linter.unusedVariables false
set_option linter.unusedSimpArgs false

theorem takeGo_canon : ∀ (l : List UInt8) (i acc : Nat), (takeGo l i acc).2.2 = 0 → ∃ x, (takeGo l i acc).1 = acc + x * 128 ^ i ∧ i ≤ (takeGo l i acc).2.1 ∧ l.take ((takeGo l i acc).2.1 - i) = numB x ∧ (0 < i → 0 < x)
  | [], i, acc, h => by simp [takeGo] at h
  | c :: r, i, acc, h => by
    by_cases hf : (i = 9 ∧ 1 < c.toNat) ∨ (0 < i ∧ c.toNat = 0)
    · rw [takeGo_form hf] at h; simp at h
    · by_cases h2 : c.toNat < 128
      · rw [takeGo_end hf h2]
        refine ⟨c.toNat, by simp only []; rw [Nat.mod_eq_of_lt h2], by simp, ?_, by omega⟩
        rw [numB_lo h2]
        simp only []
        rw [show i + 1 - i = 1 by omega]
        simp
      · rw [takeGo_more hf h2] at h ⊢
        obtain ⟨x, h1, h3, h4, h5⟩ := takeGo_canon r (i + 1) _ h
        have hx := h5 (by omega)
        have hc := c.toNat_lt
        refine ⟨c.toNat % 128 + 128 * x, ?_, Nat.le_of_succ_le h3, ?_, fun _ => by omega⟩
        · rw [h1, Nat.pow_succ, Nat.add_mul, Nat.add_assoc, Nat.mul_comm (128 ^ i) 128, ← Nat.mul_assoc, Nat.mul_comm x 128]
        · generalize (takeGo r (i + 1) (acc + c.toNat % 128 * 128 ^ i)).2.1 = k at *
          rw [show k - i = (k - (i + 1)) + 1 by omega, List.take_succ_cons, h4, numB_hi (n := c.toNat % 128 + 128 * x) (by omega)]
          have e1 : (c.toNat % 128 + 128 * x) % 128 = c.toNat % 128 := by omega
          have e2 : (c.toNat % 128 + 128 * x) / 128 = x := by omega
          rw [e1, e2, show c.toNat % 128 + 128 = c.toNat by omega]
          simp
theorem takeL_canon {l : List UInt8} (h : (takeL l).2.2 = 0) : l = numB (takeL l).1 ++ l.drop (takeL l).2.1 := by
  obtain ⟨x, h1, h2, h3, h4⟩ := takeGo_canon l 0 0 h
  have e1 : (takeL l).1 = x := by
    have : (takeGo l 0 0).1 = 0 + x * 128 ^ 0 := h1
    unfold takeL; rw [this]; simp
  have e2 : l.take (takeL l).2.1 = numB x := h3
  rw [e1, ← e2, List.take_append_drop]
theorem takesL_canon : ∀ (k : Nat) (acc : List Nat) (l : List UInt8), (takesL k acc l).1 = 0 → ∃ xs : List Nat, xs.length = k ∧ (∀ x ∈ xs, x < 18446744073709551616) ∧ (takesL k acc l).2.1 = acc ++ xs ∧ l = xs.flatMap numB ++ (takesL k acc l).2.2
  | 0, acc, l, _ => ⟨[], rfl, (fun x hx => by cases hx), by simp [takesL], by simp [takesL]⟩
  | k + 1, acc, l, h => by
    unfold takesL at h ⊢
    by_cases h1 : (takeL l).2.2 = 0
    · rw [if_pos h1] at h ⊢
      obtain ⟨xs, a, b, c, d⟩ := takesL_canon k _ _ h
      refine ⟨(takeL l).1 :: xs, by simp [a], ?_, by rw [c]; simp, ?_⟩
      · intro x hx
        rcases List.mem_cons.1 hx with e | hx
        · rw [e]; exact (takeL_ok h1).1
        · exact b x hx
      · rw [List.flatMap_cons, List.append_assoc, ← d]
        exact takeL_canon h1
    · rw [if_neg h1] at h
      exact absurd h h1
theorem oneL_canon {l : List UInt8} (h : (oneL l).1 = 0) : l = itB (oneL l).2.1 ++ (oneL l).2.2 := by
  unfold oneL at h ⊢
  by_cases h2 : l.length < 2
  · rw [if_pos h2] at h; cases h
  · rw [if_neg h2] at h ⊢
    by_cases h3 : (takesL 3 [] (l.drop 2)).1 = 0
    · rw [if_pos h3]
      obtain ⟨xs, a, b, c, d⟩ := takesL_canon 3 [] (l.drop 2) h3
      rw [List.nil_append] at c
      match xs, a with
      | [t, v, x], _ =>
        simp only [c]
        match l, h2 with
        | b0 :: b1 :: r, _ =>
          have ht := b t (by simp)
          have hv := b v (by simp)
          have hx := b x (by simp)
          have hb0 := b0.toNat_lt
          have hb1 := b1.toNat_lt
          have e1 : ∀ n : Nat, n < 256 → (Int64.ofInt (n : Int)).toInt = (n : Int) := fun n hn => by rw [Int64.toInt_ofInt_of_le (by omega) (by simp; omega)]
          have hub : -9223372036854775808 ≤ unsignZ x ∧ unsignZ x ≤ 9223372036854775807 := by unfold unsignZ; split <;> omega
          have ex : (Int64.ofInt (unsignZ x)).toInt = unsignZ x := by rw [Int64.toInt_ofInt_of_le (by simpa using hub.1) (by have := hub.2; simp; omega)]
          have eb : ∀ q : UInt8, byteOf (q.toNat : Int) = q := fun q => by
            have hq := q.toNat_lt
            unfold byteOf
            rw [show ((q.toNat : Int) % 256).toNat = q.toNat by omega]
            simp
          simp only [List.drop_succ_cons, List.drop_zero, List.getD_cons_zero, List.getD_cons_succ] at d ⊢
          simp only [itB, mkIt, e1 _ hb0, e1 _ hb1, eb, ex, sign_unsign]
          have et : (UInt64.ofNat t).toNat = t := by simp; omega
          have ev : (UInt64.ofNat v).toNat = v := by simp; omega
          rw [et, ev]
          simp only [List.cons_append, List.cons.injEq, true_and]
          conv => lhs; rw [d]
          simp
        | [_], h2 => exact absurd (by simp) h2
        | [], h2 => exact absurd (by simp) h2
    · rw [if_neg h3] at h
      exact absurd h h3
theorem itsL_canon : ∀ (k : Nat) (acc : List It) (l : List UInt8), (itsL k acc l).1 = 0 → ∃ q : List It, q.length = k ∧ (itsL k acc l).2.1 = acc ++ q ∧ l = q.flatMap itB ++ (itsL k acc l).2.2
  | 0, acc, l, _ => ⟨[], rfl, by simp [itsL], by simp [itsL]⟩
  | k + 1, acc, l, h => by
    unfold itsL at h ⊢
    by_cases h1 : (oneL l).1 = 0
    · rw [if_pos h1] at h ⊢
      obtain ⟨q, a, b, c⟩ := itsL_canon k _ _ h
      refine ⟨(oneL l).2.1 :: q, by simp [a], by rw [b]; simp, ?_⟩
      rw [List.flatMap_cons, List.append_assoc, ← c]
      exact oneL_canon h1
    · rw [if_neg h1] at h
      exact absurd h h1
/-- items that are read are written just so -/
theorem readL_canon {l : List UInt8} (h : (readL l).1 = 0) : l = itemsB (readL l).2 ∧ bytesE (readL l).2 = 0 := by
  unfold readL at h ⊢
  by_cases h1 : (takeL l).2.2 ≠ 0
  · rw [if_pos h1] at h; exact absurd h h1
  · rw [if_neg h1] at h ⊢
    by_cases h2 : 2000 < (takeL l).1
    · rw [if_pos h2] at h; cases h
    · rw [if_neg h2] at h ⊢
      by_cases h3 : (itsL (takeL l).1 [] (l.drop (takeL l).2.1)).1 ≠ 0
      · rw [if_pos h3] at h; exact absurd h h3
      · rw [if_neg h3] at h ⊢
        by_cases h4 : (itsL (takeL l).1 [] (l.drop (takeL l).2.1)).2.2.length = 0 ∧ (itsL (takeL l).1 [] (l.drop (takeL l).2.1)).2.1.all okB = true
        · rw [if_pos h4]
          obtain ⟨q, a, b, c⟩ := itsL_canon _ [] _ (Decidable.not_not.1 h3)
          rw [List.nil_append] at b
          have ht := takeL_canon (Decidable.not_not.1 h1)
          rw [List.eq_nil_of_length_eq_zero h4.1, List.append_nil] at c
          simp only []
          refine ⟨?_, ?_⟩
          · unfold itemsB
            rw [b, a, ← c]
            exact ht
          · unfold bytesE
            rw [b, a, if_neg h2, ← b, h4.2]; rfl
        · rw [if_neg h4] at h; cases h
theorem openE_ok {l : List UInt8} (h : openE l = 0) : sealB (l.take (l.length - 4)) = l ∧ 4 ≤ l.length := by
  unfold openE at h
  split at h
  · cases h
  · split at h
    · exact ⟨by assumption, by omega⟩
    · cases h
theorem head_back {r : List UInt8} (h : 4 ≤ r.length) : headB ((r.getD 0 0).toNat : Int) (headN r) = r.take 4 := by
  obtain ⟨b0, b1, b2, b3, t, rfl⟩ : ∃ b0 b1 b2 b3 t, r = b0 :: b1 :: b2 :: b3 :: t := by
    rcases r with _ | ⟨b0, _ | ⟨b1, _ | ⟨b2, _ | ⟨b3, t⟩⟩⟩⟩
    · simp at h
    · simp at h
    · simp at h
    · simp at h
    · exact ⟨_, _, _, _, _, rfl⟩
  clear h
  have q0 := b0.toNat_lt
  have q1 := b1.toNat_lt
  have q2 := b2.toNat_lt
  have q3 := b3.toNat_lt
  simp only [headB, headN, List.getD_cons_zero, List.getD_cons_succ, List.take_succ_cons, List.take_zero]
  have e0 : byteOf (b0.toNat : Int) = b0 := by
    unfold byteOf
    rw [show ((b0.toNat : Int) % 256).toNat = b0.toNat by omega]
    simp
  have e1 : UInt8.ofNat ((b1.toNat * 65536 + b2.toNat * 256 + b3.toNat) / 65536) = b1 := by
    rw [show (b1.toNat * 65536 + b2.toNat * 256 + b3.toNat) / 65536 = b1.toNat by omega]; simp
  have e2 : UInt8.ofNat ((b1.toNat * 65536 + b2.toNat * 256 + b3.toNat) / 256) = b2 := by
    apply UInt8.toNat_inj.1
    rw [UInt8.toNat_ofNat']
    omega
  have e3 : UInt8.ofNat (b1.toNat * 65536 + b2.toNat * 256 + b3.toNat) = b3 := by
    apply UInt8.toNat_inj.1
    rw [UInt8.toNat_ofNat']
    omega
  rw [e0, e1, e2, e3]
/-- a frame that is taken is written just so -/
theorem takeR_canon {r : List UInt8} (h : (takeR r).1 = 0) : ∃ (k : Nat) (body : List UInt8), takeR r = (0, k, body, body.length + 12) ∧ 1 ≤ k ∧ k ≤ 100 ∧ body.length ≤ 60000 ∧ body.length + 12 ≤ r.length ∧ r = frameB (k : Int) body ++ r.drop (body.length + 12) := by
  unfold takeR at h ⊢
  by_cases h1 : r.length < 8
  · rw [if_pos h1] at h; cases h
  · rw [if_neg h1] at h ⊢
    by_cases h2 : openE (r.take 8) ≠ 0
    · rw [if_pos h2] at h; exact absurd h h2
    · rw [if_neg h2] at h ⊢
      by_cases h3 : (r.getD 0 0).toNat < 1 ∨ 100 < (r.getD 0 0).toNat ∨ 60000 < headN r
      · rw [if_pos h3] at h; cases h
      · rw [if_neg h3] at h ⊢
        by_cases h4 : r.length - 8 < headN r + 4
        · rw [if_pos h4] at h; cases h
        · rw [if_neg h4] at h ⊢
          by_cases h5 : openE ((r.drop 8).take (headN r + 4)) ≠ 0
          · rw [if_pos h5] at h; exact absurd h h5
          · rw [if_neg h5]
            obtain ⟨s1, -⟩ := openE_ok (Decidable.not_not.1 h2)
            obtain ⟨s2, -⟩ := openE_ok (Decidable.not_not.1 h5)
            have hl : ((r.drop 8).take (headN r)).length = headN r := by rw [List.length_take, List.length_drop]; omega
            have hl2 : ((r.drop 8).take (headN r + 4)).length = headN r + 4 := by rw [List.length_take, List.length_drop]; omega
            have hl3 : (r.take 8).length = 8 := by rw [List.length_take]; omega
            rw [hl3] at s1
            rw [hl2, show headN r + 4 - 4 = headN r by omega, List.take_take, Nat.min_eq_left (by omega)] at s2
            rw [List.take_take, show min (8 - 4) 8 = 4 by omega] at s1
            refine ⟨(r.getD 0 0).toNat, (r.drop 8).take (headN r), by rw [hl], by omega, by omega, by rw [hl]; omega, by rw [hl]; omega, ?_⟩
            rw [hl]
            have hh : headB ((r.getD 0 0).toNat : Int) (headN r) = r.take 4 := by
              exact head_back (by omega)
            unfold frameB
            rw [hl, hh, s1, s2, List.append_assoc]
            have e : (r.drop 8).take (headN r + 4) ++ r.drop (headN r + 12) = r.drop 8 := by
              rw [show headN r + 12 = 8 + (headN r + 4) by omega, ← List.drop_drop, List.take_append_drop]
            rw [e, List.take_append_drop]
theorem takeF_canon {l : List UInt8} {at_ : Int} (h : (takeF l at_).1 = 0) : ∃ (k : Nat) (body : List UInt8) (p : Nat), at_ = (p : Int) ∧ p + (body.length + 12) ≤ l.length ∧ takeF l at_ = (0, k, body, ((p + (body.length + 12) : Nat) : Int)) ∧ 1 ≤ k ∧ k ≤ 100 ∧ body.length ≤ 60000 ∧ l = l.take p ++ (frameB (k : Int) body ++ l.drop (p + (body.length + 12))) := by
  unfold takeF at h ⊢
  by_cases h0 : at_ < 0 ∨ (l.length : Int) < at_
  · rw [if_pos h0] at h; cases h
  · rw [if_neg h0] at h ⊢
    obtain ⟨k, body, h1, h2, h3, h4, h5, h6⟩ := takeR_canon h
    rw [List.length_drop] at h5
    refine ⟨k, body, at_.toNat, by omega, by omega, ?_, h2, h3, h4, ?_⟩
    · simp only [h1, if_true]
      rw [show at_ + ((body.length + 12 : Nat) : Int) = ((at_.toNat + (body.length + 12) : Nat) : Int) by omega]
    · rw [← List.drop_drop, ← h6, List.take_append_drop]
/-- a block that is taken is written just so -/
theorem takeB_canon {l : List UInt8} {at_ : Int} {q : List It} {n : Int} (h : takeB l at_ = (0, q, n)) : ∃ p m : Nat, at_ = (p : Int) ∧ n = (m : Int) ∧ p < m ∧ m ≤ l.length ∧ bErr q = 0 ∧ (l.drop p).take (m - p) = frameB 2 (itemsB q) := by
  unfold takeB at h
  simp only [] at h
  split at h
  · cases h
  · split at h
    · cases h
    · split at h
      · cases h
      · rename_i h1 h2 h3
        have hE : (takeF l at_).1 = 0 := Decidable.not_not.1 fun h' => h2 (.inl h')
        have hK : (takeF l at_).2.1 = 2 := Decidable.not_not.1 fun h' => h2 (.inr h')
        have hR : (readL (takeF l at_).2.2.1).1 = 0 := Decidable.not_not.1 fun h' => h3 (.inl h')
        have hB : bErr (readL (takeF l at_).2.2.1).2 = 0 := Decidable.not_not.1 fun h' => h3 (.inr h')
        obtain ⟨k, body, p, a, b, c, d1, d2, d3, e⟩ := takeF_canon hE
        rw [c] at h hK hR hB
        simp only [] at h hK hR hB
        obtain ⟨r1, r2⟩ := readL_canon hR
        have hq : (readL body).2 = q := by injection h with _ h; injection h
        have hn : ((p + (body.length + 12) : Nat) : Int) = n := by injection h with _ h; injection h
        rw [hq] at r1 hB
        subst hK
        refine ⟨p, p + (body.length + 12), a, hn.symm, by omega, b, hB, ?_⟩
        have hfl := frameB_len ((2 : Nat) : Int) body
        rw [show p + (body.length + 12) - p = body.length + 12 by omega, ← r1]
        conv => lhs; rw [e]
        rw [List.drop_append_of_le_length (by rw [List.length_take]; omega), List.drop_eq_nil_of_le (by rw [List.length_take]; omega), List.nil_append, List.take_append_of_le_length (by rw [hfl]; omega), List.take_of_length_le (by rw [hfl]; omega)]
        rfl
theorem takeB_no {l : List UInt8} {at_ : Int} {E : Nat} {q : List It} {n : Int} (h : takeB l at_ = (E, q, n)) (hE : E ≠ 0) : q = [] ∧ n = 0 ∧ (E = 9 ∨ E = 1 ∧ (at_ < 0 ∨ (l.length : Int) < at_)) := by
  unfold takeB at h
  simp only [] at h
  split at h
  · rename_i h1
    injection h with h2 h3
    injection h3 with h3 h4
    exact ⟨h3.symm, h4.symm, .inr ⟨h2.symm, takeF_one.1 h1⟩⟩
  · split at h
    · injection h with h2 h3
      injection h3 with h3 h4
      exact ⟨h3.symm, h4.symm, .inl h2.symm⟩
    · split at h
      · injection h with h2 h3
        injection h3 with h3 h4
        exact ⟨h3.symm, h4.symm, .inl h2.symm⟩
      · injection h with h2 h3
        exact absurd h2.symm hE
theorem xor_byteX (x y : Int) : ∃ z : UInt8, bits .xor .u8 x y = (z.toNat : Int) := by
  have h : ∃ q : Int, bits .xor .u8 x y = IntKind.u8.wrap q := ⟨_, rfl⟩
  obtain ⟨q, hq⟩ := h
  refine ⟨UInt8.ofNat (q % 256).toNat, ?_⟩
  rw [hq, IntKind.wrap_u8]
  have h0 : 0 ≤ q % 256 := by omega
  have h1 : q % 256 < 256 := by omega
  simp
  omega
theorem keepsUpX {w wq w2 : World} {gx : Nat} (hu : Up w wq) (hg : w.heap.size ≤ gx) (hK : Rg.Keeps (fun g => g = gx) wq w2) : Up w w2 :=
  ⟨hK.os.trans hu.os, hK.tape.trans hu.tape, hK.output.trans hu.output, Nat.le_trans hu.size hK.size, fun k hk => (hK.block k (Nat.lt_of_lt_of_le hk hu.size) (by show ¬ k = gx; omega)).trans (hu.block k hk)⟩
end Go.Proofs.Ytijekbeofpaojaa

/-
  The walk of clepsydraref1.Split.
-/
namespace Go.Proofs.Ytijekbeofpaojaa
open Go.RowKit
set_option linter.unusedVariables false
set_option linter.unusedSimpArgs false

end Go.Proofs.Ytijekbeofpaojaa

/-
  []byte(s): a new slice that holds a text's bytes.
-/
namespace Go.Proofs.Ytijekbeofpaojaa
open Go.RowKit
set_option linter.unusedVariables false
set_option linter.unusedSimpArgs false

theorem conv_b (w : World) (l : List UInt8) : ∃ c w', (convert 9 22 (.string (tx l))).run Try.prog w = .ok (.slice (some ⟨w.heap.size, 0, none⟩) l.length c) w' ∧ l.length ≤ c ∧
    Rd w' w'.heap.size 1 (some ⟨w.heap.size, 0, none⟩) l.length (bvs l) ∧ Up w w' ∧ (∀ j, j < l.length → w'.frozen? ⟨w.heap.size, j, none⟩ = false) ∧ w.heap.size < w'.heap.size := by
  have hrun := Lib.run_convert_string_bytes (P := Try.prog) w 9 22 5 (tx l) Try.underlying9 bytesT.ut Try.underlying5
  rw [tx_size] at hrun
  refine ⟨_, _, hrun, grownCap_ge w _ 0 _, ⟨by rw [bvs_length, Nat.mul_one], fun _ => ⟨w.heap.size, 0, rfl, by rw [Lib.bytesWorld_size]; omega, fun j u hu => ?_⟩⟩, ⟨rfl, rfl, rfl, by rw [Lib.bytesWorld_size]; omega, fun k hk => Lib.bytesWorld_at_old w _ _ k hk⟩, fun j hj => ?_, by rw [Lib.bytesWorld_size]; omega⟩
  · rw [Nat.zero_add]
    have hj := (List.getElem?_eq_some_iff.1 hu).1
    rw [bvs_length] at hj
    rw [Lib.bytesWorld_cell w _ _ j (by rw [tx_size]; exact hj), tx_list, ← hu]
    simp [bvs, bv, hj, List.getD]
  · have hge := grownCap_ge w l.length 0 5
    unfold World.frozen?
    rw [Lib.bytesWorld_at_new]
    have hs : j < (Lib.bytesCells w 5 (tx l)).size := by
      unfold Lib.bytesCells
      simp [tx_size]; omega
    simp
    omega
end Go.Proofs.Ytijekbeofpaojaa

/-
  []byte(s) whose bytes are written: the new block itself.
-/
namespace Go.Proofs.Ytijekbeofpaojaa
open Go.RowKit
set_option linter.unusedVariables false
set_option linter.unusedSimpArgs false

/-- the block g begins with these bytes; none of them is shut -/
def Beg (g : Nat) (l : List UInt8) (w : World) : Prop := ∃ (cs : Array Value) (t : TypeId) (fz : Nat × Nat), w.heap[g]? = some (.cells cs t fz) ∧ l.length ≤ cs.size ∧ l.length ≤ fz.1 ∧ ∀ j, j < l.length → cs[j]? = some (bv (l.getD j 0))
theorem Beg.sta {g : Nat} {l : List UInt8} {w w' : World} {Y : Nat → Prop} (h : Beg g l w) (hs : Rg.Sta Y w w') (hy : Y g) : Beg g l w' := by
  obtain ⟨cs, t, fz, hh, h2, h3⟩ := h
  exact ⟨cs, t, fz, (hs.block g (Array.getElem?_eq_some_iff.1 hh).1 hy).trans hh, h2, h3⟩
theorem Beg.up {g : Nat} {l : List UInt8} {w w' : World} (h : Beg g l w) (hu : Up w w') : Beg g l w' := by
  obtain ⟨cs, t, fz, hh, h2, h3⟩ := h
  exact ⟨cs, t, fz, (hu.block g (Array.getElem?_eq_some_iff.1 hh).1).trans hh, h2, h3⟩
theorem Beg.cell {g : Nat} {l : List UInt8} {w : World} (h : Beg g l w) {j : Nat} (hj : j < l.length) : w.cell? ⟨g, j, none⟩ = some (bv (l.getD j 0)) := by
  obtain ⟨cs, t, fz, hh, h2, h4, h3⟩ := h
  rw [cell_of_row w g j cs t fz hh, h3 j hj]
theorem Beg.free {g : Nat} {l : List UInt8} {w : World} (h : Beg g l w) {j : Nat} (hj : j < l.length) : w.frozen? ⟨g, j, none⟩ = false := by
  obtain ⟨cs, t, fz, hh, h2, h4, h3⟩ := h
  simp [World.frozen?, hh]
  omega
theorem Beg.lt {g : Nat} {l : List UInt8} {w : World} (h : Beg g l w) : g < w.heap.size := by
  obtain ⟨cs, t, fz, hh, h2, h3⟩ := h
  exact (Array.getElem?_eq_some_iff.1 hh).1
theorem Beg.rd {g : Nat} {l : List UInt8} {w : World} (h : Beg g l w) : Rd w w.heap.size 1 (some ⟨g, 0, none⟩) l.length (bvs l) := by
  refine ⟨by rw [bvs_length, Nat.mul_one], fun _ => ⟨g, 0, rfl, h.lt, fun j u hu => ?_⟩⟩
  have hj := (List.getElem?_eq_some_iff.1 hu).1
  rw [bvs_length] at hj
  rw [Nat.zero_add, h.cell hj, ← hu]
  simp [bvs, bv, hj, List.getD]
theorem Beg.set {g : Nat} {l : List UInt8} {w : World} (h : Beg g l w) {j : Nat} (hj : j < l.length) (x : UInt8) : Beg g (l.set j x) (w.setCell ⟨g, j, none⟩ (bv x)) := by
  obtain ⟨cs, t, fz, hh, h2, h4, h3⟩ := h
  refine ⟨cs.setIfInBounds j (bv x), t, fz, by simp [World.setCell, Array.getElem?_modify, hh], by simp; exact h2, by simp; exact h4, fun i hi => ?_⟩
  rw [List.length_set] at hi
  by_cases hij : j = i
  · subst hij
    rw [Array.getElem?_setIfInBounds_self_of_lt (by omega)]
    simp [List.getD, hj]
  · rw [Array.getElem?_setIfInBounds_ne hij, h3 i hi]
    simp [List.getD, List.getElem?_set_ne hij]
theorem conv_beg (w : World) (l : List UInt8) : ∃ c w', (convert 9 22 (.string (tx l))).run Try.prog w = .ok (.slice (some ⟨w.heap.size, 0, none⟩) l.length c) w' ∧ l.length ≤ c ∧
    Beg w.heap.size l w' ∧ Up w w' := by
  have hrun := Lib.run_convert_string_bytes (P := Try.prog) w 9 22 5 (tx l) Try.underlying9 bytesT.ut Try.underlying5
  rw [tx_size] at hrun
  refine ⟨_, _, hrun, grownCap_ge w _ 0 _, ?_, ⟨rfl, rfl, rfl, by rw [Lib.bytesWorld_size]; omega, fun k hk => Lib.bytesWorld_at_old w _ _ k hk⟩⟩
  have hge := grownCap_ge w l.length 0 5
  have hs : l.length ≤ (Lib.bytesCells w 5 (tx l)).size := by
    unfold Lib.bytesCells
    simp [tx_size]
  refine ⟨_, _, _, Lib.bytesWorld_at_new w _ _, hs, hs, fun j hj => ?_⟩
  have hc := Lib.bytesWorld_cell w 5 (tx l) j (by rw [tx_size]; exact hj)
  rw [tx_list] at hc
  rw [cell_of_row _ _ _ _ _ _ (Lib.bytesWorld_at_new w _ _)] at hc
  exact hc
end Go.Proofs.Ytijekbeofpaojaa

/-
  []byte(s) that is written and appended to: the new block with its spare places.
-/
namespace Go.Proofs.Ytijekbeofpaojaa
open Go.RowKit
set_option linter.unusedVariables false
set_option linter.unusedSimpArgs false

def BegC (g : Nat) (l : List UInt8) (cap : Nat) (w : World) : Prop := ∃ (cs : Array Value) (fz : Nat × Nat), w.heap[g]? = some (.cells cs 5 fz) ∧ l.length ≤ cap ∧ cs.size = cap ∧ cap ≤ fz.1 ∧ ∀ j, j < l.length → cs[j]? = some (bv (l.getD j 0))
theorem BegC.beg {g cap : Nat} {l : List UInt8} {w : World} (h : BegC g l cap w) : Beg g l w := by
  obtain ⟨cs, fz, hh, h1, h2, h3, h4⟩ := h
  exact ⟨cs, _, fz, hh, by omega, by omega, h4⟩
theorem BegC.set {g cap : Nat} {l : List UInt8} {w : World} (h : BegC g l cap w) {j : Nat} (hj : j < l.length) (x : UInt8) : BegC g (l.set j x) cap (w.setCell ⟨g, j, none⟩ (bv x)) := by
  obtain ⟨cs, fz, hh, h1, h2, h3, h4⟩ := h
  refine ⟨cs.setIfInBounds j (bv x), fz, by simp [World.setCell, Array.getElem?_modify, hh], by simp; exact h1, by simp; exact h2, h3, fun i hi => ?_⟩
  rw [List.length_set] at hi
  by_cases hij : j = i
  · subst hij
    rw [Array.getElem?_setIfInBounds_self_of_lt (by omega)]
    simp [List.getD, hj]
  · rw [Array.getElem?_setIfInBounds_ne hij, h4 i hi]
    simp [List.getD, List.getElem?_set_ne hij]
theorem conv_begc (w : World) (l : List UInt8) : ∃ c w', (convert 9 22 (.string (tx l))).run Try.prog w = .ok (.slice (some ⟨w.heap.size, 0, none⟩) l.length c) w' ∧ l.length ≤ c ∧
    BegC w.heap.size l c w' ∧ Up w w' := by
  have hrun := Lib.run_convert_string_bytes (P := Try.prog) w 9 22 5 (tx l) Try.underlying9 bytesT.ut Try.underlying5
  rw [tx_size] at hrun
  have hge := grownCap_ge w l.length 0 5
  have hs : (Lib.bytesCells w 5 (tx l)).size = grownCap w l.length 0 5 := by
    unfold Lib.bytesCells
    have hd : (tx l).data.size = l.length := by rw [← tx_size]; rfl
    simp only [Array.size_append, Array.size_map, Array.size_replicate, tx_size, hd]
    omega
  refine ⟨_, _, hrun, hge, ?_, ⟨rfl, rfl, rfl, by rw [Lib.bytesWorld_size]; omega, fun k hk => Lib.bytesWorld_at_old w _ _ k hk⟩⟩
  refine ⟨_, _, Lib.bytesWorld_at_new w _ _, hge, hs, by rw [hs]; exact Nat.le_refl _, fun j hj => ?_⟩
  have hc := Lib.bytesWorld_cell w 5 (tx l) j (by rw [tx_size]; exact hj)
  rw [tx_list] at hc
  rw [cell_of_row _ _ _ _ _ _ (Lib.bytesWorld_at_new w _ _)] at hc
  exact hc
/-- append(c[:k], x...) -/
theorem run_append_begc (ty : TypeId) {w0 w : World} {g cap k m c B : Nat} {l news : List UInt8} {A : Option Addr} (hB : BegC g l cap w) (hk : k ≤ l.length) (hr : Rd w B 1 A m (bvs news)) (hb : k + m ≤ 140737488355328) (hg : w0.heap.size ≤ g) (hu : Up w0 w) :
    ∃ A' c' w', (Builtin.append_ #[22, 22] ty #[.slice (some ⟨g, 0, none⟩) k cap, .slice A m c]).run Try.prog w = .ok (.slice A' (k + m) c') w' ∧ Rd w' w'.heap.size 1 A' (k + m) (bvs (l.take k ++ news)) ∧ k + m ≤ c' ∧ Up w0 w' := by
  have hBg := hB.beg
  have hrd := hBg.rd.bto hk
  obtain ⟨ht, ⟨i, z, hi, hz, hsize, hby, hzs⟩, hsz⟩ := bytesT
  have hgl := hBg.lt
  have hnl : news.length = m := hr.blen.symm
  obtain ⟨cs, fz, hh, h1, h2, h3, h4⟩ := hB
  rcases A with _ | ad
  · have hm : m = 0 := by
      rcases Nat.eq_zero_or_pos m with h0 | h0
      · exact h0
      · obtain ⟨b, o, h, _⟩ := hr.2 h0
        cases h
    subst hm
    have hn : news = [] := List.eq_nil_of_length_eq_zero hnl
    subst hn
    refine ⟨some ⟨g, 0, none⟩, cap, w, ?_, by simpa using hrd, by omega, hu⟩
    have hkc : k ≤ cap := by omega
    simp [Builtin.append_, run_underlying ht, sizeOf, typeInfo, hi, Builtin.lenOf, Builtin.firstCells, hkc, storeCells]
  · have hcells : ∀ j u, (bvs news)[j]? = some u → w.cell? (ad.add j) = some u := by
      intro j u hj
      rcases Nat.eq_zero_or_pos m with h0 | h0
      · have hn : news = [] := List.eq_nil_of_length_eq_zero (by omega)
        subst hn
        simp [bvs] at hj
      · obtain ⟨b, o, h, _, hc⟩ := hr.2 h0
        injection h with h
        subst h
        have e : (⟨b, o, none⟩ : Addr).add j = ⟨b, o + j, none⟩ := by unfold Addr.add; split <;> simp_all
        rw [e]
        exact hc j u hj
    have hbl : (bvs news).length = m := by rw [bvs_length, hnl]
    by_cases hroom : k + m ≤ cap
    · have hfit : ∀ j, j < (bvs news).length → (w.cell? ⟨g, 0 + k * i.size + j, none⟩).isSome = true := by
        intro j hj
        rw [hsize, cell_of_row w g _ cs _ fz hh]
        simp; omega
      have hfr : ∀ j, j < (bvs news).length → w.frozen? ⟨g, 0 + k * i.size + j, none⟩ = false := by
        intro j hj
        rw [hsize]
        simp [World.frozen?, hh]
        omega
      have hrun := run_append_room_cells (P := Try.prog) w 22 ty 5 i ht hi g 0 k cap ad m c (bvs news) (by rw [hbl, hsize, Nat.mul_one]) hcells (bvs_one _) hroom hfit hfr
      have hbs := below_sets g hg (bvs news) (0 + k * i.size) w (Below.refl w0.heap.size w)
      refine ⟨_, _, _, hrun, ?_, hroom, Below.trans (show Below w0.heap.size w0 w from hu) hbs⟩
      rw [hsize, Nat.mul_one, Nat.zero_add] at *
      refine ⟨by rw [bvs_length, List.length_append, List.length_take, hnl]; omega, fun _ => ⟨g, 0, rfl, Nat.lt_of_lt_of_le hgl hbs.size, fun j u hj => ?_⟩⟩
      rw [Nat.zero_add]
      rw [bvs_append, List.getElem?_append] at hj
      have hl : (bvs (l.take k)).length = k := by rw [bvs_length, List.length_take]; omega
      rw [hl] at hj
      by_cases hjk : j < k
      · rw [if_pos hjk] at hj
        rw [World.cell?_setCells_out g (bvs news) k w ⟨g, j, none⟩ (fun _ _ => .inl (by simp only; omega))]
        have := (hrd.2 (by omega))
        obtain ⟨b, o, e, _, hc⟩ := this
        injection e with e
        injection e with e1 e2
        subst e1; subst e2
        have := hc j u hj
        rwa [Nat.zero_add] at this
      · rw [if_neg hjk] at hj
        have e2 : j = k + (j - k) := by omega
        rw [e2]
        obtain ⟨hjn, hjv⟩ := List.getElem?_eq_some_iff.1 hj
        rw [World.cell?_setCells_in g (bvs news) k w (fun i hi => by rw [cell_of_row w g _ cs _ fz hh]; simp; omega) _ hjn, ← hjv]
    · have holds : ∀ j u, (bvs (l.take k))[j]? = some u → w.cell? ((⟨g, 0, none⟩ : Addr).add j) = some u := by
        intro j u hj
        have hjl := (List.getElem?_eq_some_iff.1 hj).1
        rw [bvs_length, List.length_take] at hjl
        have e : (⟨g, 0, none⟩ : Addr).add j = ⟨g, 0 + j, none⟩ := by unfold Addr.add; split <;> simp_all
        rw [e]
        obtain ⟨b, o, e, _, hc⟩ := hrd.2 (by omega)
        injection e with e
        injection e with e1 e2
        subst e1; subst e2
        exact hc j u hj
      obtain ⟨v', w', hrun, ho, hg'⟩ := run_append_arg_grows (P := Try.prog) w 22 ty 5 i z 1 1 ht hi hz hsize hby hzs hsz ⟨g, 0, none⟩ k cap (bvs (l.take k)) (by rw [bvs_length, List.length_take]; omega) holds ad m c (bvs news) (by rw [hbl, Nat.mul_one]) hcells (by omega) (by simp only [maxLen]; omega) (by omega)
      obtain ⟨A', c', rfl, hrd'⟩ := Rd.from_ownsRow ho
      exact ⟨A', c', w', hrun, by rw [bvs_append]; exact hrd', own_cap ho, hu.grown hg' (fun k hk => by cases hk)⟩
theorem wpList_append_begc {ops : Array Oper} {rest : List Oper} {o : Oper} {a : Act} {Q : Exit → Act → World → Prop} {s x : Operand} {w0 w : World} {g cap k m c B : Nat} {l news : List UInt8} {A : Option Addr} (hB : BegC g l cap w) (hk : k ≤ l.length) (hr : Rd w B 1 A m (bvs news)) (hb : k + m ≤ 140737488355328) (hg : w0.heap.size ≤ g) (hu : Up w0 w)
    (hgd : o.guard = none) (ho : o.op = .call { callee := .builtin .append, args := #[s, x], argTypes := #[22, 22] })
    (hs : a.eval s = .slice (some ⟨g, 0, none⟩) k cap) (hx : a.eval x = .slice A m c)
    (h : ∀ A' c' w', Rd w' w'.heap.size 1 A' (k + m) (bvs (l.take k ++ news)) → k + m ≤ c' → Up w0 w' → wpList Try.prog ops Q rest (a.put o.dst (.slice A' (k + m) c')) w') : wpList Try.prog ops Q (o :: rest) a w := by
  refine wpList_plain hgd fun _ hK => ?_
  obtain ⟨A', c', w', hrun, h2, h3, h4⟩ := run_append_begc o.type (c := c) hB hk hr hb hg hu
  unfold Oper.wp execOp
  simp only [ho, resolve, invoke, builtin, Sem.run_bind, Sem.run_pure, Result.andThen_ok, List.map_toArray, List.map_cons, List.map_nil, hs, hx, hrun]
  exact hK _ _ (h A' c' w' h2 h3 h4)
end Go.Proofs.Ytijekbeofpaojaa

/-
  Opening arguments: slices of items, of whole numbers.
-/
namespace Go.Proofs.Ytijekbeofpaojaa
open Go.ChangeShapes Go.WideShapes Go.ChangeAt Go.RowKit Go.Deep
set_option linter.unusedVariables false

instance : Inhabited It := ⟨⟨0, 0, 0, 0, 0⟩⟩
/-- a slice of items that came in -/
def IsI (w : World) (A : Option Addr) (n c : Nat) (l : List It) : Prop := Rd w w.heap.size 5 A n (itcs l) ∧ n ≤ c ∧ c ≤ 9223372036854775807
section
variable {H : Type} {enc : TypeId × Value → H} {W : World} {sp : Nat → Bool} {a : Option Addr} {len cap : Nat} {d : DataW H} {p : List MemPlace}
theorem is_i (h : DataW.Trod enc Try.prog W 0 (fun _ => true) true 23 (.slice a len cap) d p) : ∃ l, IsI W a len cap l := by
  obtain ⟨fuel, hf⟩ := h
  rcases open_slice Try.underlying23 hf with ⟨hcs, _⟩ | ⟨x, l, c, m, n, D, Pl, hcs, _, hl, hm, hmm, _, hx⟩
  · simp [Value.cells] at hcs
    obtain ⟨rfl, rfl, rfl⟩ := hcs
    exact ⟨[], Rd.empty, by omega, by omega⟩
  · simp [Value.cells] at hcs
    obtain ⟨rfl, rfl, rfl⟩ := hcs
    have hC : Try.prog.cellsOf 46 = 5 := by kernel_rfl
    rw [hC] at hx
    obtain ⟨L, hL, hr⟩ := rd_elems (W := W) (len := len) (a := x) (base := 0) itc (sz := 5) (fun _ => rfl) (by omega) (fun i hi => by
      obtain ⟨cs', h1, h2⟩ := hx i (by simp at hmm; omega)
      exact ⟨cs', h1, item_cells' h2⟩)
    exact ⟨L, hr, hl, by simpa only [maxLen] using hm⟩
/-- a slice of whole numbers that came in -/
def zvs (l : List Int64) : List Value := l.map fun z => Value.int .i64 z.toInt
def IsZ (w : World) (A : Option Addr) (n c : Nat) (l : List Int64) : Prop := Rd w w.heap.size 1 A n (zvs l) ∧ n ≤ c ∧ c ≤ 9223372036854775807
theorem is_z (h : DataW.Trod enc Try.prog W 0 (fun _ => true) true 39 (.slice a len cap) d p) : ∃ l, IsZ W a len cap l := by
  obtain ⟨fuel, hf⟩ := h
  rcases open_ints Try.underlying39 Try.underlying3 (by kernel_rfl) hf with ⟨hcs, _⟩ | ⟨x, l, c, zs, hcs, _, hl, hm, hz, _, hcell, hwz⟩
  · simp [Value.cells] at hcs
    obtain ⟨rfl, rfl, rfl⟩ := hcs
    exact ⟨[], Rd.empty, by omega, by omega⟩
  · simp [Value.cells] at hcs
    obtain ⟨rfl, rfl, rfl⟩ := hcs
    refine ⟨_, rd_ints (fun z : Int64 => Value.int .i64 z.toInt) (fun n => Int64.ofInt n) (fun n hn => ?_) hl (by simpa using hz) hcell hwz, hl, by simpa only [maxLen] using hm⟩
    exact congrArg _ (i64_of hn).symm
theorem Rd.zlen {w : World} {B n : Nat} {A : Option Addr} {q : List Int64} (h : Rd w B 1 A n (zvs q)) : n = q.length := by have := h.1; simp [zvs] at this; omega
theorem Rd.znum {w : World} {B n : Nat} {A : Option Addr} {q : List Int64} (h : Rd w B 1 A n (zvs q)) {k : Nat} (hk : k < n) :
    ∃ b o, A = some ⟨b, o, none⟩ ∧ b < B ∧ w.cell? ⟨b, o + k, none⟩ = some (.int .i64 (q.getD k 0).toInt) := by
  obtain ⟨b, o, e, hb, hc⟩ := h.2 (by omega)
  have hl : k < q.length := by have := h.zlen; omega
  exact ⟨b, o, e, hb, hc k _ (by simp [zvs, hl, List.getD])⟩
end
end Go.Proofs.Ytijekbeofpaojaa

/-
  How many items a slice that came in has at most.
-/
namespace Go.Proofs.Ytijekbeofpaojaa
open Go.ChangeShapes Go.WideShapes Go.ChangeAt Go.RowKit Go.Deep
set_option linter.unusedVariables false

section
variable {H : Type} {enc : TypeId × Value → H} {W : World} {a : Option Addr} {len cap : Nat} {d : DataW H} {p : List MemPlace}
theorem item_bytes : Try.prog.bytesOf 46 = 40 := by kernel_rfl
theorem i_reach (h : DataW.Trod enc Try.prog W 0 (fun _ => true) true 23 (.slice a len cap) d p) {ts : List TypeId} {ds : List (DataW H)} (hz : (DataW.weightsEach Try.prog ts ds).all (· ≤ reachBytes) = true) {j : Nat} (ht : ts[j]? = some 23) (hd : ds[j]? = some d) : len ≤ 3518437208780 := by
  obtain ⟨fuel, hf⟩ := h
  rcases open_slice Try.underlying23 hf with ⟨hcs, _⟩ | ⟨x, l, c, m, n, D, Pl, hcs, _, hl, hm, hmm, hx0, hx⟩
  · simp [Value.cells] at hcs
    obtain ⟨rfl, rfl, rfl⟩ := hcs
    omega
  · simp [Value.cells] at hcs
    obtain ⟨rfl, rfl, rfl⟩ := hcs
    have hd2 := congrArg Prod.fst hx0
    dsimp only at hd2
    rw [hd2] at hd
    have h9 := sized_slice hz ht hd Try.underlying23
    rw [item_bytes] at h9
    simp only [List.length_map, List.length_range, reachBytes] at h9
    have h8 : m = cap := by simpa using hmm
    omega
end
end Go.Proofs.Ytijekbeofpaojaa

/-
  The walks of msg.isNode, msg.withItems, msg.Ok, and of the document's MsgOk.
-/
namespace Go.Proofs.Ytijekbeofpaojaa
open Go.RowKit
set_option linter.unusedVariables false
set_option linter.unusedSimpArgs false

def nodeB (n : Int) : Bool := decide (0 ≤ n ∧ n < 7)
def withB (k : Int) : Bool := decide (k = 1 ∨ k = 5 ∨ k = 7 ∨ k = 8)
def msgB (k f t : Int) (id n : Nat) (l : List It) : Bool := decide (1 ≤ k ∧ k ≤ 10 ∧ (0 ≤ f ∧ f < 7) ∧ (0 ≤ t ∧ t < 7) ∧ id ≤ 1099511627776 ∧ n ≤ 281474976710656 ∧ l.length ≤ 1500 ∧ (l.length = 0 ∨ withB k = true)) && l.all okB
end Go.Proofs.Ytijekbeofpaojaa

/-
  The walks of slices.Equal at items, of the document's Equal at any two rows, of msg.Same and SameMsg.
-/
namespace Go.Proofs.Ytijekbeofpaojaa
open Go.RowKit
set_option linter.unusedVariables false
set_option linter.unusedSimpArgs false

theorem it_ext {a b : It} (h1 : a.s.toInt = b.s.toInt) (h2 : a.k.toInt = b.k.toInt) (h3 : a.t.toNat = b.t.toNat) (h4 : a.v.toNat = b.v.toNat) (h5 : a.x.toInt = b.x.toInt) : a = b := by
  obtain ⟨a1, a2, a3, a4, a5⟩ := a
  obtain ⟨b1, b2, b3, b4, b5⟩ := b
  simp only [It.mk.injEq]
  exact ⟨Int64.toInt_inj.1 h1, Int64.toInt_inj.1 h2, UInt64.toNat_inj.1 h3, UInt64.toNat_inj.1 h4, Int64.toInt_inj.1 h5⟩
instance : DecidableEq It := fun a b => decidable_of_iff (a.s.toInt = b.s.toInt ∧ a.k.toInt = b.k.toInt ∧ a.t.toNat = b.t.toNat ∧ a.v.toNat = b.v.toNat ∧ a.x.toInt = b.x.toInt)
  ⟨fun ⟨h1, h2, h3, h4, h5⟩ => it_ext h1 h2 h3 h4 h5, fun h => by rw [h]; exact ⟨rfl, rfl, rfl, rfl, rfl⟩⟩
set_option maxRecDepth 100000 in
set_option maxHeartbeats 4000000 in
theorem requal_any (A : Option Addr) (n c : Nat) (l : List It) (A' : Option Addr) (n' c' : Nat) (l' : List It) (w : World)
    (hr : Rd w w.heap.size 5 A n (itcs l)) (hr' : Rd w w.heap.size 5 A' n' (itcs l')) (hn : n ≤ 1099511627776) (hn' : n' ≤ 1099511627776) :
    Calls Try.prog 15 #[.slice A n c, .slice A' n' c'] w fun e w' => e = .returned (.bool (decide (l = l'))) ∧ Up w w' := by
  have HL := Lib.hid hr.ilen
  have HL' := Lib.hid hr'.ilen
  by_cases k6 : n = n'
  · subst k6
    have hnn : ((n : Int) != (n : Int)) = false := by simp
    go_enter Try.func15, Try.ntmps15
    go_wp2_with fail
    go_loopw [5] (fun i wr => ∃ k : Nat, i = .int .i64 (k : Int) ∧ k ≤ n ∧ Hid (l.take k = l'.take k) ∧ Up w wr) (fun i _ => n - (intOf i).toNat)
    case atStart => exact ⟨0, rfl, by omega, rfl, Up.refl _⟩
    case round =>
      obtain ⟨k, rfl, hk, ht, hu⟩ := hrel
      by_cases hlt : k < n
      · obtain ⟨b, o, x, rfl, hb, hx, c0, c1, c2, c3, c4⟩ := (hr.up hu).item_at hlt
        obtain ⟨b', o', y, rfl, hb', hy, d0, d1, d2, d3, d4⟩ := (hr'.up hu).item_at hlt
        obtain ⟨x1, hx1⟩ : ∃ z, z = x.s.toInt := ⟨_, rfl⟩
        obtain ⟨x2, hx2⟩ : ∃ z, z = x.k.toInt := ⟨_, rfl⟩
        obtain ⟨x3, hx3⟩ : ∃ z : Int, z = (x.t.toNat : Int) := ⟨_, rfl⟩
        obtain ⟨x4, hx4⟩ : ∃ z : Int, z = (x.v.toNat : Int) := ⟨_, rfl⟩
        obtain ⟨x5, hx5⟩ : ∃ z, z = x.x.toInt := ⟨_, rfl⟩
        obtain ⟨y1, hy1⟩ : ∃ z, z = y.s.toInt := ⟨_, rfl⟩
        obtain ⟨y2, hy2⟩ : ∃ z, z = y.k.toInt := ⟨_, rfl⟩
        obtain ⟨y3, hy3⟩ : ∃ z : Int, z = (y.t.toNat : Int) := ⟨_, rfl⟩
        obtain ⟨y4, hy4⟩ : ∃ z : Int, z = (y.v.toNat : Int) := ⟨_, rfl⟩
        obtain ⟨y5, hy5⟩ : ∃ z, z = y.x.toInt := ⟨_, rfl⟩
        rw [← hx1] at c0
        rw [← hx2] at c1
        rw [← hx3] at c2
        rw [← hx4] at c3
        rw [← hx5] at c4
        rw [← hy1] at d0
        rw [← hy2] at d1
        rw [← hy3] at d2
        rw [← hy4] at d3
        rw [← hy5] at d4
        have X1 := Lib.hid hx1
        have X2 := Lib.hid hx2
        have X3 := Lib.hid hx3
        have X4 := Lib.hid hx4
        have X5 := Lib.hid hx5
        have Y1 := Lib.hid hy1
        have Y2 := Lib.hid hy2
        have Y3 := Lib.hid hy3
        have Y4 := Lib.hid hy4
        have Y5 := Lib.hid hy5
        clear hx1 hx2 hx3 hx4 hx5 hy1 hy2 hy3 hy4 hy5
        have hS : ∀ W, Up wr W → Up wr W ∧ (W.cell? ⟨b, o + k * 5, none⟩ = some (.int .i64 x1) ∧ W.cell? ⟨b, o + k * 5 + 1, none⟩ = some (.int .i64 x2) ∧ W.cell? ⟨b, o + k * 5 + 2, none⟩ = some (.int .u64 x3) ∧ W.cell? ⟨b, o + k * 5 + 3, none⟩ = some (.int .u64 x4) ∧ W.cell? ⟨b, o + k * 5 + 4, none⟩ = some (.int .i64 x5)) ∧
            (W.cell? ⟨b', o' + k * 5, none⟩ = some (.int .i64 y1) ∧ W.cell? ⟨b', o' + k * 5 + 1, none⟩ = some (.int .i64 y2) ∧ W.cell? ⟨b', o' + k * 5 + 2, none⟩ = some (.int .u64 y3) ∧ W.cell? ⟨b', o' + k * 5 + 3, none⟩ = some (.int .u64 y4) ∧ W.cell? ⟨b', o' + k * 5 + 4, none⟩ = some (.int .i64 y5)) := fun W h =>
          ⟨h, ⟨(h.cell (p := ⟨b, o + k * 5, none⟩) hb).trans c0, (h.cell (p := ⟨b, o + k * 5 + 1, none⟩) hb).trans c1, (h.cell (p := ⟨b, o + k * 5 + 2, none⟩) hb).trans c2, (h.cell (p := ⟨b, o + k * 5 + 3, none⟩) hb).trans c3, (h.cell (p := ⟨b, o + k * 5 + 4, none⟩) hb).trans c4⟩,
            (h.cell (p := ⟨b', o' + k * 5, none⟩) hb').trans d0, (h.cell (p := ⟨b', o' + k * 5 + 1, none⟩) hb').trans d1, (h.cell (p := ⟨b', o' + k * 5 + 2, none⟩) hb').trans d2, (h.cell (p := ⟨b', o' + k * 5 + 3, none⟩) hb').trans d3, (h.cell (p := ⟨b', o' + k * 5 + 4, none⟩) hb').trans d4⟩
        have hkl : k < l.length := by have := HL.out; omega
        have hkl' : k < l'.length := by have := HL'.out; omega
        rw [List.getElem?_eq_getElem hkl] at hx
        rw [List.getElem?_eq_getElem hkl'] at hy
        injection hx with hx
        injection hy with hy
        have HX := Lib.hid hx
        have HX' := Lib.hid hy
        have hki : (k : Int) < (n : Int) := by omega
        have hkb : decide ((k : Int) < (n : Int)) = true := by simp; omega
        clear hx hy c0 c1 c2 c3 c4 d0 d1 d2 d3 d4
        by_cases m1 : x1 = y1
        · by_cases m2 : x2 = y2
          · by_cases m3 : x3 = y3
            · by_cases m4 : x4 = y4
              · by_cases m5 : x5 = y5
                · subst m1; subst m2; subst m3; subst m4; subst m5
                  have hxy := it_ext (X1.out.symm.trans Y1.out) (X2.out.symm.trans Y2.out) (by have := X3.out; have := Y3.out; omega) (by have := X4.out; have := Y4.out; omega) (X5.out.symm.trans Y5.out)
                  have HXY := Lib.hid hxy
                  clear hxy
                  go_wp2_with fail
                  apply Rg.region_up _ (by kernel_rfl) (by kernel_rfl) hS
                  · intro QN hQN
                    iterate 9 (apply Rg.RK.ok; (· intro vs w1 hS; go_simp; with_reducible rfl); (· rfl); simp only [Act.put, List.setIfInBounds_toArray, List.set_cons_zero, List.set_cons_succ, Nat.reduceAdd])
                    apply Rg.RK.fin []
                    intro vs w1 hK hS _
                    refine hQN.out _ _ ?_
                    clear hQN
                    go_wp2_with fail
                    go_roundw
                    case rel =>
                      refine ⟨k + 1, by go_num, by omega, ?_, hu.trans (keeps_up hK)⟩
                      show _ = _
                      rw [List.take_succ_eq_append_getElem hkl, List.take_succ_eq_append_getElem hkl', ht.out, HX.out, HX'.out, HXY.out]
                    case measure => simp [intOf]; omega
                  · kernel_rfl
                · have hne : l ≠ l' := by
                    intro e
                    subst e
                    have h := HX.out.symm.trans HX'.out
                    have a1 := X1.out; have a2 := X2.out; have a3 := X3.out; have a4 := X4.out; have a5 := X5.out
                    have b1 := Y1.out; have b2 := Y2.out; have b3 := Y3.out; have b4 := Y4.out; have b5 := Y5.out
                    rw [h] at a1 a2 a3 a4 a5
                    omega
                  have HNE := Lib.hid hne
                  clear hne
                  go_wp2_with fail
                  apply Rg.region_up _ (by kernel_rfl) (by kernel_rfl) hS
                  · intro QN hQN
                    iterate 9 (apply Rg.RK.ok; (· intro vs w1 hS; go_simp; with_reducible rfl); (· rfl); simp only [Act.put, List.setIfInBounds_toArray, List.set_cons_zero, List.set_cons_succ, Nat.reduceAdd])
                    apply Rg.RK.fin []
                    intro vs w1 hK hS _
                    refine hQN.out _ _ ?_
                    clear hQN
                    go_wp2_with fail
                    go_ret
                    refine ⟨retb ?_, hu.trans (keeps_up hK)⟩
                    have := HNE.out
                    simp [this]
                  · kernel_rfl
              · have hne : l ≠ l' := by
                  intro e
                  subst e
                  have h := HX.out.symm.trans HX'.out
                  have a1 := X1.out; have a2 := X2.out; have a3 := X3.out; have a4 := X4.out; have a5 := X5.out
                  have b1 := Y1.out; have b2 := Y2.out; have b3 := Y3.out; have b4 := Y4.out; have b5 := Y5.out
                  rw [h] at a1 a2 a3 a4 a5
                  omega
                have HNE := Lib.hid hne
                clear hne
                go_wp2_with fail
                apply Rg.region_up _ (by kernel_rfl) (by kernel_rfl) hS
                · intro QN hQN
                  iterate 9 (apply Rg.RK.ok; (· intro vs w1 hS; go_simp; with_reducible rfl); (· rfl); simp only [Act.put, List.setIfInBounds_toArray, List.set_cons_zero, List.set_cons_succ, Nat.reduceAdd])
                  apply Rg.RK.fin []
                  intro vs w1 hK hS _
                  refine hQN.out _ _ ?_
                  clear hQN
                  go_wp2_with fail
                  go_ret
                  refine ⟨retb ?_, hu.trans (keeps_up hK)⟩
                  have := HNE.out
                  simp [this]
                · kernel_rfl
            · have hne : l ≠ l' := by
                intro e
                subst e
                have h := HX.out.symm.trans HX'.out
                have a1 := X1.out; have a2 := X2.out; have a3 := X3.out; have a4 := X4.out; have a5 := X5.out
                have b1 := Y1.out; have b2 := Y2.out; have b3 := Y3.out; have b4 := Y4.out; have b5 := Y5.out
                rw [h] at a1 a2 a3 a4 a5
                omega
              have HNE := Lib.hid hne
              clear hne
              go_wp2_with fail
              apply Rg.region_up _ (by kernel_rfl) (by kernel_rfl) hS
              · intro QN hQN
                iterate 9 (apply Rg.RK.ok; (· intro vs w1 hS; go_simp; with_reducible rfl); (· rfl); simp only [Act.put, List.setIfInBounds_toArray, List.set_cons_zero, List.set_cons_succ, Nat.reduceAdd])
                apply Rg.RK.fin []
                intro vs w1 hK hS _
                refine hQN.out _ _ ?_
                clear hQN
                go_wp2_with fail
                go_ret
                refine ⟨retb ?_, hu.trans (keeps_up hK)⟩
                have := HNE.out
                simp [this]
              · kernel_rfl
          · have hne : l ≠ l' := by
              intro e
              subst e
              have h := HX.out.symm.trans HX'.out
              have a1 := X1.out; have a2 := X2.out; have a3 := X3.out; have a4 := X4.out; have a5 := X5.out
              have b1 := Y1.out; have b2 := Y2.out; have b3 := Y3.out; have b4 := Y4.out; have b5 := Y5.out
              rw [h] at a1 a2 a3 a4 a5
              omega
            have HNE := Lib.hid hne
            clear hne
            go_wp2_with fail
            apply Rg.region_up _ (by kernel_rfl) (by kernel_rfl) hS
            · intro QN hQN
              iterate 9 (apply Rg.RK.ok; (· intro vs w1 hS; go_simp; with_reducible rfl); (· rfl); simp only [Act.put, List.setIfInBounds_toArray, List.set_cons_zero, List.set_cons_succ, Nat.reduceAdd])
              apply Rg.RK.fin []
              intro vs w1 hK hS _
              refine hQN.out _ _ ?_
              clear hQN
              go_wp2_with fail
              go_ret
              refine ⟨retb ?_, hu.trans (keeps_up hK)⟩
              have := HNE.out
              simp [this]
            · kernel_rfl
        · have hne : l ≠ l' := by
            intro e
            subst e
            have h := HX.out.symm.trans HX'.out
            have a1 := X1.out; have a2 := X2.out; have a3 := X3.out; have a4 := X4.out; have a5 := X5.out
            have b1 := Y1.out; have b2 := Y2.out; have b3 := Y3.out; have b4 := Y4.out; have b5 := Y5.out
            rw [h] at a1 a2 a3 a4 a5
            omega
          have HNE := Lib.hid hne
          clear hne
          go_wp2_with fail
          apply Rg.region_up _ (by kernel_rfl) (by kernel_rfl) hS
          · intro QN hQN
            iterate 9 (apply Rg.RK.ok; (· intro vs w1 hS; go_simp; with_reducible rfl); (· rfl); simp only [Act.put, List.setIfInBounds_toArray, List.set_cons_zero, List.set_cons_succ, Nat.reduceAdd])
            apply Rg.RK.fin []
            intro vs w1 hK hS _
            refine hQN.out _ _ ?_
            clear hQN
            go_wp2_with fail
            go_ret
            refine ⟨retb ?_, hu.trans (keeps_up hK)⟩
            have := HNE.out
            simp [this]
          · kernel_rfl
      · go_wp2_with fail
        go_ret
        refine ⟨retb ?_, hu⟩
        have hkn : k = n := by omega
        have hll : l = l' := by
          have h := ht.out
          rwa [List.take_of_length_le (by have := HL.out; omega), List.take_of_length_le (by have := HL'.out; omega)] at h
        rw [hll]
        simp
  · have hne : decide (l = l') = false := by
      rw [decide_eq_false_iff_not]
      intro e
      apply k6
      rw [HL.out, HL'.out, e]
    have HNE := Lib.hid hne
    clear hne
    have hnn : ((n : Int) != (n' : Int)) = true := by simp; omega
    go_enter Try.func15, Try.ntmps15
    go_wp2_with fail
    go_ret
    refine ⟨retb ?_, Up.refl _⟩
    rw [HNE.out]
end Go.Proofs.Ytijekbeofpaojaa

/-
  The walk of block.Cut, whole: for every slice and every bound.
-/
namespace Go.Proofs.Ytijekbeofpaojaa
open Go.RowKit Go.Shelf
set_option linter.unusedVariables false
set_option linter.unusedSimpArgs false
attribute [local go_sem] Oper.semAt_some

set_option maxRecDepth 100000 in
set_option maxHeartbeats 1000000 in
theorem clone_own (A : Option Addr) (n c : Nat) (l : List It) (w : World) (hr : Rd w w.heap.size 5 A n (itcs l)) (hn : n ≤ 1099511627776) :
    Calls Try.prog 35 #[.slice A n c] w fun e w' => ∃ A' c', e = .returned (.slice A' n c') ∧ OwnI w' w.heap.size A' n c' l ∧ Up w w' := by
  have hnil : ∀ W, (binOp .eql 23 (.slice A n c) (.slice none 0 0)).run Try.prog W = .ok (.bool A.isNone) W := fun W => Lib.run_eql_slice_nil W 23 46 A n c 0 0 Try.underlying23
  rcases A with _ | ad
  · have h0 : n = 0 := by
      rcases Nat.eq_zero_or_pos n with h | h
      · exact h
      · obtain ⟨b, o, e, _⟩ := hr.2 h
        cases e
    subst h0
    have hl : l = [] := List.eq_nil_of_length_eq_zero hr.ilen.symm
    subst hl
    rw [show (none : Option Addr).isNone = true from rfl] at hnil
    go_enter Try.func35, Try.ntmps35
    go_wp2_with fail
    go_ret
    exact ⟨none, 0, rfl, World.ownsRow_nil _ _ _ _, Up.refl _⟩
  · rw [show (some ad : Option Addr).isNone = false from rfl] at hnil
    have hrow := row_new w #[] 46 (base := w.heap.size) (sz := 5) (n := 0) (Nat.le_refl _) rfl (by omega)
    have hub : Up w (w.alloc (.cells #[] 46)) := (Up.refl w).alloc _
    have hr1 := hr.up hub
    go_enter Try.func35, Try.ntmps35
    go_wp2_with (at_builtin; refine wpList_append_rd _ itemsT hrow hr1 (itcs_one _) (by omega) (by omega) (by simp) rfl rfl rfl rfl ?_; intro v1 w1 hown1 hg1 hat1)
    obtain ⟨A1, c1, rfl⟩ := own_form hown1
    rw [Nat.zero_add, List.nil_append] at hown1
    rw [Nat.zero_add]
    go_ret
    exact ⟨A1, c1, rfl, hown1, hub.grown hg1 (fun k e => by simp only [Value.ownBlock, Option.some.injEq] at e; omega)⟩
/-- each of the rows is a row of its own -/
def RwOwn (w : World) (base : Nat) (rs : List Rw) : Prop := ∀ r ∈ rs, OwnI w base r.A r.n r.c r.l
theorem RwOwn.nil (w : World) (base : Nat) : RwOwn w base [] := fun r hr => by cases hr
theorem RwOwn.ok {w : World} {base : Nat} {rs : List Rw} (h : RwOwn w base rs) : RwOk w rs := fun r hr => ⟨Rd.own (h r hr), own_cap (h r hr)⟩
theorem RwOwn.snoc {w : World} {base : Nat} {rs : List Rw} (h : RwOwn w base rs) {A : Option Addr} {n c : Nat} {l : List It} (hr : OwnI w base A n c l) : RwOwn w base (rs ++ [⟨A, n, c, l⟩]) := fun r hr' => by
  rcases List.mem_append.1 hr' with h1 | h1
  · exact h r h1
  · simp at h1; subst h1; exact hr
/-- a row lies as it lay where its block does -/
theorem own_block {w w' : World} {base : Nat} {e : TypeId} {sz n : Nat} {v : Value} {xs : List Value} (h : w.ownsRow base e sz v n xs) (hb : ∀ (g : Nat) (cs : Array Value), w.heap[g]? = some (Obj.cells cs e (0, 0)) → w'.heap[g]? = w.heap[g]?) : w'.ownsRow base e sz v n xs := by
  refine ⟨h.1, ?_⟩
  rcases h.2 with h2 | ⟨g, cap, cur, hv, hg, hh, r⟩
  · exact .inl h2
  · exact .inr ⟨g, cap, cur, hv, hg, (hb g cur hh).trans hh, r⟩
theorem RwOwn.kept {w w' : World} {base : Nat} {rs : List Rw} {row : Option Nat} (h : RwOwn w base rs) (hg : w.grownBy w' row) (hr : ∀ r, row = some r → ∃ o : Obj, w.heap[r]? = some o ∧ o.isCells = false) : RwOwn w' base rs := fun r hr' =>
  own_block (h r hr') fun g cs hh => hg.block g (Array.getElem?_eq_some_iff.1 hh).1 fun e => by
    obtain ⟨o, ho, hc⟩ := hr g e.symm
    rw [hh] at ho; cases ho; cases hc
theorem RwOwn.others {w w' : World} {base : Nat} {rs : List Rw} {X : Nat → Prop} (h : RwOwn w base rs) (hK : Rg.Keeps X w w') (hx : ∀ k, X k → ∃ cs t fz, w.heap[k]? = some (Obj.cells cs t fz) ∧ t ≠ 46) : RwOwn w' base rs := fun r hr' =>
  own_block (h r hr') fun g cs hh => hK.block g (Array.getElem?_eq_some_iff.1 hh).1 fun e => by
    obtain ⟨cs', t, fz, ho, hc⟩ := hx g e
    rw [hh] at ho; cases ho; exact hc rfl
theorem row_put {w : World} {base D : Nat} {e : TypeId} {sz n : Nat} {v : Value} {xs : List Value} {o o' : Obj} (h : w.ownsRow base e sz v n xs) (hD : w.heap[D]? = some o) (hc : o.isCells = false) : (w.putObj D o').ownsRow base e sz v n xs :=
  own_block h fun g cs hh => World.putObj_heap_other (fun e => by subst e; rw [hh] at hD; cases hD; cases hc)
theorem RwOwn.put {w : World} {base D : Nat} {rs : List Rw} {o o' : Obj} (h : RwOwn w base rs) (hD : w.heap[D]? = some o) (hc : o.isCells = false) : RwOwn (w.putObj D o') base rs := fun r hr' => row_put (h r hr') hD hc
/-- a part of items -/
def partL (n : Nat) (l : List It) (x : Nat × Nat) : List It := (l.drop (min x.1 n)).take (min x.2 (n - min x.1 n))
theorem parts_cut {q n : Nat} {l : List It} (hq : 1 ≤ q) (hl : n = l.length) : (partsN q n (partsK q n)).map (partL n l) = cutL q l := by
  unfold cutL cutK partsN
  rw [List.map_map, ← hl]
  refine List.map_congr_left fun j hj => ?_
  have hj' := List.mem_range.1 hj
  have h1 := partsK_lt hq hj'
  show partL n l (j * q, min q (n - j * q)) = _
  unfold partL
  simp only [Nat.min_eq_left (Nat.le_of_lt h1)]
  have e : min (min q (n - j * q)) (n - j * q) = min q (n - j * q) := by omega
  rw [e]
  by_cases h2 : q ≤ n - j * q
  · rw [Nat.min_eq_left h2]
  · rw [Nat.min_eq_right (by omega), List.take_of_length_le (by rw [List.length_drop]; omega), List.take_of_length_le (by rw [List.length_drop]; omega)]
set_option maxRecDepth 100000 in
set_option maxHeartbeats 4000000 in
theorem cut_pos (A : Option Addr) (n c q : Nat) (m : Int) (l : List It) (w : World) (hn0 : 0 < n) (hr : Rd w w.heap.size 5 A n (itcs l)) (hn : n ≤ 1000000) (hnc : n ≤ c) (hq1 : 1 ≤ q) (hq2 : q ≤ 100) (hmn : min (max m 1) 100 = (q : Int)) :
    Calls Try.prog 18 #[.slice A n c, .int .i64 m] w (CutPost q l w) := by
  refine (callsIn_wide (n := 3)).1 ?_
  refine callsIn_of_wp_marks Try.func18 rfl trivial ?_ rfl
  simp only [Try.ntmps18, List.size_toArray, List.length_cons, List.length_nil, Nat.reduceAdd, Nat.reduceSub, Array.replicate_succ, Array.replicate_zero, List.push_toArray, List.append_toArray, List.nil_append, List.cons_append]
  gi_wp2
  clear hmn
  refine ⟨trivial, ?_⟩
  refine (callsIn_wide.2 (chunk_any A n c q hq1 _)).mono ?_
  rintro e w' ⟨rfl, rfl⟩
  gi_wp2
  obtain ⟨b, o, rfl, hbw, -⟩ := hr.2 hn0
  obtain ⟨W0, hW0⟩ : ∃ W0, W0 = ((w.alloc (.cells #[.slice none 0 0] 26)).alloc (.cells #[.slice (some ⟨b, o, none⟩) n c] 23)).alloc (.cells #[.int .i64 (q : Int)] 3) := ⟨_, rfl⟩
  rw [← hW0]
  have hup0 : Up w W0 := by rw [hW0]; exact (((Up.refl w).alloc _).alloc _).alloc _
  have hsz : W0.heap.size = w.heap.size + 3 := by rw [hW0]; simp
  have hll : n = l.length := hr.ilen
  have HLL := Lib.hid hll
  clear hll
  have hBo : Boxed W0 w.heap.size 26 (.slice none 0 0) := by rw [hW0]; exact ((Boxed.new w _ _).alloc _).alloc _
  have hBs : W0.cell? ⟨w.heap.size + 1, 0, none⟩ = some (.slice (some ⟨b, o, none⟩) n c) := by
    rw [hW0]
    have h := (Boxed.new (w.alloc (.cells #[.slice none 0 0] 26)) 23 (.slice (some ⟨b, o, none⟩) n c)).alloc (.cells #[.int .i64 (q : Int)] 3)
    rw [World.size_alloc w] at h
    exact h.cell
  have hBq : W0.cell? ⟨w.heap.size + 1 + 1, 0, none⟩ = some (.int .i64 (q : Int)) := by
    rw [hW0]
    have h := Boxed.new ((w.alloc (.cells #[.slice none 0 0] 26)).alloc (.cells #[.slice (some ⟨b, o, none⟩) n c] 23)) 3 (.int .i64 (q : Int))
    rw [World.size_alloc, World.size_alloc] at h
    exact h.cell
  clear hW0
  refine wpIn_rangeFunc_ownF rfl (by omega) (gf := 59) (lb := #[.pointer (some ⟨w.heap.size + 1, 0, none⟩), .pointer (some ⟨w.heap.size + 1 + 1, 0, none⟩)]) rfl trivial (enters_of Try.func59 (by kernel_rfl) rfl)
    (chunk_stops (3 - 1) (by omega) (w.heap.size + 1) (w.heap.size + 1 + 1) b o n c q hq1 hq2 (by omega) hnc W0 hBs hBq) (fun h k => h.trans k)
    (fun W l o o' hl h _ _ => ⟨by simp, World.putObj_heap_other (by omega), World.putObj_heap_other (by omega)⟩) (Below.refl _ _) (fun _ => rfl)
    (fun pre W => (∃ (rs : List Rw) (v : Value), Boxed W w.heap.size 26 v ∧ W.ownsRow (w.heap.size + 3) 23 1 v pre.length (rwv rs) ∧ RwOwn W (w.heap.size + 3) rs ∧ Hid (rwl rs = pre.map (partL n l))) ∧ (W.heap.size ≥ w.heap.size + 3 ∧ KB (w.heap.size + 1) (w.heap.size + 1 + 1) W0 W) ∧ Below w.heap.size w W)
    (fun _ _ _ => False)
    ?hown
    (fun _ _ _ _ _ hs _ _ => hs)
    ⟨⟨[], .slice none 0 0, hBo, World.ownsRow_nil _ _ _ _, RwOwn.nil _ _, rfl⟩, ⟨by omega, KB.refl _ _ _⟩, hup0⟩
    (fun x => { tmps := #[.slice (some ⟨b, o, none⟩) n c, .int .i64 m, undef, undef, .slice none 0 0, .pointer (some ⟨w.heap.size, 0, none⟩), partV b o n x, .slice (some ⟨b, o, none⟩) n c, .int .i64 m, .int .i64 (max m 1), .int .i64 (q : Int), .func (.func 59) #[] #[.pointer (some ⟨w.heap.size + 1, 0, none⟩), .pointer (some ⟨w.heap.size + 1 + 1, 0, none⟩)], partV b o n x, undef, undef, undef, undef, undef, undef], defers := [] }) ?assign ?body ?done ?stop
  case hown =>
    rintro pre W W' row ⟨⟨rs, v, hv1, hv2, hro, hrl⟩, ⟨hs, hk⟩, hB⟩ hg hrw
    have g1 : (some (w.heap.size + 1)) ≠ row := fun e => by have := (hrw _ e.symm).1; omega
    have g2 : (some (w.heap.size + 1 + 1)) ≠ row := fun e => by have := (hrw _ e.symm).1; omega
    refine ⟨?_, ⟨Nat.le_trans hs hg.size, hk.trans ⟨hg.size, hg.block _ (by omega) g1, hg.block _ (by omega) g2⟩⟩, ?_⟩
    · obtain ⟨v', hv', hw', -⟩ := (holdsRow_own (w.heap.size + 3) w.heap.size 26 23 1 (fun s : List (Nat × Nat) × List Value => s.1.length) (fun s => s.2) (fun _ u => u = v)) (pre, rwv rs) W W' row ⟨v, hv1, hv2, rfl⟩ hg (fun r e => (hrw r e).2)
      exact ⟨rs, v', hv', hw', hro.kept hg (fun r e => (hrw r e).2), hrl⟩
    · exact hB.grown hg hB.size (fun k e => by have := (hrw k e).1; omega)
  case assign =>
    intro l x W K hK
    gi_wp2
    exact hK
  case body =>
    rintro l' pre x W ⟨⟨rs, v, hv, hrow, hro, hrl⟩, ⟨hs, hk⟩, hB⟩ hlen
    obtain ⟨s0, hs0⟩ : ∃ s0, s0 = min x.1 n := ⟨_, rfl⟩
    obtain ⟨e0, he0⟩ : ∃ e0, e0 = min x.2 (n - s0) := ⟨_, rfl⟩
    have hpv : partV b o n x = .slice (some ⟨b, o + s0 * 5, none⟩) e0 e0 := by unfold partV; rw [← hs0, ← he0]
    rw [hpv]
    have hse : s0 + e0 ≤ n := by omega
    have hpl2 : partL n l x = (l.drop s0).take e0 := by unfold partL; rw [← hs0, ← he0]
    have HPL2 := Lib.hid hpl2
    clear hpv hs0 he0 hpl2
    have hpl : pre.length ≤ 1099511627776 := by have := partsK_n (q := q) (n := n) hq1; omega
    have hrB : ∀ W', Below w.heap.size W W' → Rd W' W'.heap.size 5 (some ⟨b, o + s0 * 5, none⟩) e0 (itcs ((l.drop s0).take e0)) := fun W' h => (hr.up (show Up w W' from Below.trans hB h)).part hse
    have hmx : Try.prog.follows .mixedOrders = true := by kernel_rfl
    gi_wp2
    apply Rg.region_own_in 6 (fun W1 => Below w.heap.size W W1) (fun g => g = w.heap.size ∨ Rg.ob v g) (fun W1 => Boxed W1 w.heap.size 26 v ∧ W1.ownsRow (w.heap.size + 3) 23 1 v pre.length (rwv rs)) ?hQ (by kernel_rfl) rfl (by kernel_rfl) (by kernel_rfl) ?hX ⟨hv, hrow⟩ ?hF0 ?hSS ?walk ?chk
    case hQ => rintro ⟨a, w', h⟩; exact h
    case hX =>
      rintro g (rfl | hg)
      · exact hv.lt
      · exact (hrow.lt g ((ob_of hrow).2 hg)).2
    case hF0 =>
      rintro w1 w2 ⟨h1, h2⟩ hst
      exact ⟨(hst.block _ h1.lt (.inr (.inl rfl))).trans h1, row_sta (Y := fun _ => False) h2 ⟨hst.size, fun g hl hy => hst.block g hl (.inr (.inr (hy.elim False.elim id)))⟩⟩
    case hSS =>
      intro w1 hK
      refine ⟨hK.os, hK.tape, hK.output, hK.size, fun k hk => hK.block k (Nat.lt_of_lt_of_le hk (show w.heap.size ≤ W.heap.size by omega)) ?_⟩
      rintro (h9 | hg)
      · omega
      · have := (hrow.lt k ((ob_of hrow).2 hg)).1; omega
    case chk => kernel_rfl
    case walk =>
      intro QN hQN
      apply Rg.RK.okU [6] (v := v)
      · intro vs w1 hS hf
        obtain ⟨⟨hb1, -⟩, -⟩ := hf
        have hc := Boxed.cell hb1
        go_simp
        (try with_reducible rfl)
      · rfl
      simp only [Act.put, List.setIfInBounds_toArray, List.set_cons_zero, List.set_cons_succ, Nat.reduceAdd]
      (apply Rg.RK.ok; (· intro vs w1 hS; go_simp; with_reducible rfl); (· rfl); simp only [Act.put, List.setIfInBounds_toArray, List.set_cons_zero, List.set_cons_succ, Nat.reduceAdd])
      apply Rg.RK.opn (fun val W1 => ∃ A3 c3, val = .slice A3 e0 c3 ∧ OwnI W1 (w.heap.size + 3) A3 e0 c3 ((l.drop s0).take e0)) Rg.ob [] []
      · rintro val W1 W2 ⟨A3, c3, rfl, h3⟩ hst
        exact ⟨A3, c3, rfl, row_sta h3 hst⟩
      · rfl
      · intro vs w1 hK hS hf K hKK
        go_simp
        refine (clone_own (some ⟨b, o + s0 * 5, none⟩) e0 e0 ((l.drop s0).take e0) w1 (hrB w1 hS) (by omega)).mono ?_
        rintro e w2 ⟨A3, c3, rfl, ho3, hu2⟩
        exact hKK.out _ _ ⟨A3, c3, rfl, own_base ho3 (Nat.le_trans hs hS.size)⟩ (Rg.Keeps.of_up hu2) (own_row ho3)
      simp only [Act.put, List.setIfInBounds_toArray, List.set_cons_zero, List.set_cons_succ, Nat.reduceAdd]
      apply Rg.RK.opD (fun vs W1 => ∃ g, vs 3 = .slice (some ⟨g, 0, none⟩) 1 1 ∧ W1.heap[g]? = some (.cells #[vs 2] 23 (0, 0))) (fun vs g => Rg.ob (vs 3) g) [2] [] [2] (fun vs vs' h => by rw [h 2 (by simp), h 3 (by simp)]; exact ⟨rfl, rfl⟩)
      · rintro vs W1 W2 ⟨g, hv3, hh⟩ hst
        exact ⟨g, hv3, (hst.block g (Array.getElem?_eq_some_iff.1 hh).1 (.inr (by rw [hv3]; rfl))).trans hh⟩
      · rfl
      · intro vs w1 hK hS hf K hKK
        obtain ⟨⟨A3, c3, hv2, -⟩, -⟩ := hf
        (try dsimp only at hKK ⊢)
        rw [hv2] at hKK ⊢
        go_simp
        refine hKK.out _ _ ⟨w1.heap.size, ?_, ?_⟩ (Rg.Keeps.of_up ((Up.refl _).alloc _)) ?_
        · rw [Rg.upd_same]
        · rw [Rg.upd_ne _ _ (by decide), hv2]; exact heap_alloc_new w1 _
        · rw [Rg.upd_same]
          rintro g rfl
          exact ⟨by simp, .inl (Nat.le_refl _)⟩
      simp only [Act.put, List.setIfInBounds_toArray, List.set_cons_zero, List.set_cons_succ, Nat.reduceAdd]
      apply Rg.RK.opD (fun vs W1 => Boxed W1 w.heap.size 26 v ∧ W1.ownsRow (w.heap.size + 3) 23 1 (vs 4) (pre.length + 1) (rwv rs ++ [vs 2])) (fun vs g => g = w.heap.size ∨ Rg.ob (vs 4) g) [6, 2, 3] [6] [2] (fun vs vs' h => by rw [h 2 (by simp), h 4 (by simp)]; exact ⟨rfl, rfl⟩)
      · rintro vs W1 W2 ⟨h1, h2⟩ hst
        exact ⟨(hst.block _ h1.lt (.inr (.inl rfl))).trans h1, row_sta (Y := fun _ => False) h2 ⟨hst.size, fun g hl hy => hst.block g hl (.inr (.inr (hy.elim False.elim id)))⟩⟩
      · rfl
      · intro vs w1 hK hS hf K hKK
        obtain ⟨⟨hb1, hr1⟩, ⟨A3, c3, hv2, -⟩, ⟨g, hv3, hh⟩, -⟩ := hf
        (try dsimp only at hKK ⊢)
        rw [hv2] at hKK hh
        (try rw [hv2])
        rw [hv3] at hKK ⊢
        have hr1' : w1.ownsRow (w.heap.size + 3) 23 1 v pre.length (rwv rs) := hr1
        have hb1' : Boxed w1 w.heap.size 26 v := hb1
        have hsw : W.heap.size ≤ w1.heap.size := hS.size
        refine wp_append_rd _ _ _ rowsT rfl rfl rfl hr1' (Rd.blk1 hh) (by simp [Value.oneCell']) (by omega) (by omega) (by omega) fun v' w5 ho' hg' hat' => ?_
        have hb5 : Boxed w5 w.heap.size 26 v := hb1'.kept hg' (hb1'.not_row (by decide) hr1')
        refine hKK.out _ _ ⟨hb5, ?_⟩ (keeps_grown hr1' hg' fun g hg => ⟨6, by simp, .inr hg⟩) ?_
        · rw [Rg.upd_same, Rg.upd_ne _ _ (by decide), hv2]; exact ho'
        · rw [Rg.upd_same]
          rintro g (h9 | hg)
          · subst h9; exact ⟨hb5.lt, .inr ⟨6, by simp, .inl rfl⟩⟩
          · have h9 := own_grown hr1' ho' hat' (X := fun g => Rg.ob v g) (fun g hg => hg) g hg
            exact ⟨h9.1, h9.2.imp id (fun h => ⟨6, by simp, .inr h⟩)⟩
      simp only [Act.put, List.setIfInBounds_toArray, List.set_cons_zero, List.set_cons_succ, Nat.reduceAdd]
      apply Rg.RK.opD (fun vs W1 => Boxed W1 w.heap.size 26 (vs 4) ∧ W1.ownsRow (w.heap.size + 3) 23 1 (vs 4) (pre.length + 1) (rwv rs ++ [vs 2])) (fun vs g => g = w.heap.size ∨ Rg.ob (vs 4) g) [4] [4] [2, 4] (fun vs vs' h => by rw [h 2 (by simp), h 4 (by simp)]; exact ⟨rfl, rfl⟩)
      · rintro vs W1 W2 ⟨h1, h2⟩ hst
        exact ⟨(hst.block _ h1.lt (.inr (.inl rfl))).trans h1, row_sta (Y := fun _ => False) h2 ⟨hst.size, fun g hl hy => hst.block g hl (.inr (.inr (hy.elim False.elim id)))⟩⟩
      · rfl
      · intro vs w1 hK hS hf K hKK
        obtain ⟨⟨hb1, hr1⟩, -⟩ := hf
        have hr1' : w1.ownsRow (w.heap.size + 3) 23 1 (vs 4) (pre.length + 1) (rwv rs ++ [vs 2]) := hr1
        have hb1' : Boxed w1 w.heap.size 26 v := hb1
        obtain ⟨A4, c4, hv4⟩ := own_form hr1'
        have hne : some w.heap.size ≠ (vs 4).ownBlock := hb1'.not_row (by decide) hr1'
        have hb2 : Boxed (w1.setCell ⟨w.heap.size, 0, none⟩ (vs 4)) w.heap.size 26 (vs 4) := hb1'.set _
        have hr2 : (w1.setCell ⟨w.heap.size, 0, none⟩ (vs 4)).ownsRow (w.heap.size + 3) 23 1 (vs 4) (pre.length + 1) (rwv rs ++ [vs 2]) := hr1'.kept (grownBy_setCell' w1 w.heap.size (vs 4)) (.inr hne.symm)
        have hc := hb1'.cell
        have hfz := hb1'.frozen
        (try dsimp only at hKK ⊢)
        rw [hv4] at hb2 hr2 hKK
        (try rw [hv4])
        go_simp
        have hKp : Rg.Keeps (fun x => x = w.heap.size) w1 (w1.setCell ⟨w.heap.size, 0, none⟩ (.slice A4 (pre.length + 1) c4)) := ⟨rfl, rfl, rfl, by simp, fun k hk hn => (grownBy_setCell' w1 w.heap.size _).block k hk (fun e => hn (by cases e; rfl))⟩
        refine hKK.out undef _ ⟨?_, ?_⟩ (Keeps.weak hKp fun y hy => ⟨4, List.mem_singleton.2 rfl, .inl hy⟩) ?_
        · rw [Rg.upd_ne _ _ (by decide), hv4]; exact hb2
        · rw [Rg.upd_ne _ _ (by decide), Rg.upd_ne _ _ (by decide), hv4]; exact hr2
        · rw [Rg.upd_ne _ _ (by decide)]
          rintro g (h9 | hg)
          · subst h9; exact ⟨hb2.lt, .inr ⟨4, List.mem_singleton.2 rfl, .inl rfl⟩⟩
          · have h8 := (hr1'.lt g ((ob_of hr1').2 hg)).2
            exact ⟨by simpa using h8, .inr ⟨4, List.mem_singleton.2 rfl, .inr hg⟩⟩
      simp only [Act.put, List.setIfInBounds_toArray, List.set_cons_zero, List.set_cons_succ, Nat.reduceAdd]
      apply Rg.RK.fin [5, 2]
      intro vs w8 hK hS hf
      obtain ⟨⟨hb8, hr8⟩, ⟨A3, c3, hv2, ho3⟩, -⟩ := hf
      refine hQN.out _ _ ?_
      clear hQN
      have nx : ∀ k, k < w.heap.size + 3 → k ≠ w.heap.size → ¬ (k = w.heap.size ∨ Rg.ob v k) := fun k h1 h2 h3 => by
        rcases h3 with h3 | h3
        · exact h2 h3
        · have := (hrow.lt k ((ob_of hrow).2 h3)).1; omega
      have hKO : KeepsOthers W w8 := ⟨hK.size, fun k o hko hoc => (hK.block k (Array.getElem?_eq_some_iff.1 hko).1 (fun h3 => by
        rcases h3 with h3 | h3
        · subst h3
          have e9 : some (Obj.cells #[v] 26 (0, 0)) = some o := (show W.heap[w.heap.size]? = _ from hv).symm.trans hko
          injection e9 with e9
          subst e9
          cases hoc
        · rcases hrow.2 with ⟨h4, _⟩ | ⟨g, cap, cur, h4, _, hgb, _⟩
          · rw [h4] at h3; exact h3.elim
          · have h5 := (ob_of hrow).2 h3
            rw [h4] at h5
            simp only [Value.ownBlock, Option.some.injEq] at h5
            subst h5
            rw [hgb] at hko
            injection hko with hko
            subst hko
            cases hoc)).trans hko⟩
      have hKB : KB (w.heap.size + 1) (w.heap.size + 1 + 1) W w8 := ⟨hK.size, hK.block _ (show w.heap.size + 1 < W.heap.size by omega) (nx _ (by omega) (by omega)), hK.block _ (show w.heap.size + 1 + 1 < W.heap.size by omega) (nx _ (by omega) (by omega))⟩
      have hW8 : W.heap.size ≤ w8.heap.size := hK.size
      have hr9 : w8.ownsRow (w.heap.size + 3) 23 1 (vs 4) (pre ++ [x]).length (rwv (rs ++ [⟨A3, e0, c3, (l.drop s0).take e0⟩])) := by
        have e9 : rwv (rs ++ [⟨A3, e0, c3, (l.drop s0).take e0⟩]) = rwv rs ++ [vs 2] := by simp [rwv, Rw.v, hv2]
        rw [List.length_append, e9]; exact hr8
      have hro8 : RwOwn w8 (w.heap.size + 3) rs := hro.others (X := fun g => g = w.heap.size ∨ Rg.ob v g) ⟨hK.os, hK.tape, hK.output, hK.size, hK.block⟩ (fun k h3 => by
        rcases h3 with h3 | h3
        · subst h3; exact ⟨_, _, _, hv, by decide⟩
        · rcases hrow.2 with ⟨h4, _⟩ | ⟨g, cap, cur, h4, _, hgb, _⟩
          · rw [h4] at h3; exact h3.elim
          · have h5 := (ob_of hrow).2 h3
            rw [h4] at h5
            simp only [Value.ownBlock, Option.some.injEq] at h5
            subst h5
            exact ⟨_, _, _, hgb, by decide⟩)
      have hrl8 : Hid (rwl (rs ++ [⟨A3, e0, c3, (l.drop s0).take e0⟩]) = (pre ++ [x]).map (partL n l)) := by
        show _ = _
        rw [List.map_append, ← hrl.out]
        simp [rwl, HPL2.out]
      exact ⟨hKO, hKB, ⟨_, vs 4, hb8, hr9, hro8.snoc ho3, hrl8⟩, ⟨by omega, hk.trans hKB⟩, Below.trans hB hS⟩
  case done =>
    rintro D ys W hD rfl ⟨⟨rs, v, hv, hrow, hro, hrl⟩, ⟨hs, hk⟩, hB⟩ hK
    rw [partsN_length] at hrow
    obtain ⟨A4, c4, rfl⟩ := own_form hrow
    have hc := hv.cell
    gi_wp2
    refine ⟨by simp, .inl ⟨_, _, rfl, run_takeDeferred hK, ?_⟩⟩
    refine ⟨_, results_tmp rfl _ _ _, ?_⟩
    have hbl := hB.trans (belowK_b (w := w) (Nat.le_refl _) W D _ (.deferred none) (by omega) hK rfl rfl)
    refine ⟨A4, partsK q n, c4, rs, rfl, Rd.own (row_put hrow hK rfl), (hro.put hK rfl).ok, ?_, hbl⟩
    rw [hrl.out, parts_cut hq1 HLL.out]
  case stop =>
    rintro D c' pre W _ _ h _
    exact h.elim
set_option maxRecDepth 100000 in
set_option maxHeartbeats 1000000 in
theorem chunk1_zero (d : Nat) (l Bs Bq : Nat) (A : Option Addr) (J : List (Nat × Nat) → World → Prop) (W : World) (c : Nat) (hBs : W.cell? ⟨Bs, 0, none⟩ = some (.slice A 0 c)) (h0 : J [] W) :
    CallsIn Fence.wide d Try.prog 59 #[.func (.yield l) #[] #[], .pointer (some ⟨Bs, 0, none⟩), .pointer (some ⟨Bq, 0, none⟩)] W fun e W' => (∃ v, e = .returned v) ∧ J [] W' := by
  refine callsIn_of_wp Try.func59 rfl trivial ?_ rfl
  simp only [Try.ntmps59, List.size_toArray, List.length_cons, List.length_nil, Nat.reduceAdd, Nat.reduceSub, Array.replicate_succ, Array.replicate_zero, List.push_toArray, List.append_toArray, List.nil_append, List.cons_append]
  gi_wp2
  gi_loopw [4] (fun i wr => i = .int .i64 0 ∧ wr = W) (fun _ _ => 0)
  case atStart => exact ⟨rfl, rfl⟩
  case round =>
    obtain ⟨rfl, rfl⟩ := hrel
    gi_wp2
    go_end0
    exact ⟨⟨_, rfl⟩, h0⟩
theorem chunk_stops_zero (d : Nat) (Bs Bq c : Nat) (A : Option Addr) (w : World) (hBs : w.cell? ⟨Bs, 0, none⟩ = some (.slice A 0 c)) :
    SeqStopsK Fence.wide d Try.prog 59 #[.pointer (some ⟨Bs, 0, none⟩), .pointer (some ⟨Bq, 0, none⟩)] (fun x : Nat × Nat => #[Value.slice none x.1 x.2]) (KB Bs Bq) (fun ys => ys = []) (fun pre => pre = []) 0 w := fun l J Jx W hW hJ _ hY h0 => by
  have c1 := (hW.cell (p := ⟨Bs, 0, none⟩) (World.block_lt_of_cell? w ⟨Bs, 0, none⟩ hBs)).trans hBs
  exact (chunk1_zero d l Bs Bq A J W c c1 h0).mono fun e W' ⟨he, hj⟩ => ⟨he, .inl ⟨_, rfl, hj⟩⟩
set_option maxRecDepth 100000 in
set_option maxHeartbeats 4000000 in
theorem cut_zero (A : Option Addr) (c q : Nat) (m : Int) (w : World) (hq1 : 1 ≤ q) (hq2 : q ≤ 100) (hmn : min (max m 1) 100 = (q : Int)) :
    Calls Try.prog 18 #[.slice A 0 c, .int .i64 m] w (CutPost q [] w) := by
  refine (callsIn_wide (n := 3)).1 ?_
  refine callsIn_of_wp_marks Try.func18 rfl trivial ?_ rfl
  simp only [Try.ntmps18, List.size_toArray, List.length_cons, List.length_nil, Nat.reduceAdd, Nat.reduceSub, Array.replicate_succ, Array.replicate_zero, List.push_toArray, List.append_toArray, List.nil_append, List.cons_append]
  gi_wp2
  clear hmn
  refine ⟨trivial, ?_⟩
  refine (callsIn_wide.2 (chunk_any A 0 c q hq1 _)).mono ?_
  rintro e w' ⟨rfl, rfl⟩
  gi_wp2
  obtain ⟨W0, hW0⟩ : ∃ W0, W0 = ((w.alloc (.cells #[.slice none 0 0] 26)).alloc (.cells #[.slice A 0 c] 23)).alloc (.cells #[.int .i64 (q : Int)] 3) := ⟨_, rfl⟩
  rw [← hW0]
  have hup0 : Up w W0 := by rw [hW0]; exact (((Up.refl w).alloc _).alloc _).alloc _
  have hsz : W0.heap.size = w.heap.size + 3 := by rw [hW0]; simp
  have hBo : Boxed W0 w.heap.size 26 (.slice none 0 0) := by rw [hW0]; exact ((Boxed.new w _ _).alloc _).alloc _
  have hBs : W0.cell? ⟨w.heap.size + 1, 0, none⟩ = some (.slice A 0 c) := by
    rw [hW0]
    have h := (Boxed.new (w.alloc (.cells #[.slice none 0 0] 26)) 23 (.slice A 0 c)).alloc (.cells #[.int .i64 (q : Int)] 3)
    rw [World.size_alloc w] at h
    exact h.cell
  clear hW0
  refine wpIn_rangeFunc_ownF rfl (by omega) (gf := 59) (lb := #[.pointer (some ⟨w.heap.size + 1, 0, none⟩), .pointer (some ⟨w.heap.size + 1 + 1, 0, none⟩)]) rfl trivial (enters_of Try.func59 (by kernel_rfl) rfl)
    (chunk_stops_zero (3 - 1) (w.heap.size + 1) (w.heap.size + 1 + 1) c A W0 hBs) (fun h k => h.trans k)
    (fun W l o o' hl h _ _ => ⟨by simp, World.putObj_heap_other (by omega), World.putObj_heap_other (by omega)⟩) (Below.refl _ _) (fun _ => rfl)
    (fun pre W => Boxed W w.heap.size 26 (.slice none 0 0) ∧ Below w.heap.size w W)
    (fun _ _ _ => False)
    ?hown
    (fun _ _ _ _ _ hs _ _ => hs)
    ⟨hBo, hup0⟩
    (fun x => { tmps := #[.slice A 0 c, .int .i64 m, undef, undef, .slice none 0 0, .pointer (some ⟨w.heap.size, 0, none⟩), .slice none x.1 x.2, .slice A 0 c, .int .i64 m, .int .i64 (max m 1), .int .i64 (q : Int), .func (.func 59) #[] #[.pointer (some ⟨w.heap.size + 1, 0, none⟩), .pointer (some ⟨w.heap.size + 1 + 1, 0, none⟩)], .slice none x.1 x.2, undef, undef, undef, undef, undef, undef], defers := [] }) ?assign ?body ?done ?stop
  case hown =>
    rintro pre W W' row ⟨hv1, hB⟩ hg hrw
    refine ⟨?_, hB.grown hg hB.size (fun k e => by have := (hrw k e).1; omega)⟩
    refine hv1.kept hg (fun e' => ?_)
    have := (hrw _ e'.symm).1
    omega
  case assign =>
    intro l x W K hK
    gi_wp2
    exact hK
  case body =>
    rintro l' pre x W - hlen
    omega
  case done =>
    rintro D ys W hD rfl ⟨hv, hB⟩ hK
    have hc := hv.cell
    gi_wp2
    refine ⟨by simp, .inl ⟨_, _, rfl, run_takeDeferred hK, ?_⟩⟩
    refine ⟨_, results_tmp rfl _ _ _, ?_⟩
    have hbl := hB.trans (belowK_b (w := w) (Nat.le_refl _) W D _ (.deferred none) (by omega) hK rfl rfl)
    refine ⟨none, 0, 0, [], rfl, Rd.empty, RwOk.nil _, ?_, hbl⟩
    have e0 : partsK q 0 = 0 := by unfold partsK; exact Nat.div_eq_of_lt (by omega)
    unfold cutL cutK
    rw [List.length_nil, e0]
    rfl
  case stop =>
    rintro D c' pre W _ _ h _
    exact h.elim
/-- Cut, for every slice and every bound -/
theorem cut_any (A : Option Addr) (n c : Nat) (m : Int) (l : List It) (w : World) (hr : Rd w w.heap.size 5 A n (itcs l)) (hnc : n ≤ c) (hn : n ≤ 1000000) :
    Calls Try.prog 18 #[.slice A n c, .int .i64 m] w (CutPost (mostQ m) l w) := by
  have hq := mostQ_bd m
  have hmn : min (max m 1) 100 = (mostQ m : Int) := by unfold mostQ; omega
  rcases Nat.eq_zero_or_pos n with h0 | h0
  · subst h0
    have hl : l = [] := List.eq_nil_of_length_eq_zero hr.ilen.symm
    subst hl
    exact cut_zero A c (mostQ m) m w hq.1 hq.2 hmn
  · exact cut_pos A n c (mostQ m) m l w h0 hr hn hnc hq.1 hq.2 hmn
end Go.Proofs.Ytijekbeofpaojaa
