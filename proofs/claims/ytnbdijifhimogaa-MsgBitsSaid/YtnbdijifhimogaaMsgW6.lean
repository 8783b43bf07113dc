/-
  The walk of msg.Read.
-/
import Derived.Test.YtnbdijifhimogaaMsgW4
import Derived.Test.YtnbdijifhimogaaItemW8
import Derived.Test.YtnbdijifhimogaaFrameW6
import Derived.Test.YtnbdijifhimogaaNumW2
import Derived.IntWalk
namespace Go.Proofs.Ytnbdijifhimogaa
open Go.RowKit
set_option linter.unusedVariables false
set_option linter.unusedSimpArgs false

/-- a message that was read: kind, from, to, id, number, items -/
abbrev MT := Nat × Nat × Nat × Nat × Nat × List It
def mt0 : MT := (0, 0, 0, 0, 0, [])
/-- the message of three bytes and what stands behind them -/
def readX (k f t : Nat) (r : List UInt8) : Nat × MT :=
  let s := takesL 2 [] r
  if s.1 ≠ 0 then (3, mt0)
  else if (readL s.2.2).1 ≠ 0 ∨ msgB (k : Int) (f : Int) (t : Int) (s.2.1.getD 0 0) (s.2.1.getD 1 0) (readL s.2.2).2 = false then (3, mt0)
  else (0, k, f, t, s.2.1.getD 0 0, s.2.1.getD 1 0, (readL s.2.2).2)
def readN (bd : List UInt8) : Nat × MT := readX (bd.getD 0 0).toNat (bd.getD 1 0).toNat (bd.getD 2 0).toNat (bd.drop 3)
/-- the message of bytes -/
def readM (bs : List UInt8) : Nat × MT :=
  let t := takeF bs 0
  if t.1 ≠ 0 then (t.1, mt0)
  else if t.2.1 ≠ 9 ∨ t.2.2.2 ≠ (bs.length : Int) ∨ t.2.2.1.length < 3 then (3, mt0)
  else readN t.2.2.1
def MPost (r : Nat × MT) (w : World) (e : Ending) (w' : World) : Prop :=
  ∃ A an ac, e = .returned (.tuple #[.agg #[.int .i64 (r.2.1 : Int), .int .i64 (r.2.2.1 : Int), .int .i64 (r.2.2.2.1 : Int), .int .u64 (r.2.2.2.2.1 : Int), .int .u64 (r.2.2.2.2.2.1 : Int), .slice A an ac], .int .i64 (r.1 : Int)]) ∧ Rd w' w'.heap.size 5 A an (itcs r.2.2.2.2.2.2) ∧ an ≤ ac ∧ Up w w'
theorem MPost.no {r : Nat × MT} {E : Nat} {w w' : World} (h : r = (E, mt0)) (hu : Up w w') : MPost r w (.returned (.tuple #[.agg #[.int .i64 0, .int .i64 0, .int .i64 0, .int .u64 0, .int .u64 0, .slice none 0 0], .int .i64 (E : Int)])) w' := by
  subst h
  exact ⟨none, 0, 0, rfl, Rd.empty, Nat.le_refl _, hu⟩
theorem keepsUpM {w wq w2 : World} {gx : Nat} (hu : Up w wq) (hg : w.heap.size ≤ gx) (hK : Rg.Keeps (fun g => g = gx) wq w2) : Up w w2 :=
  ⟨hK.os.trans hu.os, hK.tape.trans hu.tape, hK.output.trans hu.output, Nat.le_trans hu.size hK.size, fun k hk => (hK.block k (Nat.lt_of_lt_of_le hk hu.size) (by show ¬ k = gx; omega)).trans (hu.block k hk)⟩
theorem takeR_body (r : List UInt8) : (takeR r).2.2.1.length ≤ r.length := by
  unfold takeR
  repeat' split
  all_goals first | exact Nat.zero_le _ | (simp only [List.length_take, List.length_drop]; omega)
theorem takeF_len (l : List UInt8) (at_ : Int) : (takeF l at_).2.2.1.length ≤ l.length := by
  unfold takeF
  split
  · exact Nat.zero_le _
  · have h := takeR_body (l.drop at_.toNat)
    rw [List.length_drop] at h
    simp only
    omega
theorem own_keepsM {w w2 : World} {base gx : Nat} {e : TypeId} {sz n : Nat} {v : Value} {xs : List Value} (h : w.ownsRow base e sz v n xs) (hg : gx < base) (hK : Rg.Keeps (fun g => g = gx) w w2) : w2.ownsRow base e sz v n xs := by
  refine ⟨h.1, ?_⟩
  rcases h.2 with h2 | ⟨g, cap, cur, hv, hb, hh, r⟩
  · exact .inl h2
  · exact .inr ⟨g, cap, cur, hv, hb, (hK.block g (Array.getElem?_eq_some_iff.1 hh).1 (by show ¬ g = gx; omega)).trans hh, r⟩
theorem own_max {w : World} {base : Nat} {e : TypeId} {sz n c : Nat} {A : Option Addr} {xs : List Value} (h : w.ownsRow base e sz (.slice A n c) n xs) : n ≤ 9223372036854775807 := by
  rcases h.2 with ⟨hv, rfl⟩ | ⟨g, cap, cur, hv, _, _, hn, hm, _⟩
  · exact Nat.zero_le _
  · have : cap ≤ 9223372036854775807 := by simpa only [maxLen] using hm
    omega
theorem Rd.keptM {w w' : World} {B sz n g : Nat} {A : Option Addr} {xs : List Value} (h : Rd w B sz A n xs) (hB : B ≤ w.heap.size) (hne : B ≤ g) (hK : Rg.Keeps (fun y => y = g) w w') : Rd w' B sz A n xs := by
  refine ⟨h.1, fun hn => ?_⟩
  obtain ⟨b, o, rfl, hb, hc⟩ := h.2 hn
  exact ⟨b, o, rfl, hb, fun j u hu => (World.cell?_of_block (hK.block b (Nat.lt_of_lt_of_le hb hB) (by show ¬ b = g; omega))).trans (hc j u hu)⟩
/-- six cells stored one by one -/
theorem set6 (w : World) (g : Nat) (a0 a1 a2 a3 a4 a5 v0 v1 v2 v3 v4 v5 : Value) (t : TypeId) (h : w.heap[g]? = some (.cells #[a0, a1, a2, a3, a4, a5] t (0, 0))) :
    ((((((w.setCell ⟨g, 0, none⟩ v0).setCell ⟨g, 1, none⟩ v1).setCell ⟨g, 2, none⟩ v2).setCell ⟨g, 3, none⟩ v3).setCell ⟨g, 4, none⟩ v4).setCell ⟨g, 5, none⟩ v5).heap[g]? = some (.cells #[v0, v1, v2, v3, v4, v5] t (0, 0)) ∧
    Rg.Keeps (fun x => x = g) w ((((((w.setCell ⟨g, 0, none⟩ v0).setCell ⟨g, 1, none⟩ v1).setCell ⟨g, 2, none⟩ v2).setCell ⟨g, 3, none⟩ v3).setCell ⟨g, 4, none⟩ v4).setCell ⟨g, 5, none⟩ v5) := by
  have e0 : (w.setCell ⟨g, 0, none⟩ v0).heap[g]? = some (.cells #[v0, a1, a2, a3, a4, a5] t (0, 0)) := setc_heap _ g 0 v0 _ _ h
  have e1 : ((w.setCell ⟨g, 0, none⟩ v0).setCell ⟨g, 1, none⟩ v1).heap[g]? = some (.cells #[v0, v1, a2, a3, a4, a5] t (0, 0)) := setc_heap _ g 1 v1 _ _ e0
  have e2 : (((w.setCell ⟨g, 0, none⟩ v0).setCell ⟨g, 1, none⟩ v1).setCell ⟨g, 2, none⟩ v2).heap[g]? = some (.cells #[v0, v1, v2, a3, a4, a5] t (0, 0)) := setc_heap _ g 2 v2 _ _ e1
  have e3 : ((((w.setCell ⟨g, 0, none⟩ v0).setCell ⟨g, 1, none⟩ v1).setCell ⟨g, 2, none⟩ v2).setCell ⟨g, 3, none⟩ v3).heap[g]? = some (.cells #[v0, v1, v2, v3, a4, a5] t (0, 0)) := setc_heap _ g 3 v3 _ _ e2
  have e4 : (((((w.setCell ⟨g, 0, none⟩ v0).setCell ⟨g, 1, none⟩ v1).setCell ⟨g, 2, none⟩ v2).setCell ⟨g, 3, none⟩ v3).setCell ⟨g, 4, none⟩ v4).heap[g]? = some (.cells #[v0, v1, v2, v3, v4, a5] t (0, 0)) := setc_heap _ g 4 v4 _ _ e3
  have e5 : ((((((w.setCell ⟨g, 0, none⟩ v0).setCell ⟨g, 1, none⟩ v1).setCell ⟨g, 2, none⟩ v2).setCell ⟨g, 3, none⟩ v3).setCell ⟨g, 4, none⟩ v4).setCell ⟨g, 5, none⟩ v5).heap[g]? = some (.cells #[v0, v1, v2, v3, v4, v5] t (0, 0)) := setc_heap _ g 5 v5 _ _ e4
  exact ⟨e5, setc_keeps _ _ _ _ _ (setc_keeps _ _ _ _ _ (setc_keeps _ _ _ _ _ (setc_keeps _ _ _ _ _ (setc_keeps _ _ _ _ _ (setc_keeps _ _ _ _ _ (Rg.Keeps.refl _ _))))))⟩
def Nw6 (B : Nat) (v : Value) (W : World) : Prop := ∃ g, v = .pointer (some ⟨g, 0, none⟩) ∧ B ≤ g ∧ W.heap[g]? = some (.cells #[.int .i64 0, .int .i64 0, .int .i64 0, .int .u64 0, .int .u64 0, .slice none 0 0] 25 (0, 0))
theorem Nw6.sta {B : Nat} {v : Value} {w w' : World} {Y : Nat → Prop} (h : Nw6 B v w) (hs : Rg.Sta (fun g => Y g ∨ Rg.ob v g) w w') : Nw6 B v w' := by
  obtain ⟨g, rfl, hb, hh⟩ := h
  exact ⟨g, rfl, hb, (hs.block g (Array.getElem?_eq_some_iff.1 hh).1 (.inr rfl)).trans hh⟩
def Ms6 (B : Nat) (k f t id n : Nat) (S : Value) (v : Value) (W : World) : Prop := ∃ g, v = .pointer (some ⟨g, 0, none⟩) ∧ B ≤ g ∧ W.heap[g]? = some (.cells #[.int .i64 (k : Int), .int .i64 (f : Int), .int .i64 (t : Int), .int .u64 (id : Int), .int .u64 (n : Int), S] 25 (0, 0))
theorem Ms6.sta {B k f t id n : Nat} {S v : Value} {w w' : World} {Y : Nat → Prop} (h : Ms6 B k f t id n S v w) (hs : Rg.Sta (fun g => Y g ∨ Rg.ob v g) w w') : Ms6 B k f t id n S v w' := by
  obtain ⟨g, rfl, hb, hh⟩ := h
  exact ⟨g, rfl, hb, (hs.block g (Array.getElem?_eq_some_iff.1 hh).1 (.inr rfl)).trans hh⟩
/-- what is known of all that Read has made -/
structure RM (w : World) (g2 gm gp : Nat) (k f t x y : Nat) (W : World) : Prop where
  o1 : w.heap.size ≤ g2
  o2 : g2 < gm
  o3 : gm < gp
  up : Up w W
  hg : W.heap[g2]? = some (.cells #[.int .i64 0, .int .i64 0, .int .i64 0, .int .u64 0, .int .u64 0, .slice none 0 0] 25 (0, 0))
  hm : W.heap[gm]? = some (.cells #[.int .i64 (k : Int), .int .i64 (f : Int), .int .i64 (t : Int), .int .u64 (x : Int), .int .u64 (y : Int), .slice none 0 0] 25 (0, 0))
  hp : W.heap[gp]? = some (.cells #[.pointer (some ⟨gm, 3, none⟩), .pointer (some ⟨gm, 4, none⟩)] 54 (0, 0))
theorem RM.upg {w : World} {g2 gm gp k f t x y : Nat} {W W' : World} (h : RM w g2 gm gp k f t x y W) (hu : Up W W') : RM w g2 gm gp k f t x y W' :=
  ⟨h.o1, h.o2, h.o3, h.up.trans hu, (hu.block _ (Array.getElem?_eq_some_iff.1 h.hg).1).trans h.hg, (hu.block _ (Array.getElem?_eq_some_iff.1 h.hm).1).trans h.hm, (hu.block _ (Array.getElem?_eq_some_iff.1 h.hp).1).trans h.hp⟩
theorem RM.drew {w : World} {g2 gm gp k f t x y : Nat} {W : World} (h : RM w g2 gm gp k f t x y W) : RM w g2 gm gp k f t x y W.drew := ⟨h.o1, h.o2, h.o3, h.up.drew, h.hg, h.hm, h.hp⟩
theorem RM.kp {w : World} {g2 gm gp k f t x y x' y' : Nat} {W W2 : World} (h : RM w g2 gm gp k f t x y W) (hK : Rg.Keeps (fun g => g = gm) W W2) (hb : W2.heap[gm]? = some (.cells #[.int .i64 (k : Int), .int .i64 (f : Int), .int .i64 (t : Int), .int .u64 (x' : Int), .int .u64 (y' : Int), .slice none 0 0] 25 (0, 0))) : RM w g2 gm gp k f t x' y' W2 := by
  have o1 := h.o1; have o2 := h.o2; have o3 := h.o3
  exact ⟨o1, o2, o3, keepsUpM h.up (by omega) hK, (hK.block _ (Array.getElem?_eq_some_iff.1 h.hg).1 (by show ¬ g2 = gm; omega)).trans h.hg, hb, (hK.block _ (Array.getElem?_eq_some_iff.1 h.hp).1 (by show ¬ gp = gm; omega)).trans h.hp⟩
set_option maxRecDepth 100000 in
set_option maxHeartbeats 4000000 in
theorem mread_any (A0 : Option Addr) (n c : Nat) (bs : List UInt8) (w : World) (hr : Rd w w.heap.size 1 A0 n (bvs bs)) (hn : n ≤ 549755813888) (hnc : n ≤ c) :
    Calls Try.prog 13 #[.slice A0 n c] w (MPost (readM bs) w) := by
  have hal := hr.blen
  obtain ⟨E, K, bd, nx, hT⟩ : ∃ E K bd nx, takeF bs 0 = (E, K, bd, nx) := ⟨_, _, _, _, rfl⟩
  have hv : readM bs = if E ≠ 0 then (E, mt0) else if K ≠ 9 ∨ nx ≠ (n : Int) ∨ bd.length < 3 then (3, mt0) else readN bd := by
    unfold readM; rw [hT, hal]
  have HV := Lib.hid hv
  have HT := Lib.hid hT
  have HAL := Lib.hid hal
  clear hv hT hal
  obtain ⟨w2, hw2⟩ : ∃ w2, w2 = w.alloc (.cells #[.int .i64 0, .int .i64 0, .int .i64 0, .int .u64 0, .int .u64 0, .slice none 0 0] 25) := ⟨_, rfl⟩
  have hup2 : Up w w2 := by rw [hw2]; exact (Up.refl w).alloc _
  have hg2 : w2.heap[w.heap.size]? = some (.cells #[.int .i64 0, .int .i64 0, .int .i64 0, .int .u64 0, .int .u64 0, .slice none 0 0] 25 (0, 0)) := by
    rw [hw2]; exact heap_alloc_new w _
  have HW := Lib.hid hw2
  clear hw2
  have CUT := cut_from_b
  go_enter Try.func13, Try.ntmps13
  go_wp2_with fail
  rw [← HW.out]
  clear HW
  have hgw9 : w.heap.size ≤ w.heap.size := Nat.le_refl _
  generalize hg2E : w.heap.size = g2 at hg2 ⊢
  rw [hg2E] at hgw9
  have hgw9 : w.heap.size ≤ g2 := by omega
  refine (ftake_any A0 n c bs 0 w2 (hr.up hup2) (by omega) hnc).mono ?_
  rintro e w3 ⟨B, bn, bc, rfl, hoB, hu3⟩
  rw [HT.out] at hoB ⊢
  (try dsimp only at hoB ⊢)
  have hg9 := (hu3.block _ (Array.getElem?_eq_some_iff.1 hg2).1).trans hg2
  have hup9 := hup2.trans hu3
  have hgl : g2 < w3.heap.size := (Array.getElem?_eq_some_iff.1 hg9).1
  have hrB := hoB.rd
  have hbc := own_cap hoB
  have hbl := hrB.blen
  clear hg2 hup2 hu3 hoB hr hnc
  by_cases hE : E = 0
  · by_cases hK : K = 9
    · by_cases hX : nx = (n : Int)
      · by_cases h3 : bn < 3
        · have HNO : Hid (readM bs = (3, mt0)) := by
            show _ = _
            rw [HV.out, if_neg (by simp [hE]), if_pos (.inr (.inr (by omega)))]
          have c1 : ((E : Int) != 0) = false := by simp [hE]
          have c2 : ((K : Int) != 9) = false := by simp [hK]
          have c3 : (nx != (n : Int)) = false := by simp [hX]
          have c4 : (bn : Int) < 3 := by omega
          clear HV HT hE hK hX hrB hbl
          have t0 := blk_cell hg9 0
          have t1 := blk_cell hg9 1
          have t2 := blk_cell hg9 2
          have t3 := blk_cell hg9 3
          have t4 := blk_cell hg9 4
          have t5 := blk_cell hg9 5
          have s0 := blk_free hg9 0
          have s1 := blk_free hg9 1
          have s2 := blk_free hg9 2
          have s3 := blk_free hg9 3
          have s4 := blk_free hg9 4
          have s5 := blk_free hg9 5
          have h7 := set6 _ g2 _ _ _ _ _ _ (.int .i64 0) (.int .i64 0) (.int .i64 0) (.int .u64 0) (.int .u64 0) (.slice none 0 0) _ hg9
          have hup10 := keepsUpM hup9 hgw9 h7.2
          have H71 := Lib.hid h7.1
          have HUP := Lib.hid hup10
          clear h7 hup10 hup9 hg9
          go_wp2_with fail
          have u0 := blk_cell H71.out 0
          have u1 := blk_cell H71.out 1
          have u2 := blk_cell H71.out 2
          have u3 := blk_cell H71.out 3
          have u4 := blk_cell H71.out 4
          have u5 := blk_cell H71.out 5
          refine bodyPost_ret (v := .tuple #[.agg #[.int .i64 0, .int .i64 0, .int .i64 0, .int .u64 0, .int .u64 0, .slice none 0 0], .int .i64 (3)]) (by simp [results, Try.results13, go_sem, u0, u1, u2, u3, u4, u5]) rfl ?_
          exact MPost.no HNO.out HUP.out
        · have hN : readM bs = readN bd := by
            rw [HV.out, if_neg (by simp [hE]), if_neg (by rintro (a | a | a); exact a hK; exact a hX; omega)]
          have c1 : ((E : Int) != 0) = false := by simp [hE]
          have c2 : ((K : Int) != 9) = false := by simp [hK]
          have c3 : (nx != (n : Int)) = false := by simp [hX]
          have c4 : ¬ (bn : Int) < 3 := by omega
          have hbn9 : bn ≤ 549755813888 := by
            have h := takeF_len bs 0
            have h9 := HAL.out
            rw [HT.out] at h
            (try dsimp only at h)
            omega
          obtain ⟨b, o, rfl, hb, k0⟩ := hrB.byte (k := 0) (by omega)
          obtain ⟨b', o', e', _, k1⟩ := hrB.byte (k := 1) (by omega)
          injection e' with e'
          injection e' with e1 e2
          subst e1; subst e2
          obtain ⟨b', o', e', _, k2⟩ := hrB.byte (k := 2) (by omega)
          injection e' with e'
          injection e' with e1 e2
          subst e1; subst e2
          rw [Nat.add_zero] at k0
          have hcB := hrB.bfrom (k := 3) (cap := bc) (by omega) hbc
          have hx0 := (bd.getD 0 0).toNat_lt
          have hx1 := (bd.getD 1 0).toNat_lt
          have hx2 := (bd.getD 2 0).toNat_lt
          unfold readN at hN
          generalize (bd.getD 0 0).toNat = x0 at *
          generalize (bd.getD 1 0).toNat = x1 at *
          generalize (bd.getD 2 0).toNat = x2 at *
          generalize bd.drop 3 = r0 at *
          have HN := Lib.hid hN
          clear HV HT hE hK hX hN hrB hbl
          have v0 : IntKind.i64.wrap (x0 : Int) = (x0 : Int) := IntWalk.i64_in _ (by omega)
          have v1 : IntKind.i64.wrap (x1 : Int) = (x1 : Int) := IntWalk.i64_in _ (by omega)
          have v2 : IntKind.i64.wrap (x2 : Int) = (x2 : Int) := IntWalk.i64_in _ (by omega)
          have q0 : (0 : Int) < (bn : Int) := by omega
          have q1 : (1 : Int) < (bn : Int) := by omega
          have q2 : (2 : Int) < (bn : Int) := by omega
          have q3 : (3 : Int) ≤ (bn : Int) := by omega
          have n0 : 0 < bn := by omega
          have n1 : 1 < bn := by omega
          have n2 : 2 < bn := by omega
          have n3 : 3 ≤ bn := by omega
          have hS : ∀ W, Up w3 W → Up w3 W ∧ W.cell? ⟨b, o, none⟩ = some (.int .u8 (x0 : Int)) ∧ W.cell? ⟨b, o + 1, none⟩ = some (.int .u8 (x1 : Int)) ∧ W.cell? ⟨b, o + 2, none⟩ = some (.int .u8 (x2 : Int)) := fun W h =>
            ⟨h, (h.cell (p := ⟨b, o, none⟩) hb).trans k0, (h.cell (p := ⟨b, o + 1, none⟩) hb).trans k1, (h.cell (p := ⟨b, o + 2, none⟩) hb).trans k2⟩
          clear k0 k1 k2
          go_wp2_with fail
          apply Rg.region_up _ (by kernel_rfl) (by kernel_rfl) hS
          · intro QN hQN
            iterate 13 (apply Rg.RK.ok; (· intro vs w1 hS; go_simp; with_reducible rfl); (· rfl); simp only [Act.put, List.setIfInBounds_toArray, List.set_cons_zero, List.set_cons_succ, Nat.reduceAdd])
            apply Rg.RK.opn (Nw6 w3.heap.size) Rg.ob [] []
            · exact fun v W1 W2 h hs => h.sta hs
            · rfl
            · intro vs w1 hK hS _ K hKK
              go_simp
              exact hKK.out _ _ ⟨w1.heap.size, rfl, (keeps_up hK).size, heap_alloc_new w1 _⟩ (Rg.Keeps.of_up ((Up.refl _).alloc _)) (by rintro g rfl; exact ⟨by simp, .inl (Nat.le_refl _)⟩)
            simp only [Act.put, List.setIfInBounds_toArray, List.set_cons_zero, List.set_cons_succ, Nat.reduceAdd]
            apply Rg.RK.opD (fun vs W => Ms6 w3.heap.size x0 x1 x2 0 0 (.slice none 0 0) (vs 13) W) (fun vs => Rg.ob (vs 13)) [13] [13] [13] (fun vs vs' h => by rw [h 13 (by simp)]; exact ⟨rfl, rfl⟩)
            · exact fun vs W1 W2 h hs => h.sta hs
            · rfl
            · intro vs w1 hK hS hf K hKK
              obtain ⟨⟨g, hv, hbs, hh⟩, -⟩ := hf
              (try dsimp only at hKK ⊢)
              rw [hv] at hKK ⊢
              have c0 := blk_cell hh
              have c1 := blk_free hh
              go_simp
              have h5 := set6 w1 g _ _ _ _ _ _ (.int .i64 (x0 : Int)) (.int .i64 (x1 : Int)) (.int .i64 (x2 : Int)) (.int .u64 0) (.int .u64 0) (.slice none 0 0) _ hh
              refine hKK.out undef _ ⟨g, hv, hbs, h5.1⟩ (Keeps.weak h5.2 fun y hy => ⟨13, List.mem_singleton.2 rfl, ?_⟩) (fun y hy => ⟨?_, .inr ⟨13, List.mem_singleton.2 rfl, hy⟩⟩)
              · show Rg.ob (vs 13) y
                rw [hv]; exact hy.symm
              · have hy' : Rg.ob (vs 13) y := hy
                rw [hv] at hy'
                have hgy : g = y := hy'
                rw [← hgy]; exact (Array.getElem?_eq_some_iff.1 h5.1).1
            simp only [Act.put, List.setIfInBounds_toArray, List.set_cons_zero, List.set_cons_succ, Nat.reduceAdd]
            apply Rg.RK.fin [14]
            intro vs w1 hK hS hf
            obtain ⟨⟨gm, hv, hmnew, hm⟩, -⟩ := hf
            refine hQN.out _ _ ?_
            clear hQN
            have huW := keeps_up hK
            (try dsimp only)
            rw [hv]
            have hgW := (huW.block _ (Array.getElem?_eq_some_iff.1 hg9).1).trans hg9
            have hml := (Array.getElem?_eq_some_iff.1 hm).1
            have hub : Up w1 (w1.alloc (.cells #[.pointer (some ⟨gm, 3, none⟩), .pointer (some ⟨gm, 4, none⟩)] 54)) := (Up.refl w1).alloc _
            have hI : RM w g2 gm w1.heap.size x0 x1 x2 0 0 (w1.alloc (.cells #[.pointer (some ⟨gm, 3, none⟩), .pointer (some ⟨gm, 4, none⟩)] 54)) :=
              ⟨hgw9, by omega, hml, (hup9.trans huW).trans hub, (hub.block _ (Array.getElem?_eq_some_iff.1 hgW).1).trans hgW, (hub.block _ hml).trans hm, heap_alloc_new w1 _⟩
            have hcR := (hcB.below (huW.trans hub)).mono (Nat.le_refl _)
            have hsz3 := (huW.trans hub).size
            clear hv hK hS hgW hm hup9 hg9 v0 v1 v2 hcB huW hub
            go_wp2_with fail
            generalize w1.alloc (.cells #[.pointer (some ⟨gm, 3, none⟩), .pointer (some ⟨gm, 4, none⟩)] 54) = w5 at *
            generalize w1.heap.size = gp at *
            go_loopw [5, 60] (fun q i wr => ∃ (j : Nat) (R : Option Addr) (rn rc : Nat) (r : List UInt8) (acc : List Nat) (x y : Nat), i = .int .i64 (j : Int) ∧ q = .slice R rn rc ∧ j ≤ 2 ∧ rn ≤ rc ∧ rn ≤ 549755813888 ∧ Rd wr w3.heap.size 1 R rn (bvs r) ∧ w3.heap.size ≤ wr.heap.size ∧ RM w g2 gm gp x0 x1 x2 x y wr ∧
                Hid (takesL (2 - j) acc r = takesL 2 [] r0) ∧ Hid (acc.length = j ∧ acc.getD 0 0 = x ∧ acc.getD 1 0 = y) ∧ (x : Int) ≤ 18446744073709551615 ∧ (y : Int) ≤ 18446744073709551615) (fun _ i _ => 2 - (intOf i).toNat)
            case atStart => exact ⟨0, _, _, _, r0, [], 0, 0, rfl, rfl, by omega, by omega, by omega, hcR, hsz3, hI, rfl, ⟨rfl, rfl, rfl⟩, by omega, by omega⟩
            case round =>
              obtain ⟨j, R, rn, rc, r, acc, x, y, rfl, rfl, hj, hrc, hrn, hrr, hws, hI5, HTK, HA, hx, hy⟩ := hrel
              clear hI hcR hsz3
              have hcase : j = 0 ∨ j = 1 ∨ j = 2 := by omega
              rcases hcase with rfl | rfl | rfl
              · have hpc := blk_cell hI5.hp 0
                go_wp2_with fail
                refine (take_any R rn rc r wr (hrr.mono hws) (by omega)).mono ?_
                rintro e w7 ⟨rfl, rfl⟩
                clear hpc
                by_cases he : (takeL r).2.2 = 0
                · have hok := takeL_ok he
                  have hst : takesL (2 - 0) acc r = takesL (2 - (0 + 1)) (acc ++ [(takeL r).1]) (r.drop (takeL r).2.1) := by
                    rw [show 2 - 0 = (2 - (0 + 1)) + 1 by omega]
                    conv => lhs; unfold takesL
                    rw [if_pos he]
                  have HRL := Lib.hid hrr.blen
                  have hd2 := hrr.bfrom (k := (takeL r).2.1) (cap := rc) (by have := HRL.out; omega) hrc
                  rw [he]
                  have HST := Lib.hid (HTK.out.symm.trans hst)
                  clear hst he
                  generalize (takeL r).1 = tn at *
                  generalize (takeL r).2.1 = ts at *
                  generalize r.drop ts = r2 at *
                  obtain ⟨h1, h2', h3, h4⟩ := hok
                  have z1 : (0 : Int) ≤ (ts : Int) := by omega
                  have z2 : (ts : Int) ≤ (rn : Int) := by have := HRL.out; omega
                  have CUT9 : ∀ W, (Instr.slice 28 (.slice R rn rc) (some (.int .i64 (ts : Int))) none none).run Try.prog W = .ok (.slice (cutA R rc ts 1) (rn - ts) (rc - ts)) W := fun W => cut_from_b W R rn rc .i64 (ts : Int) z1 z2
                  have hml := (Array.getElem?_eq_some_iff.1 hI5.hm).1
                  have hm5 := hI5.hm
                  have hdk := hd2
                  clear CUT hrr
                  go_wp2_with fail
                  apply Rg.region_own 8 (fun _ => True) (fun g => g = gm) (fun W => W.heap[gm]? = some (.cells #[.int .i64 (x0 : Int), .int .i64 (x1 : Int), .int .i64 (x2 : Int), .int .u64 (x : Int), .int .u64 (y : Int), .slice none 0 0] 25 (0, 0))) rfl (by kernel_rfl) (by kernel_rfl) (by rintro g rfl; exact hml) hm5 (fun w1 w2 h hs => (hs.block gm (Array.getElem?_eq_some_iff.1 h).1 (.inr rfl)).trans h) (fun _ _ => trivial)
                  · intro QN hQN
                    iterate 6 (apply Rg.RK.ok; (· intro vs w1 hS; go_simp; with_reducible rfl); (· rfl); simp only [Act.put, List.setIfInBounds_toArray, List.set_cons_zero, List.set_cons_succ, Nat.reduceAdd])
                    apply Rg.RK.opn (fun _ W => W.heap[gm]? = some (.cells #[.int .i64 (x0 : Int), .int .i64 (x1 : Int), .int .i64 (x2 : Int), .int .u64 (tn : Int), .int .u64 (y : Int), .slice none 0 0] 25 (0, 0))) (fun _ g => g = gm) [8] [8]
                    · exact fun v W1 W2 h hs => (hs.block gm (Array.getElem?_eq_some_iff.1 h).1 (.inr rfl)).trans h
                    · rfl
                    · intro vs w4 hK hS hf K hKK
                      obtain ⟨hblk, -⟩ := hf
                      have hblk2 : w4.heap[gm]? = some (.cells #[.int .i64 (x0 : Int), .int .i64 (x1 : Int), .int .i64 (x2 : Int), .int .u64 (x : Int), .int .u64 (y : Int), .slice none 0 0] 25 (0, 0)) := hblk
                      have t0 := blk_cell hblk2 3
                      have s0 := blk_free hblk2 3
                      (try dsimp only at hKK ⊢)
                      go_simp
                      refine hKK.out undef _ (setc_heap w4 gm 3 _ _ _ hblk2) (Keeps.weak (setc_keeps w4 w4 gm 3 _ (Rg.Keeps.refl _ _)) fun y hy => ⟨8, List.mem_singleton.2 rfl, hy⟩) (fun y hy => ⟨?_, .inr ⟨8, List.mem_singleton.2 rfl, hy⟩⟩)
                      have hyy : y = gm := hy
                      rw [hyy]
                      exact (Array.getElem?_eq_some_iff.1 (setc_heap w4 gm 3 _ _ _ hblk2)).1
                    simp only [Act.put, List.setIfInBounds_toArray, List.set_cons_zero, List.set_cons_succ, Nat.reduceAdd]
                    iterate 1 (apply Rg.RK.ok; (· intro vs w1 hS; go_simp; with_reducible rfl); (· rfl); simp only [Act.put, List.setIfInBounds_toArray, List.set_cons_zero, List.set_cons_succ, Nat.reduceAdd])
                    apply Rg.RK.fin [6]
                    intro vs w4 hK hS hf
                    obtain ⟨hblk, -⟩ := hf
                    refine hQN.out _ _ ?_
                    clear hQN
                    have hblk2 : w4.heap[gm]? = some (.cells #[.int .i64 (x0 : Int), .int .i64 (x1 : Int), .int .i64 (x2 : Int), .int .u64 (tn : Int), .int .u64 (y : Int), .slice none 0 0] 25 (0, 0)) := hblk
                    have hI9 := hI5.drew.kp hK hblk2
                    have hrr9 := hdk.drew.keptM hws (Nat.le_trans hmnew (Nat.le_refl _)) hK
                    have hws9 := Nat.le_trans hws hK.size
                    clear hblk hblk2 hS hK hm5 hml CUT9 hd2 hdk hI5
                    (try dsimp only)
                    go_wp2_with fail
                    go_roundw
                    case rel =>
                      refine ⟨0 + 1, _, _, _, r2, acc ++ [tn], tn, y, rfl, rfl, by omega, by omega, by omega, hrr9, hws9, hI9, HST.out.symm, ?_, by omega, by omega⟩
                      obtain ⟨p1, p2, p3⟩ := HA.out
                      match acc, p1 with
                      | [], p1 => first | exact ⟨rfl, rfl, by simpa using p3⟩ | (exact absurd p1 (by simp))
                      | [a0], p1 => first | exact ⟨rfl, by simpa using p2, rfl⟩ | (exact absurd p1 (by simp))
                      | a0 :: a1 :: q, p1 => exact absurd p1 (by simp)
                    case measure => simp [intOf]
                  · kernel_rfl
                · have hv : readX x0 x1 x2 r0 = (3, mt0) := by
                    have hst : takesL 2 [] r0 = ((takeL r).2.2, [], []) := by
                      rw [← HTK.out, show 2 - 0 = (2 - (0 + 1)) + 1 by omega]
                      conv => lhs; unfold takesL
                      rw [if_neg he]
                    unfold readX
                    simp only [hst]
                    rw [if_pos he]
                  have HNO : Hid (readM bs = (3, mt0)) := HN.out.trans hv
                  have c9 : (((takeL r).2.2 : Int) != 0) = true := by simp; omega
                  clear hv HTK HA HN
                  have hg9 := hI5.hg
                  have hup9 := hI5.up
                  clear hI5 hrr he
                  have t0 := blk_cell hg9 0
                  have t1 := blk_cell hg9 1
                  have t2 := blk_cell hg9 2
                  have t3 := blk_cell hg9 3
                  have t4 := blk_cell hg9 4
                  have t5 := blk_cell hg9 5
                  have s0 := blk_free hg9 0
                  have s1 := blk_free hg9 1
                  have s2 := blk_free hg9 2
                  have s3 := blk_free hg9 3
                  have s4 := blk_free hg9 4
                  have s5 := blk_free hg9 5
                  have h7 := set6 _ g2 _ _ _ _ _ _ (.int .i64 0) (.int .i64 0) (.int .i64 0) (.int .u64 0) (.int .u64 0) (.slice none 0 0) _ hg9
                  have hup10 := keepsUpM hup9 hgw9 h7.2
                  have H71 := Lib.hid h7.1
                  have HUP := Lib.hid hup10
                  clear h7 hup10 hup9 hg9
                  go_wp2_with fail
                  have u0 := blk_cell H71.out 0
                  have u1 := blk_cell H71.out 1
                  have u2 := blk_cell H71.out 2
                  have u3 := blk_cell H71.out 3
                  have u4 := blk_cell H71.out 4
                  have u5 := blk_cell H71.out 5
                  refine bodyPost_ret (v := .tuple #[.agg #[.int .i64 0, .int .i64 0, .int .i64 0, .int .u64 0, .int .u64 0, .slice none 0 0], .int .i64 (3)]) (by simp [results, Try.results13, go_sem, u0, u1, u2, u3, u4, u5]) rfl ?_
                  exact MPost.no HNO.out HUP.out
              · have hpc := blk_cell hI5.hp 1
                go_wp2_with fail
                refine (take_any R rn rc r wr (hrr.mono hws) (by omega)).mono ?_
                rintro e w7 ⟨rfl, rfl⟩
                clear hpc
                by_cases he : (takeL r).2.2 = 0
                · have hok := takeL_ok he
                  have hst : takesL (2 - 1) acc r = takesL (2 - (1 + 1)) (acc ++ [(takeL r).1]) (r.drop (takeL r).2.1) := by
                    rw [show 2 - 1 = (2 - (1 + 1)) + 1 by omega]
                    conv => lhs; unfold takesL
                    rw [if_pos he]
                  have HRL := Lib.hid hrr.blen
                  have hd2 := hrr.bfrom (k := (takeL r).2.1) (cap := rc) (by have := HRL.out; omega) hrc
                  rw [he]
                  have HST := Lib.hid (HTK.out.symm.trans hst)
                  clear hst he
                  generalize (takeL r).1 = tn at *
                  generalize (takeL r).2.1 = ts at *
                  generalize r.drop ts = r2 at *
                  obtain ⟨h1, h2', h3, h4⟩ := hok
                  have z1 : (0 : Int) ≤ (ts : Int) := by omega
                  have z2 : (ts : Int) ≤ (rn : Int) := by have := HRL.out; omega
                  have CUT9 : ∀ W, (Instr.slice 28 (.slice R rn rc) (some (.int .i64 (ts : Int))) none none).run Try.prog W = .ok (.slice (cutA R rc ts 1) (rn - ts) (rc - ts)) W := fun W => cut_from_b W R rn rc .i64 (ts : Int) z1 z2
                  have hml := (Array.getElem?_eq_some_iff.1 hI5.hm).1
                  have hm5 := hI5.hm
                  have hdk := hd2
                  clear CUT hrr
                  go_wp2_with fail
                  apply Rg.region_own 8 (fun _ => True) (fun g => g = gm) (fun W => W.heap[gm]? = some (.cells #[.int .i64 (x0 : Int), .int .i64 (x1 : Int), .int .i64 (x2 : Int), .int .u64 (x : Int), .int .u64 (y : Int), .slice none 0 0] 25 (0, 0))) rfl (by kernel_rfl) (by kernel_rfl) (by rintro g rfl; exact hml) hm5 (fun w1 w2 h hs => (hs.block gm (Array.getElem?_eq_some_iff.1 h).1 (.inr rfl)).trans h) (fun _ _ => trivial)
                  · intro QN hQN
                    iterate 6 (apply Rg.RK.ok; (· intro vs w1 hS; go_simp; with_reducible rfl); (· rfl); simp only [Act.put, List.setIfInBounds_toArray, List.set_cons_zero, List.set_cons_succ, Nat.reduceAdd])
                    apply Rg.RK.opn (fun _ W => W.heap[gm]? = some (.cells #[.int .i64 (x0 : Int), .int .i64 (x1 : Int), .int .i64 (x2 : Int), .int .u64 (x : Int), .int .u64 (tn : Int), .slice none 0 0] 25 (0, 0))) (fun _ g => g = gm) [8] [8]
                    · exact fun v W1 W2 h hs => (hs.block gm (Array.getElem?_eq_some_iff.1 h).1 (.inr rfl)).trans h
                    · rfl
                    · intro vs w4 hK hS hf K hKK
                      obtain ⟨hblk, -⟩ := hf
                      have hblk2 : w4.heap[gm]? = some (.cells #[.int .i64 (x0 : Int), .int .i64 (x1 : Int), .int .i64 (x2 : Int), .int .u64 (x : Int), .int .u64 (y : Int), .slice none 0 0] 25 (0, 0)) := hblk
                      have t0 := blk_cell hblk2 4
                      have s0 := blk_free hblk2 4
                      (try dsimp only at hKK ⊢)
                      go_simp
                      refine hKK.out undef _ (setc_heap w4 gm 4 _ _ _ hblk2) (Keeps.weak (setc_keeps w4 w4 gm 4 _ (Rg.Keeps.refl _ _)) fun y hy => ⟨8, List.mem_singleton.2 rfl, hy⟩) (fun y hy => ⟨?_, .inr ⟨8, List.mem_singleton.2 rfl, hy⟩⟩)
                      have hyy : y = gm := hy
                      rw [hyy]
                      exact (Array.getElem?_eq_some_iff.1 (setc_heap w4 gm 4 _ _ _ hblk2)).1
                    simp only [Act.put, List.setIfInBounds_toArray, List.set_cons_zero, List.set_cons_succ, Nat.reduceAdd]
                    iterate 1 (apply Rg.RK.ok; (· intro vs w1 hS; go_simp; with_reducible rfl); (· rfl); simp only [Act.put, List.setIfInBounds_toArray, List.set_cons_zero, List.set_cons_succ, Nat.reduceAdd])
                    apply Rg.RK.fin [6]
                    intro vs w4 hK hS hf
                    obtain ⟨hblk, -⟩ := hf
                    refine hQN.out _ _ ?_
                    clear hQN
                    have hblk2 : w4.heap[gm]? = some (.cells #[.int .i64 (x0 : Int), .int .i64 (x1 : Int), .int .i64 (x2 : Int), .int .u64 (x : Int), .int .u64 (tn : Int), .slice none 0 0] 25 (0, 0)) := hblk
                    have hI9 := hI5.drew.kp hK hblk2
                    have hrr9 := hdk.drew.keptM hws (Nat.le_trans hmnew (Nat.le_refl _)) hK
                    have hws9 := Nat.le_trans hws hK.size
                    clear hblk hblk2 hS hK hm5 hml CUT9 hd2 hdk hI5
                    (try dsimp only)
                    go_wp2_with fail
                    go_roundw
                    case rel =>
                      refine ⟨1 + 1, _, _, _, r2, acc ++ [tn], x, tn, rfl, rfl, by omega, by omega, by omega, hrr9, hws9, hI9, HST.out.symm, ?_, by omega, by omega⟩
                      obtain ⟨p1, p2, p3⟩ := HA.out
                      match acc, p1 with
                      | [], p1 => first | exact ⟨rfl, rfl, by simpa using p3⟩ | (exact absurd p1 (by simp))
                      | [a0], p1 => first | exact ⟨rfl, by simpa using p2, rfl⟩ | (exact absurd p1 (by simp))
                      | a0 :: a1 :: q, p1 => exact absurd p1 (by simp)
                    case measure => simp [intOf]
                  · kernel_rfl
                · have hv : readX x0 x1 x2 r0 = (3, mt0) := by
                    have hst : takesL 2 [] r0 = ((takeL r).2.2, [], []) := by
                      rw [← HTK.out, show 2 - 1 = (2 - (1 + 1)) + 1 by omega]
                      conv => lhs; unfold takesL
                      rw [if_neg he]
                    unfold readX
                    simp only [hst]
                    rw [if_pos he]
                  have HNO : Hid (readM bs = (3, mt0)) := HN.out.trans hv
                  have c9 : (((takeL r).2.2 : Int) != 0) = true := by simp; omega
                  clear hv HTK HA HN
                  have hg9 := hI5.hg
                  have hup9 := hI5.up
                  clear hI5 hrr he
                  have t0 := blk_cell hg9 0
                  have t1 := blk_cell hg9 1
                  have t2 := blk_cell hg9 2
                  have t3 := blk_cell hg9 3
                  have t4 := blk_cell hg9 4
                  have t5 := blk_cell hg9 5
                  have s0 := blk_free hg9 0
                  have s1 := blk_free hg9 1
                  have s2 := blk_free hg9 2
                  have s3 := blk_free hg9 3
                  have s4 := blk_free hg9 4
                  have s5 := blk_free hg9 5
                  have h7 := set6 _ g2 _ _ _ _ _ _ (.int .i64 0) (.int .i64 0) (.int .i64 0) (.int .u64 0) (.int .u64 0) (.slice none 0 0) _ hg9
                  have hup10 := keepsUpM hup9 hgw9 h7.2
                  have H71 := Lib.hid h7.1
                  have HUP := Lib.hid hup10
                  clear h7 hup10 hup9 hg9
                  go_wp2_with fail
                  have u0 := blk_cell H71.out 0
                  have u1 := blk_cell H71.out 1
                  have u2 := blk_cell H71.out 2
                  have u3 := blk_cell H71.out 3
                  have u4 := blk_cell H71.out 4
                  have u5 := blk_cell H71.out 5
                  refine bodyPost_ret (v := .tuple #[.agg #[.int .i64 0, .int .i64 0, .int .i64 0, .int .u64 0, .int .u64 0, .slice none 0 0], .int .i64 (3)]) (by simp [results, Try.results13, go_sem, u0, u1, u2, u3, u4, u5]) rfl ?_
                  exact MPost.no HNO.out HUP.out
              · have hro : Rd wr wr.heap.size 1 R rn (bvs r) := hrr.mono hws
                have hTK : takesL 2 [] r0 = (0, acc, r) := HTK.out.symm
                obtain ⟨p1, p2, p3⟩ := HA.out
                have hRX : readX x0 x1 x2 r0 = if (readL r).1 ≠ 0 ∨ msgB (x0 : Int) (x1 : Int) (x2 : Int) x y (readL r).2 = false then (3, mt0) else (0, x0, x1, x2, x, y, (readL r).2) := by
                  unfold readX
                  simp only [hTK, p2, p3]
                  rw [if_neg (by simp)]
                have HRX := Lib.hid (HN.out.trans hRX)
                clear hRX hTK HTK HN HA p1 p2 p3 CUT hrr
                go_wp2_with fail
                refine (read_any R rn rc r wr hro (by omega) hrc).mono ?_
                rintro e w6 ⟨Q, qn, qc, rfl, hoQ, hu6⟩
                have hI6 := hI5.upg hu6
                obtain ⟨qe, ql, hq⟩ : ∃ a b, readL r = (a, b) := ⟨_, _, rfl⟩
                rw [hq] at hoQ HRX ⊢
                (try dsimp only at hoQ HRX ⊢)
                have hml := hI6.hm
                have hmw : gm < wr.heap.size := (Array.getElem?_eq_some_iff.1 hI5.hm).1
                have t5 := blk_cell hml 5
                have s5 := blk_free hml 5
                have hm7 := setc_heap w6 gm 5 (.slice Q qn qc) _ _ hml
                have hK7 := setc_keeps w6 w6 gm 5 (.slice Q qn qc) (Rg.Keeps.refl _ _)
                have hoQ7 := own_keepsM hoQ hmw hK7
                have hg7 := (hK7.block _ (Array.getElem?_eq_some_iff.1 hI6.hg).1 (by have := hI6.o2; show ¬ g2 = gm; omega)).trans hI6.hg
                have hup7 := keepsUpM hI6.up (by have := hI6.o2; omega) hK7
                have hm7' : (w6.setCell ⟨gm, 5, none⟩ (.slice Q qn qc)).heap[gm]? = some (.cells #[.int .i64 (x0 : Int), .int .i64 (x1 : Int), .int .i64 (x2 : Int), .int .u64 (x : Int), .int .u64 (y : Int), .slice Q qn qc] 25 (0, 0)) := hm7
                have hsz7 := Nat.le_trans hu6.size hK7.size
                clear hq hm7 hI5 hI6 hu6 hK7 hoQ hro hml
                by_cases hqe : qe = 0
                · subst hqe
                  have hcN : ((((0 : Nat) : Int)) != 0) = false := rfl
                  have p0 := blk_cell hm7' 0
                  have p1 := blk_cell hm7' 1
                  have p2 := blk_cell hm7' 2
                  have p3 := blk_cell hm7' 3
                  have p4 := blk_cell hm7' 4
                  have p5 := blk_cell hm7' 5
                  go_wp2_with fail
                  clear p0 p1 p2 p3 p4 p5 t5 s5 hcN
                  generalize w6.setCell ⟨gm, 5, none⟩ (.slice Q qn qc) = w9 at *
                  refine (mok_any x0 x1 x2 x y Q qn qc ql w9 (Rd.own hoQ7) (own_max hoQ7)).mono ?_
                  rintro e w10 ⟨rfl, hu10⟩
                  obtain ⟨mb, hmb⟩ : ∃ b, b = msgB (x0 : Int) (x1 : Int) (x2 : Int) x y ql := ⟨_, rfl⟩
                  rw [← hmb] at HRX ⊢
                  clear hmb
                  have hg9 := (hu10.block _ (Array.getElem?_eq_some_iff.1 hg7).1).trans hg7
                  have hup9 := hup7.trans hu10
                  have hm9 := (hu10.block _ (Array.getElem?_eq_some_iff.1 hm7').1).trans hm7'
                  have hoQ9 := own_up hoQ7 hu10
                  clear hg7 hup7 hm7' hoQ7 hu10
                  cases mb
                  · have HNO : Hid (readM bs = (3, mt0)) := by
                      show _ = _
                      rw [HRX.out, if_pos (.inr rfl)]
                    clear HRX hm9 hoQ9
                    have t0 := blk_cell hg9 0
                    have t1 := blk_cell hg9 1
                    have t2 := blk_cell hg9 2
                    have t3 := blk_cell hg9 3
                    have t4 := blk_cell hg9 4
                    have t5 := blk_cell hg9 5
                    have s0 := blk_free hg9 0
                    have s1 := blk_free hg9 1
                    have s2 := blk_free hg9 2
                    have s3 := blk_free hg9 3
                    have s4 := blk_free hg9 4
                    have s5 := blk_free hg9 5
                    have h7 := set6 _ g2 _ _ _ _ _ _ (.int .i64 0) (.int .i64 0) (.int .i64 0) (.int .u64 0) (.int .u64 0) (.slice none 0 0) _ hg9
                    have hup10 := keepsUpM hup9 hgw9 h7.2
                    have H71 := Lib.hid h7.1
                    have HUP := Lib.hid hup10
                    clear h7 hup10 hup9 hg9
                    go_wp2_with fail
                    have u0 := blk_cell H71.out 0
                    have u1 := blk_cell H71.out 1
                    have u2 := blk_cell H71.out 2
                    have u3 := blk_cell H71.out 3
                    have u4 := blk_cell H71.out 4
                    have u5 := blk_cell H71.out 5
                    refine bodyPost_ret (v := .tuple #[.agg #[.int .i64 0, .int .i64 0, .int .i64 0, .int .u64 0, .int .u64 0, .slice none 0 0], .int .i64 (3)]) (by simp [results, Try.results13, go_sem, u0, u1, u2, u3, u4, u5]) rfl ?_
                    exact MPost.no HNO.out HUP.out
                  · have HYES : Hid (readM bs = (0, x0, x1, x2, x, y, ql)) := by
                      show _ = _
                      rw [HRX.out, if_neg (by simp)]
                    have p0 := blk_cell hm9 0
                    have p1 := blk_cell hm9 1
                    have p2 := blk_cell hm9 2
                    have p3 := blk_cell hm9 3
                    have p4 := blk_cell hm9 4
                    have p5 := blk_cell hm9 5
                    have t0 := blk_cell hg9 0
                    have t1 := blk_cell hg9 1
                    have t2 := blk_cell hg9 2
                    have t3 := blk_cell hg9 3
                    have t4 := blk_cell hg9 4
                    have t5 := blk_cell hg9 5
                    have s0 := blk_free hg9 0
                    have s1 := blk_free hg9 1
                    have s2 := blk_free hg9 2
                    have s3 := blk_free hg9 3
                    have s4 := blk_free hg9 4
                    have s5 := blk_free hg9 5
                    have h7 := set6 _ g2 _ _ _ _ _ _ (.int .i64 (x0 : Int)) (.int .i64 (x1 : Int)) (.int .i64 (x2 : Int)) (.int .u64 (x : Int)) (.int .u64 (y : Int)) (.slice Q qn qc) _ hg9
                    have hup10 := keepsUpM hup9 hgw9 h7.2
                    have hoQ10 := Rd.own (own_keepsM hoQ9 (by omega) h7.2)
                    have hqc := own_cap hoQ9
                    have H71 := Lib.hid h7.1
                    have HUP := Lib.hid hup10
                    have HOQ := Lib.hid hoQ10
                    clear h7 hup10 hup9 hg9 hm9 hoQ9 hoQ10 HRX
                    go_wp2_with fail
                    have u0 := blk_cell H71.out 0
                    have u1 := blk_cell H71.out 1
                    have u2 := blk_cell H71.out 2
                    have u3 := blk_cell H71.out 3
                    have u4 := blk_cell H71.out 4
                    have u5 := blk_cell H71.out 5
                    refine bodyPost_ret (v := .tuple #[.agg #[.int .i64 (x0 : Int), .int .i64 (x1 : Int), .int .i64 (x2 : Int), .int .u64 (x : Int), .int .u64 (y : Int), .slice Q qn qc], .int .i64 0]) (by simp [results, Try.results13, go_sem, u0, u1, u2, u3, u4, u5]) rfl ?_
                    unfold MPost
                    rw [HYES.out]
                    exact ⟨Q, qn, qc, rfl, HOQ.out, hqc, HUP.out⟩
                · have HNO : Hid (readM bs = (3, mt0)) := by
                    show _ = _
                    rw [HRX.out, if_pos (.inl hqe)]
                  have c9 : ((qe : Int) != 0) = true := by simp; omega
                  clear HRX
                  generalize hw9 : w6.setCell ⟨gm, 5, none⟩ (.slice Q qn qc) = w9 at hm7' hoQ7 hg7 hup7 hsz7
                  have hg9 := hg7
                  have hup9 := hup7
                  rw [← hw9] at hg9 hup9
                  clear hw9 hm7' hoQ7 hg7 hup7 hsz7
                  have t0 := blk_cell hg9 0
                  have t1 := blk_cell hg9 1
                  have t2 := blk_cell hg9 2
                  have t3 := blk_cell hg9 3
                  have t4 := blk_cell hg9 4
                  have t5 := blk_cell hg9 5
                  have s0 := blk_free hg9 0
                  have s1 := blk_free hg9 1
                  have s2 := blk_free hg9 2
                  have s3 := blk_free hg9 3
                  have s4 := blk_free hg9 4
                  have s5 := blk_free hg9 5
                  have h7 := set6 _ g2 _ _ _ _ _ _ (.int .i64 0) (.int .i64 0) (.int .i64 0) (.int .u64 0) (.int .u64 0) (.slice none 0 0) _ hg9
                  have hup10 := keepsUpM hup9 hgw9 h7.2
                  have H71 := Lib.hid h7.1
                  have HUP := Lib.hid hup10
                  clear h7 hup10 hup9 hg9
                  go_wp2_with fail
                  have u0 := blk_cell H71.out 0
                  have u1 := blk_cell H71.out 1
                  have u2 := blk_cell H71.out 2
                  have u3 := blk_cell H71.out 3
                  have u4 := blk_cell H71.out 4
                  have u5 := blk_cell H71.out 5
                  refine bodyPost_ret (v := .tuple #[.agg #[.int .i64 0, .int .i64 0, .int .i64 0, .int .u64 0, .int .u64 0, .slice none 0 0], .int .i64 (3)]) (by simp [results, Try.results13, go_sem, u0, u1, u2, u3, u4, u5]) rfl ?_
                  exact MPost.no HNO.out HUP.out
          · kernel_rfl
      · have HNO : Hid (readM bs = (3, mt0)) := by
          show _ = _
          rw [HV.out, if_neg (by simp [hE]), if_pos (.inr (.inl hX))]
        have c1 : ((E : Int) != 0) = false := by simp [hE]
        have c2 : ((K : Int) != 9) = false := by simp [hK]
        have c3 : (nx != (n : Int)) = true := by simp [hX]
        clear HV HT hE hK hX hrB hbl
        have t0 := blk_cell hg9 0
        have t1 := blk_cell hg9 1
        have t2 := blk_cell hg9 2
        have t3 := blk_cell hg9 3
        have t4 := blk_cell hg9 4
        have t5 := blk_cell hg9 5
        have s0 := blk_free hg9 0
        have s1 := blk_free hg9 1
        have s2 := blk_free hg9 2
        have s3 := blk_free hg9 3
        have s4 := blk_free hg9 4
        have s5 := blk_free hg9 5
        have h7 := set6 _ g2 _ _ _ _ _ _ (.int .i64 0) (.int .i64 0) (.int .i64 0) (.int .u64 0) (.int .u64 0) (.slice none 0 0) _ hg9
        have hup10 := keepsUpM hup9 hgw9 h7.2
        have H71 := Lib.hid h7.1
        have HUP := Lib.hid hup10
        clear h7 hup10 hup9 hg9
        go_wp2_with fail
        have u0 := blk_cell H71.out 0
        have u1 := blk_cell H71.out 1
        have u2 := blk_cell H71.out 2
        have u3 := blk_cell H71.out 3
        have u4 := blk_cell H71.out 4
        have u5 := blk_cell H71.out 5
        refine bodyPost_ret (v := .tuple #[.agg #[.int .i64 0, .int .i64 0, .int .i64 0, .int .u64 0, .int .u64 0, .slice none 0 0], .int .i64 (3)]) (by simp [results, Try.results13, go_sem, u0, u1, u2, u3, u4, u5]) rfl ?_
        exact MPost.no HNO.out HUP.out
    · have HNO : Hid (readM bs = (3, mt0)) := by
        show _ = _
        rw [HV.out, if_neg (by simp [hE]), if_pos (.inl hK)]
      have c1 : ((E : Int) != 0) = false := by simp [hE]
      have c2 : ((K : Int) != 9) = true := by simp; omega
      clear HV HT hE hK hrB hbl
      have t0 := blk_cell hg9 0
      have t1 := blk_cell hg9 1
      have t2 := blk_cell hg9 2
      have t3 := blk_cell hg9 3
      have t4 := blk_cell hg9 4
      have t5 := blk_cell hg9 5
      have s0 := blk_free hg9 0
      have s1 := blk_free hg9 1
      have s2 := blk_free hg9 2
      have s3 := blk_free hg9 3
      have s4 := blk_free hg9 4
      have s5 := blk_free hg9 5
      have h7 := set6 _ g2 _ _ _ _ _ _ (.int .i64 0) (.int .i64 0) (.int .i64 0) (.int .u64 0) (.int .u64 0) (.slice none 0 0) _ hg9
      have hup10 := keepsUpM hup9 hgw9 h7.2
      have H71 := Lib.hid h7.1
      have HUP := Lib.hid hup10
      clear h7 hup10 hup9 hg9
      go_wp2_with fail
      have u0 := blk_cell H71.out 0
      have u1 := blk_cell H71.out 1
      have u2 := blk_cell H71.out 2
      have u3 := blk_cell H71.out 3
      have u4 := blk_cell H71.out 4
      have u5 := blk_cell H71.out 5
      refine bodyPost_ret (v := .tuple #[.agg #[.int .i64 0, .int .i64 0, .int .i64 0, .int .u64 0, .int .u64 0, .slice none 0 0], .int .i64 (3)]) (by simp [results, Try.results13, go_sem, u0, u1, u2, u3, u4, u5]) rfl ?_
      exact MPost.no HNO.out HUP.out
  · have HNO : Hid (readM bs = (E, mt0)) := by
      show _ = _
      rw [HV.out, if_pos hE]
    have c1 : ((E : Int) != 0) = true := by simp; omega
    clear HV HT hE hrB hbl
    have t0 := blk_cell hg9 0
    have t1 := blk_cell hg9 1
    have t2 := blk_cell hg9 2
    have t3 := blk_cell hg9 3
    have t4 := blk_cell hg9 4
    have t5 := blk_cell hg9 5
    have s0 := blk_free hg9 0
    have s1 := blk_free hg9 1
    have s2 := blk_free hg9 2
    have s3 := blk_free hg9 3
    have s4 := blk_free hg9 4
    have s5 := blk_free hg9 5
    have h7 := set6 _ g2 _ _ _ _ _ _ (.int .i64 0) (.int .i64 0) (.int .i64 0) (.int .u64 0) (.int .u64 0) (.slice none 0 0) _ hg9
    have hup10 := keepsUpM hup9 hgw9 h7.2
    have H71 := Lib.hid h7.1
    have HUP := Lib.hid hup10
    clear h7 hup10 hup9 hg9
    go_wp2_with fail
    have u0 := blk_cell H71.out 0
    have u1 := blk_cell H71.out 1
    have u2 := blk_cell H71.out 2
    have u3 := blk_cell H71.out 3
    have u4 := blk_cell H71.out 4
    have u5 := blk_cell H71.out 5
    refine bodyPost_ret (v := .tuple #[.agg #[.int .i64 0, .int .i64 0, .int .i64 0, .int .u64 0, .int .u64 0, .slice none 0 0], .int .i64 ((E : Int))]) (by simp [results, Try.results13, go_sem, u0, u1, u2, u3, u4, u5]) rfl ?_
    exact MPost.no HNO.out HUP.out
end Go.Proofs.Ytnbdijifhimogaa
