/-
  The walks of clepsydraref1.Unsign and clepsydraref5.Read.
-/
import Derived.Test.YtnbdijifhimogaaItemW8
import Derived.Test.YtnbdijifhimogaaItemW9
import Derived.Test.YtnbdijifhimogaaRefW1
import Derived.IntWalk
namespace Go.Proofs.Ytnbdijifhimogaa
open Go.RowKit
set_option linter.unusedVariables false
set_option linter.unusedSimpArgs false

theorem u64_and_one (a : Nat) (ha : a < 18446744073709551616) : bits .and .u64 (a : Int) 1 = ((a % 2 : Nat) : Int) := by
  show IntKind.u64.wrap ((BitVec.ofInt 64 (a : Int) &&& BitVec.ofInt 64 1).toNat : Int) = _
  rw [BitVec.toNat_and, BitVec.ofInt_natCast, BitVec.toNat_ofNat, Nat.mod_eq_of_lt (by omega), IntKind.wrap_u64]
  have : (BitVec.ofInt 64 1).toNat = 1 := rfl
  rw [this, Nat.and_one_is_mod]; omega

set_option maxRecDepth 100000 in
set_option maxHeartbeats 800000 in
theorem runsign_any (z : Nat) (w : World) (hz : z < 18446744073709551616) :
    Calls Try.prog 48 #[.int .u64 (z : Int)] w fun e w' => e = .returned (.int .i64 (unsignZ z)) ∧ w = w' := by
  have ha := u64_and_one z hz
  by_cases h1 : z % 2 = 1
  · rw [h1] at ha
    have hv : unsignZ z = -((z : Int) / 2) - 1 := by unfold unsignZ; split <;> omega
    have HV := Lib.hid hv
    clear hv
    go_enter Try.func48, Try.ntmps48
    go_wp2
    go_ret
    rw [HV.out]
    exact ⟨rfl, rfl⟩
  · have h0 : z % 2 = 0 := by omega
    rw [h0] at ha
    have hv : unsignZ z = (z : Int) / 2 := by unfold unsignZ; split <;> omega
    have HV := Lib.hid hv
    clear hv
    go_enter Try.func48, Try.ntmps48
    go_wp2
    go_ret
    rw [HV.out]
    exact ⟨rfl, rfl⟩

/-- five cells at the head of a block, other than what was there before -/
def At5 (g : Nat) (v0 v1 v2 v3 v4 : Value) (W : World) : Prop := W.heap[g]? = some (.cells #[v0, v1, v2, v3, v4] 27 (0, 0))
def New5 (B : Nat) (v : Value) (W : World) : Prop := ∃ g, v = .pointer (some ⟨g, 0, none⟩) ∧ B ≤ g ∧ At5 g (.int .i64 0) (.int .i64 0) (.int .u64 0) (.int .u64 0) (.int .i64 0) W
theorem At5.sta {g : Nat} {v0 v1 v2 v3 v4 : Value} {w w' : World} {Y : Nat → Prop} (h : At5 g v0 v1 v2 v3 v4 w) (hs : Rg.Sta Y w w') (hy : Y g) : At5 g v0 v1 v2 v3 v4 w' :=
  (hs.block g (Array.getElem?_eq_some_iff.1 h).1 hy).trans h
theorem New5.sta {B : Nat} {v : Value} {w w' : World} {Y : Nat → Prop} (h : New5 B v w) (hs : Rg.Sta (fun g => Y g ∨ Rg.ob v g) w w') : New5 B v w' := by
  obtain ⟨g, rfl, hb, hh⟩ := h
  exact ⟨g, rfl, hb, hh.sta hs (.inr rfl)⟩
/-- the pointer leads to a new block that holds these numbers -/
def It5 (B x0 x1 : Nat) (v : Value) (W : World) : Prop := ∃ g, v = .pointer (some ⟨g, 0, none⟩) ∧ B ≤ g ∧ At5 g (.int .i64 (x0 : Int)) (.int .i64 (x1 : Int)) (.int .u64 0) (.int .u64 0) (.int .i64 0) W
theorem It5.sta {B x0 x1 : Nat} {v : Value} {w w' : World} {Y : Nat → Prop} (h : It5 B x0 x1 v w) (hs : Rg.Sta (fun g => Y g ∨ Rg.ob v g) w w') : It5 B x0 x1 v w' := by
  obtain ⟨g, rfl, hb, hh⟩ := h
  exact ⟨g, rfl, hb, hh.sta hs (.inr rfl)⟩
theorem cell_up {w w' : World} (hu : Up w w') {g o : Nat} {v : Value} (h : w.cell? ⟨g, o, none⟩ = some v) : w'.cell? ⟨g, o, none⟩ = some v :=
  (World.cell?_of_block (hu.block g (World.block_lt_of_cell? w ⟨g, o, none⟩ h))).trans h
/-- blocks that were written are newer than w -/
theorem keeps_fresh {w wq w2 : World} {gx : Nat} (hu : Up w wq) (hg : w.heap.size ≤ gx) (hK : Rg.Keeps (fun g => g = gx) wq.drew w2) : Up w w2 :=
  ⟨hK.os.trans hu.os, hK.tape.trans hu.tape, hK.output.trans hu.output, Nat.le_trans hu.size hK.size, fun k hk => (hK.block k (Nat.lt_of_lt_of_le hk hu.size) (by show ¬ k = gx; omega)).trans (hu.block k hk)⟩
theorem own_keeps {wq w2 : World} {base gx : Nat} {e : TypeId} {sz n : Nat} {v : Value} {xs : List Value} (h : wq.ownsRow base e sz v n xs) (hg : ∀ g, Rg.ob v g → g ≠ gx) (hK : Rg.Keeps (fun g => g = gx) wq.drew w2) : w2.ownsRow base e sz v n xs :=
  row_sta (Y := fun _ => False) h ⟨hK.size, fun g hl hy => hK.block g hl (hg g (hy.elim False.elim id))⟩
theorem At5.setc2 {g : Nat} {v0 v1 v2 v3 v4 u : Value} {W : World} (h : At5 g v0 v1 v2 v3 v4 W) : At5 g v0 v1 u v3 v4 (W.setCell ⟨g, 2, none⟩ u) := setc_heap W g 2 u _ _ h
theorem At5.setc3 {g : Nat} {v0 v1 v2 v3 v4 u : Value} {W : World} (h : At5 g v0 v1 v2 v3 v4 W) : At5 g v0 v1 v2 u v4 (W.setCell ⟨g, 3, none⟩ u) := setc_heap W g 3 u _ _ h
theorem At5.setc4 {g : Nat} {v0 v1 v2 v3 v4 u : Value} {W : World} (h : At5 g v0 v1 v2 v3 v4 W) : At5 g v0 v1 v2 v3 u (W.setCell ⟨g, 4, none⟩ u) := setc_heap W g 4 u _ _ h
theorem ext_tx {s : ByteArray} {l : List UInt8} (hs : s.data.toList = l) (a : Nat) : (s.extract a s.size).data.toList = l.drop a := by
  subst hs
  rw [ByteArray.data_extract, Array.toList_extract, List.extract_eq_take_drop]
  exact List.take_of_length_le (by rw [List.length_drop, Array.length_toList]; exact Nat.le_refl _)
/-- the item that bytes at a place begin with -/
theorem oneL_at (l : List UInt8) (p : Nat) (h : ¬ l.length - p < 2) : oneL (l.drop p) = if (takesL 3 [] (l.drop (p + 2))).1 = 0 then (0, mkIt (l.getD p 0).toNat (l.getD (p + 1) 0).toNat ((takesL 3 [] (l.drop (p + 2))).2.1.getD 0 0) ((takesL 3 [] (l.drop (p + 2))).2.1.getD 1 0) ((takesL 3 [] (l.drop (p + 2))).2.1.getD 2 0), (takesL 3 [] (l.drop (p + 2))).2.2)
    else ((takesL 3 [] (l.drop (p + 2))).1, noIt, []) := by
  conv => lhs; unfold oneL
  rw [if_neg (by rw [List.length_drop]; exact h), List.drop_drop]
  simp only [List.getD_eq_getElem?_getD, List.getElem?_drop, Nat.add_zero]

/-- what Read comes to -/
def RdPost (t : Nat × List It) (w : World) (e : Ending) (w' : World) : Prop := ∃ A' n' c', e = .returned (.tuple #[.slice A' n' c', .int .i64 (t.1 : Int)]) ∧ OwnI w' w.heap.size A' n' c' t.2 ∧ Up w w'

set_option maxRecDepth 100000 in
set_option maxHeartbeats 1600000 in
theorem rread_any (l : List UInt8) (w : World) (hl : l.length ≤ 1099511627776) :
    Calls Try.prog 34 #[.string (tx l)] w (RdPost (readL l) w) := by
  have nil0 : ∀ w0, OwnI w0 w.heap.size none 0 0 [] := fun w0 => World.ownsRow_nil _ _ _ _
  have NIL := Lib.hid nil0
  clear nil0
  have hts := tx_list l
  have hsz := tx_size l
  have HT0 : Hid (∀ W, Calls Try.prog 33 #[.string (tx l)] W fun e w' => e = .returned (.tuple #[.int .u64 ((takeL l).1 : Int), .int .i64 ((takeL l).2.1 : Int), .int .i64 ((takeL l).2.2 : Int)]) ∧ W = w') := fun W => rtake_any (tx l) l W hts (by omega)
  by_cases he : (takeL l).2.2 = 0
  · have hok := takeL_ok he
    by_cases hbig : 2000 < (takeL l).1
    · have hv : readL l = (2, []) := by unfold readL; rw [if_neg (by simpa using he), if_pos hbig]
      have HV := Lib.hid hv
      clear hv hts hsz
      go_enter Try.func34, Try.ntmps34
      go_wp2_with fail
      refine (HT0.out w).mono ?_
      rintro e w1 ⟨rfl, rfl⟩
      rw [he]
      generalize (takeL l).1 = tn at *
      clear he
      go_wp2_with fail
      go_ret2
      rw [HV.out]
      exact ⟨none, 0, 0, rfl, NIL.out _, Up.refl _⟩
    · have hv : readL l = if (itsL (takeL l).1 [] (l.drop (takeL l).2.1)).1 ≠ 0 then ((itsL (takeL l).1 [] (l.drop (takeL l).2.1)).1, [])
          else if (itsL (takeL l).1 [] (l.drop (takeL l).2.1)).2.2.length = 0 ∧ (itsL (takeL l).1 [] (l.drop (takeL l).2.1)).2.1.all okB = true then (0, (itsL (takeL l).1 [] (l.drop (takeL l).2.1)).2.1) else (3, []) := by
        conv => lhs; unfold readL
        rw [if_neg (by simpa using he), if_neg hbig]
      have HV := Lib.hid hv
      clear hv
      have htl : (takeL l).2.1 ≤ l.length := hok.2.2.1
      have HS := Lib.hid hts
      have HZ := Lib.hid hsz
      have hzz : (tx l).size ≤ 1099511627776 := by omega
      go_enter Try.func34, Try.ntmps34
      go_wp2_with fail
      refine (HT0.out w).mono ?_
      rintro e w1 ⟨rfl, rfl⟩
      rw [he]
      generalize hl2 : l.drop (takeL l).2.1 = l2 at *
      generalize (takeL l).1 = tn at *
      generalize (takeL l).2.1 = ts at *
      have HL2 := Lib.hid hl2
      clear he hl2
      obtain ⟨h1, h2', h3, h4⟩ := hok
      have t3 : (tn : Int) ≤ 2000 := by omega
      clear hts HT0
      generalize hsl : l.length = Z at *
      have HLZ := Lib.hid hsl
      clear hsl
      go_wp2_with fail
      go_loopw [5, 7, 8, 9] (fun av v bv i wr => ∃ (k p : Nat) (R : Option Addr) (m d : Nat) (acc : List It), i = .int .u64 (k : Int) ∧ av = .int .i64 (p : Int) ∧ v = .slice R m d ∧ bv = .bool (!(acc.all okB)) ∧ k ≤ tn ∧ p ≤ Z ∧ m = k ∧
          OwnI wr w.heap.size R m d acc ∧ Hid (itsL (tn - k) acc (l.drop p) = itsL tn [] l2) ∧ Up w wr) (fun _ _ _ i _ => tn - (intOf i).toNat)
      case atStart => exact ⟨0, ts, none, 0, 0, [], rfl, rfl, rfl, rfl, by omega, htl, rfl, NIL.out _, by rw [HL2.out]; rfl, Up.refl _⟩
      case round =>
        obtain ⟨k, p, R, m, d, acc, rfl, rfl, rfl, rfl, hk, hp, hmk, hown, HT, hu⟩ := hrel
        subst hmk
        generalize hbd : acc.all okB = bb at *
        have HBD := Lib.hid hbd
        clear hbd
        by_cases hlt : m < tn
        · by_cases hs2 : Z - p < 2
          · have hone : oneL (l.drop p) = (4, noIt, []) := by unfold oneL; rw [if_pos (by rw [List.length_drop, HLZ.out]; omega)]
            have hst : itsL tn [] l2 = (4, [], []) := by
              rw [← HT.out, show tn - m = (tn - (m + 1)) + 1 by omega]
              unfold itsL
              rw [hone, if_neg (by decide)]
            have hv : readL l = (4, []) := by rw [HV.out, hst, if_pos (by decide)]
            have HR := Lib.hid hv
            clear hv hst hone
            have g1 : (Z : Int) - p < 2 := by omega
            go_wp2_with fail
            go_ret2
            rw [HR.out]
            exact ⟨none, 0, 0, rfl, NIL.out _, hu⟩
          · have hg0 := getD_str HS.out (k := p) (by omega)
            have hg1 := getD_str HS.out (k := p + 1) (by omega)
            have hb0 := (l.getD p 0).toNat_lt
            have hb1 := (l.getD (p + 1) 0).toNat_lt
            have hone := oneL_at l p (by have := HLZ.out; omega)
            generalize hx0 : l.getD p 0 = b0 at *
            generalize hx1 : l.getD (p + 1) 0 = b1 at *
            have HX0 := Lib.hid hx0
            have HX1 := Lib.hid hx1
            have HO := Lib.hid hone
            clear hx0 hx1 hone
            have g1 : ¬ (Z : Int) - p < 2 := by omega
            have g2 : decide ((Z : Int) - p < 2) = false := by simp; omega
            have g3 : decide ((m : Int) < (tn : Int)) = true := by simp; omega
            have q1 : (p : Int) < (tx l).size := by omega
            have q2 : (p : Int) + 1 < (tx l).size := by omega
            have q3 : p < (tx l).size := by omega
            have q5 : p < Z := by omega
            have q6 : (p : Int) < Z := by omega
            have q7 : (p : Int) + 1 < Z := by omega
            have q8 : (0 : Int) ≤ (p : Int) + 1 := by omega
            have q4 : p + 1 < (tx l).size := by omega
            have v0 : IntKind.i64.wrap (b0.toNat : Int) = b0.toNat := IntWalk.i64_in _ (by omega)
            have v1 : IntKind.i64.wrap (b1.toNat : Int) = b1.toNat := IntWalk.i64_in _ (by omega)
            have v2 : IntKind.i64.wrap ((p : Int) + 1) = (p : Int) + 1 := IntWalk.i64_in _ (by omega)
            go_wp2_with fail
            apply Rg.region_up (fun W => Up wr W) (by kernel_rfl) (by kernel_rfl) (fun w1 h => h)
            · intro QN hQN
              iterate 10 (apply Rg.RK.ok; (· intro vs w1 hS; go_simp; with_reducible rfl); (· rfl); simp only [Act.put, List.setIfInBounds_toArray, List.set_cons_zero, List.set_cons_succ, Nat.reduceAdd])
              apply Rg.RK.opn (New5 wr.heap.size) Rg.ob [] []
              · exact fun v W1 W2 h hs => h.sta hs
              · rfl
              · intro vs w1 hK hS _ K hKK
                go_simp
                exact hKK.out _ _ ⟨w1.heap.size, rfl, (keeps_up hK).size, heap_alloc_new w1 _⟩ (Rg.Keeps.of_up ((Up.refl _).alloc _)) (by rintro g rfl; exact ⟨by simp, .inl (Nat.le_refl _)⟩)
              simp only [Act.put, List.setIfInBounds_toArray, List.set_cons_zero, List.set_cons_succ, Nat.reduceAdd]
              apply Rg.RK.opD (fun vs W => It5 wr.heap.size b0.toNat b1.toNat (vs 10) W) (fun vs => Rg.ob (vs 10)) [10] [10] [10] (fun vs vs' h => by rw [h 10 (by simp)]; exact ⟨rfl, rfl⟩)
              · exact fun vs W1 W2 h hs => h.sta hs
              · rfl
              · intro vs w1 hK hS hf K hKK
                obtain ⟨⟨g, hv, hbs, hh⟩, -⟩ := hf
                (try dsimp only at hKK ⊢)
                rw [hv] at hKK ⊢
                have c0 := blk_cell hh
                have c1 := blk_free hh
                go_simp
                have h5 := set5 w1 g _ _ _ _ _ (.int .i64 (b0.toNat : Int)) (.int .i64 (b1.toNat : Int)) (.int .u64 0) (.int .u64 0) (.int .i64 0) _ hh
                refine hKK.out undef _ ⟨g, hv, hbs, h5.1⟩ (Keeps.weak h5.2 fun y hy => ⟨10, List.mem_singleton.2 rfl, ?_⟩) (fun y hy => ⟨?_, .inr ⟨10, List.mem_singleton.2 rfl, hy⟩⟩)
                · show Rg.ob (vs 10) y
                  rw [hv]; exact hy.symm
                · have hy' : Rg.ob (vs 10) y := hy
                  rw [hv] at hy'
                  have hgy : g = y := hy'
                  rw [← hgy]; exact (Array.getElem?_eq_some_iff.1 h5.1).1
              simp only [Act.put, List.setIfInBounds_toArray, List.set_cons_zero, List.set_cons_succ, Nat.reduceAdd]
              apply Rg.RK.fin [11]
              intro vs w1 hK hS hf
              obtain ⟨⟨gx, hv, hxnew, hh⟩, -⟩ := hf
              refine hQN.out _ _ ?_
              clear hQN
              have huW := keeps_up hK
              (try dsimp only)
              rw [hv]
              clear hv hK hS v0 v1 v2 hg0 hg1 g1 q1 q2 q3 q4 q5 q6 q7 q8
              have hown1 := own_up hown huW
              have hu1 := hu.trans huW
              have hpz : p + 2 ≤ Z := by omega
              have hgxl : gx < w1.heap.size := (Array.getElem?_eq_some_iff.1 hh).1
              have hzz2 : (tx l).size = Z := HZ.out
              go_wp2_with fail
              go_loopw [5, 12] (fun av jv wr2 => ∃ (j q : Nat) (aw : List Nat) (x y z : Nat), jv = .int .i64 (j : Int) ∧ av = .int .i64 (q : Int) ∧ j ≤ 3 ∧ q ≤ Z ∧
                  wr2 = (w1.alloc (.cells #[.int .u64 (x : Int), .int .u64 (y : Int), .int .u64 (z : Int)] 83)) ∧ Hid (takesL (3 - j) aw (l.drop q) = takesL 3 [] (l.drop (p + 2))) ∧ Hid (aw.length = j ∧ aw.getD 0 0 = x ∧ aw.getD 1 0 = y ∧ aw.getD 2 0 = z) ∧ (x : Int) ≤ 18446744073709551615 ∧ (y : Int) ≤ 18446744073709551615 ∧ (z : Int) ≤ 18446744073709551615) (fun _ j _ => 3 - (intOf j).toNat)
              case atStart => exact ⟨0, p + 2, [], 0, 0, 0, rfl, rfl, by omega, hpz, rfl, rfl, ⟨rfl, rfl, rfl, rfl⟩, by omega, by omega, by omega⟩
              case round =>
                obtain ⟨j, q, aw, x, y, z, rfl, rfl, hj, hq, rfl, HT2, HA, hx, hy, hz⟩ := hrel
                by_cases hjlt : j < 3
                · have hex : (tx l).extract q Z = tx (l.drop q) := tx_of (by rw [← hzz2]; exact ext_tx HS.out q)
                  have HE := Lib.hid hex
                  clear hex
                  go_wp2_with fail
                  rw [HE.out]
                  refine (rtake_any _ (l.drop q) _ (tx_list _) (by rw [tx_size, List.length_drop]; have := HLZ.out; omega)).mono ?_
                  rintro e w2 ⟨rfl, rfl⟩
                  by_cases he : (takeL (l.drop q)).2.2 = 0
                  · have hok := takeL_ok he
                    have hst : takesL (3 - j) aw (l.drop q) = takesL (3 - (j + 1)) (aw ++ [(takeL (l.drop q)).1]) ((l.drop q).drop (takeL (l.drop q)).2.1) := by
                      rw [show 3 - j = (3 - (j + 1)) + 1 by omega]
                      conv => lhs; unfold takesL
                      rw [if_pos he]
                    rw [List.drop_drop] at hst
                    have hdl : (l.drop q).length = Z - q := by rw [List.length_drop, HLZ.out]
                    rw [hdl] at hok
                    rw [he]
                    have HST := Lib.hid (HT2.out.symm.trans hst)
                    clear hst he
                    generalize (takeL (l.drop q)).1 = an at *
                    generalize (takeL (l.drop q)).2.1 = ss at *
                    obtain ⟨k1, k2, k3, k4⟩ := hok
                    have t3 : (an : Int) ≤ 18446744073709551615 := by omega
                    have t4 : q + ss ≤ Z := by omega
                    clear k1 k2 k3 k4 hdl
                    have hk3 : j = 0 ∨ j = 1 ∨ j = 2 := by omega
                    rcases hk3 with rfl | rfl | rfl
                    · go_wp2_with fail
                      go_roundw
                      case rel =>
                        refine ⟨1, q + ss, aw ++ [an], an, y, z, rfl, rfl, by omega, t4, rfl, HST.out.symm, ?_, by omega, by omega, by omega⟩
                        obtain ⟨q1, q2, q3, q4⟩ := HA.out
                        match aw, q1 with
                        | [], _ => exact ⟨by simp, by first | exact q2 | simp, by first | exact q3 | simp, by first | exact q4 | simp⟩
                      case measure => simp [intOf]
                    · go_wp2_with fail
                      go_roundw
                      case rel =>
                        refine ⟨2, q + ss, aw ++ [an], x, an, z, rfl, rfl, by omega, t4, rfl, HST.out.symm, ?_, by omega, by omega, by omega⟩
                        obtain ⟨q1, q2, q3, q4⟩ := HA.out
                        match aw, q1 with
                        | [a0], _ => exact ⟨by simp, by first | exact q2 | simp, by first | exact q3 | simp, by first | exact q4 | simp⟩
                      case measure => simp [intOf]
                    · go_wp2_with fail
                      go_roundw
                      case rel =>
                        refine ⟨3, q + ss, aw ++ [an], x, y, an, rfl, rfl, by omega, t4, rfl, HST.out.symm, ?_, by omega, by omega, by omega⟩
                        obtain ⟨q1, q2, q3, q4⟩ := HA.out
                        match aw, q1 with
                        | [a0, a1], _ => exact ⟨by simp, by first | exact q2 | simp, by first | exact q3 | simp, by first | exact q4 | simp⟩
                      case measure => simp [intOf]
                  · have hst : takesL (3 - j) aw (l.drop q) = ((takeL (l.drop q)).2.2, [], []) := by
                      rw [show 3 - j = (3 - (j + 1)) + 1 by omega]
                      unfold takesL
                      rw [if_neg he]
                    have ho := HO.out
                    rw [← HT2.out, hst, if_neg he] at ho
                    have hst2 : itsL tn [] l2 = ((takeL (l.drop q)).2.2, [], []) := by
                      rw [← HT.out, show tn - m = (tn - (m + 1)) + 1 by omega]
                      unfold itsL
                      rw [ho, if_neg he]
                    have hv : readL l = ((takeL (l.drop q)).2.2, []) := by rw [HV.out, hst2, if_pos he]
                    have HR := Lib.hid hv
                    clear hv hst hst2 ho
                    generalize (takeL (l.drop q)).2.2 = te at *
                    have h0 : ¬ (te : Int) = 0 := by omega
                    go_wp2_with fail
                    go_ret2
                    rw [HR.out]
                    exact ⟨none, 0, 0, rfl, NIL.out _, (hu1.alloc _)⟩
                · have hj3 : j = 3 := by omega
                  subst hj3
                  have hones : oneL (l.drop p) = (0, mkIt b0.toNat b1.toNat x y z, l.drop q) := by
                    obtain ⟨q1, q2, q3, q4⟩ := HA.out
                    rw [HO.out, ← HT2.out]
                    show (if (0 : Nat) = 0 then (0, mkIt b0.toNat b1.toNat (aw.getD 0 0) (aw.getD 1 0) (aw.getD 2 0), l.drop q) else _) = _
                    rw [if_pos rfl, q2, q3, q4]
                  have hst : itsL (tn - (m + 1)) (acc ++ [mkIt b0.toNat b1.toNat x y z]) (l.drop q) = itsL tn [] l2 := by
                    rw [← HT.out, show tn - m = (tn - (m + 1)) + 1 by omega]
                    conv => rhs; unfold itsL
                    rw [hones, if_pos rfl]
                  have HST := Lib.hid hst
                  have hc := mkIt_c b0.toNat b1.toNat x y z hb0 hb1 (by omega) (by omega) (by omega)
                  clear hst hones HA HT2 HO HT HX0 HX1 hb0 hb1
                  have HC := Lib.hid hc
                  clear hc
                  generalize mkIt b0.toNat b1.toNat x y z = it at *
                  have huq : Up w1 (w1.alloc (.cells #[.int .u64 (x : Int), .int .u64 (y : Int), .int .u64 (z : Int)] 83)) := (Up.refl w1).alloc _
                  have hh5 : At5 gx _ _ _ _ _ (w1.alloc (.cells #[.int .u64 (x : Int), .int .u64 (y : Int), .int .u64 (z : Int)] 83)) := (huq.block gx hgxl).trans hh
                  have hh3 := heap_alloc_new w1 (.cells #[.int .u64 (x : Int), .int .u64 (y : Int), .int .u64 (z : Int)] 83)
                  have hne : w1.heap.size ≠ gx := by omega
                  have hlt' : gx < (w1.alloc (.cells #[.int .u64 (x : Int), .int .u64 (y : Int), .int .u64 (z : Int)] 83)).heap.size := Nat.lt_of_lt_of_le hgxl huq.size
                  have huwq := hu1.trans huq
                  have hownq := own_up hown1 huq
                  have hrow : ∀ g, Rg.ob (.slice R m d) g → g ≠ gx := fun g hg => by
                    have := (hown.lt g ((ob_of hown).2 hg)).2
                    omega
                  have hz3 : z < 18446744073709551616 := by omega
                  generalize w1.alloc (.cells #[.int .u64 (x : Int), .int .u64 (y : Int), .int .u64 (z : Int)] 83) = wq at *
                  generalize w1.heap.size = gy at *
                  clear hown1 hu1 huq hh huW hown hgxl
                  have hS3 : ∀ w2, Rg.Keeps (fun g => g = gx) wq.drew w2 → w2.cell? ⟨gy, 0, none⟩ = some (.int .u64 (x : Int)) ∧ w2.cell? ⟨gy, 1, none⟩ = some (.int .u64 (y : Int)) ∧ w2.cell? ⟨gy, 2, none⟩ = some (.int .u64 (z : Int)) := fun w2 hK => by
                    have h := (hK.block gy (Array.getElem?_eq_some_iff.1 hh3).1 hne).trans hh3
                    exact ⟨blk_cell h 0, blk_cell h 1, blk_cell h 2⟩
                  go_wp2_with fail
                  apply Rg.region_own 13 (fun W => W.cell? ⟨gy, 0, none⟩ = some (.int .u64 (x : Int)) ∧ W.cell? ⟨gy, 1, none⟩ = some (.int .u64 (y : Int)) ∧ W.cell? ⟨gy, 2, none⟩ = some (.int .u64 (z : Int))) (fun g => g = gx) (At5 gx (.int .i64 (b0.toNat : Int)) (.int .i64 (b1.toNat : Int)) (.int .u64 0) (.int .u64 0) (.int .i64 0)) rfl (by kernel_rfl) (by kernel_rfl) (by rintro g rfl; exact hlt') hh5 (fun w1 w2 h hs => h.sta hs (.inr rfl)) hS3
                  · intro QN hQN
                    iterate 6 (apply Rg.RK.ok; (· intro vs w1 hS; go_simp; with_reducible rfl); (· rfl); simp only [Act.put, List.setIfInBounds_toArray, List.set_cons_zero, List.set_cons_succ, Nat.reduceAdd])
                    apply Rg.RK.call (.int .i64 (unsignZ z)) []
                    · rfl
                    · intro vs w1 hK hS _ K hKK
                      go_simp
                      refine (runsign_any z _ hz3).mono ?_
                      rintro e w2 ⟨rfl, rfl⟩
                      exact hKK.out _ (Up.refl _)
                    simp only [Act.put, List.setIfInBounds_toArray, List.set_cons_zero, List.set_cons_succ, Nat.reduceAdd]
                    (apply Rg.RK.ok; (· intro vs w1 hS; go_simp; with_reducible rfl); (· rfl); simp only [Act.put, List.setIfInBounds_toArray, List.set_cons_zero, List.set_cons_succ, Nat.reduceAdd])
                    apply Rg.RK.opD (fun vs W => At5 gx (.int .i64 (b0.toNat : Int)) (.int .i64 (b1.toNat : Int)) (.int .u64 (x : Int)) (.int .u64 0) (.int .i64 0) W) (fun vs g => g = gx) [13] [13] [] (fun _ _ _ => ⟨rfl, rfl⟩)
                    · exact fun vs W1 W2 h hs => h.sta hs (.inr rfl)
                    · rfl
                    · intro vs w1 hK hS hf K hKK
                      have hh := hf.1
                      have hh' : At5 gx _ _ _ _ _ w1 := hh
                      have q0 := blk_cell hh'
                      have q1 := blk_free hh'
                      go_simp
                      refine hKK.out undef _ (At5.setc2 hh') (Keeps.weak (setc_keeps w1 w1 gx 2 _ (Rg.Keeps.refl _ _)) fun y hy => ⟨13, List.mem_singleton.2 rfl, hy⟩) (fun y hy => ⟨?_, .inr ⟨13, List.mem_singleton.2 rfl, hy⟩⟩)
                      have hyx : y = gx := hy
                      rw [hyx]; exact (Array.getElem?_eq_some_iff.1 (At5.setc2 hh')).1
                    simp only [Act.put, List.setIfInBounds_toArray, List.set_cons_zero, List.set_cons_succ, Nat.reduceAdd]
                    (apply Rg.RK.ok; (· intro vs w1 hS; go_simp; with_reducible rfl); (· rfl); simp only [Act.put, List.setIfInBounds_toArray, List.set_cons_zero, List.set_cons_succ, Nat.reduceAdd])
                    apply Rg.RK.opD (fun vs W => At5 gx (.int .i64 (b0.toNat : Int)) (.int .i64 (b1.toNat : Int)) (.int .u64 (x : Int)) (.int .u64 (y : Int)) (.int .i64 0) W) (fun vs g => g = gx) [8] [8] [] (fun _ _ _ => ⟨rfl, rfl⟩)
                    · exact fun vs W1 W2 h hs => h.sta hs (.inr rfl)
                    · rfl
                    · intro vs w1 hK hS hf K hKK
                      have hh := hf.1
                      have hh' : At5 gx _ _ _ _ _ w1 := hh
                      have q0 := blk_cell hh'
                      have q1 := blk_free hh'
                      go_simp
                      refine hKK.out undef _ (At5.setc3 hh') (Keeps.weak (setc_keeps w1 w1 gx 3 _ (Rg.Keeps.refl _ _)) fun y hy => ⟨8, List.mem_singleton.2 rfl, hy⟩) (fun y hy => ⟨?_, .inr ⟨8, List.mem_singleton.2 rfl, hy⟩⟩)
                      have hyx : y = gx := hy
                      rw [hyx]; exact (Array.getElem?_eq_some_iff.1 (At5.setc3 hh')).1
                    simp only [Act.put, List.setIfInBounds_toArray, List.set_cons_zero, List.set_cons_succ, Nat.reduceAdd]
                    (apply Rg.RK.ok; (· intro vs w1 hS; go_simp; with_reducible rfl); (· rfl); simp only [Act.put, List.setIfInBounds_toArray, List.set_cons_zero, List.set_cons_succ, Nat.reduceAdd])
                    apply Rg.RK.opD (fun vs W => At5 gx (.int .i64 (b0.toNat : Int)) (.int .i64 (b1.toNat : Int)) (.int .u64 (x : Int)) (.int .u64 (y : Int)) (.int .i64 (unsignZ z)) W) (fun vs g => g = gx) [10] [10] [] (fun _ _ _ => ⟨rfl, rfl⟩)
                    · exact fun vs W1 W2 h hs => h.sta hs (.inr rfl)
                    · rfl
                    · intro vs w1 hK hS hf K hKK
                      have hh := hf.1
                      have hh' : At5 gx _ _ _ _ _ w1 := hh
                      have q0 := blk_cell hh'
                      have q1 := blk_free hh'
                      go_simp
                      refine hKK.out undef _ (At5.setc4 hh') (Keeps.weak (setc_keeps w1 w1 gx 4 _ (Rg.Keeps.refl _ _)) fun y hy => ⟨10, List.mem_singleton.2 rfl, hy⟩) (fun y hy => ⟨?_, .inr ⟨10, List.mem_singleton.2 rfl, hy⟩⟩)
                      have hyx : y = gx := hy
                      rw [hyx]; exact (Array.getElem?_eq_some_iff.1 (At5.setc4 hh')).1
                    simp only [Act.put, List.setIfInBounds_toArray, List.set_cons_zero, List.set_cons_succ, Nat.reduceAdd]
                    apply Rg.RK.fin [12]
                    intro vs w1 hK hS hf
                    obtain ⟨hh6, -⟩ := hf
                    refine hQN.out _ _ ?_
                    clear hQN
                    have hh7 : w1.heap[gx]? = some (.cells (itc it).toArray 27 (0, 0)) := by rw [HC.out]; exact hh6
                    have hh8 : w1.heap[gx]? = some (.cells #[.int .i64 it.s.toInt, .int .i64 it.k.toInt, .int .u64 (it.t.toNat : Int), .int .u64 (it.v.toNat : Int), .int .i64 it.x.toInt] 27 (0, 0)) := hh7
                    have hu9 := keeps_fresh huwq (Nat.le_trans hu.size hxnew) hK
                    have hown9 := own_keeps hownq hrow hK
                    clear hh6 hh7 hS3 hS hh5 hh3 hK hownq huwq hrow HC
                    have e0 : w1.cell? ⟨gx, 0, none⟩ = some (.int .i64 it.s.toInt) := blk_cell hh8 0
                    have e1 : w1.cell? ⟨gx, 1, none⟩ = some (.int .i64 it.k.toInt) := blk_cell hh8 1
                    have e2 : w1.cell? ⟨gx, 2, none⟩ = some (.int .u64 (it.t.toNat : Int)) := blk_cell hh8 2
                    have e3 : w1.cell? ⟨gx, 3, none⟩ = some (.int .u64 (it.v.toNat : Int)) := blk_cell hh8 3
                    have e4 : w1.cell? ⟨gx, 4, none⟩ = some (.int .i64 it.x.toInt) := blk_cell hh8 4
                    (try dsimp only)
                    cases bb
                    · go_wp2_with (at_builtin; refine wpList_append_rd _ itemsT (news := itcs [it]) (World.ownsRow.alloc hown9 _) (Rd.ilit_at _ [it] _ _ (by simp) rfl) (itcs_one _) (by simp; omega) (by simp; omega) (by simp; have := hu9.size; omega) rfl rfl rfl rfl ?_; intro v3 w3 hown3 hg3 hat3; obtain ⟨R3, d3, rfl⟩ := own_form hown3)
                      have hu3 : Up w w3 := (hu9.alloc _).grown hg3 (fun g hg => (hown9.lt g hg).1)
                      go_roundw
                      case rel =>
                        refine ⟨m + 1, q, R3, m + 1, d3, acc ++ [it], by go_num, rfl, rfl, ?_, by omega, hq, rfl, ?_, HST.out, hu3⟩
                        · rw [List.all_append, HBD.out]; simp
                        · show World.ownsRow _ _ _ _ _ _ _
                          rw [itcs_append]; exact hown3
                      case measure => simp [intOf]; omega
                    · go_wp2_with (first
                        | (go_at_call 41; refine (rok_any it _).mono ?_; rintro e w2 ⟨rfl, hu2⟩; have hown2 := own_up hown9 hu2; have d0 := cell_up hu2 e0; have d1 := cell_up hu2 e1; have d2 := cell_up hu2 e2; have d3 := cell_up hu2 e3; have d4 := cell_up hu2 e4; replace hu2 := hu9.trans hu2)
                        | (at_builtin; refine wpList_append_rd _ itemsT (news := itcs [it]) (World.ownsRow.alloc hown2 _) (Rd.ilit_at _ [it] _ _ (by simp) rfl) (itcs_one _) (by simp; omega) (by simp; omega) (by simp; have := hu2.size; omega) rfl rfl rfl rfl ?_; intro v3 w3 hown3 hg3 hat3; obtain ⟨R3, d3, rfl⟩ := own_form hown3))
                      have hu3 : Up w w3 := (hu2.alloc _).grown hg3 (fun g hg => (hown2.lt g hg).1)
                      go_roundw
                      case rel =>
                        refine ⟨m + 1, q, R3, m + 1, d3, acc ++ [it], by go_num, rfl, rfl, ?_, by omega, hq, rfl, ?_, HST.out, hu3⟩
                        · rw [List.all_append, HBD.out]; simp
                        · show World.ownsRow _ _ _ _ _ _ _
                          rw [itcs_append]; exact hown3
                      case measure => simp [intOf]; omega
                  · kernel_rfl
            · kernel_rfl
        · have hkt : m = tn := by omega
          subst hkt
          have hT : itsL m [] l2 = (0, acc, l.drop p) := by rw [← HT.out, Nat.sub_self]; rfl
          have hv := HV.out
          rw [hT, if_neg (by simp)] at hv
          have hdl : (l.drop p).length = Z - p := by rw [List.length_drop, HLZ.out]
          by_cases hpz : p = Z
          · subst hpz
            cases bb
            · rw [if_neg (by simp [HBD.out])] at hv
              have HR := Lib.hid hv
              clear hv hT hdl HT
              go_wp2_with fail
              go_ret2
              rw [HR.out]
              exact ⟨none, 0, 0, rfl, NIL.out _, hu⟩
            · rw [if_pos ⟨by simp only []; omega, by simpa using HBD.out⟩] at hv
              have HR := Lib.hid hv
              clear hv hT hdl HT
              go_wp2_with fail
              go_ret2
              rw [HR.out]
              exact ⟨R, m, d, rfl, hown, hu⟩
          · rw [if_neg (by simp only []; intro h; have := h.1; omega)] at hv
            have HR := Lib.hid hv
            have hpl : (p : Int) < Z := by omega
            clear hv hT hdl HT
            cases bb
            · go_wp2_with fail
              go_ret2
              rw [HR.out]
              exact ⟨none, 0, 0, rfl, NIL.out _, hu⟩
            · go_wp2_with fail
              go_ret2
              rw [HR.out]
              exact ⟨none, 0, 0, rfl, NIL.out _, hu⟩
  · have hv : readL l = ((takeL l).2.2, []) := by unfold readL; rw [if_pos he]
    have HV := Lib.hid hv
    clear hv hts hsz
    go_enter Try.func34, Try.ntmps34
    go_wp2_with fail
    refine (HT0.out w).mono ?_
    rintro e w1 ⟨rfl, rfl⟩
    generalize (takeL l).2.2 = te at *
    have h0 : ¬ (te : Int) = 0 := by omega
    go_wp2_with fail
    go_ret2
    rw [HV.out]
    exact ⟨none, 0, 0, rfl, NIL.out _, Up.refl _⟩
end Go.Proofs.Ytnbdijifhimogaa
