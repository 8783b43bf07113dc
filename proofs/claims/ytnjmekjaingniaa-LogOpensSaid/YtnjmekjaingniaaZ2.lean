/-
  Texts of this claim, joined: Tx, FrameW3, FrameW4, FrameW5, LogB, ItemW4, NumLaw, ItemW6, RefW1, RefW2, ItemW5, ItemW9, FrameW6, FrameW8, LogW1, FrameW7, Fold, FrameLaw, OpenE, OpenR, FrameW9, FrameLaw2.
-/
import Derived.Lib.AppendZeros
import Derived.Deep.QuietTactic
import Derived.BigQuiet
import Derived.Laws.MakeOwn
import Derived.IntWalk
import Derived.Deep.Slices
import Derived.Deep.Fields
import Derived.Test.YtnjmekjaingniaaZ1
/-
  Words for drawn regions: texts, slices of bytes that an operation leaves. No function of the program is named here.
-/
namespace Go.Proofs.Ytnjmekjaingniaa
open Go.RowKit
set_option linter.unusedVariables false

/-- a text -/
def tx (l : List UInt8) : ByteArray := ⟨l.toArray⟩
theorem tx_list (l : List UInt8) : (tx l).data.toList = l := by simp [tx]
theorem tx_size (l : List UInt8) : (tx l).size = l.length := by simp [tx, ByteArray.size]
theorem tx_of {s : ByteArray} {l : List UInt8} (h : s.data.toList = l) : s = tx l := by
  subst h; rfl
theorem tx_inj {a b : List UInt8} (h : tx a = tx b) : a = b := by rw [← tx_list a, h, tx_list]
/-- one list behind the other, shut to the walk -/
def cc (a b : List UInt8) : List UInt8 := a ++ b
theorem cc_length (a b : List UInt8) : (cc a b).length = a.length + b.length := by simp [cc]
theorem tx_append (a b : List UInt8) : tx a ++ tx b = tx (cc a b) := tx_of (by simp [ByteArray.data_append, tx_list, cc])
theorem tx_append' (a b : List UInt8) : tx a ++ tx b = tx (a ++ b) := tx_append a b

section
variable {w w' : World} {Y : Nat → Prop}
theorem sta_cell (h : Rg.Sta Y w w') {g o : Nat} (hl : g < w.heap.size) (hy : Y g) : w'.cell? ⟨g, o, none⟩ = w.cell? ⟨g, o, none⟩ := World.cell?_of_block (h.block g hl hy)
theorem sta_some (h : Rg.Sta Y w w') {g o : Nat} {u : Value} (hu : w.cell? ⟨g, o, none⟩ = some u) (hy : Y g) : w'.cell? ⟨g, o, none⟩ = some u :=
  (sta_cell h (World.block_lt_of_cell? w ⟨g, o, none⟩ hu) hy).trans hu
theorem keeps_up {w w' : World} (h : Rg.Keeps (fun _ => False) w.drew w') : Up w w' := by
  have := h.up; exact ⟨this.os, this.tape, this.output, this.size, this.block⟩
end

/-- the value is a slice of new memory that holds these cells -/
def Sl (sz : Nat) (xs : List Value) (v : Value) (W : World) : Prop := ∃ A n c, v = .slice A n c ∧ n ≤ c ∧ Rd W W.heap.size sz A n xs
theorem Sl.sta {sz : Nat} {xs : List Value} {v : Value} {w w' : World} {Y : Nat → Prop} (h : Sl sz xs v w) (hs : Rg.Sta (fun g => Y g ∨ Rg.ob v g) w w') : Sl sz xs v w' := by
  obtain ⟨A, n, c, rfl, hnc, hr⟩ := h
  refine ⟨A, n, c, rfl, hnc, hr.1, fun hn => ?_⟩
  obtain ⟨b, o, rfl, hb, hc⟩ := hr.2 hn
  exact ⟨b, o, rfl, Nat.lt_of_lt_of_le hb hs.size, fun j u hu => sta_some hs (hc j u hu) (.inr rfl)⟩
/-- a new block's own: what 'own' asks -/
theorem own_new {w w' : World} {E : Nat → Prop} {b o n c : Nat} (hb : w.heap.size ≤ b) (hl : b < w'.heap.size) : ∀ g, Rg.ob (.slice (some ⟨b, o, none⟩) n c) g → g < w'.heap.size ∧ (w.heap.size ≤ g ∨ E g) := by
  rintro g rfl; exact ⟨hl, .inl hb⟩
/-- a row of the call's own, made since w -/
theorem own_row {w w' : World} {E : Nat → Prop} {e : TypeId} {sz n : Nat} {v : Value} {xs : List Value} (h : w'.ownsRow w.heap.size e sz v n xs) : ∀ g, Rg.ob v g → g < w'.heap.size ∧ (w.heap.size ≤ g ∨ E g) := by
  rcases h.2 with ⟨rfl, _⟩ | ⟨g', cap, cur, rfl, hg, hh, _⟩
  · intro g hg; exact hg.elim
  · rintro g rfl; exact ⟨(Array.getElem?_eq_some_iff.1 hh).1, .inl hg⟩
theorem Sl.own {w : World} {base : Nat} {e : TypeId} {sz n : Nat} {v : Value} {xs : List Value} (h : w.ownsRow base e sz v n xs) : Sl sz xs v w := by
  obtain ⟨A, c, rfl, hr⟩ := Rd.from_ownsRow h
  exact ⟨A, n, c, rfl, own_cap h, hr⟩

theorem row_sta {w w' : World} {base : Nat} {e : TypeId} {sz n : Nat} {v : Value} {xs : List Value} {Y : Nat → Prop} (h : w.ownsRow base e sz v n xs) (hs : Rg.Sta (fun g => Y g ∨ Rg.ob v g) w w') : w'.ownsRow base e sz v n xs := by
  refine ⟨h.1, ?_⟩
  rcases h.2 with h2 | ⟨g, cap, cur, rfl, hg, hh, r⟩
  · exact .inl h2
  · exact .inr ⟨g, cap, cur, rfl, hg, (hs.block g (Array.getElem?_eq_some_iff.1 hh).1 (.inr rfl)).trans hh, r⟩
theorem ob_of {base : Nat} {w : World} {e : TypeId} {sz n : Nat} {v : Value} {xs : List Value} (h : w.ownsRow base e sz v n xs) {g : Nat} : v.ownBlock = some g ↔ Rg.ob v g := by
  rcases h.2 with ⟨rfl, _⟩ | ⟨g', cap, cur, rfl, _⟩
  · simp [Value.ownBlock, Rg.ob]
  · simp [Value.ownBlock, Rg.ob]
theorem keeps_grown {w w' : World} {base : Nat} {e : TypeId} {sz n : Nat} {v : Value} {xs : List Value} (h : w.ownsRow base e sz v n xs) (hg : w.grownBy w' v.ownBlock) {X : Nat → Prop} (hX : ∀ g, Rg.ob v g → X g) : Rg.Keeps X w w' :=
  ⟨hg.os, hg.tape, hg.output, hg.size, fun k hk hx => hg.block k hk (fun e => hx (hX k ((ob_of h).1 e.symm)))⟩
theorem own_grown {w w' : World} {base n' : Nat} {e : TypeId} {sz n : Nat} {v v' : Value} {xs xs' : List Value} (h : w.ownsRow base e sz v n xs) (h' : w'.ownsRow base e sz v' n' xs') (hat : v'.ownBlock = v.ownBlock ∨ v'.ownBlock = some w.heap.size) {X : Nat → Prop} (hX : ∀ g, Rg.ob v g → X g) :
    ∀ g, Rg.ob v' g → g < w'.heap.size ∧ (w.heap.size ≤ g ∨ X g) := by
  intro g hg
  have hb := (ob_of h').2 hg
  refine ⟨?_, ?_⟩
  · rcases h'.2 with ⟨rfl, _⟩ | ⟨g', cap, cur, rfl, _, hh, _⟩
    · exact hg.elim
    · have : g' = g := hg
      subst this
      exact (Array.getElem?_eq_some_iff.1 hh).1
  · rcases hat with hat | hat
    · rw [hat] at hb; exact .inr (hX g ((ob_of h).1 hb))
    · rw [hat] at hb; injection hb with hb; exact .inl (Nat.le_of_eq hb)
/-- a new block that is a row of the call's own, full -/
theorem row_new (w : World) (cs : Array Value) (t : TypeId) {base sz n : Nat} (hb : base ≤ w.heap.size) (hn : cs.size = n * sz) (hm : n ≤ 9223372036854775807) : (w.alloc (.cells cs t)).ownsRow base t sz (.slice (some ⟨w.heap.size, 0, none⟩) n n) n cs.toList :=
  ⟨by simpa using hn, .inr ⟨w.heap.size, n, cs, rfl, hb, heap_alloc_new w _, Nat.le_refl _, by simpa only [maxLen] using hm, hn, by rw [← hn]; exact List.take_of_length_le (by simp)⟩⟩

theorem exec_str {a : Act} {o : Oper} {x : Operand} {A : Option Addr} {n c B : Nat} {l : List UInt8} {w : World} (ho : o.op = .convert 26 9 x) (hx : a.eval x = .slice A n c) (hr : Rd w B 1 A n (bvs l)) : (execOp a.eval o).run Try.prog w = .ok (.value (.string (tx l))) w := by
  have := run_str c hr
  unfold execOp
  simp only [ho, hx]
  rw [Sem.run_bind, this]
  rfl
theorem blk_cell {w : World} {g : Nat} {cs : Array Value} {t : TypeId} (h : w.heap[g]? = some (.cells cs t (0, 0))) (j : Nat) : w.cell? ⟨g, j, none⟩ = cs[j]? := cell_of_row w g j cs t (0, 0) h
theorem blk_free {w : World} {g : Nat} {cs : Array Value} {t : TypeId} (h : w.heap[g]? = some (.cells cs t (0, 0))) (j : Nat) : w.frozen? ⟨g, j, none⟩ = false := by simp [World.frozen?, h]

theorem tx_toList (l : List UInt8) : (tx l).toList = l := by rw [ByteArray.toList_eq, tx_list]
theorem tx_beq {a b : List UInt8} (h : a = b) : ((tx a).toList == (tx b).toList) = true := by rw [h]; simp
theorem tx_bne {a b : List UInt8} (h : a ≠ b) : ((tx a).toList == (tx b).toList) = false := by rw [tx_toList, tx_toList]; simpa using h

theorem setc_heap (w : World) (g j : Nat) (u : Value) (cs : Array Value) (t : TypeId) (h : w.heap[g]? = some (.cells cs t (0, 0))) : (w.setCell ⟨g, j, none⟩ u).heap[g]? = some (.cells (cs.setIfInBounds j u) t (0, 0)) := by
  simp [World.setCell, Array.getElem?_modify, h]
theorem setc_keeps (w w' : World) (g j : Nat) (u : Value) (h : Rg.Keeps (fun x => x = g) w w') : Rg.Keeps (fun x => x = g) w (w'.setCell ⟨g, j, none⟩ u) :=
  ⟨h.os, h.tape, h.output, by simpa [World.setCell] using h.size, fun k hk hne => by
    rw [← h.block k hk hne]
    simp only [World.setCell, Array.getElem?_modify]
    rw [if_neg (fun e => hne e.symm)]⟩
/-- five cells stored one by one -/
theorem set5 (w : World) (g : Nat) (a0 a1 a2 a3 a4 v0 v1 v2 v3 v4 : Value) (t : TypeId) (h : w.heap[g]? = some (.cells #[a0, a1, a2, a3, a4] t (0, 0))) :
    (((((w.setCell ⟨g, 0, none⟩ v0).setCell ⟨g, 1, none⟩ v1).setCell ⟨g, 2, none⟩ v2).setCell ⟨g, 3, none⟩ v3).setCell ⟨g, 4, none⟩ v4).heap[g]? = some (.cells #[v0, v1, v2, v3, v4] t (0, 0)) ∧
    Rg.Keeps (fun x => x = g) w (((((w.setCell ⟨g, 0, none⟩ v0).setCell ⟨g, 1, none⟩ v1).setCell ⟨g, 2, none⟩ v2).setCell ⟨g, 3, none⟩ v3).setCell ⟨g, 4, none⟩ v4) := by
  refine ⟨?_, setc_keeps _ _ _ _ _ (setc_keeps _ _ _ _ _ (setc_keeps _ _ _ _ _ (setc_keeps _ _ _ _ _ (setc_keeps _ _ _ _ _ (Rg.Keeps.refl _ _)))))⟩
  have h1 := setc_heap _ g 4 v4 _ _ (setc_heap _ g 3 v3 _ _ (setc_heap _ g 2 v2 _ _ (setc_heap _ g 1 v1 _ _ (setc_heap w g 0 v0 _ _ h))))
  exact h1
theorem Keeps.weak {X Y : Nat → Prop} {w w' : World} (h : Rg.Keeps X w w') (hxy : ∀ g, X g → Y g) : Rg.Keeps Y w w' := ⟨h.os, h.tape, h.output, h.size, fun k hk hn => h.block k hk fun hx => hn (hxy k hx)⟩

/-- two bytes of a literal, as a text -/
theorem two_str (x y : Int) (W : World) (g : Nat) (h0 : W.cell? ⟨g, 0, none⟩ = some (.int .u8 (IntKind.u8.wrap x))) (h1 : W.cell? ⟨g, 1, none⟩ = some (.int .u8 (IntKind.u8.wrap y))) : (convert 26 9 (.slice (some ⟨g, 0, none⟩) 2 2)).run Try.prog W = .ok (.string (tx [byteOf x, byteOf y])) W := by
  refine run_str (B := g + 1) 2 ⟨by simp [bvs], fun _ => ⟨g, 0, rfl, by omega, fun j u hj => ?_⟩⟩
  match j with
  | 0 => simp [bvs] at hj; rw [← hj, bv_byteOf, Nat.zero_add, h0, IntKind.wrap_u8]
  | 1 => simp [bvs] at hj; rw [← hj, bv_byteOf, Nat.zero_add, h1, IntKind.wrap_u8]
  | j + 2 => simp [bvs] at hj
end Go.Proofs.Ytnjmekjaingniaa

/-
  The walk of sum.Open.
-/
namespace Go.Proofs.Ytnjmekjaingniaa
open Go.RowKit
set_option linter.unusedVariables false
set_option linter.unusedSimpArgs false

def openE (l : List UInt8) : Nat := if l.length < 4 then 4 else if sealB (l.take (l.length - 4)) = l then 0 else 5
/-- what Open hands back -/
def openL (l : List UInt8) : List UInt8 := if openE l = 0 then l.take (l.length - 4) else []

set_option maxRecDepth 100000 in
set_option maxHeartbeats 1600000 in
theorem open_any (A : Option Addr) (n c : Nat) (l : List UInt8) (w : World) (hr : Rd w w.heap.size 1 A n (bvs l)) (hn : n ≤ 1099511627776) (hc : n ≤ c) :
    Calls Try.prog 83 #[.slice A n c] w fun e w' => ∃ A' n' c', e = .returned (.tuple #[.slice A' n' c', .int .i64 (openE l : Int)]) ∧ OwnB w' w.heap.size A' n' c' (openL l) ∧ Up w w' := by
  have HL := Lib.hid hr.blen
  have nil0 : ∀ w0, OwnB w0 w.heap.size none 0 0 [] := fun w0 => World.ownsRow_nil _ _ _ _
  have NIL := Lib.hid nil0
  clear nil0
  by_cases h4 : n < 4
  · have hE : openE l = 4 := by unfold openE; rw [if_pos (by rw [← HL.out]; exact h4)]
    have hL : openL l = [] := by unfold openL; rw [hE]; rfl
    have HE := Lib.hid hE
    have HO := Lib.hid hL
    clear hE hL
    go_enter Try.func83, Try.ntmps83
    go_wp2_with fail
    go_ret2
    rw [HE.out, HO.out]
    exact ⟨none, 0, 0, rfl, NIL.out _, Up.refl _⟩
  · have hk : n - 4 ≤ n := by omega
    have hrt := hr.bto hk
    have hle : ((n : Int) - 4).toNat = n - 4 := by omega
    have h0 : (0 : Int) ≤ (n : Int) - 4 := by omega
    have h1 : (n : Int) - 4 ≤ c := by omega
    have h2 : (4 : Int) ≤ n := by omega
    have hd : decide ((n : Int) - 4 < 0) = false := by simp; omega
    have hln : l.length - 4 = n - 4 := by rw [HL.out]
    by_cases hq : sealB (l.take (n - 4)) = l
    · have hE : openE l = 0 := by unfold openE; rw [if_neg (by rw [← HL.out]; exact h4), hln, if_pos hq]
      have hL : openL l = l.take (n - 4) := by unfold openL; rw [hE, hln]; rfl
      have HE := Lib.hid hE
      have HO := Lib.hid hL
      have hb := tx_beq hq
      clear hE hL hln hq
      go_enter Try.func83, Try.ntmps83
      go_wp2_with fail
      apply Rg.region_up (fun W => Up w W) (by kernel_rfl) (by kernel_rfl) (fun w1 h => h)
      · intro QN hQN
        iterate 3 (apply Rg.RK.ok; (· intro vs w1 hS; go_simp; with_reducible rfl); (· rfl); simp only [Act.put, List.setIfInBounds_toArray, List.set_cons_zero, List.set_cons_succ, Nat.reduceAdd])
        apply Rg.RK.opn (Sl 1 (bvs (sealB (l.take (n - 4))))) Rg.ob [] []
        · exact fun v W1 W2 h hs => h.sta hs
        · rfl
        · intro vs w1 hK hS hf K hKK
          go_simp
          refine (seal_any A (n - 4) c _ w1 (hrt.up hS) (by omega)).mono ?_
          rintro e w2 ⟨A1, c1, rfl, ho1, hu2⟩
          exact hKK.out _ _ (Sl.own ho1) (Rg.Keeps.of_up hu2) (own_row ho1)
        simp only [Act.put, List.setIfInBounds_toArray, List.set_cons_zero, List.set_cons_succ, Nat.reduceAdd]
        apply Rg.RK.okU [3] (v := .string (tx (sealB (l.take (n - 4)))))
        · intro vs w1 hS hf
          obtain ⟨⟨A1, n1, c1, hv, -, hrd⟩, -⟩ := hf
          exact exec_str rfl hv hrd
        · rfl
        simp only [Act.put, List.setIfInBounds_toArray, List.set_cons_zero, List.set_cons_succ, Nat.reduceAdd]
        (apply Rg.RK.ok; (· intro vs w1 hS; go_simp; with_reducible rfl); (· rfl); simp only [Act.put, List.setIfInBounds_toArray, List.set_cons_zero, List.set_cons_succ, Nat.reduceAdd])
        apply Rg.RK.ok
        · intro vs w1 hS
          exact exec_str rfl rfl (hr.up hS)
        · rfl
        simp only [Act.put, List.setIfInBounds_toArray, List.set_cons_zero, List.set_cons_succ, Nat.reduceAdd]
        apply Rg.RK.ok
        · intro vs w1 hS
          go_simp
          with_reducible rfl
        · rfl
        simp only [Act.put, List.setIfInBounds_toArray, List.set_cons_zero, List.set_cons_succ, Nat.reduceAdd]
        (apply Rg.RK.ok; (· intro vs w1 hS; go_simp; with_reducible rfl); (· rfl); simp only [Act.put, List.setIfInBounds_toArray, List.set_cons_zero, List.set_cons_succ, Nat.reduceAdd])
        apply Rg.RK.fin []
        intro vs w1 hK hS _
        refine hQN.out _ _ ?_
        clear hQN
        have hu := keeps_up hK
        go_wp2_with (at_builtin; refine wpList_append_rd _ bytesT (World.ownsRow_nil _ w.heap.size _ _) (hrt.up hu) (bvs_one _) (by omega) (by omega) hu.size rfl rfl rfl rfl ?_; intro v2 w2 hown2 hg2 hat2; obtain ⟨A2, c2, rfl⟩ := own_form hown2; simp only [Nat.zero_add, List.nil_append] at hown2)
        go_ret2
        rw [HE.out, HO.out]
        exact ⟨A2, n - 4, c2, by simp, hown2, hu.grown hg2 (fun g hg => by simp [Value.ownBlock] at hg)⟩
      · kernel_rfl

    · have hE : openE l = 5 := by unfold openE; rw [if_neg (by rw [← HL.out]; exact h4), hln, if_neg hq]
      have hL : openL l = [] := by unfold openL; rw [hE]; rfl
      have HE := Lib.hid hE
      have HO := Lib.hid hL
      have hb := tx_bne hq
      clear hE hL hln hq
      go_enter Try.func83, Try.ntmps83
      go_wp2_with fail
      apply Rg.region_up (fun W => Up w W) (by kernel_rfl) (by kernel_rfl) (fun w1 h => h)
      · intro QN hQN
        iterate 3 (apply Rg.RK.ok; (· intro vs w1 hS; go_simp; with_reducible rfl); (· rfl); simp only [Act.put, List.setIfInBounds_toArray, List.set_cons_zero, List.set_cons_succ, Nat.reduceAdd])
        apply Rg.RK.opn (Sl 1 (bvs (sealB (l.take (n - 4))))) Rg.ob [] []
        · exact fun v W1 W2 h hs => h.sta hs
        · rfl
        · intro vs w1 hK hS hf K hKK
          go_simp
          refine (seal_any A (n - 4) c _ w1 (hrt.up hS) (by omega)).mono ?_
          rintro e w2 ⟨A1, c1, rfl, ho1, hu2⟩
          exact hKK.out _ _ (Sl.own ho1) (Rg.Keeps.of_up hu2) (own_row ho1)
        simp only [Act.put, List.setIfInBounds_toArray, List.set_cons_zero, List.set_cons_succ, Nat.reduceAdd]
        apply Rg.RK.okU [3] (v := .string (tx (sealB (l.take (n - 4)))))
        · intro vs w1 hS hf
          obtain ⟨⟨A1, n1, c1, hv, -, hrd⟩, -⟩ := hf
          exact exec_str rfl hv hrd
        · rfl
        simp only [Act.put, List.setIfInBounds_toArray, List.set_cons_zero, List.set_cons_succ, Nat.reduceAdd]
        (apply Rg.RK.ok; (· intro vs w1 hS; go_simp; with_reducible rfl); (· rfl); simp only [Act.put, List.setIfInBounds_toArray, List.set_cons_zero, List.set_cons_succ, Nat.reduceAdd])
        apply Rg.RK.ok
        · intro vs w1 hS
          exact exec_str rfl rfl (hr.up hS)
        · rfl
        simp only [Act.put, List.setIfInBounds_toArray, List.set_cons_zero, List.set_cons_succ, Nat.reduceAdd]
        apply Rg.RK.ok
        · intro vs w1 hS
          go_simp
          with_reducible rfl
        · rfl
        simp only [Act.put, List.setIfInBounds_toArray, List.set_cons_zero, List.set_cons_succ, Nat.reduceAdd]
        (apply Rg.RK.ok; (· intro vs w1 hS; go_simp; with_reducible rfl); (· rfl); simp only [Act.put, List.setIfInBounds_toArray, List.set_cons_zero, List.set_cons_succ, Nat.reduceAdd])
        apply Rg.RK.fin []
        intro vs w1 hK hS _
        refine hQN.out _ _ ?_
        clear hQN
        have hu := keeps_up hK
        go_wp2_with fail
        go_ret2
        rw [HE.out, HO.out]
        exact ⟨none, 0, 0, rfl, NIL.out _, hu⟩
      · kernel_rfl

end Go.Proofs.Ytnjmekjaingniaa

/-
  The walks of slices.Grow and slices.Concat, of bytes.
-/
namespace Go.Proofs.Ytnjmekjaingniaa
open Go.RowKit
set_option linter.unusedVariables false
set_option linter.unusedSimpArgs false

theorem grown_row (w : World) (n : Nat) (base : Nat) (h0 : 0 < n) (hb : base ≤ w.heap.size) (hm : n ≤ 140737488355328) :
    ∃ c w', (Builtin.append_ #[26, 3] 26 #[.slice none 0 0, .int .i64 n]).run Try.prog w = .ok (.slice (some ⟨w.heap.size, 0, none⟩) n c) w' ∧ OwnB w' base (some ⟨w.heap.size, 0, none⟩) 0 c [] ∧ Up w w' ∧ n ≤ c := by
  obtain ⟨i, hi, hz, hs, hby⟩ := info_parts (P := Try.prog) (e := 5) (z := .int .u8 0) (size := 1) (bytes := 1) (by kernel_rfl)
  have := Lib.run_append_nil_zeros (P := Try.prog) w 26 3 26 5 i (.int .u8 0) .i64 .i64 bytesT.ut Try.underlying3 hi hz n h0 (by rw [hs]; omega) (by omega) (by rw [hby]; omega)
  have hge := grownCap_ge w n 0 5
  have hle := grownCap_le_maxLen w n 0 5 (by simp only [maxLen]; omega)
  refine ⟨_, _, this, ?_, (Up.refl w).drew.alloc _, hge⟩
  refine ⟨rfl, .inr ⟨w.heap.size, _, _, rfl, hb, heap_alloc_new w.drew _, Nat.zero_le _, hle, ?_, rfl⟩⟩
  rw [Array.size_append, size_zeroCells, size_zeroCells]
  show n * 1 + (_ - n) * 1 = _ * 1
  omega

set_option maxRecDepth 100000 in
set_option maxHeartbeats 1600000 in
theorem grow_any (n : Nat) (w : World) (hm : n ≤ 140737488355328) :
    Calls Try.prog 82 #[.slice none 0 0, .int .i64 n] w fun e w' => ∃ A c, e = .returned (.slice A 0 c) ∧ OwnB w' w.heap.size A 0 c [] ∧ Up w w' := by
  by_cases h0 : 0 < n
  · go_enter Try.func82, Try.ntmps82
    obtain ⟨c, w2, hrun, hown, hu, hc⟩ := grown_row w n w.heap.size h0 (Nat.le_refl _) hm
    have h9 : (n : Int) ≤ 9223372036854775807 := by omega
    go_wp2_with (at_builtin; refine Lib.wpList_append_run _ rfl _ _ _ _ rfl _ _ rfl rfl _ _ hrun ?_)
    go_ret
    exact ⟨_, c, rfl, hown, hu⟩
  · obtain rfl : n = 0 := by omega
    go_enter Try.func82, Try.ntmps82
    go_wp2_with fail
    go_ret
    exact ⟨none, 0, rfl, World.ownsRow_nil _ _ _ _, Up.refl _⟩
def ptsL (ps : List Pt) : List UInt8 := ps.flatMap (·.l)
theorem ptsL_take {ps : List Pt} {k : Nat} {p : Pt} (h : ps[k]? = some p) : ptsL (ps.take (k + 1)) = ptsL (ps.take k) ++ p.l := by
  obtain ⟨hk, rfl⟩ := List.getElem?_eq_some_iff.1 h
  unfold ptsL
  rw [List.take_succ_eq_append_getElem hk, List.flatMap_append, List.flatMap_singleton]
theorem ptsL_le (ps : List Pt) (k : Nat) : (ptsL (ps.take k)).length ≤ (ptsL ps).length := by
  have : ptsL ps = ptsL (ps.take k) ++ ptsL (ps.drop k) := by
    unfold ptsL; rw [← List.flatMap_append, List.take_append_drop]
  rw [this, List.length_append]; omega

set_option maxRecDepth 100000 in
set_option maxHeartbeats 1600000 in
theorem concat_any (Q : Option Addr) (m d : Nat) (ps : List Pt) (w : World) (hq : Rd w w.heap.size 1 Q m (ps.map Pt.v)) (hp : ∀ p ∈ ps, Rd w w.heap.size 1 p.A p.n (bvs p.l)) (ht : (ptsL ps).length ≤ 1099511627776) (hm : m ≤ 9223372036854775807) :
    Calls Try.prog 59 #[.slice Q m d] w fun e w' => ∃ A c, e = .returned (.slice A (ptsL ps).length c) ∧ OwnB w' w.heap.size A (ptsL ps).length c (ptsL ps) ∧ Up w w' := by
  have HM : Hid (m = ps.length) := by show _ = _; have := hq.1; rw [List.length_map] at this; omega
  have HP := Lib.hid hp
  clear hp
  have at_ : ∀ k, k < m → ∃ b o p, Q = some ⟨b, o, none⟩ ∧ b < w.heap.size ∧ ps[k]? = some p ∧ p ∈ ps ∧ ∀ W, Up w W → W.cell? ⟨b, o + k, none⟩ = some (.slice p.A p.n p.c) := by
    intro k hk
    obtain ⟨b, o, e, hb, hc⟩ := hq.2 (by omega)
    have hkl : k < ps.length := by have := HM.out; omega
    refine ⟨b, o, ps[k], e, hb, List.getElem?_eq_getElem hkl, List.getElem_mem _, fun W hW => ?_⟩
    have h1 := hc k (ps[k]).v (by simp [hkl])
    exact (hW.cell (p := ⟨b, o + k, none⟩) hb).trans h1
  have AT := Lib.hid at_
  clear at_
  have HT := Lib.hid ht
  clear ht
  go_enter Try.func59, Try.ntmps59
  go_wp2_with fail
  go_loop [3, 5, 11] (fun t _ i => ∃ k : Nat, i = .int .i64 (k : Int) ∧ k ≤ m ∧ t = .int .i64 ((ptsL (ps.take k)).length : Int)) (fun _ _ i => m - (intOf i).toNat)
  case atStart => exact ⟨0, rfl, by omega, rfl⟩
  case round =>
    obtain ⟨k, rfl, hk, rfl⟩ := hrel
    by_cases hlt : k < m
    · obtain ⟨b, o, p, rfl, hb, hpk, hpm, hcell⟩ := AT.out k hlt
      have hc := hcell w (Up.refl w)
      have hl := (HP.out p hpm).blen
      have h1 := ptsL_take hpk
      have h2 := ptsL_le ps (k + 1)
      have h3 : (ptsL (ps.take (k + 1))).length = (ptsL (ps.take k)).length + p.n := by rw [h1, List.length_append, hl]
      have H3 := Lib.hid h3
      have hbd : (ptsL (ps.take k)).length + p.n ≤ 1099511627776 := by have := HT.out; omega
      clear h1 h2 h3 hcell hl hpk
      generalize (ptsL (ps.take k)).length = s at *
      go_wp2
      go_round
      case rel => exact ⟨k + 1, by go_num, by omega, by rw [H3.out]; go_num⟩
      case measure => simp [intOf]; omega
    · have hkm : k = m := by omega
      subst hkm
      have hall : ps.take k = ps := List.take_of_length_le (by have := HM.out; omega)
      rw [hall]
      clear hall
      have hbig : (ptsL ps).length ≤ 140737488355328 := by have := HT.out; omega
      go_wp2_with fail
      refine (grow_any _ w hbig).mono ?_
      rintro e w1 ⟨A1, c1, rfl, ho1, hu1⟩
      go_wp2_with fail
      go_loopw [6, 8, 27] (fun v _ i wr => ∃ (j : Nat) (R : Option Addr) (n c : Nat), i = .int .i64 (j : Int) ∧ j ≤ k ∧ v = .slice R n c ∧ OwnB wr w.heap.size R n c (ptsL (ps.take j)) ∧ Up w wr) (fun _ _ i _ => k - (intOf i).toNat)
      case atStart => exact ⟨0, A1, 0, c1, rfl, by omega, rfl, ho1, hu1⟩
      case round =>
        obtain ⟨j, R, n, c, rfl, hj, rfl, ho, hu⟩ := hrel
        by_cases hlt' : j < k
        · obtain ⟨b, o, p, rfl, hb, hpk, hpm, hcell⟩ := AT.out j hlt'
          have hc := hcell wr hu
          have hrp := (HP.out p hpm).stay (Nat.le_refl _) hu
          have hl := hrp.blen
          have h1 := ptsL_take hpk
          have h2 := ptsL_le ps (j + 1)
          have hn := ho.len
          have hbd : n + p.n ≤ 1099511627776 := by
            have := HT.out
            rw [h1, List.length_append] at h2; omega
          have H1 := Lib.hid h1
          clear h1 h2 hcell hl hpk hn
          go_wp2_with (at_builtin; refine wpList_append_rd _ bytesT ho hrp (bvs_one _) (by omega) (by omega) hu.size rfl rfl rfl rfl ?_; intro v2 w2 hown2 hg2 hat2; obtain ⟨A2, c2, rfl⟩ := own_form hown2)
          rw [← bvs_append, ← H1.out] at hown2
          have hu2 : Up w w2 := hu.grown hg2 (fun g hg => (ho.lt g hg).1)
          go_roundw
          case rel => exact ⟨j + 1, A2, n + p.n, c2, by go_num, by omega, rfl, hown2, hu2⟩
          case measure => simp [intOf]; omega
        · have hjk : j = k := by omega
          subst hjk
          have hall : ps.take j = ps := List.take_of_length_le (by have := HM.out; omega)
          rw [hall] at ho
          have hn := ho.len
          have HN := Lib.hid hn
          clear hn hall
          go_wp2_with fail
          go_ret
          have hn := HN.out
          subst hn
          exact ⟨R, c, rfl, ho, hu⟩
end Go.Proofs.Ytnjmekjaingniaa

/-
  The walk of frame.Put.
-/
namespace Go.Proofs.Ytnjmekjaingniaa
open Go.RowKit
set_option linter.unusedVariables false
set_option linter.unusedSimpArgs false

/-- the error of Put -/
def putE (kind : Int) (n : Nat) : Nat := if kind < 1 ∨ 100 < kind then 1 else if 60000 < n then 2 else 0
def headB (kind : Int) (n : Nat) : List UInt8 := [byteOf kind, UInt8.ofNat (n / 65536), UInt8.ofNat (n / 256), UInt8.ofNat n]
def frameB (kind : Int) (l : List UInt8) : List UInt8 := sealB (headB kind l.length) ++ sealB l
def putL (bs : List UInt8) (kind : Int) (l : List UInt8) : List UInt8 := if putE kind l.length = 0 then bs ++ frameB kind l else []
theorem frameB_len (kind : Int) (l : List UInt8) : (frameB kind l).length = l.length + 12 := by
  simp [frameB, sealB_len, headB]; omega

set_option maxRecDepth 100000 in
set_option maxHeartbeats 1600000 in
theorem fput_any (A : Option Addr) (n c : Nat) (bs : List UInt8) (kind : Int) (B : Option Addr) (m d : Nat) (l : List UInt8) (w : World) (hr : Rd w w.heap.size 1 A n (bvs bs)) (hb : Rd w w.heap.size 1 B m (bvs l)) (hn : n ≤ 549755813888) (hm : m ≤ 9223372036854775807) :
    Calls Try.prog 33 #[.slice A n c, .int .i64 kind, .slice B m d] w fun e w' => ∃ A' n' c', e = .returned (.tuple #[.slice A' n' c', .int .i64 (putE kind l.length : Int)]) ∧ OwnB w' w.heap.size A' n' c' (putL bs kind l) ∧ Up w w' := by
  have nil0 : ∀ w0, OwnB w0 w.heap.size none 0 0 [] := fun w0 => World.ownsRow_nil _ _ _ _
  have NIL := Lib.hid nil0
  clear nil0
  have HM := Lib.hid hb.blen
  have HN := Lib.hid hr.blen
  have bad : ∀ E : Nat, putE kind l.length = E → E ≠ 0 → putL bs kind l = [] := fun E h h' => by unfold putL; rw [if_neg (by rw [h]; exact h')]
  by_cases hk1 : kind < 1
  · have hE : putE kind l.length = 1 := by unfold putE; rw [if_pos (.inl hk1)]
    have hL := bad 1 hE (by omega)
    have HE := Lib.hid hE
    have HO := Lib.hid hL
    clear hE hL bad
    go_enter Try.func33, Try.ntmps33
    go_wp2_with fail
    go_ret2
    rw [HE.out, HO.out]
    exact ⟨none, 0, 0, rfl, NIL.out _, Up.refl _⟩
  by_cases hk2 : 100 < kind
  · have hE : putE kind l.length = 1 := by unfold putE; rw [if_pos (.inr hk2)]
    have hL := bad 1 hE (by omega)
    have HE := Lib.hid hE
    have HO := Lib.hid hL
    clear hE hL bad
    go_enter Try.func33, Try.ntmps33
    go_wp2_with fail
    go_ret2
    rw [HE.out, HO.out]
    exact ⟨none, 0, 0, rfl, NIL.out _, Up.refl _⟩
  by_cases hbig : 60000 < m
  · have hE : putE kind l.length = 2 := by unfold putE; rw [if_neg (by omega), if_pos (by rw [← HM.out]; exact hbig)]
    have hL := bad 2 hE (by omega)
    have HE := Lib.hid hE
    have HO := Lib.hid hL
    clear hE hL bad
    go_enter Try.func33, Try.ntmps33
    go_wp2_with fail
    go_ret2
    rw [HE.out, HO.out]
    exact ⟨none, 0, 0, rfl, NIL.out _, Up.refl _⟩
  · have hE : putE kind l.length = 0 := by unfold putE; rw [if_neg (by omega), if_neg (by rw [← HM.out]; exact hbig)]
    have hL : putL bs kind l = bs ++ (sealB (headB kind m) ++ sealB l) := by unfold putL; rw [hE, if_pos rfl, HM.out]; rfl
    have HE := Lib.hid hE
    have HO := Lib.hid hL
    clear hE hL bad
    go_enter Try.func33, Try.ntmps33
    go_wp2_with fail
    have hh : ([.int .u8 kind, .int .u8 ((m : Int) / 65536), .int .u8 ((m : Int) / 256), .int .u8 ((m : Int) % 256)] : List Value) = bvs (headB kind m) := by
      have e0 : kind = kind % 256 := by omega
      have e1 : (m : Int) / 65536 = ((m / 65536 % 256 : Nat) : Int) := by omega
      have e2 : (m : Int) / 256 = ((m / 256 % 256 : Nat) : Int) := by omega
      have e3 : (m : Int) % 256 = ((m % 256 : Nat) : Int) := by omega
      simp only [bvs, headB, List.map_cons, List.map_nil, bv_ofNat, bv_byteOf, e1, e2, e3, ← e0]
    refine (seal_any _ 4 4 (headB kind m) _ (Rd.lit_at _ _ _ _ rfl hh) (by omega)).mono ?_
    rintro e w1 ⟨A1, c1, rfl, ho1, hu1⟩
    have hw1 : Up w w1 := ((Up.refl w).alloc _).trans hu1
    go_wp2_with fail
    refine (seal_any B m d l w1 (hb.up hw1) (by omega)).mono ?_
    rintro e w2 ⟨A2, c2, rfl, ho2, hu2⟩
    have hw2 : Up w w2 := hw1.trans hu2
    go_wp2_with fail
    have hq : Rd (w2.alloc (.cells #[.slice A n c, .slice A1 8 c1, .slice A2 (m + 4) c2] 26)) (w2.alloc (.cells #[.slice A n c, .slice A1 8 c1, .slice A2 (m + 4) c2] 26)).heap.size 1 (some ⟨w2.heap.size, 0, none⟩) 3 ([⟨A, n, c, bs⟩, ⟨A1, 8, c1, sealB (headB kind m)⟩, ⟨A2, m + 4, c2, sealB l⟩].map Pt.v) := Rd.made w2 _ _ rfl
    have hl : ptsL [⟨A, n, c, bs⟩, ⟨A1, 8, c1, sealB (headB kind m)⟩, ⟨A2, m + 4, c2, sealB l⟩] = bs ++ (sealB (headB kind m) ++ sealB l) := by simp [ptsL]
    have hll : (bs ++ (sealB (headB kind m) ++ sealB l)).length ≤ 1099511627776 := by
      have := HM.out; have := HN.out
      simp [sealB_len, headB]; omega
    refine (concat_any _ 3 3 _ _ hq ?_ (by rw [hl]; exact hll) (by omega)).mono ?_
    · intro p hp
      simp only [List.mem_cons, List.not_mem_nil, or_false] at hp
      rcases hp with rfl | rfl | rfl
      · exact hr.up (hw2.alloc _)
      · exact (ho1.up (hu2.alloc _)).rd
      · exact (ho2.up ((Up.refl _).alloc _)).rd
    rintro e w3 ⟨A3, c3, rfl, ho3, hu3⟩
    have hw3 : Up w w3 := (hw2.alloc _).trans hu3
    rw [hl] at ho3 ⊢
    clear hl hll hq hh
    generalize (bs ++ (sealB (headB kind m) ++ sealB l)).length = N3 at ho3 ⊢
    have hsz : w.heap.size ≤ (w2.alloc (.cells #[.slice A n c, .slice A1 8 c1, .slice A2 (m + 4) c2] 26)).heap.size := (hw2.alloc _).size
    have ho4 := own_base ho3 hsz
    clear ho3 hsz
    go_wp2_with fail
    go_ret2
    rw [HE.out, HO.out]
    exact ⟨A3, N3, c3, rfl, ho4, hw3⟩
end Go.Proofs.Ytnjmekjaingniaa

/-
  Batches: plain words.
-/
namespace Go.Proofs.Ytnjmekjaingniaa
open Go.RowKit
set_option linter.unusedVariables false
set_option linter.unusedSimpArgs false

/-- a batch's error -/
def batE (l : List It) : Nat := if l.length = 0 then 1 else if bytesE l ≠ 0 then bytesE l else if 60000 < (itemsB l).length then 2 else 0
def batB (l : List It) : List UInt8 := if batE l = 0 then frameB 1 (itemsB l) else []
theorem batE_ok {l : List It} (h : batE l = 0) : 0 < l.length ∧ bytesE l = 0 ∧ (itemsB l).length ≤ 60000 ∧ l.length ≤ 2000 ∧ l.all okB = true := by
  unfold batE at h
  split at h
  · cases h
  · split at h
    · omega
    · split at h
      · cases h
      · rename_i h1 h2 h3
        have h4 : bytesE l = 0 := by omega
        refine ⟨by omega, h4, by omega, ?_⟩
        unfold bytesE at h4
        split at h4
        · cases h4
        · split at h4
          · exact ⟨by omega, by assumption⟩
          · cases h4
theorem itemsB_two (l : List It) (h : l.length ≤ 2000) : (itemsB l).length ≤ 64010 := by
  have h1 := numB_ten (n := l.length) (by omega)
  have h2 : ∀ q : List It, (q.flatMap itB).length ≤ 32 * q.length := fun q => by
    induction q with
    | nil => simp
    | cons i q ih => have := itB_len i; simp only [List.flatMap_cons, List.length_append, List.length_cons]; omega
  have h3 := h2 l
  unfold itemsB
  rw [List.length_append]
  omega
theorem bytesE_le {l : List It} (h : bytesE l = 0) : l.length ≤ 2000 := by
  unfold bytesE at h
  split at h
  · cases h
  · omega
end Go.Proofs.Ytnjmekjaingniaa

/-
  The walks of the laws of items: awake, Some; of the document's May, Equal.
-/
namespace Go.Proofs.Ytnjmekjaingniaa
open Go.RowKit
set_option linter.unusedVariables false

/-- what stays as it is in whatever world behind w -/
theorem cells_stay {w : World} {B g : Nat} {i : It} (h : Rd w B 5 (some ⟨g, 0, none⟩) 1 (itc i)) (hB : B ≤ w.heap.size) : ∀ W, Up w W →
    W.cell? ⟨g, 0, none⟩ = some (.int .i64 i.s.toInt) ∧ W.cell? ⟨g, 1, none⟩ = some (.int .i64 i.k.toInt) ∧ W.cell? ⟨g, 2, none⟩ = some (.int .u64 (i.t.toNat : Int)) ∧ W.cell? ⟨g, 3, none⟩ = some (.int .u64 (i.v.toNat : Int)) ∧ W.cell? ⟨g, 4, none⟩ = some (.int .i64 i.x.toInt) :=
  fun _ hW => five_cells (h.stay hB hW)

theorem lit_stay (w : World) (i : It) (cs : Array Value) (t : TypeId) {g : Nat} (hg : w.heap.size = g) (h : cs.toList = itc i) : ∀ W, Up (w.alloc (.cells cs t)) W →
    W.cell? ⟨g, 0, none⟩ = some (.int .i64 i.s.toInt) ∧ W.cell? ⟨g, 1, none⟩ = some (.int .i64 i.k.toInt) ∧ W.cell? ⟨g, 2, none⟩ = some (.int .u64 (i.t.toNat : Int)) ∧ W.cell? ⟨g, 3, none⟩ = some (.int .u64 (i.v.toNat : Int)) ∧ W.cell? ⟨g, 4, none⟩ = some (.int .i64 i.x.toInt) := by
  have h1 := Rd.ilit_at w [i] cs t hg (by simp [itcs, h])
  simp only [itcs, List.flatMap_singleton, List.length_singleton] at h1
  exact cells_stay h1 (Nat.le_refl _)

/-- a literal of five cells -/
theorem cells5 (w : World) (v0 v1 v2 v3 v4 : Value) (t : TypeId) {g : Nat} (hg : w.heap.size = g) : ∀ W, Up (w.alloc (.cells #[v0, v1, v2, v3, v4] t)) W →
    W.cell? ⟨g, 0, none⟩ = some v0 ∧ W.cell? ⟨g, 1, none⟩ = some v1 ∧ W.cell? ⟨g, 2, none⟩ = some v2 ∧ W.cell? ⟨g, 3, none⟩ = some v3 ∧ W.cell? ⟨g, 4, none⟩ = some v4 := by
  subst hg
  intro W hW
  have h : ∀ j, W.cell? ⟨w.heap.size, j, none⟩ = (w.alloc (.cells #[v0, v1, v2, v3, v4] t)).cell? ⟨w.heap.size, j, none⟩ := fun j => hW.cell (by simp)
  have h2 : ∀ j, W.cell? ⟨w.heap.size, j, none⟩ = #[v0, v1, v2, v3, v4][j]? := fun j => by rw [h j, World.cell?_alloc_at (w := w) _ t _ _ rfl]
  exact ⟨h2 0, h2 1, h2 2, h2 3, h2 4⟩
/-- a contract that turns nothing that is there, told from a world behind which the call stands -/
theorem keepUp {P : Program} {f : FuncId} {args : Array Value} {v : Value} (h : ∀ W, Calls P f args W fun e w' => e = .returned v ∧ Up W w') (w3 : World) : Hid (∀ W, Up w3 W → Calls P f args W fun e w' => e = .returned v ∧ Up w3 w') :=
  fun W hW => (h W).mono fun e w' ⟨he, hu⟩ => ⟨he, hW.trans hu⟩

end Go.Proofs.Ytnjmekjaingniaa

/-
  Plain laws of numbers as bytes.
-/
namespace Go.Proofs.Ytnjmekjaingniaa
open Go.RowKit
set_option linter.unusedVariables false

theorem pow_split (x i : Nat) : x % 128 * 128 ^ i + x / 128 * 128 ^ (i + 1) = x * 128 ^ i := by
  have h := Nat.mod_add_div x 128
  calc x % 128 * 128 ^ i + x / 128 * 128 ^ (i + 1) = (x % 128 + 128 * (x / 128)) * 128 ^ i := by rw [Nat.pow_succ, Nat.add_mul]; congr 1; rw [Nat.mul_comm 128, Nat.mul_assoc, Nat.mul_comm 128]
    _ = x * 128 ^ i := by rw [h]
theorem takeGo_numB (r : List UInt8) : ∀ (n x i acc : Nat), x ≤ n → i ≤ 9 → x < 2 ^ (64 - 7 * i) → (0 < i → 0 < x) → takeGo (numB x ++ r) i acc = (acc + x * 128 ^ i, i + (numB x).length, 0) := by
  intro n
  induction n with
  | zero =>
    intro x i acc hx hi h1 h2
    have h0 : x = 0 := by omega
    subst h0
    have : i = 0 := by rcases Nat.eq_zero_or_pos i with h | h; exact h; exact absurd (h2 h) (by omega)
    subst this
    rw [numB_lo (by omega)]
    exact takeGo_end (by simp) (by decide)
  | succ n ih =>
    intro x i acc hx hi h1 h2
    by_cases hlt : x < 128
    · rw [numB_lo hlt]
      have e : (UInt8.ofNat x).toNat = x := by simp; omega
      rw [List.cons_append, List.nil_append, takeGo_end, e]
      · rw [Nat.mod_eq_of_lt hlt]; rfl
      · rw [e]
        rintro (⟨h9, hx1⟩ | ⟨h0, hx0⟩)
        · subst h9; simp at h1; omega
        · have := h2 h0; omega
      · rw [e]; exact hlt
    · rw [numB_hi hlt]
      have e : (UInt8.ofNat (x % 128 + 128)).toNat = x % 128 + 128 := by simp; omega
      have h8 : i ≤ 8 := by
        rcases Nat.lt_or_ge i 9 with h | h
        · omega
        · have : i = 9 := by omega
          subst this; simp at h1; omega
      rw [List.cons_append, takeGo_more, e, ih (x / 128) (i + 1) _ (by omega) (by omega) ?_ (fun _ => by omega)]
      · rw [show (x % 128 + 128) % 128 = x % 128 by omega, Nat.add_assoc, pow_split, List.length_cons]
        simp only [Prod.mk.injEq, and_true, true_and]; omega
      · rw [Nat.div_lt_iff_lt_mul (by decide), show (128 : Nat) = 2 ^ 7 from rfl, ← Nat.pow_add]
        rw [show 64 - 7 * (i + 1) + 7 = 64 - 7 * i by omega]; exact h1
      · rw [e]; omega
      · rw [e]; omega
theorem takeL_numB (x : Nat) (r : List UInt8) (hx : x < 18446744073709551616) : takeL (numB x ++ r) = (x, (numB x).length, 0) := by
  have := takeGo_numB r x x 0 0 (Nat.le_refl _) (by omega) (by simpa using hx) (fun h => absurd h (by omega))
  unfold takeL
  rw [this]; simp
theorem takeL_nil : takeL [] = (0, 0, 4) := rfl
theorem numsB_drop (q : List UInt64) (k : Nat) : (numsB q).drop (numsB (q.take k)).length = numsB (q.drop k) := by
  have : numsB q = numsB (q.take k) ++ numsB (q.drop k) := by unfold numsB; rw [← List.flatMap_append, List.take_append_drop]
  rw [this, List.drop_left]
theorem numsB_cons (x : UInt64) (q : List UInt64) : numsB (x :: q) = numB x.toNat ++ numsB q := by simp [numsB]
theorem foldN_eightB (x : Nat) (hx : x < 18446744073709551616) : foldN (eightB x) = x := by
  have e : eightB x = [UInt8.ofNat (x / 2 ^ 56), UInt8.ofNat (x / 2 ^ 48), UInt8.ofNat (x / 2 ^ 40), UInt8.ofNat (x / 2 ^ 32), UInt8.ofNat (x / 2 ^ 24), UInt8.ofNat (x / 2 ^ 16), UInt8.ofNat (x / 2 ^ 8), UInt8.ofNat (x / 2 ^ 0)] := rfl
  rw [e]
  simp only [foldN, List.foldl_cons, List.foldl_nil, UInt8.toNat_ofNat']
  omega
theorem uneightL_eightB (x : Nat) (hx : x < 18446744073709551616) : uneightL (eightB x) = (x, 0) := by
  unfold uneightL
  rw [eightB_len, if_neg (by omega), List.take_of_length_le (by rw [eightB_len]; omega), foldN_eightB x hx]
theorem numB_inj {a b : Nat} (ha : a < 18446744073709551616) (hb : b < 18446744073709551616) (h : numB a = numB b) : a = b := by
  have h1 := takeL_numB a [] ha
  have h2 := takeL_numB b [] hb
  rw [h, h2] at h1
  exact (Prod.mk.inj h1).1.symm
theorem numB_mono : ∀ (n a b : Nat), b ≤ n → a ≤ b → (numB a).length ≤ (numB b).length := by
  intro n
  induction n with
  | zero => intro a b hb hab; rw [show a = b by omega]; exact Nat.le_refl _
  | succ n ih =>
    intro a b hb hab
    by_cases h1 : a < 128
    · rw [numB_lo h1]; exact numB_pos b
    · rw [numB_hi h1, numB_hi (show ¬ b < 128 by omega)]
      have := ih (a / 128) (b / 128) (by omega) (Nat.div_le_div_right hab)
      simp only [List.length_cons]; omega
/-- what bytes come to as one number, the highest first -/
def valB : List UInt8 → Nat
  | [] => 0
  | c :: r => c.toNat * 256 ^ r.length + valB r
theorem valB_lt (l : List UInt8) : valB l < 256 ^ l.length := by
  induction l with
  | nil => simp [valB]
  | cons c r ih =>
    have hc := c.toNat_lt
    have h1 : c.toNat * 256 ^ r.length ≤ 255 * 256 ^ r.length := Nat.mul_le_mul_right _ (by omega)
    simp only [valB, List.length_cons, Nat.pow_succ]; omega
theorem foldl_valB (l : List UInt8) : ∀ a : Nat, l.foldl (fun a c => a * 256 + c.toNat) a = a * 256 ^ l.length + valB l := by
  induction l with
  | nil => intro a; simp [valB]
  | cons c r ih =>
    intro a
    rw [List.foldl_cons, ih, valB, List.length_cons, Nat.pow_succ, Nat.add_mul, Nat.mul_assoc, Nat.mul_comm 256, Nat.add_assoc]
theorem foldN_valB (l : List UInt8) : foldN l = valB l := by unfold foldN; rw [foldl_valB]; simp
theorem less_valB : ∀ (l m : List UInt8), l.length = m.length → Op.bytesLess l m = decide (valB l < valB m)
  | [], [], _ => by simp [Op.bytesLess]
  | c :: r, d :: s, h => by
    have hl : r.length = s.length := by simpa using h
    have ih := less_valB r s hl
    have h1 := valB_lt r
    have h2 := valB_lt s
    rw [hl] at h1
    simp only [Op.bytesLess, valB, ih, hl]
    by_cases hcd : c < d
    · have hcd' : c.toNat < d.toNat := UInt8.lt_iff_toNat_lt.1 hcd
      have hm : (c.toNat + 1) * 256 ^ s.length ≤ d.toNat * 256 ^ s.length := Nat.mul_le_mul_right _ hcd'
      rw [Nat.add_mul] at hm
      have : c.toNat * 256 ^ s.length + valB r < d.toNat * 256 ^ s.length + valB s := by omega
      simp [hcd, this]
    · by_cases he : c = d
      · subst he; simp
      · have hcd' : d.toNat < c.toNat := by
          have h3 : ¬ c.toNat < d.toNat := fun h => hcd (UInt8.lt_iff_toNat_lt.2 h)
          have h4 : c.toNat ≠ d.toNat := fun h => he (UInt8.toNat_inj.1 h)
          omega
        have hm : (d.toNat + 1) * 256 ^ s.length ≤ c.toNat * 256 ^ s.length := Nat.mul_le_mul_right _ hcd'
        rw [Nat.add_mul] at hm
        have : ¬ c.toNat * 256 ^ s.length + valB r < d.toNat * 256 ^ s.length + valB s := by omega
        simp [hcd, he, this]
theorem less_eightB {a b : Nat} (ha : a < 18446744073709551616) (hb : b < 18446744073709551616) : Op.bytesLess (eightB a) (eightB b) = decide (a < b) := by
  rw [less_valB _ _ (by rw [eightB_len, eightB_len]), ← foldN_valB, ← foldN_valB, foldN_eightB a ha, foldN_eightB b hb]
theorem eightB_inj {a b : Nat} (ha : a < 18446744073709551616) (hb : b < 18446744073709551616) (h : eightB a = eightB b) : a = b := by
  rw [← foldN_eightB a ha, ← foldN_eightB b hb, h]
/-! ### lists -/
theorem takeGo_cut : ∀ (n x j i acc : Nat), x ≤ n → i ≤ 9 → x < 2 ^ (64 - 7 * i) → (0 < i → 0 < x) → j < (numB x).length → takeGo ((numB x).take j) i acc = (0, 0, 4) := by
  intro n
  induction n with
  | zero =>
    intro x j i acc hx hi h1 h2 hj
    have h0 : x = 0 := by omega
    subst h0
    rw [numB_lo (by omega)] at hj ⊢
    have : j = 0 := by simpa using hj
    subst this
    rfl
  | succ n ih =>
    intro x j i acc hx hi h1 h2 hj
    by_cases hlt : x < 128
    · rw [numB_lo hlt] at hj ⊢
      have : j = 0 := by simpa using hj
      subst this
      rfl
    · rw [numB_hi hlt] at hj ⊢
      have e : (UInt8.ofNat (x % 128 + 128)).toNat = x % 128 + 128 := by simp; omega
      have h8 : i ≤ 8 := by
        rcases Nat.lt_or_ge i 9 with h | h
        · omega
        · have : i = 9 := by omega
          subst this; simp at h1; omega
      cases j with
      | zero => rfl
      | succ j =>
        rw [List.take_succ_cons, takeGo_more, e]
        · refine ih (x / 128) j (i + 1) _ (by omega) (by omega) ?_ (fun _ => by omega) (by simpa using hj)
          rw [Nat.div_lt_iff_lt_mul (by decide), show (128 : Nat) = 2 ^ 7 from rfl, ← Nat.pow_add]
          rw [show 64 - 7 * (i + 1) + 7 = 64 - 7 * i by omega]; exact h1
        · rw [e]; omega
        · rw [e]; omega
theorem takeL_cut {x j : Nat} (hx : x < 18446744073709551616) (hj : j < (numB x).length) : takeL ((numB x).take j) = (0, 0, 4) :=
  takeGo_cut x x j 0 0 (Nat.le_refl _) (by omega) (by simpa using hx) (fun h => absurd h (by omega)) hj
theorem unGo_full (q : List UInt64) : ∀ (pre r : List UInt8) (acc : List UInt64), unGo q.length (pre ++ (numsB q ++ r)) pre.length acc = (acc ++ q, pre.length + (numsB q).length, 0) := by
  induction q with
  | nil => intro pre r acc; simp [unGo, numsB]
  | cons x q ih =>
    intro pre r acc
    rw [List.length_cons, unGo, List.drop_left, numsB_cons, List.append_assoc, takeL_numB _ _ x.toNat_lt]
    have h := ih (pre ++ numB x.toNat) r (acc ++ [UInt64.ofNat x.toNat])
    rw [List.length_append, List.append_assoc] at h
    simp only [if_true]
    rw [h]
    simp [Nat.add_assoc]
theorem unGo_cut (q : List UInt64) : ∀ (pre : List UInt8) (j : Nat) (acc : List UInt64), j < (numsB q).length → unGo q.length (pre ++ (numsB q).take j) pre.length acc = ([], 0, 4) := by
  induction q with
  | nil => intro pre j acc h; simp [numsB] at h
  | cons x q ih =>
    intro pre j acc hj
    rw [numsB_cons] at hj ⊢
    rw [List.length_cons, unGo, List.drop_left]
    by_cases h : j < (numB x.toNat).length
    · rw [List.take_append_of_le_length (by omega), takeL_cut x.toNat_lt h]; simp
    · have e : (numB x.toNat ++ numsB q).take j = numB x.toNat ++ (numsB q).take (j - (numB x.toNat).length) := by
        rw [List.take_append]
        rw [List.take_of_length_le (by omega)]
      rw [e, takeL_numB _ _ x.toNat_lt]
      have h2 := ih (pre ++ numB x.toNat) (j - (numB x.toNat).length) (acc ++ [UInt64.ofNat x.toNat]) (by rw [List.length_append] at hj; omega)
      rw [List.length_append, List.append_assoc] at h2
      simp only [if_true]
      exact h2
theorem unlist_full (q : List UInt64) (r : List UInt8) (most : Int) (hq : q.length < 18446744073709551616) (hm : (q.length : Int) ≤ most) : unlistL (listB q ++ r) most = (q, (listB q).length, 0) := by
  unfold unlistL listB
  rw [List.append_assoc, takeL_numB _ _ hq]
  rw [if_neg (by simp), if_neg (by split <;> omega)]
  rw [unGo_full]
  simp
theorem unlist_long (q : List UInt64) (r : List UInt8) (most : Int) (hq : q.length < 18446744073709551616) (hm : most < (q.length : Int)) (h0 : 0 < q.length) : unlistL (listB q ++ r) most = ([], 0, 2) := by
  unfold unlistL listB
  rw [List.append_assoc, takeL_numB _ _ hq]
  rw [if_neg (by simp), if_pos (by split <;> omega)]
theorem unlist_cut (q : List UInt64) (j : Nat) (most : Int) (hq : q.length < 18446744073709551616) (hm : (q.length : Int) ≤ most) (hj : j < (listB q).length) : unlistL ((listB q).take j) most = ([], 0, 4) := by
  unfold unlistL
  by_cases h : j < (numB q.length).length
  · have e : (listB q).take j = (numB q.length).take j := by unfold listB; rw [List.take_append_of_le_length (by omega)]
    rw [e, takeL_cut hq h]; simp
  · have e : (listB q).take j = numB q.length ++ (numsB q).take (j - (numB q.length).length) := by
      unfold listB; rw [List.take_append, List.take_of_length_le (by omega)]
    rw [e, takeL_numB _ _ hq, if_neg (by simp), if_neg (by split <;> omega)]
    exact unGo_cut q _ _ _ (by unfold listB at hj; rw [List.length_append] at hj; omega)
theorem listB_pos (q : List UInt64) : 1 ≤ (listB q).length := by unfold listB; rw [List.length_append]; have := numB_pos q.length; omega
theorem listB_len (q : List UInt64) (hq : q.length < 18446744073709551616) : (listB q).length ≤ 10 + 10 * q.length := by
  unfold listB; rw [List.length_append]; have := numB_ten hq; have := numsB_len q; omega

theorem unGo_len : ∀ (k : Nat) (l : List UInt8) (a : Nat) (acc : List UInt64), (unGo k l a acc).1.length ≤ acc.length + (l.length - a)
  | 0, l, a, acc => by simp only [unGo]; omega
  | k + 1, l, a, acc => by
    rw [unGo]
    split
    · rename_i h
      have h2 := takeL_ok h
      have h3 := unGo_len k l (a + (takeL (l.drop a)).2.1) (acc ++ [UInt64.ofNat (takeL (l.drop a)).1])
      simp only [List.length_append, List.length_singleton, List.length_drop] at h2 h3
      omega
    · simp
theorem unlistL_len (l : List UInt8) (most : Int) : (unlistL l most).1.length ≤ l.length := by
  have h := unGo_len (takeL l).1 l (takeL l).2.1 []
  simp only [List.length_nil] at h
  unfold unlistL
  by_cases h1 : (takeL l).2.2 ≠ 0
  · rw [if_pos h1]; simp
  · rw [if_neg h1]
    by_cases h2 : (if most < 0 then 0 else most) < ((takeL l).1 : Int)
    · rw [if_pos h2]; simp
    · rw [if_neg h2]; omega

/-! ### numbers that are none -/
/-- a byte more than is needed: the last byte's highest bit set, nought behind it -/
theorem takeGo_more0 : ∀ (n x i acc : Nat), x ≤ n → ∀ l c, numB x = l ++ [c] → takeGo (l ++ [UInt8.ofNat (c.toNat % 128 + 128), 0]) i acc = (0, 0, 3) := by
  intro n
  induction n with
  | zero =>
    intro x i acc hx l c h
    rw [numB_lo (by omega)] at h
    cases l with
    | nil => exact step0 i acc _
    | cons d l => have := congrArg List.length h; simp at this
  | succ n ih =>
    intro x i acc hx l c h
    by_cases hlt : x < 128
    · rw [numB_lo hlt] at h
      cases l with
      | nil => exact step0 i acc _
      | cons d l => have := congrArg List.length h; simp at this
    · rw [numB_hi hlt] at h
      cases l with
      | nil =>
        have h1 := numB_pos (x / 128)
        have := congrArg List.length h; simp at this
        rw [this] at h1; simp at h1
      | cons d l =>
        rw [List.cons_append, List.cons.injEq] at h
        obtain ⟨rfl, h2⟩ := h
        rw [List.cons_append]
        by_cases hf : (i = 9 ∧ 1 < (UInt8.ofNat (x % 128 + 128)).toNat) ∨ (0 < i ∧ (UInt8.ofNat (x % 128 + 128)).toNat = 0)
        · exact takeGo_form hf
        · rw [takeGo_more hf (by simp; omega)]
          exact ih (x / 128) _ _ (by omega) l c h2
where
  step0 (i acc : Nat) (c : UInt8) : takeGo ([] ++ [UInt8.ofNat (c.toNat % 128 + 128), 0]) i acc = (0, 0, 3) := by
    rw [List.nil_append]
    by_cases hf : (i = 9 ∧ 1 < (UInt8.ofNat (c.toNat % 128 + 128)).toNat) ∨ (0 < i ∧ (UInt8.ofNat (c.toNat % 128 + 128)).toNat = 0)
    · exact takeGo_form hf
    · rw [takeGo_more hf (by simp; omega)]
      exact takeGo_form (.inr ⟨by omega, rfl⟩)
theorem takeL_more0 {x : Nat} {l : List UInt8} {c : UInt8} (h : numB x = l ++ [c]) : takeL (l ++ [UInt8.ofNat (c.toNat % 128 + 128), 0]) = (0, 0, 3) :=
  takeGo_more0 x x 0 0 (Nat.le_refl _) l c h
theorem takeL_great (c : UInt8) (h : 1 < c.toNat) : takeL [255, 255, 255, 255, 255, 255, 255, 255, 255, c] = (0, 0, 3) := by
  unfold takeL
  iterate 9 (rw [takeGo_more (by decide) (by decide)])
  exact takeGo_form (.inl ⟨rfl, h⟩)

/-! ### a mask -/
theorem i64_and_le (a : Int) (m : Nat) (hm : m < 9223372036854775808) : ∃ k : Nat, bits .and .i64 a (m : Int) = (k : Int) ∧ k ≤ m := by
  refine ⟨(BitVec.ofInt 64 a).toNat &&& m, ?_, Nat.and_le_right⟩
  have hk : (BitVec.ofInt 64 a).toNat &&& m ≤ m := Nat.and_le_right
  show IntKind.i64.wrap ((BitVec.ofInt 64 a &&& BitVec.ofInt 64 (m : Int)).toNat : Int) = _
  rw [BitVec.toNat_and, ofInt_u64 m (by omega), IntKind.wrap_i64]
  omega
end Go.Proofs.Ytnjmekjaingniaa

/-
  The walks of the document's May and Equal; of the law's Some.
-/
namespace Go.Proofs.Ytnjmekjaingniaa
open Go.RowKit
set_option linter.unusedVariables false

theorem u64_and_le (a : Int) (m : Nat) (hm : m < 9223372036854775808) : ∃ k : Nat, bits .and .u64 a (m : Int) = (k : Int) ∧ k ≤ m := by
  refine ⟨(BitVec.ofInt 64 a).toNat &&& m, ?_, Nat.and_le_right⟩
  have hk : (BitVec.ofInt 64 a).toNat &&& m ≤ m := Nat.and_le_right
  show IntKind.u64.wrap ((BitVec.ofInt 64 a &&& BitVec.ofInt 64 (m : Int)).toNat : Int) = _
  rw [BitVec.toNat_and, ofInt_u64 m (by omega), IntKind.wrap_u64]
  omega

set_option maxRecDepth 100000 in
set_option maxHeartbeats 1600000 in
theorem may_any (Q : Option Addr) (m d : Nat) (l : List It) (w : World) (hq : Rd w w.heap.size 5 Q m (itcs l)) (hm : m ≤ 9223372036854775807) :
    Calls Try.prog 34 #[.slice Q m d] w fun e w' => e = .returned (.int .i64 (bytesE l : Int)) ∧ Up w w' := by
  have HL := Lib.hid hq.ilen
  by_cases hbig : 2000 < m
  · have hE : Hid (bytesE l = 2) := by show _ = _; unfold bytesE; rw [if_pos (by rw [← HL.out]; exact hbig)]
    go_enter Try.func34, Try.ntmps34
    go_wp2_with fail
    go_ret
    rw [hE.out]
    exact ⟨rfl, Up.refl _⟩
  · go_enter Try.func34, Try.ntmps34
    go_wp2_with fail
    go_loopw [3] (fun i wr => ∃ k : Nat, i = .int .i64 (k : Int) ∧ k ≤ m ∧ Hid ((l.take k).all okB = true) ∧ Up w wr) (fun i _ => m - (intOf i).toNat)
    case atStart => exact ⟨0, rfl, by omega, rfl, Up.refl _⟩
    case round =>
      obtain ⟨k, rfl, hk, hall, hu⟩ := hrel
      by_cases hlt : k < m
      · obtain ⟨b, o, i, rfl, hb, hik, c0, c1, c2, c3, c4⟩ := (hq.stay (Nat.le_refl _) hu).item_at hlt
        have HI := Lib.hid hik
        clear hik
        go_wp2_with fail
        refine (rok_any i wr).mono ?_
        rintro e w2 ⟨rfl, hu2⟩
        have hkl : k < l.length := by have := HL.out; omega
        have htk : l.take (k + 1) = l.take k ++ [i] := by
          rw [List.take_succ_eq_append_getElem hkl]
          have := HI.out
          rw [List.getElem?_eq_getElem hkl] at this
          injection this with this
          rw [this]
        have HT := Lib.hid htk
        clear htk c0 c1 c2 c3 c4
        cases hok : okB i
        · have hE : Hid (bytesE l = 1) := by
            show _ = _
            have : okB l[k] = false := by
              have h := HI.out
              rw [List.getElem?_eq_getElem hkl] at h
              injection h with h
              rw [h]; exact hok
            have h2 : l.all okB = false := by
              rw [List.all_eq_false]
              exact ⟨l[k], List.getElem_mem _, by rw [this]; simp⟩
            unfold bytesE
            rw [if_neg (by rw [← HL.out]; exact hbig), h2]; rfl
          clear hok
          go_wp2_with fail
          go_ret
          rw [hE.out]
          exact ⟨rfl, hu.trans hu2⟩
        · have HO := Lib.hid hok
          clear hok
          go_wp2_with fail
          go_roundw
          case rel =>
            refine ⟨k + 1, by go_num, by omega, ?_, hu.trans hu2⟩
            show _ = _
            rw [HT.out, List.all_append, hall.out]
            simp [HO.out]
          case measure => simp [intOf]; omega
      · go_wp2_with fail
        go_ret
        have hE : bytesE l = 0 := by
          have hk' : k = l.length := by have := HL.out; omega
          have h := hall.out
          rw [hk', List.take_of_length_le (Nat.le_refl _)] at h
          unfold bytesE
          rw [if_neg (by rw [← HL.out]; exact hbig), h]; rfl
        rw [hE]
        exact ⟨rfl, hu⟩

set_option maxRecDepth 100000 in
set_option maxHeartbeats 1600000 in
theorem equal_any (A B : Option Addr) (n c m d : Nat) (l : List It) (w : World) (ha : Rd w w.heap.size 5 A n (itcs l)) (hb : Rd w w.heap.size 5 B m (itcs l)) (hn : n ≤ 4611686018427387903) :
    Calls Try.prog 38 #[.slice A n c, .slice B m d] w fun e w' => e = .returned (.bool true) ∧ Up w w' := by
  obtain rfl : m = n := by have := ha.ilen; have := hb.ilen; omega
  have hne : ((m : Int) != (m : Int)) = false := by simp
  go_enter Try.func38, Try.ntmps38
  go_wp2
  go_loopw [5] (fun i wr => ∃ k : Nat, i = .int .i64 (k : Int) ∧ k ≤ m ∧ Up w wr) (fun i _ => m - (intOf i).toNat)
  case atStart => exact ⟨0, rfl, by omega, Up.refl _⟩
  case round =>
    obtain ⟨k, rfl, hk, hu⟩ := hrel
    by_cases hlt : k < m
    · obtain ⟨b1, o1, i1, rfl, hb1, hk1, c0, c1, c2, c3, c4⟩ := (ha.stay (Nat.le_refl _) hu).item_at hlt
      obtain ⟨b2, o2, i2, rfl, hb2, hk2, d0, d1, d2, d3, d4⟩ := (hb.stay (Nat.le_refl _) hu).item_at hlt
      obtain rfl : i1 = i2 := by rw [hk1] at hk2; injection hk2
      have hi0 : (0 : Int) ≤ (k : Int) := by omega
      have hi1 : (k : Int) < (m : Int) := by omega
      clear hk1 hk2 ha hb
      go_wp2_with fail
      go_quiet (fail)
      go_wp2_with fail
      go_roundw
      case rel => exact ⟨k + 1, by go_num, by omega, hu.drewN _⟩
      case measure => simp [intOf]; omega
    · go_wp2
      go_ret
      exact ⟨rfl, hu⟩

end Go.Proofs.Ytnjmekjaingniaa

/-
  The walks of the document's answers for numbers: Take, Uneight, Sign.
-/
namespace Go.Proofs.Ytnjmekjaingniaa
open Go.RowKit
set_option linter.unusedVariables false

/-- a text's byte, as a list's -/
theorem getD_str {s : ByteArray} {l : List UInt8} (hs : s.data.toList = l) {k : Nat} (hk : k < s.size) : s[k] = l.getD k 0 := by
  subst hs
  have h : k < s.data.size := hk
  show s.data[k] = _
  simp only [List.getD, Array.getElem?_toList, Array.getElem?_eq_getElem h, Option.getD_some]
theorem size_str {s : ByteArray} {l : List UInt8} (hs : s.data.toList = l) : s.size = l.length := by subst hs; rfl

set_option maxRecDepth 100000 in
set_option maxHeartbeats 800000 in
theorem rtake_any (s : ByteArray) (l : List UInt8) (w : World) (hs : s.data.toList = l) (hn : s.size ≤ 9223372036854775807) :
    Calls Try.prog 69 #[.string s] w fun e w' => e = .returned (.tuple #[.int .u64 ((takeL l).1 : Int), .int .i64 ((takeL l).2.1 : Int), .int .i64 ((takeL l).2.2 : Int)]) ∧ w = w' := by
  have HS := Lib.hid hs
  have HZ := Lib.hid (size_str hs)
  clear hs
  go_enter Try.func69, Try.ntmps69
  go_wp2
  go_loop [5, 6] (fun q i => ∃ (k acc : Nat), i = .int .i64 (k : Int) ∧ q = .int .u64 (acc : Int) ∧ k ≤ s.size ∧ k ≤ 9 ∧ acc < 128 ^ k ∧ Hid (takeGo (l.drop k) k acc = takeL l)) (fun _ i => 10 - (intOf i).toNat)
  case atStart => exact ⟨0, 0, rfl, rfl, by omega, by omega, by simp, rfl⟩
  case round =>
    obtain ⟨k, acc, rfl, rfl, hk, hk9, hacc, ht⟩ := hrel
    by_cases hlt : k < s.size
    · have hbl : k < l.length := by have := HZ.out; omega
      have htg : takeGo (l.drop k) k acc = takeGo (l.getD k 0 :: l.drop (k + 1)) k acc := by
        rw [List.drop_eq_getElem_cons hbl]; simp [List.getD, hbl]
      have hgd := getD_str HS.out hlt
      generalize (l.getD k 0) = ch at hgd htg
      have HT : Hid (takeGo (ch :: l.drop (k + 1)) k acc = takeL l) := htg.symm.trans ht.out
      clear htg ht
      have hcb := ch.toNat_lt
      have HZ := Lib.hid (byte0 ch)
      by_cases h9 : k = 9
      · subst h9
        go_wp2_with fail
        all_goals (first | have hz := HZ.out.1 (by assumption) | have hz := HZ.out.2 (by assumption) | skip)
        all_goals first
          | (go_ret3; rw [← HT.out, takeGo_form (by omega)]; exact ⟨rfl, rfl⟩)
          | (go_ret3; rw [← HT.out, takeGo_end (by omega) (by omega)]; exact ⟨by rw [← rtake_val9 hacc (by omega)]; rfl, rfl⟩)
      · go_wp2_with fail
        all_goals (first | have hz := HZ.out.1 (by assumption) | have hz := HZ.out.2 (by assumption) | skip)
        all_goals first
          | (go_ret3; rw [← HT.out, takeGo_form (by omega)]; exact ⟨rfl, rfl⟩)
          | (go_ret3; rw [← HT.out, takeGo_end (by omega) (by omega)]; exact ⟨by rw [← rtake_val (by omega) hacc (by omega)]; rfl, rfl⟩)
          | (go_round
             case rel => exact ⟨k + 1, _, by go_num, congrArg _ (rtake_val (by omega) hacc (by omega)), by omega, by omega, take_step hacc, (takeGo_more (by omega) (by omega)).symm.trans HT.out⟩
             case measure => simp [intOf]; omega)
    · go_wp2
      go_ret3
      have hk' : k = s.size := by omega
      rw [← ht.out, List.drop_of_length_le (by have := HZ.out; omega)]
      exact ⟨rfl, rfl⟩


set_option maxRecDepth 100000 in
theorem rsign_any (n : Int) (w : World) (h1 : -9223372036854775808 ≤ n) (h2 : n ≤ 9223372036854775807) :
    Calls Try.prog 62 #[.int .i64 n] w fun e w' => e = .returned (.int .u64 (signN n : Int)) ∧ w = w' := by
  unfold signN
  by_cases hn : n < 0
  · rw [if_pos hn]
    go_enter Try.func62, Try.ntmps62
    go_wp2
    go_ret
    refine ⟨?_, rfl⟩
    show Ending.returned (.int .u64 (-(n + 1) * 2 + 1)) = _
    congr 2; omega
  · rw [if_neg hn]
    go_enter Try.func62, Try.ntmps62
    go_wp2
    go_ret
    refine ⟨?_, rfl⟩
    show Ending.returned (.int .u64 (n * 2)) = Ending.returned (.int .u64 (max n 0 * 2))
    congr 2; omega

end Go.Proofs.Ytnjmekjaingniaa

/-
  The walks of the document's answers for numbers: Num, Eight.
-/
namespace Go.Proofs.Ytnjmekjaingniaa
open Go.RowKit
set_option linter.unusedVariables false

set_option maxRecDepth 100000 in
set_option maxHeartbeats 800000 in
theorem rnum_any (x : Nat) (w : World) (hx : (x : Int) ≤ 18446744073709551615) :
    Calls Try.prog 61 #[.int .u64 (x : Int)] w fun e w' => ∃ s : ByteArray, e = .returned (.string s) ∧ Hid (s.data.toList = numB x) ∧ Up w w' := by
  go_enter Try.func61, Try.ntmps61
  go_wp2
  go_loopw [0, 3] (fun q v wr => ∃ (m : Nat) (pre : List UInt8), q = .int .u64 (m : Int) ∧ (m : Int) ≤ 18446744073709551615 ∧ wr.ownsRow w.heap.size 5 1 v pre.length (bvs pre) ∧ Hid (pre ++ numB m = numB x) ∧ Up w wr)
    (fun q _ _ => (intOf q).toNat)
  case atStart => exact ⟨x, [], rfl, hx, World.ownsRow_nil _ _ _ _, rfl, Up.refl _⟩
  case round =>
    obtain ⟨m, pre, rfl, hm, hown, hp, hu⟩ := hrel
    have hbd : pre.length ≤ 10 := by
      have := congrArg List.length hp.out
      have h2 := numB_ten (n := x) (by omega)
      rw [List.length_append] at this; omega
    by_cases hlt : m < 128
    · have hb : Value.int .u8 (m : Int) = bv (UInt8.ofNat m) := by rw [bv_ofNat]; congr 1; omega
      have HB := Lib.hid hb; clear hb
      go_wp2_with (at_builtin; refine wpList_append_rd _ bytesT (news := bvs [UInt8.ofNat m]) (hown.alloc _) (Rd.boxb _ _ HB.out) (bvs_one _) (by omega) (by omega) (by simp; have := hu.size; omega) rfl rfl rfl rfl ?_; intro v2 w2 hown2 hg2 hat2; obtain ⟨A2, c2, rfl⟩ := own_form hown2; have hcv := run_str (l := pre ++ [UInt8.ofNat m]) c2 (by rw [bvs_append]; exact Rd.own hown2))
      go_ret
      refine ⟨_, rfl, ?_, hu.alloc _ |>.grown hg2 (fun k hk => (hown.lt k hk).1)⟩
      show _ = _
      rw [← hp.out, numB_lo hlt]
    · have HB := Lib.hid (put_byte m)
      go_wp2_with (at_builtin; refine wpList_append_rd _ bytesT (news := bvs [UInt8.ofNat (m % 128 + 128)]) (hown.alloc _) (Rd.boxb _ _ HB.out) (bvs_one _) (by omega) (by omega) (by simp; have := hu.size; omega) rfl rfl rfl rfl ?_; intro v2 w2 hown2 hg2 hat2)
      go_roundw
      case rel =>
        refine ⟨m / 128, pre ++ [UInt8.ofNat (m % 128 + 128)], by go_num, by omega, ?_, ?_, hu.alloc _ |>.grown hg2 (fun k hk => (hown.lt k hk).1)⟩
        · rw [bvs_append, List.length_append]; exact hown2
        · show _ = _; rw [← hp.out, numB_hi hlt]; simp
      case measure => simp [intOf]; omega


end Go.Proofs.Ytnjmekjaingniaa

/-
  The walks of the document's answers for items: Key, May, Equal; of the law's Some.
-/
namespace Go.Proofs.Ytnjmekjaingniaa
open Go.RowKit
set_option linter.unusedVariables false
set_option linter.unusedSimpArgs false

end Go.Proofs.Ytnjmekjaingniaa

/-
  The walk of clepsydraref5.Bytes.
-/
namespace Go.Proofs.Ytnjmekjaingniaa
open Go.RowKit
set_option linter.unusedVariables false
set_option linter.unusedSimpArgs false

set_option maxRecDepth 100000 in
set_option maxHeartbeats 1600000 in
theorem rbytes_any (Q : Option Addr) (m d : Nat) (l : List It) (w : World) (hq : Rd w w.heap.size 5 Q m (itcs l)) (hm : m ≤ 2000) :
    Calls Try.prog 35 #[.slice Q m d] w fun e w' => ∃ s : ByteArray, e = .returned (.string s) ∧ Hid (s.data.toList = itemsB l) ∧ Up w w' := by
  have HL := Lib.hid hq.ilen
  go_enter Try.func35, Try.ntmps35
  go_wp2_with fail
  refine (rnum_any m _ (by omega)).mono ?_
  rintro e w1 ⟨s0, rfl, hs0, hu1⟩
  go_wp2_with fail
  go_loopw [3, 4] (fun sv i wr => ∃ (k : Nat) (L : List UInt8), i = .int .i64 (k : Int) ∧ sv = .string (tx L) ∧ k ≤ m ∧ Hid (L = numB m ++ (l.take k).flatMap itB) ∧ L.length ≤ 10 + 32 * k ∧ Up w wr) (fun _ i _ => m - (intOf i).toNat)
  case atStart =>
    refine ⟨0, numB m, rfl, ?_, by omega, by show _ = _; simp, by have := numB_ten (n := m) (by omega); omega, hu1⟩
    rw [tx_of hs0.out]
  case round =>
    obtain ⟨k, L, rfl, rfl, hk, hs, hss, hu⟩ := hrel
    by_cases hlt : k < m
    · obtain ⟨b, o, i, rfl, hb, hik, c0, c1, c2, c3, c4⟩ := (hq.stay (Nat.le_refl _) hu).item_at hlt
      have HI := Lib.hid hik
      clear hik
      go_wp2_with fail
      have hWw : Up w (wr.alloc (.cells #[.int .i64 i.s.toInt, .int .i64 i.k.toInt, .int .u64 (i.t.toNat : Int), .int .u64 (i.v.toNat : Int), .int .i64 i.x.toInt] 25)) := hu.alloc _
      generalize hW : wr.alloc (.cells #[.int .i64 i.s.toInt, .int .i64 i.k.toInt, .int .u64 (i.t.toNat : Int), .int .u64 (i.v.toNat : Int), .int .i64 i.x.toInt] 25) = W at *
      have hg := item_held wr i hW
      generalize wr.heap.size = g5 at *
      clear hW c0 c1 c2 c3 c4
      have HC := two_str i.s.toInt i.k.toInt
      have hn1 := numB_ten i.t.toNat_lt
      have hn2 := numB_ten i.v.toNat_lt
      have hsl := signN_lt i.x.toInt (i64_bd i.x).1 (i64_bd i.x).2
      have hn3 := numB_ten hsl
      apply Rg.region_up _ (by kernel_rfl) (by kernel_rfl) hg
      · intro QN hQN
        iterate 7 (apply Rg.RK.ok; (· intro vs w1 hS; go_simp; with_reducible rfl); (· rfl); simp only [Act.put, List.setIfInBounds_toArray, List.set_cons_zero, List.set_cons_succ, Nat.reduceAdd])
        apply Rg.RK.opn (fun v W1 => ∃ g, v = .slice (some ⟨g, 0, none⟩) 2 2 ∧ W1.cell? ⟨g, 0, none⟩ = some (.int .u8 (IntKind.u8.wrap (i.s.toInt))) ∧ W1.cell? ⟨g, 1, none⟩ = some (.int .u8 (IntKind.u8.wrap (i.k.toInt)))) Rg.ob [] []
        · rintro v W1 W2 ⟨g, rfl, h0, h1⟩ hs
          exact ⟨g, rfl, sta_some hs h0 (.inr rfl), sta_some hs h1 (.inr rfl)⟩
        · rfl
        · intro vs w1 hK hS _ K hKK
          go_simp
          refine hKK.out _ _ ⟨w1.heap.size, rfl, by simp [World.cell?_alloc_at _ _ _ _ rfl], by simp [World.cell?_alloc_at _ _ _ _ rfl]⟩ (Rg.Keeps.of_up ((Up.refl _).alloc _)) ?_
          rintro g rfl
          exact ⟨by simp, .inl (Nat.le_refl _)⟩
        simp only [Act.put, List.setIfInBounds_toArray, List.set_cons_zero, List.set_cons_succ, Nat.reduceAdd]
        apply Rg.RK.okU [7]
        · intro vs w1 hS hf
          obtain ⟨⟨g, hv, h0, h1⟩, -⟩ := hf
          rw [hv]
          go_simp
          with_reducible rfl
        · rfl
        simp only [Act.put, List.setIfInBounds_toArray, List.set_cons_zero, List.set_cons_succ, Nat.reduceAdd]
        (apply Rg.RK.ok; (· intro vs w1 hS; go_simp; rw [if_neg (by simp [tx_size, cc_length]; omega), tx_append]); (· rfl); simp only [Act.put, List.setIfInBounds_toArray, List.set_cons_zero, List.set_cons_succ, Nat.reduceAdd])
        iterate 2 (apply Rg.RK.ok; (· intro vs w1 hS; go_simp; with_reducible rfl); (· rfl); simp only [Act.put, List.setIfInBounds_toArray, List.set_cons_zero, List.set_cons_succ, Nat.reduceAdd])
        apply Rg.RK.call (.string (tx (numB i.t.toNat))) []
        · rfl
        · intro vs w1 hK hS _ K hKK
          go_simp
          refine (rnum_any _ _ (by have := i.t.toNat_lt; omega)).mono ?_
          rintro e w2 ⟨s1, rfl, hs1, hu1⟩
          rw [tx_of hs1.out]
          exact hKK.out _ hu1
        simp only [Act.put, List.setIfInBounds_toArray, List.set_cons_zero, List.set_cons_succ, Nat.reduceAdd]
        (apply Rg.RK.ok; (· intro vs w1 hS; go_simp; rw [if_neg (by simp [tx_size, cc_length]; omega), tx_append]); (· rfl); simp only [Act.put, List.setIfInBounds_toArray, List.set_cons_zero, List.set_cons_succ, Nat.reduceAdd])
        iterate 2 (apply Rg.RK.ok; (· intro vs w1 hS; go_simp; with_reducible rfl); (· rfl); simp only [Act.put, List.setIfInBounds_toArray, List.set_cons_zero, List.set_cons_succ, Nat.reduceAdd])
        apply Rg.RK.call (.string (tx (numB i.v.toNat))) []
        · rfl
        · intro vs w1 hK hS _ K hKK
          go_simp
          refine (rnum_any _ _ (by have := i.v.toNat_lt; omega)).mono ?_
          rintro e w2 ⟨s1, rfl, hs1, hu1⟩
          rw [tx_of hs1.out]
          exact hKK.out _ hu1
        simp only [Act.put, List.setIfInBounds_toArray, List.set_cons_zero, List.set_cons_succ, Nat.reduceAdd]
        (apply Rg.RK.ok; (· intro vs w1 hS; go_simp; rw [if_neg (by simp [tx_size, cc_length]; omega), tx_append]); (· rfl); simp only [Act.put, List.setIfInBounds_toArray, List.set_cons_zero, List.set_cons_succ, Nat.reduceAdd])
        iterate 2 (apply Rg.RK.ok; (· intro vs w1 hS; go_simp; with_reducible rfl); (· rfl); simp only [Act.put, List.setIfInBounds_toArray, List.set_cons_zero, List.set_cons_succ, Nat.reduceAdd])
        apply Rg.RK.call (.int .u64 (signN i.x.toInt : Int)) []
        · rfl
        · intro vs w1 hK hS _ K hKK
          go_simp
          refine (rsign_any _ _ (i64_bd i.x).1 (i64_bd i.x).2).mono ?_
          rintro e w2 ⟨rfl, rfl⟩
          exact hKK.out _ (Up.refl _)
        simp only [Act.put, List.setIfInBounds_toArray, List.set_cons_zero, List.set_cons_succ, Nat.reduceAdd]
        apply Rg.RK.call (.string (tx (numB (signN i.x.toInt)))) []
        · rfl
        · intro vs w1 hK hS _ K hKK
          go_simp
          refine (rnum_any _ _ (by omega)).mono ?_
          rintro e w2 ⟨s1, rfl, hs1, hu1⟩
          rw [tx_of hs1.out]
          exact hKK.out _ hu1
        simp only [Act.put, List.setIfInBounds_toArray, List.set_cons_zero, List.set_cons_succ, Nat.reduceAdd]
        (apply Rg.RK.ok; (· intro vs w1 hS; go_simp; rw [if_neg (by simp [tx_size, cc_length]; omega), tx_append]); (· rfl); simp only [Act.put, List.setIfInBounds_toArray, List.set_cons_zero, List.set_cons_succ, Nat.reduceAdd])
        (apply Rg.RK.ok; (· intro vs w1 hS; go_simp; with_reducible rfl); (· rfl); simp only [Act.put, List.setIfInBounds_toArray, List.set_cons_zero, List.set_cons_succ, Nat.reduceAdd])
        apply Rg.RK.fin []
        intro vs w1 hK hS _
        refine hQN.out _ _ ?_
        clear hQN
        have hUW : Up w w1 := hWw.trans (keeps_up hK)
        clear hg HC hK hS
        go_wp2_with fail
        go_roundw
        case rel =>
          have hkl : k < l.length := by have := HL.out; omega
          have htk : l.take (k + 1) = l.take k ++ [i] := by
            rw [List.take_succ_eq_append_getElem hkl]
            have := HI.out
            rw [List.getElem?_eq_getElem hkl] at this
            injection this with this
            rw [this]
          refine ⟨k + 1, _, by go_num, rfl, by omega, ?_, ?_, hUW⟩
          · show _ = _
            rw [htk, List.flatMap_append, hs.out]
            simp [cc, itB]
          · simp only [cc_length, List.length_cons, List.length_nil]; omega
        case measure => simp [intOf]; omega
      · kernel_rfl
    · have hkm : k = m := by omega
      have hlm : l.take k = l := by rw [List.take_of_length_le (by have := HL.out; omega)]
      go_wp2_with fail
      go_ret
      refine ⟨_, rfl, ?_, hu⟩
      show _ = _
      rw [tx_list, hs.out, hlm, itemsB, HL.out]
end Go.Proofs.Ytnjmekjaingniaa

/-
  The walk of frame.Take.
-/
namespace Go.Proofs.Ytnjmekjaingniaa
open Go.RowKit
set_option linter.unusedVariables false
set_option linter.unusedSimpArgs false

/-- the length that a head tells -/
def headN (h : List UInt8) : Nat := (h.getD 1 0).toNat * 65536 + (h.getD 2 0).toNat * 256 + (h.getD 3 0).toNat
/-- what stands at the beginning of r: the error, the kind, the body, how many bytes -/
def takeR (r : List UInt8) : Nat × Nat × List UInt8 × Nat :=
  if r.length < 8 then (4, 0, [], 0)
  else if openE (r.take 8) ≠ 0 then (openE (r.take 8), 0, [], 0)
  else if (r.getD 0 0).toNat < 1 ∨ 100 < (r.getD 0 0).toNat ∨ 60000 < headN r then (3, 0, [], 0)
  else if r.length - 8 < headN r + 4 then (4, 0, [], 0)
  else if openE ((r.drop 8).take (headN r + 4)) ≠ 0 then (openE ((r.drop 8).take (headN r + 4)), 0, [], 0)
  else (0, (r.getD 0 0).toNat, (r.drop 8).take (headN r), headN r + 12)
/-- Take: the error, the kind, the body, where it ends -/
def takeF (l : List UInt8) (at_ : Int) : Nat × Nat × List UInt8 × Int :=
  if at_ < 0 ∨ (l.length : Int) < at_ then (1, 0, [], 0)
  else ((takeR (l.drop at_.toNat)).1, (takeR (l.drop at_.toNat)).2.1, (takeR (l.drop at_.toNat)).2.2.1, if (takeR (l.drop at_.toNat)).1 = 0 then at_ + (takeR (l.drop at_.toNat)).2.2.2 else 0)

theorem i64_or (a b : Nat) (ha : a < 4611686018427387904) (hb : b < 4611686018427387904) : bits .or .i64 (a : Int) (b : Int) = ((a ||| b : Nat) : Int) := by
  have hlt : a ||| b < 2 ^ 62 := Nat.or_lt_two_pow ha hb
  show IntKind.i64.wrap ((BitVec.ofInt 64 (a : Int) ||| BitVec.ofInt 64 (b : Int)).toNat : Int) = _
  rw [BitVec.toNat_or, BitVec.ofInt_natCast, BitVec.ofInt_natCast, BitVec.toNat_ofNat, BitVec.toNat_ofNat, Nat.mod_eq_of_lt (by omega), Nat.mod_eq_of_lt (by omega), IntKind.wrap_i64]
  omega
/-- the bytes of a length put together -/
theorem or_head (x1 x2 x3 : Nat) (h1 : x1 < 256) (h2 : x2 < 256) (h3 : x3 < 256) : bits .or .i64 (bits .or .i64 ((x1 : Int) * 65536) ((x2 : Int) * 256)) (x3 : Int) = ((x1 * 65536 + x2 * 256 + x3 : Nat) : Int) := by
  have e1 : (x1 : Int) * 65536 = ((x1 * 65536 : Nat) : Int) := by omega
  have e2 : (x2 : Int) * 256 = ((x2 * 256 : Nat) : Int) := by omega
  have a1 : x1 * 65536 ||| x2 * 256 = x1 * 65536 + x2 * 256 := by
    have := Nat.two_pow_add_eq_or_of_lt (i := 16) (b := x2 * 256) (by omega) x1
    rw [show 2 ^ 16 = 65536 from rfl, Nat.mul_comm 65536] at this
    exact this.symm
  have a2 : (x1 * 65536 + x2 * 256) ||| x3 = x1 * 65536 + x2 * 256 + x3 := by
    have := Nat.two_pow_add_eq_or_of_lt (i := 8) (b := x3) (by omega) (x1 * 256 + x2)
    rw [show 2 ^ 8 * (x1 * 256 + x2) = x1 * 65536 + x2 * 256 by omega] at this
    exact this.symm
  rw [e1, e2, i64_or _ _ (by omega) (by omega), a1, i64_or _ _ (by omega) (by omega), a2]
theorem take_getD (r : List UInt8) {k j : Nat} (h : j < k) : (r.take k).getD j 0 = r.getD j 0 := by
  simp only [List.getD_eq_getElem?_getD, List.getElem?_take, if_pos h]
/-- the four bytes of a head, in whatever grows out of that world -/
theorem four_held {w : World} {base n c : Nat} {A : Option Addr} {l : List UInt8} (h : OwnB w base A n c l) (hn : n = 4) : ∃ g, A = some ⟨g, 0, none⟩ ∧ ∀ W, Up w W →
    W.cell? ⟨g, 0, none⟩ = some (.int .u8 ((l.getD 0 0).toNat : Int)) ∧ W.cell? ⟨g, 1, none⟩ = some (.int .u8 ((l.getD 1 0).toNat : Int)) ∧ W.cell? ⟨g, 2, none⟩ = some (.int .u8 ((l.getD 2 0).toNat : Int)) ∧ W.cell? ⟨g, 3, none⟩ = some (.int .u8 ((l.getD 3 0).toNat : Int)) := by
  obtain ⟨g, rfl, _, hg⟩ := own_some h (by omega)
  refine ⟨g, rfl, fun W hW => ?_⟩
  have got : ∀ j, j < 4 → W.cell? ⟨g, j, none⟩ = some (.int .u8 ((l.getD j 0).toNat : Int)) := fun j hj => by
    obtain ⟨b, o, e, hb, hc⟩ := h.rd.byte (k := j) (by omega)
    injection e with e
    injection e with e1 e2
    subst e1; subst e2
    rw [Nat.zero_add] at hc
    exact (hW.cell (p := ⟨g, j, none⟩) hg).trans hc
  exact ⟨got 0 (by omega), got 1 (by omega), got 2 (by omega), got 3 (by omega)⟩

/-- what Take comes to: shut to the walk -/
def TkPost (t : Nat × Nat × List UInt8 × Nat) (k : Nat) (w : World) (e : Ending) (w' : World) : Prop :=
  ∃ A' n' c', e = .returned (.tuple #[.int .i64 (t.2.1 : Int), .slice A' n' c', .int .i64 (if t.1 = 0 then (k : Int) + t.2.2.2 else 0), .int .i64 (t.1 : Int)]) ∧ OwnB w' w.heap.size A' n' c' t.2.2.1 ∧ Up w w'
theorem TkPost.bad {r : Nat × Nat × List UInt8 × Nat} {E k : Nat} {w w' : World} (h : r = (E, 0, [], 0)) (hE : E ≠ 0) (hn : OwnB w' w.heap.size none 0 0 []) (hu : Up w w') : TkPost r k w (.returned (.tuple #[.int .i64 0, .slice none 0 0, .int .i64 0, .int .i64 (E : Int)])) w' := by
  subst h
  exact ⟨none, 0, 0, by simp [hE], hn, hu⟩

set_option maxRecDepth 100000 in
set_option maxHeartbeats 3200000 in
theorem ftake_core (A : Option Addr) (n c : Nat) (l : List UInt8) (k : Nat) (w : World) (hr : Rd w w.heap.size 1 A n (bvs l)) (hn : n ≤ 549755813888) (hc : n ≤ c) (hk : k ≤ n) :
    Calls Try.prog 63 #[.slice A n c, .int .i64 (k : Int)] w (TkPost (takeR (l.drop k)) k w) := by
  have nil0 : ∀ w0, OwnB w0 w.heap.size none 0 0 [] := fun w0 => World.ownsRow_nil _ _ _ _
  have NIL := Lib.hid nil0
  clear nil0
  have CUT := cut_from_b
  have hd := hr.bfrom (k := k) hk hc
  have HL : Hid ((l.drop k).length = n - k) := by show _ = _; have := hr.blen; rw [List.length_drop, this]
  generalize l.drop k = r at *
  have g0 : ¬ ((n : Int) < k) := by omega
  have g1 : (k : Int) ≤ n := by omega
  by_cases h8 : n - k < 8
  · have hv : takeR r = (4, 0, [], 0) := by unfold takeR; rw [if_pos (by rw [HL.out]; exact h8)]
    have HV := Lib.hid hv
    have g2 : (n : Int) - k < 8 := by omega
    clear hv
    go_enter Try.func63, Try.ntmps63
    go_wp2_with fail
    refine bodyPost_ret (v := .tuple #[.int .i64 0, .slice none 0 0, .int .i64 0, .int .i64 4]) (by simp [results, Try.results63, go_sem]) rfl ?_
    exact .bad (E := 4) HV.out (by omega) (NIL.out _) (Up.refl _)
  · have g2 : ¬ ((n : Int) - k < 8) := by omega
    have g3 : (8 : Int) ≤ (c : Int) - k := by omega
    have g4 : decide ((k : Int) < 0) = false := by simp
    have g5 : decide (((n - k : Nat) : Int) < 8) = false := by simp; omega
    have h84 := hd.bto (k := 8) (by omega)
    by_cases hE : openE (r.take 8) = 0
    · have hL : openL (r.take 8) = r.take 4 := by
        have hl8 : (r.take 8).length - 4 = 4 := by rw [List.length_take, HL.out]; omega
        unfold openL; rw [if_pos hE, hl8, List.take_take]; rfl
      have hb0 : (r.getD 0 0).toNat < 256 := (r.getD 0 0).toNat_lt
      have hb1 : (r.getD 1 0).toNat < 256 := (r.getD 1 0).toNat_lt
      have hb2 : (r.getD 2 0).toNat < 256 := (r.getD 2 0).toNat_lt
      have hb3 : (r.getD 3 0).toNat < 256 := (r.getD 3 0).toNat_lt
      have hT : takeR r = if (r.getD 0 0).toNat < 1 ∨ 100 < (r.getD 0 0).toNat ∨ 60000 < headN r then (3, 0, [], 0)
          else if r.length - 8 < headN r + 4 then (4, 0, [], 0)
          else if openE ((r.drop 8).take (headN r + 4)) ≠ 0 then (openE ((r.drop 8).take (headN r + 4)), 0, [], 0)
          else (0, (r.getD 0 0).toNat, (r.drop 8).take (headN r), headN r + 12) := by
        conv => lhs; unfold takeR
        rw [if_neg (by rw [HL.out]; exact h8), if_neg (by simpa using hE)]
      have hh : headN r = (r.getD 1 0).toNat * 65536 + (r.getD 2 0).toNat * 256 + (r.getD 3 0).toNat := rfl
      rw [hh, HL.out] at hT
      have CUT8 : ∀ W : World, (Instr.slice 26 (.slice (cutA A c k 1) (n - k) (c - k)) (some (.int .i64 8)) none none).run Try.prog W = .ok (.slice (cutA (cutA A c k 1) (c - k) 8 1) (n - k - 8) (c - k - 8)) W := fun W => cut_from_b W (cutA A c k 1) (n - k) (c - k) .i64 8 (by omega) (by omega)
      have hd8 := hd.bfrom (k := 8) (cap := c - k) (by omega) (by omega)
      have hl8 : (r.drop 8).length = n - k - 8 := by rw [List.length_drop, HL.out]
      have HE := Lib.hid hE
      have HO := Lib.hid hL
      have HT := Lib.hid hT
      have HL8 := Lib.hid hl8
      clear hL hE hT hh hl8
      go_enter Try.func63, Try.ntmps63
      go_wp2_with fail
      refine (open_any _ 8 _ (r.take 8) w h84 (by omega) (by omega)).mono ?_
      rintro e w1 ⟨A1, n1, c1, rfl, ho1, hu1⟩
      rw [HO.out] at ho1
      rw [HE.out]
      have hn1 : n1 = 4 := by have := ho1.len; rw [this, List.length_take, HL.out]; omega
      subst hn1
      obtain ⟨g, rfl, hc4⟩ := four_held ho1 rfl
      rw [take_getD r (by omega), take_getD r (by omega), take_getD r (by omega), take_getD r (by omega)] at hc4
      clear ho1
      generalize (r.getD 0 0).toNat = x0 at *
      generalize (r.getD 1 0).toNat = x1 at *
      generalize (r.getD 2 0).toNat = x2 at *
      generalize (r.getD 3 0).toNat = x3 at *
      generalize r.drop 8 = r2 at *
      obtain ⟨c0, -, -, -⟩ := hc4 w1 (Up.refl _)
      go_wp2_with fail
      have v1 : IntKind.i64.wrap (x1 : Int) = x1 := IntWalk.i64_in _ (by omega)
      have v2 : IntKind.i64.wrap (x2 : Int) = x2 := IntWalk.i64_in _ (by omega)
      have v3 : IntKind.i64.wrap (x3 : Int) = x3 := IntWalk.i64_in _ (by omega)
      have v4 : IntKind.i64.wrap ((x1 : Int) * 65536) = (x1 : Int) * 65536 := IntWalk.i64_in _ (by omega)
      have v5 : IntKind.i64.wrap ((x2 : Int) * 256) = (x2 : Int) * 256 := IntWalk.i64_in _ (by omega)
      have v6 := or_head x1 x2 x3 hb1 hb2 hb3
      have hNb : x1 * 65536 + x2 * 256 + x3 < 16777216 := by omega
      generalize hN : x1 * 65536 + x2 * 256 + x3 = N at v6 hNb
      have hT := HT.out
      rw [hN] at hT
      have HT2 := Lib.hid hT
      clear hN hT HT
      apply Rg.region_up _ (by kernel_rfl) (by kernel_rfl) hc4
      · intro QN hQN
        iterate 17 (apply Rg.RK.ok; (· intro vs w1 hS; go_simp; with_reducible rfl); (· rfl); simp only [Act.put, List.setIfInBounds_toArray, List.set_cons_zero, List.set_cons_succ, Nat.reduceAdd])
        apply Rg.RK.fin []
        intro vs w1 hK hS _
        refine hQN.out _ _ ?_
        clear hQN
        have hu2 := hu1.trans (keeps_up hK)
        clear v1 v2 v3 v4 v5 v6 hc4 c0 hS
        have fail3 : ∀ (h : x0 < 1 ∨ 100 < x0 ∨ 60000 < N), takeR r = (3, 0, [], 0) := fun h => by rw [HT2.out, if_pos h]
        have F3 := Lib.hid fail3
        clear fail3
        by_cases hx1 : x0 < 1
        · have g6 : decide ((x0 : Int) < 1) = true := by simp; omega
          go_wp2_with fail
          refine bodyPost_ret (v := .tuple #[.int .i64 0, .slice none 0 0, .int .i64 0, .int .i64 3]) (by simp [results, Try.results63, go_sem]) rfl ?_
          exact .bad (E := 3) (F3.out (.inl hx1)) (by omega) (NIL.out _) hu2
        have g6 : decide ((x0 : Int) < 1) = false := by simp; omega
        by_cases hx2 : 100 < x0
        · have g7 : decide (100 < (x0 : Int)) = true := by simp; omega
          go_wp2_with fail
          refine bodyPost_ret (v := .tuple #[.int .i64 0, .slice none 0 0, .int .i64 0, .int .i64 3]) (by simp [results, Try.results63, go_sem]) rfl ?_
          exact .bad (E := 3) (F3.out (.inr (.inl hx2))) (by omega) (NIL.out _) hu2
        have g7 : decide (100 < (x0 : Int)) = false := by simp; omega
        by_cases hx3 : 60000 < N
        · have g8 : decide (60000 < (N : Int)) = true := by simp; omega
          go_wp2_with fail
          refine bodyPost_ret (v := .tuple #[.int .i64 0, .slice none 0 0, .int .i64 0, .int .i64 3]) (by simp [results, Try.results63, go_sem]) rfl ?_
          exact .bad (E := 3) (F3.out (.inr (.inr hx3))) (by omega) (NIL.out _) hu2
        have g8 : decide (60000 < (N : Int)) = false := by simp; omega
        by_cases hx4 : n - k - 8 < N + 4
        · have hv : takeR r = (4, 0, [], 0) := by rw [HT2.out, if_neg (by omega), if_pos hx4]
          have HV := Lib.hid hv
          clear hv
          go_wp2_with fail
          refine bodyPost_ret (v := .tuple #[.int .i64 0, .slice none 0 0, .int .i64 0, .int .i64 4]) (by simp [results, Try.results63, go_sem]) rfl ?_
          exact .bad (E := 4) HV.out (by omega) (NIL.out _) hu2
        have hdt := (hd8.bto (k := N + 4) (by omega)).up hu2
        by_cases hx5 : openE (r2.take (N + 4)) = 0
        · have hv : takeR r = (0, x0, r2.take N, N + 12) := by rw [HT2.out, if_neg (by omega), if_neg (by omega), if_neg (by simpa using hx5)]
          have hL5 : openL (r2.take (N + 4)) = r2.take N := by
            have hl5 : (r2.take (N + 4)).length - 4 = N := by rw [List.length_take, HL8.out]; omega
            unfold openL; rw [if_pos hx5, hl5, List.take_take, Nat.min_eq_left (by omega)]
          have HV := Lib.hid hv
          have H5 := Lib.hid hx5
          have HL5 := Lib.hid hL5
          clear hv hx5 hL5
          go_wp2_with fail
          refine (open_any _ (N + 4) _ _ w1 hdt (by omega) (by omega)).mono ?_
          rintro e w3 ⟨A3, n3, c3, rfl, ho3, hu3⟩
          rw [H5.out]
          rw [HL5.out] at ho3
          have ho4 := own_base ho3 hu2.size
          have hu4 := hu2.trans hu3
          clear ho3 hdt hd8 hd hr h84
          go_wp2_with fail
          refine bodyPost_ret (v := .tuple #[.int .i64 (x0 : Int), .slice A3 n3 c3, .int .i64 ((k : Int) + 4 + 4 + N + 4), .int .i64 0]) (by simp [results, Try.results63, go_sem]) rfl ?_
          rw [HV.out]
          refine ⟨A3, n3, c3, ?_, ho4, hu4⟩
          have e12 : (k : Int) + 4 + 4 + N + 4 = (k : Int) + ((N + 12 : Nat) : Int) := by omega
          rw [e12]; rfl
        · have hv : takeR r = (openE (r2.take (N + 4)), 0, [], 0) := by rw [HT2.out, if_neg (by omega), if_neg (by omega), if_pos hx5]
          have HV := Lib.hid hv
          clear hv
          go_wp2_with fail
          refine (open_any _ (N + 4) _ _ w1 hdt (by omega) (by omega)).mono ?_
          rintro e w3 ⟨A3, n3, c3, rfl, ho3, hu3⟩
          generalize openE (r2.take (N + 4)) = E5 at *
          have hE5 : ¬ (E5 : Int) = 0 := by omega
          have hu4 := hu2.trans hu3
          clear ho3 hdt hd8 hd hr h84
          go_wp2_with fail
          refine bodyPost_ret (v := .tuple #[.int .i64 0, .slice none 0 0, .int .i64 0, .int .i64 (E5 : Int)]) (by simp [results, Try.results63, go_sem]) rfl ?_
          exact .bad HV.out hx5 (NIL.out _) hu4
      · kernel_rfl
    · have hv : takeR r = (openE (r.take 8), 0, [], 0) := by unfold takeR; rw [if_neg (by rw [HL.out]; exact h8), if_pos hE]
      have HV := Lib.hid hv
      clear hv
      go_enter Try.func63, Try.ntmps63
      go_wp2_with fail
      refine (open_any _ 8 _ (r.take 8) w h84 (by omega) (by omega)).mono ?_
      rintro e w1 ⟨A1, n1, c1, rfl, ho1, hu1⟩
      generalize openE (r.take 8) = E5 at *
      have hE5 : ¬ (E5 : Int) = 0 := by omega
      clear ho1 h84 hd hr
      go_wp2_with fail
      refine bodyPost_ret (v := .tuple #[.int .i64 0, .slice none 0 0, .int .i64 0, .int .i64 (E5 : Int)]) (by simp [results, Try.results63, go_sem]) rfl ?_
      exact .bad HV.out hE (NIL.out _) hu1

set_option maxRecDepth 100000 in
set_option maxHeartbeats 1600000 in
theorem ftake_any (A : Option Addr) (n c : Nat) (l : List UInt8) (at_ : Int) (w : World) (hr : Rd w w.heap.size 1 A n (bvs l)) (hn : n ≤ 549755813888) (hc : n ≤ c) :
    Calls Try.prog 63 #[.slice A n c, .int .i64 at_] w fun e w' => ∃ A' n' c', e = .returned (.tuple #[.int .i64 ((takeF l at_).2.1 : Int), .slice A' n' c', .int .i64 (takeF l at_).2.2.2, .int .i64 ((takeF l at_).1 : Int)]) ∧ OwnB w' w.heap.size A' n' c' (takeF l at_).2.2.1 ∧ Up w w' := by
  have hl := hr.blen
  by_cases h0 : at_ < 0 ∨ (n : Int) < at_
  · have hv : takeF l at_ = (1, 0, [], 0) := by unfold takeF; rw [if_pos (by rw [← hl]; exact h0)]
    have HV := Lib.hid hv
    clear hv
    rcases h0 with h0 | h0
    · go_enter Try.func63, Try.ntmps63
      go_wp2_with fail
      refine bodyPost_ret (v := .tuple #[.int .i64 0, .slice none 0 0, .int .i64 0, .int .i64 1]) (by simp [results, Try.results63, go_sem]) rfl ?_
      rw [HV.out]
      exact ⟨none, 0, 0, rfl, World.ownsRow_nil _ _ _ _, Up.refl _⟩
    · have h1 : ¬ at_ < 0 := by omega
      have hd1 : decide (at_ < 0) = false := by simp; omega
      go_enter Try.func63, Try.ntmps63
      go_wp2_with fail
      refine bodyPost_ret (v := .tuple #[.int .i64 0, .slice none 0 0, .int .i64 0, .int .i64 1]) (by simp [results, Try.results63, go_sem]) rfl ?_
      rw [HV.out]
      exact ⟨none, 0, 0, rfl, World.ownsRow_nil _ _ _ _, Up.refl _⟩
  · obtain ⟨k, rfl⟩ := Int.eq_ofNat_of_zero_le (show 0 ≤ at_ by omega)
    have hv : takeF l (k : Int) = ((takeR (l.drop k)).1, (takeR (l.drop k)).2.1, (takeR (l.drop k)).2.2.1, if (takeR (l.drop k)).1 = 0 then (k : Int) + (takeR (l.drop k)).2.2.2 else 0) := by
      unfold takeF; rw [if_neg (by rw [← hl]; exact h0)]; rfl
    refine (ftake_core A n c l k w hr hn hc (by omega)).mono ?_
    rintro e w' ⟨A', n', c', rfl, ho, hu⟩
    rw [hv]
    exact ⟨A', n', c', rfl, ho, hu⟩
end Go.Proofs.Ytnjmekjaingniaa

/-
  The walks of the document's answers for sums and frames: Sum, Seal, Open, FrameOk, Frame.
-/
namespace Go.Proofs.Ytnjmekjaingniaa
open Go.RowKit
set_option linter.unusedVariables false
set_option linter.unusedSimpArgs false

theorem u32_xor_poly (z : Nat) (hz : z < 4294967296) : bits .xor .u32 ((z : Int) / 2) 2197175160 = (((z / 2) ^^^ 2197175160 : Nat) : Int) := by
  rw [show (z : Int) / 2 = ((z / 2 : Nat) : Int) by omega, show (2197175160 : Int) = ((2197175160 : Nat) : Int) from rfl, u32_xor_nat _ _ (by omega) (by omega)]

set_option maxRecDepth 100000 in
set_option maxHeartbeats 1600000 in
theorem rsum_any (l : List UInt8) (w : World) (hn : l.length ≤ 9223372036854775807) :
    Calls Try.prog 85 #[.string (tx l)] w fun e w' => e = .returned (.int .u32 (sumC l : Int)) ∧ w = w' := by
  have hs := tx_list l
  have hsz : (tx l).size ≤ 9223372036854775807 := by rw [tx_size]; exact hn
  have HS := Lib.hid hs
  have HL := Lib.hid (tx_size l)
  clear hs
  generalize tx l = s at *
  go_enter Try.func85, Try.ntmps85
  go_wp2_with fail
  go_loop [3, 4, 5] (fun q i _ => ∃ (k : Nat) (x : Nat), i = .int .i64 (k : Int) ∧ q = .int .u32 (x : Int) ∧ x < 4294967296 ∧ k ≤ s.size ∧ Hid (addC 4294967295 (l.take k) = x)) (fun _ i _ => s.size - (intOf i).toNat)
  case atStart => exact ⟨0, 4294967295, rfl, rfl, by omega, by omega, rfl⟩
  case round =>
    obtain ⟨k, x, rfl, rfl, hx, hk, hH⟩ := hrel
    by_cases hlt : k < s.size
    · have hgd := getD_str HS.out hlt
      have hq : l.take (k + 1) = l.take k ++ [l.getD k 0] := by
        have : k < l.length := by have := HL.out; omega
        rw [List.take_succ_eq_append_getElem this]; simp [List.getD, this]
      generalize l.getD k 0 = b0 at hgd hq
      have hxb : bits .xor .u32 (x : Int) (b0.toNat : Int) = ((x ^^^ b0.toNat : Nat) : Int) := by
        have := b0.toNat_lt
        rw [u32_xor_nat _ _ hx (by omega)]
      have hb256 := b0.toNat_lt
      have HQ := Lib.hid hq
      have hx0 := xorB_lt b0 hx
      clear hq
      go_wp2_with fail
      clear hxb
      generalize hz0 : x ^^^ b0.toNat = z0 at *
      have HZ := Lib.hid hz0
      clear hz0
      go_loop [3, 5] (fun q j => ∃ (z : Nat) (jj : Nat), j = .int .i64 (jj : Int) ∧ q = .int .u32 (z : Int) ∧ z < 4294967296 ∧ jj ≤ 8 ∧ Hid (crcN (8 - jj) z = crcN 8 z0)) (fun _ j => 8 - (intOf j).toNat)
      case atStart => exact ⟨z0, 0, rfl, rfl, hx0, by omega, rfl⟩
      case round =>
        obtain ⟨z, jj, rfl, rfl, hz, hj, hcz⟩ := hrel
        by_cases hlt2 : jj < 8
        · have ha := u32_and_one z hz
          have hp := u32_xor_poly z hz
          have hsl := crcS_lt hz
          by_cases hodd : z % 2 = 1
          · rw [hodd] at ha
            have hcs : crcS z = (z / 2) ^^^ 2197175160 := by unfold crcS; rw [if_pos hodd]
            rw [← hcs] at hp
            have hcz2 : crcN (8 - (jj + 1)) (crcS z) = crcN 8 z0 := by rw [← hcz.out, show 8 - jj = (8 - (jj + 1)) + 1 by omega]; rfl
            have HC := Lib.hid hcz2
            clear hcz2 hcs
            generalize crcS z = y at *
            go_wp2_with fail
            go_round
            case rel => exact ⟨y, jj + 1, by go_num, rfl, hsl, by omega, HC.out⟩
            case measure => simp [intOf]; omega
          · have h0 : z % 2 = 0 := by omega
            rw [h0] at ha
            have hcs : crcS z = z / 2 := by unfold crcS; rw [if_neg hodd]
            have hcz2 : crcN (8 - (jj + 1)) (z / 2) = crcN 8 z0 := by rw [← hcz.out, show 8 - jj = (8 - (jj + 1)) + 1 by omega, ← hcs]; rfl
            have HC := Lib.hid hcz2
            clear hcz2 hcs hp
            go_wp2_with fail
            go_round
            case rel => exact ⟨z / 2, jj + 1, by go_num, by go_num, by omega, by omega, HC.out⟩
            case measure => simp [intOf]; omega
        · have h8 : jj = 8 := by omega
          subst h8
          go_wp2_with fail
          go_round
          case rel =>
            refine ⟨k + 1, z, by go_num, rfl, hz, by omega, ?_⟩
            show _ = _
            rw [HQ.out, addC_append, hH.out]
            show crcN 8 (x ^^^ b0.toNat) = z
            rw [HZ.out, ← hcz.out]; rfl
          case measure => simp [intOf]; omega
    · have hk' : k = l.length := by have := HL.out; omega
      rw [hk', List.take_of_length_le (Nat.le_refl _)] at hH
      have hnot := u32_not x hx
      have hv : sumC l = 4294967295 - x := by unfold sumC; rw [hH.out]
      have HV := Lib.hid hv
      clear hv
      go_wp2_with fail
      go_ret
      rw [HV.out]
      exact ⟨rfl, rfl⟩

theorem four_str (x0 x1 x2 x3 : Value) (l : List UInt8) (hl : [x0, x1, x2, x3] = bvs l) (W : World) (g : Nat) (h0 : W.cell? ⟨g, 0, none⟩ = some x0) (h1 : W.cell? ⟨g, 1, none⟩ = some x1) (h2 : W.cell? ⟨g, 2, none⟩ = some x2) (h3 : W.cell? ⟨g, 3, none⟩ = some x3) :
    (convert 26 9 (.slice (some ⟨g, 0, none⟩) 4 4)).run Try.prog W = .ok (.string (tx l)) W := by
  refine run_str (B := g + 1) 4 ⟨by rw [← hl]; rfl, fun _ => ⟨g, 0, rfl, by omega, fun j u hj => ?_⟩⟩
  rw [← hl] at hj
  match j with
  | 0 => simp at hj; rw [← hj, Nat.zero_add, h0]
  | 1 => simp at hj; rw [← hj, Nat.zero_add, h1]
  | 2 => simp at hj; rw [← hj, Nat.zero_add, h2]
  | 3 => simp at hj; rw [← hj, Nat.zero_add, h3]
  | j + 4 => simp at hj
theorem sumB_v (y : Nat) (hy : y < 4294967296) : ([.int .u8 ((y : Int) % 256), .int .u8 ((y : Int) / 256 % 256), .int .u8 ((y : Int) / 65536 % 256), .int .u8 ((y : Int) / 16777216)] : List Value) = bvs (sumB y) := by
  have e1 : (y : Int) % 256 = ((y % 256 : Nat) : Int) := by omega
  have e2 : (y : Int) / 256 % 256 = ((y / 256 % 256 : Nat) : Int) := by omega
  have e3 : (y : Int) / 65536 % 256 = ((y / 65536 % 256 : Nat) : Int) := by omega
  have e4 : (y : Int) / 16777216 = ((y / 16777216 % 256 : Nat) : Int) := by omega
  simp only [bvs, sumB, List.map_cons, List.map_nil, bv_ofNat, e1, e2, e3, e4]

set_option maxRecDepth 100000 in
set_option maxHeartbeats 1600000 in
theorem rseal_any (l : List UInt8) (w : World) (hn : l.length ≤ 1099511627776) :
    Calls Try.prog 66 #[.string (tx l)] w fun e w' => e = .returned (.string (tx (sealB l))) ∧ Up w w' := by
  have hy := sumC_lt l
  have hb := sumB_v (sumC l) hy
  have hv : tx l ++ tx (sumB (sumC l)) = tx (sealB l) := tx_append' _ _
  have hz1 := tx_size l
  have hz2 := tx_size (sumB (sumC l))
  have hsl := sumB_len (sumC l)
  have hsz : ¬ (9223372036854775807 < (tx l).size + (tx (sumB (sumC l))).size) := by omega
  have FS := four_str _ _ _ _ _ hb
  have HV := Lib.hid hv
  clear hb hz1 hz2 hsl hv
  go_enter Try.func66, Try.ntmps66
  go_wp2_with fail
  refine (rsum_any l w (by omega)).mono ?_
  rintro e w1 ⟨rfl, rfl⟩
  generalize sumC l = y at *
  have hc : ∀ j, (w.alloc (.cells #[.int .u8 ((y : Int) % 256), .int .u8 ((y : Int) / 256 % 256), .int .u8 ((y : Int) / 65536 % 256), .int .u8 ((y : Int) / 16777216)] 5)).cell? ⟨w.heap.size, j, none⟩ = #[Value.int .u8 ((y : Int) % 256), .int .u8 ((y : Int) / 256 % 256), .int .u8 ((y : Int) / 65536 % 256), .int .u8 ((y : Int) / 16777216)][j]? := fun j => World.cell?_alloc_at _ _ _ _ rfl
  have FS1 := FS _ _ (hc 0) (hc 1) (hc 2) (hc 3)
  clear FS hc
  go_wp2_with fail
  go_ret
  rw [HV.out]
  exact ⟨rfl, (Up.refl _).alloc _⟩

theorem tx_take (l : List UInt8) (n : Nat) : (tx l).extract 0 n = tx (l.take n) := tx_of (by simp [tx_list])
set_option maxRecDepth 100000 in
set_option maxHeartbeats 1600000 in
theorem ropen_any (l : List UInt8) (w : World) (hn : l.length ≤ 1099511627776) :
    Calls Try.prog 67 #[.string (tx l)] w fun e w' => e = .returned (.tuple #[.string (tx (openL l)), .int .i64 (openE l : Int)]) ∧ Up w w' := by
  have hz := tx_size l
  by_cases h4 : l.length < 4
  · have hE : openE l = 4 := by unfold openE; rw [if_pos h4]
    have hL : openL l = [] := by unfold openL; rw [hE]; rfl
    have HE := Lib.hid hE
    have HO := Lib.hid hL
    clear hE hL
    have h4' : (tx l).size < 4 := by omega
    clear hz
    go_enter Try.func67, Try.ntmps67
    go_wp2_with fail
    go_ret2
    rw [HE.out, HO.out]
    exact ⟨rfl, Up.refl _⟩
  · have hx := tx_take l (l.length - 4)
    have h4' : (4 : Int) ≤ (tx l).size := by omega
    have hle : (tx l).size - 4 = l.length - 4 := by omega
    have hd : decide (((l.length : Nat) : Int) - 4 < 0) = false := by simp; omega
    by_cases hq : sealB (l.take (l.length - 4)) = l
    · have hE : openE l = 0 := by unfold openE; rw [if_neg h4, if_pos hq]
      have hL : openL l = l.take (l.length - 4) := by unfold openL; rw [hE]; rfl
      have HE := Lib.hid hE
      have HO := Lib.hid hL
      have hb := tx_beq hq
      clear hE hL hq
      go_enter Try.func67, Try.ntmps67
      go_wp2_with fail
      refine (rseal_any _ w (by simp; omega)).mono ?_
      rintro e w1 ⟨rfl, hu1⟩
      go_wp2_with fail
      go_ret2
      rw [HE.out, HO.out, ← hx]
      exact ⟨rfl, hu1⟩
    · have hE : openE l = 5 := by unfold openE; rw [if_neg h4, if_neg hq]
      have hL : openL l = [] := by unfold openL; rw [hE]; rfl
      have HE := Lib.hid hE
      have HO := Lib.hid hL
      have hb := tx_bne hq
      clear hE hL hq
      go_enter Try.func67, Try.ntmps67
      go_wp2_with fail
      refine (rseal_any _ w (by simp; omega)).mono ?_
      rintro e w1 ⟨rfl, hu1⟩
      go_wp2_with fail
      go_ret2
      rw [HE.out, HO.out]
      exact ⟨rfl, hu1⟩

set_option maxRecDepth 100000 in
set_option maxHeartbeats 1600000 in
theorem frameok_any (kind : Int) (n : Nat) (w : World) (hn : n ≤ 9223372036854775807) :
    Calls Try.prog 68 #[.int .i64 kind, .int .i64 (n : Int)] w fun e w' => e = .returned (.int .i64 (putE kind n : Int)) ∧ w = w' := by
  by_cases h1 : kind < 1
  · have hE : Hid (putE kind n = 1) := by show _ = _; unfold putE; rw [if_pos (.inl h1)]
    go_enter Try.func68, Try.ntmps68
    go_wp2_with fail
    go_ret
    rw [hE.out]; exact ⟨rfl, rfl⟩
  by_cases h2 : 100 < kind
  · have hE : Hid (putE kind n = 1) := by show _ = _; unfold putE; rw [if_pos (.inr h2)]
    go_enter Try.func68, Try.ntmps68
    go_wp2_with fail
    go_ret
    rw [hE.out]; exact ⟨rfl, rfl⟩
  by_cases h3 : 60000 < n
  · have hE : Hid (putE kind n = 2) := by show _ = _; unfold putE; rw [if_neg (by omega), if_pos h3]
    go_enter Try.func68, Try.ntmps68
    go_wp2_with fail
    go_ret
    rw [hE.out]; exact ⟨rfl, rfl⟩
  · have hE : Hid (putE kind n = 0) := by show _ = _; unfold putE; rw [if_neg (by omega), if_neg h3]
    go_enter Try.func68, Try.ntmps68
    go_wp2_with fail
    go_ret
    rw [hE.out]; exact ⟨rfl, rfl⟩

set_option maxRecDepth 100000 in
set_option maxHeartbeats 1600000 in
/-- Frame, of what may be -/
theorem rframe_any (kind : Int) (l : List UInt8) (w : World) (hk : 1 ≤ kind ∧ kind ≤ 100) (hn : l.length ≤ 60000) :
    Calls Try.prog 39 #[.int .i64 kind, .string (tx l)] w fun e w' => e = .returned (.string (tx (frameB kind l))) ∧ Up w w' := by
  obtain ⟨hk1, hk2⟩ := hk
  have hh : ([.int .u8 kind, .int .u8 ((l.length : Int) / 65536), .int .u8 ((l.length : Int) / 256), .int .u8 ((l.length : Int) % 256)] : List Value) = bvs (headB kind l.length) := by
    have e0 : kind = kind % 256 := by omega
    have e1 : (l.length : Int) / 65536 = ((l.length / 65536 % 256 : Nat) : Int) := by omega
    have e2 : (l.length : Int) / 256 = ((l.length / 256 % 256 : Nat) : Int) := by omega
    have e3 : (l.length : Int) % 256 = ((l.length % 256 : Nat) : Int) := by omega
    simp only [bvs, headB, List.map_cons, List.map_nil, bv_ofNat, bv_byteOf, e1, e2, e3, ← e0]
  have hv : tx (sealB (headB kind l.length)) ++ tx (sealB l) = tx (frameB kind l) := tx_append' _ _
  have hz0 := tx_size l
  have hz1 := tx_size (sealB (headB kind l.length))
  have hz2 := tx_size (sealB l)
  rw [sealB_len] at hz1 hz2
  have hsz : ¬ (9223372036854775807 < (tx (sealB (headB kind l.length))).size + (tx (sealB l)).size) := by rw [hz1, hz2]; simp [headB]; omega
  have FS := four_str _ _ _ _ _ hh
  have hc : ∀ j, (w.alloc (.cells #[.int .u8 kind, .int .u8 ((l.length : Int) / 65536), .int .u8 ((l.length : Int) / 256), .int .u8 ((l.length : Int) % 256)] 5)).cell? ⟨w.heap.size, j, none⟩ = #[Value.int .u8 kind, .int .u8 ((l.length : Int) / 65536), .int .u8 ((l.length : Int) / 256), .int .u8 ((l.length : Int) % 256)][j]? := fun j => World.cell?_alloc_at _ _ _ _ rfl
  have FS1 := FS _ _ (hc 0) (hc 1) (hc 2) (hc 3)
  have hl4 : (headB kind l.length).length = 4 := rfl
  have HV := Lib.hid hv
  clear hv hz1 hz2 FS hc hh
  generalize hH : headB kind l.length = H at *
  have HH := Lib.hid hH
  clear hH
  generalize hN : l.length = N at *
  have HN := Lib.hid hN
  clear hN
  go_enter Try.func39, Try.ntmps39
  go_wp2_with fail
  refine (rseal_any H _ (by omega)).mono ?_
  rintro e w1 ⟨rfl, hu1⟩
  go_wp2_with fail
  refine (rseal_any l _ (by rw [HN.out]; omega)).mono ?_
  rintro e w2 ⟨rfl, hu2⟩
  go_wp2_with fail
  go_ret
  rw [HV.out]
  exact ⟨rfl, (((Up.refl _).alloc _).trans hu1).trans hu2⟩
end Go.Proofs.Ytnjmekjaingniaa

/-
  The walks of log.Batch, of the document's BatchMay and Batch.
-/
namespace Go.Proofs.Ytnjmekjaingniaa
open Go.RowKit
set_option linter.unusedVariables false
set_option linter.unusedSimpArgs false

set_option maxRecDepth 100000 in
set_option maxHeartbeats 1600000 in
theorem batch_any (A : Option Addr) (n c : Nat) (l : List It) (w : World) (hr : Rd w w.heap.size 5 A n (itcs l)) (hn : n ≤ 9223372036854775807) :
    Calls Try.prog 10 #[.slice A n c] w fun e w' => ∃ A' n' c', e = .returned (.tuple #[.slice A' n' c', .int .i64 (batE l : Int)]) ∧ OwnB w' w.heap.size A' n' c' (batB l) ∧ Up w w' := by
  have nil0 : ∀ w0, OwnB w0 w.heap.size none 0 0 [] := fun w0 => World.ownsRow_nil _ _ _ _
  have NIL := Lib.hid nil0
  clear nil0
  have HL := Lib.hid hr.ilen
  by_cases h0 : n = 0
  · have h0i : ((n : Int) == 0) = true := by rw [beq_iff_eq]; omega
    have hE : batE l = 1 := by unfold batE; rw [if_pos (by rw [← HL.out]; exact h0)]
    have hL : batB l = [] := by unfold batB; rw [hE, if_neg (by decide)]
    have HE := Lib.hid hE
    have HB := Lib.hid hL
    clear hE hL h0
    go_enter Try.func10, Try.ntmps10
    go_wp2_with fail
    go_ret2
    rw [HE.out, HB.out]
    exact ⟨none, 0, 0, rfl, NIL.out _, Up.refl _⟩
  · have h0i : ((n : Int) == 0) = false := by rw [beq_eq_false_iff_ne]; omega
    have hE0 : batE l = if bytesE l ≠ 0 then bytesE l else if 60000 < (itemsB l).length then 2 else 0 := by unfold batE; rw [if_neg (by rw [← HL.out]; exact h0)]
    have HE0 := Lib.hid hE0
    clear hE0
    go_enter Try.func10, Try.ntmps10
    go_wp2_with fail
    refine (bytes_any none 0 0 [] A n c l w Rd.empty hr (by omega) hn).mono ?_
    rintro e w2 ⟨D, dn, dc, rfl, hoD, hu2⟩
    obtain ⟨be, hbe⟩ : ∃ be, be = bytesE l := ⟨_, rfl⟩
    rw [← hbe] at HE0 ⊢
    by_cases hb0 : be = 0
    · have hby : bytesE l = 0 := by rw [← hbe]; exact hb0
      have h2k := itemsB_two l (bytesE_le hby)
      rw [bytesL_yes hby, List.nil_append] at hoD
      have hdl := hoD.rd
      have hdn := hdl.blen
      have c1 : ((be : Int) != 0) = false := by rw [bne_eq_false_iff_eq]; omega
      have c1b : ((be : Int) == 0) = true := by rw [beq_iff_eq]; omega
      have hE1 := HE0.out
      rw [if_neg (by omega)] at hE1
      have HDN := Lib.hid hdn
      clear hdn hbe HE0
      by_cases h6 : 60000 < dn
      · have h6i : (60000 : Int) < (dn : Int) := by omega
        rw [if_pos (by rw [← HDN.out]; exact h6)] at hE1
        have hL : batB l = [] := by unfold batB; rw [hE1, if_neg (by decide)]
        have HE := Lib.hid hE1
        have HB := Lib.hid hL
        clear hE1 hL hb0 hby h2k
        go_wp2_with fail
        go_ret2
        rw [HE.out, HB.out]
        exact ⟨none, 0, 0, rfl, NIL.out _, hu2⟩
      · have h6i : ¬ (60000 : Int) < (dn : Int) := by omega
        have hle : (itemsB l).length ≤ 60000 := by rw [← HDN.out]; omega
        rw [if_neg (by rw [← HDN.out]; exact h6)] at hE1
        have hL : batB l = frameB 1 (itemsB l) := by unfold batB; rw [hE1, if_pos rfl]
        have hPE : putE 1 (itemsB l).length = 0 := by unfold putE; rw [if_neg (by omega), if_neg (by omega)]
        have hPL : putL [] 1 (itemsB l) = frameB 1 (itemsB l) := by unfold putL; rw [hPE]; rfl
        have HE := Lib.hid hE1
        have HB := Lib.hid hL
        have HPE := Lib.hid hPE
        have HPL := Lib.hid hPL
        clear hE1 hL hPE hPL hb0 hby h2k hle
        go_wp2_with fail
        refine (fput_any none 0 0 [] 1 D dn dc (itemsB l) w2 Rd.empty hdl (by omega) (by omega)).mono ?_
        rintro e w3 ⟨E1, en, ec, rfl, hoE, hu3⟩
        rw [HPE.out]
        rw [HPL.out] at hoE
        have hsz := hu2.size
        go_wp2_with fail
        first | go_ret2 | go_ret
        rw [HE.out, HB.out]
        exact ⟨E1, en, ec, rfl, own_base hoE hsz, hu2.trans hu3⟩
    · have c1 : ((be : Int) != 0) = true := by rw [bne_iff_ne]; omega
      have hE1 := HE0.out
      rw [if_pos (by omega)] at hE1
      have hL : batB l = [] := by unfold batB; rw [hE1, if_neg hb0]
      have HE := Lib.hid hE1
      have HB := Lib.hid hL
      clear hE1 hL hb0 hbe HE0
      go_wp2_with fail
      go_ret2
      rw [HE.out, HB.out]
      exact ⟨none, 0, 0, rfl, NIL.out _, hu2⟩
set_option maxRecDepth 100000 in
set_option maxHeartbeats 1600000 in
theorem rbmay14_any (A : Option Addr) (n c : Nat) (l : List It) (w : World) (hr : Rd w w.heap.size 5 A n (itcs l)) (hn : n ≤ 9223372036854775807) :
    Calls Try.prog 11 #[.slice A n c] w fun e w' => e = .returned (.int .i64 (batE l : Int)) ∧ Up w w' := by
  have HL := Lib.hid hr.ilen
  by_cases h0 : n = 0
  · have h0i : ((n : Int) == 0) = true := by rw [beq_iff_eq]; omega
    have hE : batE l = 1 := by unfold batE; rw [if_pos (by rw [← HL.out]; exact h0)]
    have HE := Lib.hid hE
    clear hE h0
    go_enter Try.func11, Try.ntmps11
    go_wp2_with fail
    go_ret
    rw [HE.out]
    exact ⟨rfl, Up.refl _⟩
  · have h0i : ((n : Int) == 0) = false := by rw [beq_eq_false_iff_ne]; omega
    have hE0 : batE l = if bytesE l ≠ 0 then bytesE l else if 60000 < (itemsB l).length then 2 else 0 := by unfold batE; rw [if_neg (by rw [← HL.out]; exact h0)]
    have HE0 := Lib.hid hE0
    clear hE0
    go_enter Try.func11, Try.ntmps11
    go_wp2_with fail
    refine (may_any A n c l w hr hn).mono ?_
    rintro e w1 ⟨rfl, hu1⟩
    obtain ⟨be, hbe⟩ : ∃ be, be = bytesE l := ⟨_, rfl⟩
    rw [← hbe] at HE0 ⊢
    by_cases hb0 : be = 0
    · have hby : bytesE l = 0 := by rw [← hbe]; exact hb0
      have h2k := bytesE_le hby
      have c1 : ((be : Int) != 0) = false := by rw [bne_eq_false_iff_eq]; omega
      have hE1 := HE0.out
      rw [if_neg (by omega)] at hE1
      have HE := Lib.hid hE1
      have hn2 : n ≤ 2000 := by rw [HL.out]; exact h2k
      clear hE1 hbe HE0 hby h2k
      go_wp2_with fail
      refine (rbytes_any A n c l w1 (hr.up hu1) hn2).mono ?_
      rintro e w2 ⟨s, rfl, hs, hu2⟩
      obtain rfl : s = tx (itemsB l) := tx_of hs.out
      have hts : (tx (itemsB l)).size = (itemsB l).length := tx_size _
      by_cases h6 : 60000 < (itemsB l).length
      · have h6i : (60000 : Int) < ((itemsB l).length : Int) := by omega
        have hE2 := HE.out
        rw [if_pos h6] at hE2
        have HE2 := Lib.hid hE2
        clear hE2 h6 HE
        go_wp2_with fail
        go_ret
        rw [HE2.out]
        exact ⟨rfl, hu1.trans hu2⟩
      · have h6i : ¬ (60000 : Int) < ((itemsB l).length : Int) := by omega
        have hE2 := HE.out
        rw [if_neg h6] at hE2
        have HE2 := Lib.hid hE2
        clear hE2 h6 HE
        go_wp2_with fail
        go_ret
        rw [HE2.out]
        exact ⟨rfl, hu1.trans hu2⟩
    · have c1 : ((be : Int) != 0) = true := by rw [bne_iff_ne]; omega
      have hE1 := HE0.out
      rw [if_pos (by omega)] at hE1
      have HE := Lib.hid hE1
      clear hE1 hb0 hbe HE0
      go_wp2_with fail
      go_ret
      rw [HE.out]
      exact ⟨rfl, hu1⟩
set_option maxRecDepth 100000 in
theorem rbatch_any (A : Option Addr) (n c : Nat) (l : List It) (w : World) (hr : Rd w w.heap.size 5 A n (itcs l)) (he : batE l = 0) :
    Calls Try.prog 17 #[.slice A n c] w fun e w' => e = .returned (.string (tx (batB l))) ∧ Up w w' := by
  obtain ⟨k1, k2, k3, k4, -⟩ := batE_ok he
  have hL : batB l = frameB 1 (itemsB l) := by unfold batB; rw [he, if_pos rfl]
  have HB := Lib.hid hL
  have hn : n ≤ 2000 := by have := hr.ilen; omega
  clear hL
  go_enter Try.func17, Try.ntmps17
  go_wp2_with fail
  refine (rbytes_any A n c l w hr hn).mono ?_
  rintro e w1 ⟨s, rfl, hs, hu1⟩
  obtain rfl : s = tx (itemsB l) := tx_of hs.out
  go_wp2_with fail
  refine (rframe_any 1 (itemsB l) w1 (by omega) k3).mono ?_
  rintro e w2 ⟨rfl, hu2⟩
  go_wp2_with fail
  go_ret
  rw [HB.out]
  exact ⟨rfl, hu1.trans hu2⟩
end Go.Proofs.Ytnjmekjaingniaa

/-
  The walk of frame.Split.
-/
namespace Go.Proofs.Ytnjmekjaingniaa
open Go.RowKit
set_option linter.unusedVariables false
set_option linter.unusedSimpArgs false

/-- an append to a row of one element type keeps the rows of another one -/
theorem own_far {w w' : World} {base base' : Nat} {e e' : TypeId} {sz sz' n n' : Nat} {v v' : Value} {xs xs' : List Value} (h : w.ownsRow base e sz v n xs) (h' : w.ownsRow base' e' sz' v' n' xs') (hne : e ≠ e') (hg : w.grownBy w' v.ownBlock) : w'.ownsRow base' e' sz' v' n' xs' := by
  refine ⟨h'.1, ?_⟩
  rcases h'.2 with h2 | ⟨g, cap, cur, rfl, hb, hh, r⟩
  · exact .inl h2
  · refine .inr ⟨g, cap, cur, rfl, hb, (hg.block g (Array.getElem?_eq_some_iff.1 hh).1 (fun e0 => ?_)).trans hh, r⟩
    rcases h.2 with ⟨rfl, _⟩ | ⟨g1, cap1, cur1, rfl, _, hh1, _⟩
    · simp [Value.ownBlock] at e0
    · have : g1 = g := by simpa [Value.ownBlock] using e0.symm
      subst this
      rw [hh] at hh1
      injection hh1 with hh1
      injection hh1 with _ ht
      exact hne ht.symm
def nvi (l : List Nat) : List Value := l.map fun (k : Nat) => Value.int .i64 (k : Int)
theorem nvi_one (l : List Nat) : ∀ u ∈ nvi l, u.oneCell' = true := by
  intro u hu; simp only [nvi, List.mem_map] at hu; obtain ⟨b, _, rfl⟩ := hu; rfl
theorem pv_one (l : List Pt) : ∀ u ∈ l.map Pt.v, u.oneCell' = true := by
  intro u hu; simp only [List.mem_map] at hu; obtain ⟨b, _, rfl⟩ := hu; rfl

/-- Split: the kinds, the bodies, where it ends, the error -/
def splitG (l : List UInt8) : Nat → Nat → List Nat → List (List UInt8) → List Nat × List (List UInt8) × Nat × Nat
  | 0, k, ks, bs => (ks, bs, k, 0)
  | f + 1, k, ks, bs => if k < l.length then
      (if (takeR (l.drop k)).1 = 0 then splitG l f (k + (takeR (l.drop k)).2.2.2) (ks ++ [(takeR (l.drop k)).2.1]) (bs ++ [(takeR (l.drop k)).2.2.1]) else (ks, bs, k, (takeR (l.drop k)).1))
    else (ks, bs, k, 0)
def splitL (l : List UInt8) : List Nat × List (List UInt8) × Nat × Nat := splitG l (l.length + 1) 0 [] []
theorem takeR_ok {r : List UInt8} (h : (takeR r).1 = 0) : 12 ≤ (takeR r).2.2.2 ∧ (takeR r).2.2.2 ≤ r.length ∧ (takeR r).2.2.2 = (takeR r).2.2.1.length + 12 ∧ (takeR r).2.1 < 256 := by
  unfold takeR at h ⊢
  have hb : (r.getD 0 0).toNat < 256 := (r.getD 0 0).toNat_lt
  split at h
  · cases h
  · rename_i h1
    rw [if_neg h1]
    split at h
    · rename_i h2; exact absurd h h2
    · rename_i h2
      rw [if_neg h2]
      split at h
      · cases h
      · rename_i h3
        rw [if_neg h3]
        split at h
        · cases h
        · rename_i h4
          rw [if_neg h4]
          split at h
          · rename_i h5; exact absurd h h5
          · rename_i h5
            rw [if_neg h5]
            simp only [List.length_take, List.length_drop]
            omega

/-- slices of the call's own, and what they hold -/
def Pts (w : World) (base : Nat) (ps : List Pt) (bs : List (List UInt8)) : Prop := ps.map (·.l) = bs ∧ ∀ p ∈ ps, OwnB w base p.A p.n p.c p.l
theorem Pts.up {w w' : World} {base : Nat} {ps : List Pt} {bs : List (List UInt8)} (h : Pts w base ps bs) (hu : Up w w') : Pts w' base ps bs := ⟨h.1, fun p hp => (h.2 p hp).up hu⟩

theorem intsT : SlT Try.prog 35 3 1 8 := SlT.mk' Try.underlying35 (z := .int .i64 0) (by kernel_rfl) rfl (by decide)
theorem rowsT : SlT Try.prog 66 26 1 24 := SlT.mk' Try.underlying66 (z := .slice none 0 0) (by kernel_rfl) rfl (by decide)
def OwnK (w : World) (base : Nat) (A : Option Addr) (n c : Nat) (l : List Nat) : Prop := w.ownsRow base 3 1 (.slice A n c) n (nvi l)
def OwnR (w : World) (base : Nat) (A : Option Addr) (n c : Nat) (ps : List Pt) : Prop := w.ownsRow base 26 1 (.slice A n c) n (ps.map Pt.v)
/-- what Split comes to -/
def SpPost (t : List Nat × List (List UInt8) × Nat × Nat) (w : World) (e : Ending) (w' : World) : Prop :=
  ∃ K kn kc R rn rc ps, e = .returned (.tuple #[.slice K kn kc, .slice R rn rc, .int .i64 (t.2.2.1 : Int), .int .i64 (t.2.2.2 : Int)]) ∧ OwnK w' w.heap.size K kn kc t.1 ∧ OwnR w' w.heap.size R rn rc ps ∧ Pts w' w.heap.size ps t.2.1 ∧ Up w w'

set_option maxRecDepth 100000 in
set_option maxHeartbeats 3200000 in
theorem split_any (A : Option Addr) (n c : Nat) (l : List UInt8) (w : World) (hr : Rd w w.heap.size 1 A n (bvs l)) (hn : n ≤ 549755813888) (hc : n ≤ c) :
    Calls Try.prog 36 #[.slice A n c] w (SpPost (splitL l) w) := by
  have HL := Lib.hid hr.blen
  go_enter Try.func36, Try.ntmps36
  go_wp2_with fail
  go_loopw [2, 3, 4] (fun kv rv i wr => ∃ (k : Nat) (K : Option Addr) (kn kc : Nat) (R : Option Addr) (rn rc : Nat) (ks : List Nat) (ps : List Pt) (bs : List (List UInt8)), i = .int .i64 (k : Int) ∧ kv = .slice K kn kc ∧ rv = .slice R rn rc ∧ k ≤ n ∧ kn ≤ k ∧ rn ≤ k ∧
      OwnK wr w.heap.size K kn kc ks ∧ OwnR wr w.heap.size R rn rc ps ∧ Pts wr w.heap.size ps bs ∧ Hid (∃ f, n - k < f ∧ splitG l f k ks bs = splitL l) ∧ Up w wr) (fun _ _ i _ => n - (intOf i).toNat)
  case atStart => exact ⟨0, none, 0, 0, none, 0, 0, [], [], [], rfl, rfl, rfl, by omega, by omega, by omega, World.ownsRow_nil _ _ _ _, World.ownsRow_nil _ _ _ _, ⟨rfl, fun p hp => by cases hp⟩, ⟨l.length + 1, by have := HL.out; omega, rfl⟩, Up.refl _⟩
  case round =>
    obtain ⟨k, K, kn, kc, R, rn, rc, ks, ps, bs, rfl, rfl, rfl, hk, hkn, hrn, hK, hR, hP, HF, hu⟩ := hrel
    by_cases hlt : k < n
    · go_wp2_with fail
      refine (ftake_core A n c l k wr (hr.up hu) hn hc hk).mono ?_
      rintro e w1 ⟨A1, n1, c1, rfl, ho1, hu1⟩
      have hu2 := hu.trans hu1
      have hsz := hu.size
      have ho2 := own_base ho1 hsz
      have hK1 : OwnK w1 w.heap.size K kn kc ks := own_up hK hu1
      have hR1 : OwnR w1 w.heap.size R rn rc ps := own_up hR hu1
      have hP1 := hP.up hu1
      clear ho1 hK hR hP
      by_cases he : (takeR (l.drop k)).1 = 0
      · have hok := takeR_ok he
        have hst : ∃ f, n - (k + (takeR (l.drop k)).2.2.2) < f ∧ splitG l f (k + (takeR (l.drop k)).2.2.2) (ks ++ [(takeR (l.drop k)).2.1]) (bs ++ [(takeR (l.drop k)).2.2.1]) = splitL l := by
          obtain ⟨f, hf, h⟩ := HF.out
          match f, hf, h with
          | f + 1, hf, h =>
            refine ⟨f, by omega, ?_⟩
            rw [← h]
            conv => rhs; unfold splitG
            rw [if_pos (by rw [← HL.out]; exact hlt), if_pos he]
        have HST := Lib.hid hst
        rw [if_pos he, he]
        have hdl : (l.drop k).length = n - k := by rw [List.length_drop, HL.out]
        rw [hdl] at hok
        clear hst he HF hdl
        generalize (takeR (l.drop k)).2.1 = tk at *
        generalize (takeR (l.drop k)).2.2.1 = tb at *
        generalize (takeR (l.drop k)).2.2.2 = tn at *
        obtain ⟨q1, q2, -, q4⟩ := hok
        have hcast : (k : Int) + (tn : Int) = ((k + tn : Nat) : Int) := by omega
        rw [hcast]
        clear hcast
        go_wp2_with (first
          | (at_builtin; refine wpList_append_rd _ intsT (news := nvi [tk]) (World.ownsRow.alloc hK1 _) (Rd.box _ _ _) (nvi_one _) (by omega) (by omega) (by simp; have := hu2.size; omega) rfl rfl rfl rfl ?_; intro v3 w3 hown3 hg3 hat3; obtain ⟨K3, kc3, rfl⟩ := own_form hown3)
          | (at_builtin; refine wpList_append_rd _ rowsT (news := [Value.slice A1 n1 c1]) (World.ownsRow.alloc (own_far (World.ownsRow.alloc hK1 _) (World.ownsRow.alloc hR1 _) (by decide) hg3) _) (Rd.box _ _ _) (by intro u hu; simp at hu; subst hu; rfl) (by omega) (by omega) (by simp; have := hu2.size; have := hg3.size; simp at this; omega) rfl rfl rfl rfl ?_; intro v4 w4 hown4 hg4 hat4; obtain ⟨R4, rc4, rfl⟩ := own_form hown4))
        have hu3 : Up w w3 := (hu2.alloc _).grown hg3 (fun g hg => (hK1.lt g hg).1)
        have hu4 : Up w w4 := (hu3.alloc _).grown hg4 (fun g hg => (hR1.lt g hg).1)
        have hR3 : OwnR w3 w.heap.size R rn rc ps := own_far (World.ownsRow.alloc hK1 _) (World.ownsRow.alloc hR1 _) (by decide) hg3
        have hK4 : OwnK w4 w.heap.size K3 (kn + 1) kc3 (ks ++ [tk]) := by
          show World.ownsRow _ _ _ _ _ _ _
          have e : nvi (ks ++ [tk]) = nvi ks ++ nvi [tk] := by simp [nvi]
          rw [e]
          exact own_far (World.ownsRow.alloc hR3 _) (World.ownsRow.alloc hown3 _) (by decide) hg4
        have hR4 : OwnR w4 w.heap.size R4 (rn + 1) rc4 (ps ++ [⟨A1, n1, c1, tb⟩]) := by
          show World.ownsRow _ _ _ _ _ _ _
          have e : (ps ++ [(⟨A1, n1, c1, tb⟩ : Pt)]).map Pt.v = ps.map Pt.v ++ [Value.slice A1 n1 c1] := by simp [Pt.v]
          rw [e]; exact hown4
        have keepB : ∀ (A : Option Addr) (n c : Nat) (l : List UInt8), OwnB w1 w.heap.size A n c l → OwnB w4 w.heap.size A n c l := fun A n c l h =>
          own_far (World.ownsRow.alloc hR3 _) (World.ownsRow.alloc (own_far (World.ownsRow.alloc hK1 _) (World.ownsRow.alloc h _) (by decide) hg3) _) (by decide) hg4
        have hP4 : Pts w4 w.heap.size (ps ++ [⟨A1, n1, c1, tb⟩]) (bs ++ [tb]) := by
          refine ⟨by rw [List.map_append, hP1.1]; rfl, fun p hp => ?_⟩
          rcases List.mem_append.1 hp with hp | hp
          · exact keepB _ _ _ _ (hP1.2 p hp)
          · simp only [List.mem_singleton] at hp
            subst hp
            exact keepB _ _ _ _ ho2
        clear hg3 hg4 hat3 hat4 hown3 hown4
        go_roundw
        case rel => exact ⟨k + tn, K3, kn + 1, kc3, R4, rn + 1, rc4, ks ++ [tk], ps ++ [⟨A1, n1, c1, tb⟩], bs ++ [tb], by go_num, rfl, rfl, by omega, by omega, by omega, hK4, hR4, hP4, HST.out, hu4⟩
        case measure => simp [intOf]; omega
      · have hst : splitL l = (ks, bs, k, (takeR (l.drop k)).1) := by
          obtain ⟨f, hf, h⟩ := HF.out
          match f, hf, h with
          | f + 1, hf, h =>
            rw [← h]
            conv => lhs; unfold splitG
            rw [if_pos (by rw [← HL.out]; exact hlt), if_neg he]
        have HST := Lib.hid hst
        rw [if_neg he]
        clear hst HF
        generalize (takeR (l.drop k)).1 = E at *
        generalize (takeR (l.drop k)).2.1 = tk at *
        have hE5 : ¬ (E : Int) = 0 := by omega
        go_wp2_with fail
        refine bodyPost_ret (v := .tuple #[.slice K kn kc, .slice R rn rc, .int .i64 (k : Int), .int .i64 (E : Int)]) (by simp [results, Try.results36, go_sem]) rfl ?_
        rw [HST.out]
        exact ⟨K, kn, kc, R, rn, rc, ps, rfl, hK1, hR1, hP1, hu2⟩
    · have hkn' : k = n := by omega
      subst hkn'
      have hst : splitL l = (ks, bs, k, 0) := by
        obtain ⟨f, hf, h⟩ := HF.out
        match f, hf, h with
        | f + 1, hf, h =>
          rw [← h]
          conv => lhs; unfold splitG
          rw [if_neg (by rw [← HL.out]; exact hlt)]
      have HST := Lib.hid hst
      clear hst HF
      go_wp2_with fail
      refine bodyPost_ret (v := .tuple #[.slice K kn kc, .slice R rn rc, .int .i64 (k : Int), .int .i64 0]) (by simp [results, Try.results36, go_sem]) rfl ?_
      rw [HST.out]
      exact ⟨K, kn, kc, R, rn, rc, ps, rfl, hK, hR, hP, hu⟩
end Go.Proofs.Ytnjmekjaingniaa

/-
  Frames one behind the other, folded: as Split has them, and one by one. Plain laws.
-/
namespace Go.Proofs.Ytnjmekjaingniaa
open Go.RowKit
set_option linter.unusedVariables false
set_option linter.unusedSimpArgs false

section
variable {σ : Type} (step : σ → Nat → List UInt8 → Option σ)
/-- one by one: a torn frame ends it, any other error is none -/
def seqF (l : List UInt8) : Nat → Nat → σ → Option (σ × Nat)
  | 0, k, s => some (s, k)
  | f + 1, k, s => if k < l.length then
      (if (takeR (l.drop k)).1 = 0 then (match step s (takeR (l.drop k)).2.1 (takeR (l.drop k)).2.2.1 with | none => none | some s' => seqF l f (k + (takeR (l.drop k)).2.2.2) s')
       else if (takeR (l.drop k)).1 = 4 then some (s, k) else none)
    else some (s, k)
def foldF : σ → List Nat → List (List UInt8) → Option σ
  | s, k :: ks, b :: bs => match step s k b with | none => none | some s' => foldF s' ks bs
  | s, _, _ => some s
theorem splitG_acc (l : List UInt8) : ∀ (f k : Nat) (ks : List Nat) (bs : List (List UInt8)), splitG l f k ks bs = (ks ++ (splitG l f k [] []).1, bs ++ (splitG l f k [] []).2.1, (splitG l f k [] []).2.2.1, (splitG l f k [] []).2.2.2)
  | 0, k, ks, bs => by simp [splitG]
  | f + 1, k, ks, bs => by
    unfold splitG
    by_cases h1 : k < l.length
    · rw [if_pos h1, if_pos h1]
      by_cases h2 : (takeR (l.drop k)).1 = 0
      · rw [if_pos h2, if_pos h2, splitG_acc l f _ (ks ++ _) (bs ++ _), splitG_acc l f _ ([] ++ _) ([] ++ _)]
        simp
      · rw [if_neg h2, if_neg h2]; simp
    · rw [if_neg h1, if_neg h1]; simp
theorem seq_split (l : List UInt8) : ∀ (f k : Nat) (s : σ), seqF step l f k s = (if (splitG l f k [] []).2.2.2 = 0 ∨ (splitG l f k [] []).2.2.2 = 4 then (foldF step s (splitG l f k [] []).1 (splitG l f k [] []).2.1).map (fun x => (x, (splitG l f k [] []).2.2.1)) else none)
  | 0, k, s => by simp [seqF, splitG, foldF]
  | f + 1, k, s => by
    unfold seqF splitG
    by_cases h1 : k < l.length
    · simp only [if_pos h1]
      by_cases h2 : (takeR (l.drop k)).1 = 0
      · simp only [if_pos h2]
        rw [splitG_acc l f]
        simp only [List.nil_append, List.singleton_append, foldF]
        cases hs : step s (takeR (l.drop k)).2.1 (takeR (l.drop k)).2.2.1 with
        | none => simp
        | some s' => simp only []; exact seq_split l f _ s'
      · simp only [if_neg h2]
        by_cases h3 : (takeR (l.drop k)).1 = 4
        · rw [if_pos h3, if_pos (.inr h3)]; simp [foldF]
        · rw [if_neg h3, if_neg (by omega)]
    · simp only [if_neg h1]
      simp [foldF]
theorem foldF_append : ∀ (ks ks' : List Nat) (bs bs' : List (List UInt8)) (s : σ), ks.length = bs.length → foldF step s (ks ++ ks') (bs ++ bs') = (foldF step s ks bs).bind fun s' => foldF step s' ks' bs'
  | [], ks', [], bs', s, _ => rfl
  | k :: ks, ks', b :: bs, bs', s, h => by
    simp only [List.cons_append, foldF]
    cases step s k b with
    | none => rfl
    | some s' => exact foldF_append ks ks' bs bs' s' (by simpa using h)
theorem foldF_snoc {ks : List Nat} {bs : List (List UInt8)} {k : Nat} {b : List UInt8} {s s' : σ} (h : ks.length = bs.length) (hs : foldF step s ks bs = some s') : foldF step s (ks ++ [k]) (bs ++ [b]) = step s' k b := by
  rw [foldF_append step ks [k] bs [b] s h, hs]
  simp only [Option.bind_some, foldF]
  cases step s' k b <;> rfl
/-- what has failed stays so -/
theorem foldF_take_none {ks : List Nat} {bs : List (List UInt8)} {s : σ} (j : Nat) (h : ks.length = bs.length) (hn : foldF step s (ks.take j) (bs.take j) = none) : foldF step s ks bs = none := by
  have h2 := foldF_append step (ks.take j) (ks.drop j) (bs.take j) (bs.drop j) s (by simp [h])
  rw [List.take_append_drop, List.take_append_drop] at h2
  rw [h2, hn]; rfl
/-- the fold over what stands whole behind what was put before -/
theorem takeR_bd {r : List UInt8} (h : (takeR r).1 = 0) : 0 < (takeR r).2.2.2 := by have := (takeR_ok h).1; omega
theorem seqF_more (l : List UInt8) : ∀ (f f' k : Nat) (s : σ), l.length - k < f → l.length - k < f' → seqF step l f k s = seqF step l f' k s
  | 0, _, k, s, h, _ => absurd h (Nat.not_lt_zero _)
  | _ + 1, 0, k, s, _, h => absurd h (Nat.not_lt_zero _)
  | f + 1, f' + 1, k, s, h, h' => by
    unfold seqF
    by_cases h1 : k < l.length
    · rw [if_pos h1, if_pos h1]
      by_cases h2 : (takeR (l.drop k)).1 = 0
      · rw [if_pos h2, if_pos h2]
        have hb := takeR_bd h2
        cases step s (takeR (l.drop k)).2.1 (takeR (l.drop k)).2.2.1 with
        | none => rfl
        | some s' => exact seqF_more l f f' _ s' (by omega) (by omega)
      · rw [if_neg h2, if_neg h2]
    · rw [if_neg h1, if_neg h1]
end
theorem takeR_bl (r : List UInt8) : (takeR r).2.2.1.length ≤ r.length := by
  unfold takeR
  repeat' split
  all_goals first | exact Nat.zero_le _ | (simp only [List.length_take, List.length_drop]; omega)
theorem splitG_body (l : List UInt8) : ∀ (f k : Nat), ∀ b ∈ (splitG l f k [] []).2.1, b.length ≤ l.length
  | 0, k, b, hb => by simp [splitG] at hb
  | f + 1, k, b, hb => by
    unfold splitG at hb
    by_cases h1 : k < l.length
    · rw [if_pos h1] at hb
      by_cases h2 : (takeR (l.drop k)).1 = 0
      · rw [if_pos h2, splitG_acc l f] at hb
        simp only [List.nil_append, List.singleton_append, List.mem_cons] at hb
        rcases hb with e | hb
        · rw [e]
          have := takeR_bl (l.drop k)
          rw [List.length_drop] at this
          omega
        · exact splitG_body l f _ b hb
      · rw [if_neg h2] at hb; simp at hb
    · rw [if_neg h1] at hb; simp at hb
theorem splitL_body (l : List UInt8) : ∀ b ∈ (splitL l).2.1, b.length ≤ l.length := splitG_body l _ _
theorem splitG_lens (l : List UInt8) : ∀ (f k : Nat), (splitG l f k [] []).1.length = (splitG l f k [] []).2.1.length ∧ (splitG l f k [] []).1.length ≤ f
  | 0, k => by simp [splitG]
  | f + 1, k => by
    unfold splitG
    by_cases h1 : k < l.length
    · rw [if_pos h1]
      by_cases h2 : (takeR (l.drop k)).1 = 0
      · rw [if_pos h2, splitG_acc l f]
        have ih := splitG_lens l f (k + (takeR (l.drop k)).2.2.2)
        simp only [List.nil_append, List.singleton_append, List.length_cons]
        omega
      · rw [if_neg h2]; simp
    · rw [if_neg h1]; simp
theorem splitL_lens (l : List UInt8) : (splitL l).1.length = (splitL l).2.1.length ∧ (splitL l).1.length ≤ l.length + 1 := splitG_lens l _ _
end Go.Proofs.Ytnjmekjaingniaa

/-
  Plain laws of frames; the walk of the laws' own test.
-/
namespace Go.Proofs.Ytnjmekjaingniaa
open Go.RowKit
set_option linter.unusedVariables false
set_option linter.unusedSimpArgs false

theorem openE_seal (l : List UInt8) : openE (sealB l) = 0 := by
  have h : (sealB l).length - 4 = l.length := by rw [sealB_len]; omega
  have h2 : (sealB l).take l.length = l := by unfold sealB; rw [List.take_left]
  unfold openE
  rw [if_neg (by rw [sealB_len]; omega), h, h2, if_pos rfl]
theorem openL_seal (l : List UInt8) : openL (sealB l) = l := by
  unfold openL
  rw [if_pos (openE_seal l), sealB_len, Nat.add_sub_cancel]
  unfold sealB; rw [List.take_left]
theorem byteOf_nat (k : Nat) (h : k < 256) : (byteOf (k : Int)).toNat = k := by
  unfold byteOf
  rw [show ((k : Int) % 256).toNat = k by omega]
  simp; omega
/-- a frame that stands at the beginning is taken -/
theorem takeR_frame (k : Nat) (l rest : List UInt8) (hk1 : 1 ≤ k) (hk2 : k ≤ 100) (hl : l.length ≤ 60000) : takeR (frameB (k : Int) l ++ rest) = (0, k, l, l.length + 12) := by
  have e : frameB (k : Int) l ++ rest = sealB (headB (k : Int) l.length) ++ (sealB l ++ rest) := by simp [frameB]
  have hh : (sealB (headB (k : Int) l.length)).length = 8 := by rw [sealB_len]; rfl
  have hlen : (frameB (k : Int) l ++ rest).length = 12 + l.length + rest.length := by rw [List.length_append, frameB_len]; omega
  have h8 : (frameB (k : Int) l ++ rest).take 8 = sealB (headB (k : Int) l.length) := by rw [e, ← hh, List.take_left]
  have hd : (frameB (k : Int) l ++ rest).drop 8 = sealB l ++ rest := by rw [e, ← hh, List.drop_left]
  have g : ∀ j, j < 4 → (frameB (k : Int) l ++ rest).getD j 0 = (headB (k : Int) l.length).getD j 0 := by
    intro j hj
    rw [e]
    unfold sealB
    simp only [List.getD_eq_getElem?_getD]
    rw [List.append_assoc, List.getElem?_append_left (by simpa [headB] using hj)]
  have hN : headN (frameB (k : Int) l ++ rest) = l.length := by
    unfold headN
    rw [g 1 (by omega), g 2 (by omega), g 3 (by omega)]
    have e1 : (l.length / 65536) % 256 * 65536 + (l.length / 256) % 256 * 256 + l.length % 256 = l.length := by omega
    simpa [headB, List.getD] using e1
  have h0 : ((frameB (k : Int) l ++ rest).getD 0 0).toNat = k := by rw [g 0 (by omega)]; exact byteOf_nat k (by omega)
  unfold takeR
  have ht : (sealB l ++ rest).take (l.length + 4) = sealB l := by rw [← sealB_len l, List.take_left]
  have ht2 : (sealB l ++ rest).take l.length = l := by unfold sealB; rw [List.append_assoc, List.take_left]
  rw [if_neg (by rw [hlen]; omega), h8, openE_seal, if_neg (by simp), h0, hN, if_neg (by omega), if_neg (by rw [hlen]; omega), hd, ht, openE_seal, if_neg (by simp), ht2]
theorem takeF_frame (b : List UInt8) (k : Nat) (l rest : List UInt8) (hk1 : 1 ≤ k) (hk2 : k ≤ 100) (hl : l.length ≤ 60000) : takeF (b ++ (frameB (k : Int) l ++ rest)) (b.length : Int) = (0, k, l, ((b.length + (l.length + 12) : Nat) : Int)) := by
  unfold takeF
  rw [if_neg (by simp; omega)]
  have e : (b ++ (frameB (k : Int) l ++ rest)).drop ((b.length : Int)).toNat = frameB (k : Int) l ++ rest := by simp
  rw [e, takeR_frame k l rest hk1 hk2 hl]
  simp

end Go.Proofs.Ytnjmekjaingniaa

/-
  Opening arguments: a slice out of its elements.
-/
namespace Go.Proofs.Ytnjmekjaingniaa
open Go.ChangeShapes Go.WideShapes Go.ChangeAt Go.RowKit Go.Deep
set_option linter.unusedVariables false

theorem flat_len {α : Type} (f : α → List Value) {sz : Nat} (hf : ∀ x, (f x).length = sz) (l : List α) : (l.flatMap f).length = l.length * sz := by
  induction l with
  | nil => simp
  | cons x l ih => rw [List.flatMap_cons, List.length_append, hf, ih, List.length_cons, Nat.add_mul]; omega
theorem flat_at {α : Type} (f : α → List Value) {sz : Nat} (hf : ∀ x, (f x).length = sz) (l : List α) {k : Nat} (hk : k < l.length) {j : Nat} (hj : j < sz) : (l.flatMap f)[k * sz + j]? = (f l[k])[j]? := by
  induction l generalizing k with
  | nil => simp at hk
  | cons x l ih =>
    cases k with
    | zero =>
      simp only [List.flatMap_cons, Nat.zero_mul, Nat.zero_add, List.getElem_cons_zero]
      rw [List.getElem?_append_left (by rw [hf]; exact hj)]
    | succ k =>
      have hk' : k < l.length := by simpa using hk
      have := ih hk'
      simp only [List.flatMap_cons, List.getElem_cons_succ]
      rw [List.getElem?_append_right (by rw [hf, Nat.add_mul]; omega), ← this]
      congr 1; rw [hf, Nat.add_mul]; omega

theorem add_at (b o k : Nat) : (⟨b, o, none⟩ : Addr).add k = ⟨b, o + k, none⟩ := by unfold Addr.add; split <;> simp_all
theorem rd_elems {α : Type} [Inhabited α] {W : World} (f : α → List Value) {sz : Nat} (hf : ∀ x, (f x).length = sz) (hsz : 0 < sz) {a : Addr} {len base : Nat}
    (h : ∀ i, i < len → ∃ cs', W.cells? base (a.add (i * sz)) sz = some cs' ∧ ∃ x, cs' = f x) : ∃ l : List α, l.length = len ∧ Rd W W.heap.size sz (some a) len (l.flatMap f) := by
  obtain ⟨g, hg⟩ := choose_lt (p := fun i x => W.cells? base (a.add (i * sz)) sz = some (f x)) (n := len) (fun i hi => by
    obtain ⟨cs', h1, x, rfl⟩ := h i hi
    exact ⟨x, h1⟩)
  refine ⟨(List.range len).map g, by simp, by rw [flat_len f hf]; simp, fun hn => ?_⟩
  obtain ⟨b, o, spot⟩ := a
  have h0 := (World.cells?_some (hg 0 hn)).2.2 0 hsz
  have hx0 : (f (g 0))[0]? = some ((f (g 0))[0]'(by rw [hf]; exact hsz)) := List.getElem?_eq_getElem _
  rw [hx0] at h0
  have add0 : ∀ a : Addr, a.add 0 = a := fun a => by simp [Addr.add]
  rw [Nat.zero_mul, add0, add0] at h0
  have hspot : spot = none := World.cell?_spot h0
  subst hspot
  have hb : b < W.heap.size := World.block_lt_of_cell? W _ h0
  refine ⟨b, o, rfl, hb, fun j u hu => ?_⟩
  have hj : j < len * sz := by
    have := (List.getElem?_eq_some_iff.1 hu).1
    rw [flat_len f hf] at this; simpa using this
  have hi : j / sz < len := by rw [Nat.div_lt_iff_lt_mul hsz]; exact hj
  have hr : j % sz < sz := Nat.mod_lt _ hsz
  have hjj : j = j / sz * sz + j % sz := by rw [Nat.mul_comm]; exact (Nat.div_add_mod j sz).symm
  have hc := (World.cells?_some (hg _ hi)).2.2 _ hr
  have e : ((⟨b, o, none⟩ : Addr).add (j / sz * sz)).add (j % sz) = ⟨b, o + j, none⟩ := by
    rw [add_at, add_at, Nat.add_assoc, ← hjj]
  rw [e] at hc
  have hfl := flat_at f hf ((List.range len).map g) (k := j / sz) (by simpa using hi) hr
  rw [← hjj] at hfl
  rw [hc, ← hu, hfl]
  simp

end Go.Proofs.Ytnjmekjaingniaa

/-
  Opening arguments: slices of slices of bytes.
-/
namespace Go.Proofs.Ytnjmekjaingniaa
open Go.ChangeShapes Go.WideShapes Go.ChangeAt Go.RowKit Go.Deep
set_option linter.unusedVariables false

/-- a slice of slices of bytes that came in -/
def IsR (w : World) (A : Option Addr) (n c : Nat) (ps : List Pt) : Prop := Rd w w.heap.size 1 A n (ps.map Pt.v) ∧ (∀ p ∈ ps, IsB w p.A p.n p.c p.l) ∧ n ≤ c ∧ c ≤ 9223372036854775807
section
variable {H : Type} {enc : TypeId × Value → H} {W : World} {sp : Nat → Bool} {a : Option Addr} {len cap : Nat} {d : DataW H} {p : List MemPlace}
theorem body_cells {fuel : Nat} {cs : List Value} {y : DataW H × List MemPlace} (hf : DataW.trod enc Try.prog W 0 (fun _ => true) true fuel 26 cs = some y) : ∃ p : Pt, cs = [p.v] ∧ IsB W p.A p.n p.c p.l := by
  rcases open_ints Try.underlying26 Try.underlying5 (by kernel_rfl) hf with ⟨hcs, _⟩ | ⟨x, l, c, zs, hcs, _, hl, hm, hz, _, hcell, hwz⟩
  · exact ⟨⟨none, 0, 0, []⟩, hcs, Rd.empty, by simp, by simp⟩
  · refine ⟨⟨some x, l, c, _⟩, hcs, rd_ints bv (fun n => UInt8.ofNat n.toNat) (fun n hn => ?_) hl (by simpa using hz) hcell hwz, hl, by simpa only [maxLen] using hm⟩
    have := bd_u8 hn
    rw [bv_ofNat]; congr 1; omega
instance : Inhabited { p : Pt // IsB W p.A p.n p.c p.l } := ⟨⟨⟨none, 0, 0, []⟩, Rd.empty, by simp, by simp⟩⟩
theorem is_r (h : DataW.Trod enc Try.prog W 0 (fun _ => true) true 66 (.slice a len cap) d p) : ∃ ps, IsR W a len cap ps := by
  obtain ⟨fuel, hf⟩ := h
  rcases open_slice Try.underlying66 hf with ⟨hcs, _⟩ | ⟨x, l, c, m, n, D, Pl, hcs, _, hl, hm, hmm, _, hx⟩
  · simp [Value.cells] at hcs
    obtain ⟨rfl, rfl, rfl⟩ := hcs
    exact ⟨[], Rd.empty, fun p hp => (by cases hp), by omega, by omega⟩
  · simp [Value.cells] at hcs
    obtain ⟨rfl, rfl, rfl⟩ := hcs
    have hC : Try.prog.cellsOf 26 = 1 := by kernel_rfl
    rw [hC] at hx
    obtain ⟨L, hL, hr⟩ := rd_elems (α := { p : Pt // IsB W p.A p.n p.c p.l }) (W := W) (len := len) (a := x) (base := 0) (fun p => [p.1.v]) (sz := 1) (fun _ => rfl) (by omega) (fun i hi => by
      obtain ⟨cs', h1, h2⟩ := hx i (by simp at hmm; omega)
      obtain ⟨p, e, hp⟩ := body_cells h2
      exact ⟨cs', h1, ⟨p, hp⟩, e⟩)
    refine ⟨L.map (·.1), ?_, fun p hp => ?_, hl, by simpa only [maxLen] using hm⟩
    · have e : (L.map (·.1)).map Pt.v = L.flatMap fun p => [p.1.v] := by
        clear hr hL
        induction L with
        | nil => rfl
        | cons q r ih => simp only [List.map_cons, List.flatMap_cons, List.singleton_append, ih]
      rw [e]; exact hr
    · obtain ⟨q, _, rfl⟩ := List.mem_map.1 hp
      exact q.2
end
end Go.Proofs.Ytnjmekjaingniaa

/-
  The walk of the laws' made.
-/
namespace Go.Proofs.Ytnjmekjaingniaa
open Go.RowKit
set_option linter.unusedVariables false
set_option linter.unusedSimpArgs false

/-- the kind of the record with this number -/
def kindOf (k : Nat) : Nat := k * 9 % 100 + 1
theorem kindOf_bd (k : Nat) : 1 ≤ kindOf k ∧ kindOf k ≤ 100 := by unfold kindOf; omega
/-- records, one behind the other, their kinds from number i on -/
def frsB : Nat → List (List UInt8) → List UInt8
  | _, [] => []
  | i, l :: r => frameB (kindOf i : Int) l ++ frsB (i + 1) r
theorem frsB_append : ∀ (i : Nat) (a b : List (List UInt8)), frsB i (a ++ b) = frsB i a ++ frsB (i + a.length) b
  | i, [], b => by simp [frsB]
  | i, l :: r, b => by rw [List.cons_append, frsB, frsB, frsB_append (i + 1) r b, List.append_assoc, List.length_cons]; congr 3; omega
theorem frsB_snoc (L : List (List UInt8)) {k : Nat} (hk : k < L.length) : frsB 0 (L.take (k + 1)) = frsB 0 (L.take k) ++ frameB (kindOf k : Int) (L[k]) := by
  rw [List.take_succ_eq_append_getElem hk, frsB_append, List.length_take, Nat.min_eq_left (by omega), Nat.zero_add]
  simp [frsB]
def endAt (L : List (List UInt8)) (k : Nat) : Nat := (frsB 0 (L.take k)).length
def endsL (L : List (List UInt8)) (k : Nat) : List Nat := (List.range (k + 1)).map (endAt L)
theorem endsL_snoc (L : List (List UInt8)) (k : Nat) : endsL L (k + 1) = endsL L k ++ [endAt L (k + 1)] := by
  unfold endsL; rw [List.range_succ, List.map_append]; rfl
theorem endAt_snoc (L : List (List UInt8)) {k : Nat} (hk : k < L.length) : endAt L (k + 1) = endAt L k + (L[k].length + 12) := by
  unfold endAt; rw [frsB_snoc L hk, List.length_append, frameB_len]

def ptls (ps : List Pt) : List (List UInt8) := ps.map (·.l)
/-- a slice of slices that came in: number k -/
theorem IsR.at_ {w : World} {A : Option Addr} {n c : Nat} {ps : List Pt} (h : IsR w A n c ps) {k : Nat} (hk : k < n) :
    ∃ b o p, A = some ⟨b, o, none⟩ ∧ ps[k]? = some p ∧ (ptls ps)[k]? = some p.l ∧ p.n ≤ p.c ∧ p.n = p.l.length ∧ p.c ≤ 9223372036854775807 ∧ ∀ W, Up w W → W.cell? ⟨b, o + k, none⟩ = some (.slice p.A p.n p.c) ∧ Rd W W.heap.size 1 p.A p.n (bvs p.l) := by
  obtain ⟨hr, hp, hc1, hc2⟩ := h
  have hn : n = ps.length := by have := hr.1; rw [List.length_map] at this; omega
  obtain ⟨b, o, e, hb, hc⟩ := hr.2 (by omega)
  have hkl : k < ps.length := by omega
  have hpm := hp ps[k] (List.getElem_mem _)
  refine ⟨b, o, ps[k], e, List.getElem?_eq_getElem hkl, by simp [ptls, hkl], hpm.2.1, hpm.1.blen, hpm.2.2, fun W hW => ⟨?_, hpm.1.up hW⟩⟩
  have h1 := hc k (ps[k]).v (by simp [hkl])
  exact (hW.cell (p := ⟨b, o + k, none⟩) hb).trans h1
theorem IsR.len {w : World} {A : Option Addr} {n c : Nat} {ps : List Pt} (h : IsR w A n c ps) : n = (ptls ps).length := by have := h.1.1; simp [ptls] at *; omega

end Go.Proofs.Ytnjmekjaingniaa

/-
  Plain laws of rows of frames.
-/
namespace Go.Proofs.Ytnjmekjaingniaa
open Go.RowKit
set_option linter.unusedVariables false
set_option linter.unusedSimpArgs false

def kindsL (i : Nat) (n : Nat) : List Nat := (List.range n).map fun j => kindOf (i + j)
theorem kindsL_len (i n : Nat) : (kindsL i n).length = n := by simp [kindsL]
theorem kindsL_succ (i n : Nat) : kindsL i (n + 1) = kindOf i :: kindsL (i + 1) n := by
  unfold kindsL
  rw [List.range_succ_eq_map, List.map_cons, List.map_map]
  congr 1
  apply List.map_congr_left
  intro j _
  show kindOf (i + (j + 1)) = kindOf (i + 1 + j)
  congr 1; omega
theorem frsB_pos {i : Nat} {l : List UInt8} {r : List (List UInt8)} : 0 < (frsB i (l :: r)).length := by rw [frsB, List.length_append, frameB_len]; omega
/-- Split goes over whole frames -/
theorem splitG_frs (l : List UInt8) : ∀ (L : List (List UInt8)) (i f : Nat) (pre rest : List UInt8) (ks : List Nat) (bs : List (List UInt8)), l = pre ++ (frsB i L ++ rest) → (∀ x ∈ L, x.length ≤ 60000) →
    splitG l (f + L.length) pre.length ks bs = splitG l f (pre.length + (frsB i L).length) (ks ++ kindsL i L.length) (bs ++ L)
  | [], i, f, pre, rest, ks, bs, _, _ => by simp [frsB, kindsL]
  | x :: L, i, f, pre, rest, ks, bs, h, hx => by
    have hkb := kindOf_bd i
    have hx1 := hx x List.mem_cons_self
    have hd : l.drop pre.length = frameB (kindOf i : Int) x ++ (frsB (i + 1) L ++ rest) := by
      rw [h, List.drop_left, frsB, List.append_assoc]
    have ht := takeR_frame (kindOf i) x (frsB (i + 1) L ++ rest) hkb.1 hkb.2 hx1
    have hlt : pre.length < l.length := by
      rw [h, frsB]; simp only [List.length_append, frameB_len]; omega
    rw [List.length_cons, show f + (L.length + 1) = (f + L.length) + 1 by omega]
    conv => lhs; unfold splitG
    rw [if_pos hlt, hd, ht, if_pos rfl]
    have h' : l = (pre ++ frameB (kindOf i : Int) x) ++ (frsB (i + 1) L ++ rest) := by rw [h, frsB]; simp
    have ih := splitG_frs l L (i + 1) f (pre ++ frameB (kindOf i : Int) x) rest (ks ++ [kindOf i]) (bs ++ [x]) h' (fun y hy => hx y (List.mem_cons_of_mem _ hy))
    have hpl : (pre ++ frameB (kindOf i : Int) x).length = pre.length + (x.length + 12) := by rw [List.length_append, frameB_len]
    rw [hpl] at ih
    simp only []
    rw [ih]
    congr 1
    · rw [frsB, List.length_append, frameB_len]; omega
    · rw [kindsL_succ, List.append_assoc]; rfl
    · rw [List.append_assoc]; rfl
/-- a frame that is cut is torn -/
theorem takeR_cut {k : Nat} {l : List UInt8} {j : Nat} (hk1 : 1 ≤ k) (hk2 : k ≤ 100) (hl : l.length ≤ 60000) (hj : j < (frameB (k : Int) l).length) : (takeR ((frameB (k : Int) l).take j)).1 = 4 := by
  have hfl := frameB_len (k : Int) l
  by_cases h8 : j < 8
  · unfold takeR
    rw [if_pos (by rw [List.length_take]; omega)]
  · have e : frameB (k : Int) l = sealB (headB (k : Int) l.length) ++ sealB l := rfl
    have hh : (sealB (headB (k : Int) l.length)).length = 8 := by rw [sealB_len]; rfl
    have hlen : ((frameB (k : Int) l).take j).length = j := by rw [List.length_take]; omega
    have ht8 : ((frameB (k : Int) l).take j).take 8 = sealB (headB (k : Int) l.length) := by
      rw [List.take_take, Nat.min_eq_left (by omega), e, ← hh, List.take_left]
    have g : ∀ q, q < 4 → ((frameB (k : Int) l).take j).getD q 0 = (headB (k : Int) l.length).getD q 0 := by
      intro q hq
      rw [take_getD _ (by omega), e]
      unfold sealB
      simp only [List.getD_eq_getElem?_getD]
      rw [List.append_assoc, List.getElem?_append_left (by simpa [headB] using hq)]
    have hN : headN ((frameB (k : Int) l).take j) = l.length := by
      unfold headN
      rw [g 1 (by omega), g 2 (by omega), g 3 (by omega)]
      have e1 : (l.length / 65536) % 256 * 65536 + (l.length / 256) % 256 * 256 + l.length % 256 = l.length := by omega
      simpa [headB, List.getD] using e1
    have h0 : (((frameB (k : Int) l).take j).getD 0 0).toNat = k := by rw [g 0 (by omega)]; exact byteOf_nat k (by omega)
    unfold takeR
    rw [if_neg (by rw [hlen]; omega), ht8, openE_seal, if_neg (by simp), h0, hN, if_neg (by omega), if_pos (by rw [hlen]; omega)]
/-- rows of frames that are cut: what Split tells -/
theorem split_cut (L : List (List UInt8)) (n k : Nat) (hL : ∀ x ∈ L, x.length ≤ 60000) (hn : n ≤ L.length) (h1 : endAt L n ≤ k) (h2 : n < L.length → k < endAt L (n + 1)) (hk : k ≤ endAt L L.length) :
    splitL ((frsB 0 L).take k) = (kindsL 0 n, L.take n, endAt L n, if k = endAt L n then 0 else 4) := by
  have hfull : endAt L L.length = (frsB 0 L).length := by unfold endAt; rw [List.take_length]
  have hsplit : frsB 0 L = frsB 0 (L.take n) ++ frsB n (L.drop n) := by
    conv => lhs; rw [← List.take_append_drop n L]
    rw [frsB_append, List.length_take, Nat.min_eq_left hn, Nat.zero_add]
  have hl : (frsB 0 L).take k = [] ++ (frsB 0 (L.take n) ++ (frsB n (L.drop n)).take (k - endAt L n)) := by
    rw [hsplit, List.take_append, List.nil_append]
    congr 1
    exact List.take_of_length_le h1
  have hlen : ((frsB 0 L).take k).length = k := by rw [List.length_take, ← hfull]; omega
  have hkn : n ≤ k := by
    have : ∀ n, n ≤ L.length → n ≤ endAt L n := by
      intro n
      induction n with
      | zero => intro _; omega
      | succ m ih => intro hm; have := ih (by omega); rw [endAt_snoc L (show m < L.length by omega)]; omega
    have := this n hn; omega
  have hgo := splitG_frs ((frsB 0 L).take k) (L.take n) 0 (k + 1 - n) [] _ [] [] hl (fun x hx => hL x (List.mem_of_mem_take hx))
  rw [List.length_take, Nat.min_eq_left hn, List.length_nil, Nat.zero_add, List.nil_append, List.nil_append, show k + 1 - n + n = k + 1 by omega] at hgo
  unfold splitL
  rw [hlen, hgo]
  have hend : (frsB 0 (L.take n)).length = endAt L n := rfl
  rw [hend]
  obtain ⟨f, hf⟩ : ∃ f, k + 1 - n = f + 1 := ⟨k - n, by omega⟩
  rw [hf]
  unfold splitG
  by_cases hke : k = endAt L n
  · rw [if_neg (by rw [hlen]; omega), if_pos hke]
  · rw [if_pos (by rw [hlen]; omega)]
    have hnl : n < L.length := by
      rcases Nat.lt_or_ge n L.length with h | h
      · exact h
      · have : n = L.length := by omega
        subst this; omega
    have hd : ((frsB 0 L).take k).drop (endAt L n) = (frameB (kindOf n : Int) L[n]).take (k - endAt L n) := by
      rw [hl, List.nil_append, ← hend, List.drop_left, hend, List.drop_eq_getElem_cons hnl, frsB]
      rw [List.take_append_of_le_length]
      have := h2 hnl
      rw [endAt_snoc L hnl] at this
      rw [frameB_len]; omega
    have hj : k - endAt L n < (frameB (kindOf n : Int) L[n]).length := by
      have := h2 hnl
      rw [endAt_snoc L hnl] at this
      rw [frameB_len]; omega
    have htk := takeR_cut (kindOf_bd n).1 (kindOf_bd n).2 (hL _ (List.getElem_mem hnl)) hj
    rw [hd, htk, if_neg (by decide), if_neg hke]
end Go.Proofs.Ytnjmekjaingniaa
