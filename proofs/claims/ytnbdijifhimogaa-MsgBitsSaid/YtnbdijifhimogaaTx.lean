/-
  Words for drawn regions: texts, slices of bytes that an operation leaves. No function of the program is named here.
-/
import Derived.Test.YtnbdijifhimogaaBase
import Derived.Test.YtnbdijifhimogaaRegion
namespace Go.Proofs.Ytnbdijifhimogaa
open Go.RowKit
set_option linter.unusedVariables false

/-- a text -/
def tx (l : List UInt8) : ByteArray := ⟨l.toArray⟩
theorem tx_list (l : List UInt8) : (tx l).data.toList = l := by simp [tx]
theorem tx_size (l : List UInt8) : (tx l).size = l.length := by simp [tx, ByteArray.size]
theorem tx_of {s : ByteArray} {l : List UInt8} (h : s.data.toList = l) : s = tx l := by
  subst h; rfl
theorem tx_inj {a b : List UInt8} (h : tx a = tx b) : a = b := by rw [← tx_list a, h, tx_list]
/-- one list behind the other, shut to the walk -/
def cc (a b : List UInt8) : List UInt8 := a ++ b
theorem cc_length (a b : List UInt8) : (cc a b).length = a.length + b.length := by simp [cc]
theorem tx_append (a b : List UInt8) : tx a ++ tx b = tx (cc a b) := tx_of (by simp [ByteArray.data_append, tx_list, cc])
theorem tx_append' (a b : List UInt8) : tx a ++ tx b = tx (a ++ b) := tx_append a b

section
variable {w w' : World} {Y : Nat → Prop}
theorem sta_cell (h : Rg.Sta Y w w') {g o : Nat} (hl : g < w.heap.size) (hy : Y g) : w'.cell? ⟨g, o, none⟩ = w.cell? ⟨g, o, none⟩ := World.cell?_of_block (h.block g hl hy)
theorem sta_some (h : Rg.Sta Y w w') {g o : Nat} {u : Value} (hu : w.cell? ⟨g, o, none⟩ = some u) (hy : Y g) : w'.cell? ⟨g, o, none⟩ = some u :=
  (sta_cell h (World.block_lt_of_cell? w ⟨g, o, none⟩ hu) hy).trans hu
theorem keeps_up {w w' : World} (h : Rg.Keeps (fun _ => False) w.drew w') : Up w w' := by
  have := h.up; exact ⟨this.os, this.tape, this.output, this.size, this.block⟩
end

/-- the value is a slice of new memory that holds these cells -/
def Sl (sz : Nat) (xs : List Value) (v : Value) (W : World) : Prop := ∃ A n c, v = .slice A n c ∧ n ≤ c ∧ Rd W W.heap.size sz A n xs
theorem Sl.sta {sz : Nat} {xs : List Value} {v : Value} {w w' : World} {Y : Nat → Prop} (h : Sl sz xs v w) (hs : Rg.Sta (fun g => Y g ∨ Rg.ob v g) w w') : Sl sz xs v w' := by
  obtain ⟨A, n, c, rfl, hnc, hr⟩ := h
  refine ⟨A, n, c, rfl, hnc, hr.1, fun hn => ?_⟩
  obtain ⟨b, o, rfl, hb, hc⟩ := hr.2 hn
  exact ⟨b, o, rfl, Nat.lt_of_lt_of_le hb hs.size, fun j u hu => sta_some hs (hc j u hu) (.inr rfl)⟩
/-- a new block's own: what 'own' asks -/
theorem own_new {w w' : World} {E : Nat → Prop} {b o n c : Nat} (hb : w.heap.size ≤ b) (hl : b < w'.heap.size) : ∀ g, Rg.ob (.slice (some ⟨b, o, none⟩) n c) g → g < w'.heap.size ∧ (w.heap.size ≤ g ∨ E g) := by
  rintro g rfl; exact ⟨hl, .inl hb⟩
/-- a row of the call's own, made since w -/
theorem own_row {w w' : World} {E : Nat → Prop} {e : TypeId} {sz n : Nat} {v : Value} {xs : List Value} (h : w'.ownsRow w.heap.size e sz v n xs) : ∀ g, Rg.ob v g → g < w'.heap.size ∧ (w.heap.size ≤ g ∨ E g) := by
  rcases h.2 with ⟨rfl, _⟩ | ⟨g', cap, cur, rfl, hg, hh, _⟩
  · intro g hg; exact hg.elim
  · rintro g rfl; exact ⟨(Array.getElem?_eq_some_iff.1 hh).1, .inl hg⟩
theorem Sl.own {w : World} {base : Nat} {e : TypeId} {sz n : Nat} {v : Value} {xs : List Value} (h : w.ownsRow base e sz v n xs) : Sl sz xs v w := by
  obtain ⟨A, c, rfl, hr⟩ := Rd.from_ownsRow h
  exact ⟨A, n, c, rfl, own_cap h, hr⟩

theorem row_sta {w w' : World} {base : Nat} {e : TypeId} {sz n : Nat} {v : Value} {xs : List Value} {Y : Nat → Prop} (h : w.ownsRow base e sz v n xs) (hs : Rg.Sta (fun g => Y g ∨ Rg.ob v g) w w') : w'.ownsRow base e sz v n xs := by
  refine ⟨h.1, ?_⟩
  rcases h.2 with h2 | ⟨g, cap, cur, rfl, hg, hh, r⟩
  · exact .inl h2
  · exact .inr ⟨g, cap, cur, rfl, hg, (hs.block g (Array.getElem?_eq_some_iff.1 hh).1 (.inr rfl)).trans hh, r⟩
theorem ob_of {base : Nat} {w : World} {e : TypeId} {sz n : Nat} {v : Value} {xs : List Value} (h : w.ownsRow base e sz v n xs) {g : Nat} : v.ownBlock = some g ↔ Rg.ob v g := by
  rcases h.2 with ⟨rfl, _⟩ | ⟨g', cap, cur, rfl, _⟩
  · simp [Value.ownBlock, Rg.ob]
  · simp [Value.ownBlock, Rg.ob]
theorem keeps_grown {w w' : World} {base : Nat} {e : TypeId} {sz n : Nat} {v : Value} {xs : List Value} (h : w.ownsRow base e sz v n xs) (hg : w.grownBy w' v.ownBlock) {X : Nat → Prop} (hX : ∀ g, Rg.ob v g → X g) : Rg.Keeps X w w' :=
  ⟨hg.os, hg.tape, hg.output, hg.size, fun k hk hx => hg.block k hk (fun e => hx (hX k ((ob_of h).1 e.symm)))⟩
theorem own_grown {w w' : World} {base n' : Nat} {e : TypeId} {sz n : Nat} {v v' : Value} {xs xs' : List Value} (h : w.ownsRow base e sz v n xs) (h' : w'.ownsRow base e sz v' n' xs') (hat : v'.ownBlock = v.ownBlock ∨ v'.ownBlock = some w.heap.size) {X : Nat → Prop} (hX : ∀ g, Rg.ob v g → X g) :
    ∀ g, Rg.ob v' g → g < w'.heap.size ∧ (w.heap.size ≤ g ∨ X g) := by
  intro g hg
  have hb := (ob_of h').2 hg
  refine ⟨?_, ?_⟩
  · rcases h'.2 with ⟨rfl, _⟩ | ⟨g', cap, cur, rfl, _, hh, _⟩
    · exact hg.elim
    · have : g' = g := hg
      subst this
      exact (Array.getElem?_eq_some_iff.1 hh).1
  · rcases hat with hat | hat
    · rw [hat] at hb; exact .inr (hX g ((ob_of h).1 hb))
    · rw [hat] at hb; injection hb with hb; exact .inl (Nat.le_of_eq hb)
/-- a new block that is a row of the call's own, full -/
theorem row_new (w : World) (cs : Array Value) (t : TypeId) {base sz n : Nat} (hb : base ≤ w.heap.size) (hn : cs.size = n * sz) (hm : n ≤ 9223372036854775807) : (w.alloc (.cells cs t)).ownsRow base t sz (.slice (some ⟨w.heap.size, 0, none⟩) n n) n cs.toList :=
  ⟨by simpa using hn, .inr ⟨w.heap.size, n, cs, rfl, hb, heap_alloc_new w _, Nat.le_refl _, by simpa only [maxLen] using hm, hn, by rw [← hn]; exact List.take_of_length_le (by simp)⟩⟩

theorem exec_str {a : Act} {o : Oper} {x : Operand} {A : Option Addr} {n c B : Nat} {l : List UInt8} {w : World} (ho : o.op = .convert 28 9 x) (hx : a.eval x = .slice A n c) (hr : Rd w B 1 A n (bvs l)) : (execOp a.eval o).run Try.prog w = .ok (.value (.string (tx l))) w := by
  have := run_str c hr
  unfold execOp
  simp only [ho, hx]
  rw [Sem.run_bind, this]
  rfl
theorem blk_cell {w : World} {g : Nat} {cs : Array Value} {t : TypeId} (h : w.heap[g]? = some (.cells cs t (0, 0))) (j : Nat) : w.cell? ⟨g, j, none⟩ = cs[j]? := cell_of_row w g j cs t (0, 0) h
theorem blk_free {w : World} {g : Nat} {cs : Array Value} {t : TypeId} (h : w.heap[g]? = some (.cells cs t (0, 0))) (j : Nat) : w.frozen? ⟨g, j, none⟩ = false := by simp [World.frozen?, h]

theorem tx_toList (l : List UInt8) : (tx l).toList = l := by rw [ByteArray.toList_eq, tx_list]
theorem tx_beq {a b : List UInt8} (h : a = b) : ((tx a).toList == (tx b).toList) = true := by rw [h]; simp
theorem tx_bne {a b : List UInt8} (h : a ≠ b) : ((tx a).toList == (tx b).toList) = false := by rw [tx_toList, tx_toList]; simpa using h

theorem setc_heap (w : World) (g j : Nat) (u : Value) (cs : Array Value) (t : TypeId) (h : w.heap[g]? = some (.cells cs t (0, 0))) : (w.setCell ⟨g, j, none⟩ u).heap[g]? = some (.cells (cs.setIfInBounds j u) t (0, 0)) := by
  simp [World.setCell, Array.getElem?_modify, h]
theorem setc_keeps (w w' : World) (g j : Nat) (u : Value) (h : Rg.Keeps (fun x => x = g) w w') : Rg.Keeps (fun x => x = g) w (w'.setCell ⟨g, j, none⟩ u) :=
  ⟨h.os, h.tape, h.output, by simpa [World.setCell] using h.size, fun k hk hne => by
    rw [← h.block k hk hne]
    simp only [World.setCell, Array.getElem?_modify]
    rw [if_neg (fun e => hne e.symm)]⟩
/-- five cells stored one by one -/
theorem set5 (w : World) (g : Nat) (a0 a1 a2 a3 a4 v0 v1 v2 v3 v4 : Value) (t : TypeId) (h : w.heap[g]? = some (.cells #[a0, a1, a2, a3, a4] t (0, 0))) :
    (((((w.setCell ⟨g, 0, none⟩ v0).setCell ⟨g, 1, none⟩ v1).setCell ⟨g, 2, none⟩ v2).setCell ⟨g, 3, none⟩ v3).setCell ⟨g, 4, none⟩ v4).heap[g]? = some (.cells #[v0, v1, v2, v3, v4] t (0, 0)) ∧
    Rg.Keeps (fun x => x = g) w (((((w.setCell ⟨g, 0, none⟩ v0).setCell ⟨g, 1, none⟩ v1).setCell ⟨g, 2, none⟩ v2).setCell ⟨g, 3, none⟩ v3).setCell ⟨g, 4, none⟩ v4) := by
  refine ⟨?_, setc_keeps _ _ _ _ _ (setc_keeps _ _ _ _ _ (setc_keeps _ _ _ _ _ (setc_keeps _ _ _ _ _ (setc_keeps _ _ _ _ _ (Rg.Keeps.refl _ _)))))⟩
  have h1 := setc_heap _ g 4 v4 _ _ (setc_heap _ g 3 v3 _ _ (setc_heap _ g 2 v2 _ _ (setc_heap _ g 1 v1 _ _ (setc_heap w g 0 v0 _ _ h))))
  exact h1
theorem Keeps.weak {X Y : Nat → Prop} {w w' : World} (h : Rg.Keeps X w w') (hxy : ∀ g, X g → Y g) : Rg.Keeps Y w w' := ⟨h.os, h.tape, h.output, h.size, fun k hk hn => h.block k hk fun hx => hn (hxy k hx)⟩

/-- two bytes of a literal, as a text -/
theorem two_str (x y : Int) (W : World) (g : Nat) (h0 : W.cell? ⟨g, 0, none⟩ = some (.int .u8 (IntKind.u8.wrap x))) (h1 : W.cell? ⟨g, 1, none⟩ = some (.int .u8 (IntKind.u8.wrap y))) : (convert 28 9 (.slice (some ⟨g, 0, none⟩) 2 2)).run Try.prog W = .ok (.string (tx [byteOf x, byteOf y])) W := by
  refine run_str (B := g + 1) 2 ⟨by simp [bvs], fun _ => ⟨g, 0, rfl, by omega, fun j u hj => ?_⟩⟩
  match j with
  | 0 => simp [bvs] at hj; rw [← hj, bv_byteOf, Nat.zero_add, h0, IntKind.wrap_u8]
  | 1 => simp [bvs] at hj; rw [← hj, bv_byteOf, Nat.zero_add, h1, IntKind.wrap_u8]
  | j + 2 => simp [bvs] at hj
end Go.Proofs.Ytnbdijifhimogaa
