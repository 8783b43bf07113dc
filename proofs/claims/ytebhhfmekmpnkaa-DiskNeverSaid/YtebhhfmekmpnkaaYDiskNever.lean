/-
  'clepsydra/clepsydralaw4.DiskNever': for every input the law returns true; each argument reads behind the call as it read before. No condition.
-/
import Derived.Laws.BitsAllLaws
import Derived.IntWalk
import Derived.Deep.Cut
import Derived.Deep.CutRange
import Derived.Test.YtebhhfmekmpnkaaZ3
/-
  The law DiskNever: the walk.
-/
namespace Go.Proofs.Ytebhhfmekmpnkaa.diskNever
open Go.RowKit Go.Maps
set_option linter.unusedVariables false
set_option linter.unusedSimpArgs false
def nm3v : Array Value := #[.string (tx (nmk 0)), .string (tx (nmk 1)), .string (tx (nmk 2))]
def nowv (fs : List Fi) : Array Value := (fs.map fun f => Value.string (tx f.b)).toArray
def lasv (fs : List Fi) : Array Value := (fs.map fun f => Value.string (tx (f.b.take f.last))).toArray
/-- the three boxes of the law: names, now, last -/
structure Bx (h : Hp) (nb na la : Nat) (fs : List Fi) (w : World) : Prop where
  bn : w.heap[nb]? = some (.cells nm3v 9 (0, 0))
  ba : w.heap[na]? = some (.cells (nowv fs) 40 (0, 0))
  bl : w.heap[la]? = some (.cells (lasv fs) 40 (0, 0))
  fn : ¬ foot h nb
  fa : ¬ foot h na
  fl : ¬ foot h la
  nal : na ≠ la
  nna : nb ≠ na
  nnl : nb ≠ la
theorem dk_nf {h h' : Hp} {w w' : World} (D : DkTo h w h' w') {k : Nat} (hk : k < w.heap.size) (hn : ¬ foot h k) : ¬ foot h' k := fun hf => by
  rcases D.foot k hf with h1 | h1
  · exact hn h1
  · omega
theorem i64_rg (x : Int64) : -9223372036854775808 ≤ x.toInt ∧ x.toInt ≤ 9223372036854775807 := by
  have h1 := Int64.le_toInt x
  have h2 := Int64.toInt_lt x
  omega
theorem blt {w : World} {g : Nat} {o : Obj} (h : w.heap[g]? = some o) : g < w.heap.size := (Array.getElem?_eq_some_iff.1 h).1
theorem Bx.to {h h' : Hp} {nb na la : Nat} {fs : List Fi} {w w' : World} (b : Bx h nb na la fs w) (D : DkTo h w h' w') : Bx h' nb na la fs w' :=
  ⟨(D.kept.block _ (blt b.bn) b.fn).trans b.bn, (D.kept.block _ (blt b.ba) b.fa).trans b.ba, (D.kept.block _ (blt b.bl) b.fl).trans b.bl,
    dk_nf D (blt b.bn) b.fn, dk_nf D (blt b.ba) b.fa, dk_nf D (blt b.bl) b.fl, b.nal, b.nna, b.nnl⟩
theorem Bx.up {h : Hp} {nb na la : Nat} {fs : List Fi} {w w' : World} (b : Bx h nb na la fs w) (u : Up w w') : Bx h nb na la fs w' := b.to (DkTo.up u)
theorem Bx.name {h : Hp} {nb na la : Nat} {fs : List Fi} {w : World} (b : Bx h nb na la fs w) {k : Nat} (hk : k < 3) : w.cell? ⟨nb, k, none⟩ = some (.string (tx (nmk k))) := by
  rw [blk_cell b.bn]
  rcases lt3 hk with rfl | rfl | rfl <;> rfl
theorem Bx.now {h : Hp} {nb na la : Nat} {fs : List Fi} {w : World} (b : Bx h nb na la fs w) {k : Nat} (hk : k < fs.length) : w.cell? ⟨na, k, none⟩ = some (.string (tx (fs.getD k ⟨[], 0⟩).b)) := by
  rw [blk_cell b.ba]
  simp [nowv, hk, List.getD]
theorem Bx.las {h : Hp} {nb na la : Nat} {fs : List Fi} {w : World} (b : Bx h nb na la fs w) {k : Nat} (hk : k < fs.length) : w.cell? ⟨la, k, none⟩ = some (.string (tx ((fs.getD k ⟨[], 0⟩).b.take (fs.getD k ⟨[], 0⟩).last))) := by
  rw [blk_cell b.bl]
  simp [lasv, hk, List.getD]
theorem set_self {α β : Type} (f : α → β) {l : List α} {k : Nat} (hk : k < l.length) : (l.map f).set k (f l[k]) = l.map f := by
  have h : f l[k] = (l.map f)[k]'(by simpa using hk) := by simp
  rw [h, List.set_getElem_self]
theorem nf_lasv {fs : List Fi} {k : Nat} (hk : k < fs.length) : (lasv fs).setIfInBounds k (.string (tx (fs.getD k ⟨[], 0⟩).b)) = lasv (synN fs k) ∧ nowv (synN fs k) = nowv fs := by
  constructor
  · unfold lasv synN
    rw [List.map_set, List.setIfInBounds_toArray]
    simp
  · unfold nowv synN
    rw [List.map_set]
    simp [List.getD, hk]
    exact set_self (fun f => Value.string (tx f.b)) hk
theorem nf_nowv {fs : List Fi} {k : Nat} (p : List UInt8) (hk : k < fs.length) (hl : ∀ f ∈ fs, f.last ≤ f.b.length) : (nowv fs).setIfInBounds k (.string (tx ((fs.getD k ⟨[], 0⟩).b ++ p))) = nowv (appN fs k p) ∧ lasv (appN fs k p) = lasv fs := by
  constructor
  · unfold nowv appN
    rw [List.map_set, List.setIfInBounds_toArray]
  · have h9 := hl fs[k] (List.getElem_mem hk)
    unfold lasv appN
    rw [List.map_set]
    simp [List.getD, hk, List.take_append_of_le_length h9]
    exact set_self (fun f => Value.string (tx (f.b.take f.last))) hk
theorem Bx.sync {h : Hp} {nb na la : Nat} {fs : List Fi} {w : World} (b : Bx h nb na la fs w) {k : Nat} (hk : k < fs.length) :
    Bx h nb na la (synN fs k) (w.setCell ⟨la, k, none⟩ (.string (tx (fs.getD k ⟨[], 0⟩).b))) := by
  have hK : Rg.Keeps (fun x => x = la) w (w.setCell ⟨la, k, none⟩ (.string (tx (fs.getD k ⟨[], 0⟩).b))) := setc_keeps _ _ _ _ _ (Rg.Keeps.refl _ _)
  refine ⟨(hK.block _ (blt b.bn) b.nnl).trans b.bn, ?_, ?_, b.fn, b.fa, b.fl, b.nal, b.nna, b.nnl⟩
  · rw [(nf_lasv hk).2]
    exact (hK.block _ (blt b.ba) b.nal).trans b.ba
  · rw [setc_heap _ _ _ _ _ _ b.bl, (nf_lasv hk).1]
theorem Bx.app {h : Hp} {nb na la : Nat} {fs : List Fi} {w : World} (b : Bx h nb na la fs w) {k : Nat} (hk : k < fs.length) (p : List UInt8) (hl : ∀ f ∈ fs, f.last ≤ f.b.length) :
    Bx h nb na la (appN fs k p) (w.setCell ⟨na, k, none⟩ (.string (tx ((fs.getD k ⟨[], 0⟩).b ++ p)))) := by
  have hK : Rg.Keeps (fun x => x = na) w (w.setCell ⟨na, k, none⟩ (.string (tx ((fs.getD k ⟨[], 0⟩).b ++ p)))) := setc_keeps _ _ _ _ _ (Rg.Keeps.refl _ _)
  refine ⟨(hK.block _ (blt b.bn) b.nna).trans b.bn, ?_, ?_, b.fn, b.fa, b.fl, b.nal, b.nna, b.nnl⟩
  · rw [setc_heap _ _ _ _ _ _ b.ba, (nf_nowv p hk hl).1]
  · rw [(nf_nowv p hk hl).2]
    exact (hK.block _ (blt b.bl) (fun e => b.nal e.symm)).trans b.bl
theorem dset {B : Nat} {h : Hp} {d : Dk} {w0 w : World} (H : DiskAt B h d w) (hu : Up w0 w) {g : Nat} (hg : w0.heap.size ≤ g) (hf : ¬ foot h g) (k : Nat) (v : Value) :
    DiskAt B h d (w.setCell ⟨g, k, none⟩ v) ∧ Up w0 (w.setCell ⟨g, k, none⟩ v) := by
  have hK8 : Rg.Keeps (fun k => k = g) w (w.setCell ⟨g, k, none⟩ v) := setc_keeps _ _ _ _ _ (Rg.Keeps.refl _ _)
  exact ⟨H.keepsX hK8 (fun k hk e => hf (e ▸ hk)), hK8.os.trans hu.os, hK8.tape.trans hu.tape, hK8.output.trans hu.output, Nat.le_trans hu.size hK8.size, fun k hk => (hK8.block k (Nat.lt_of_lt_of_le hk hu.size) (by omega)).trans (hu.block k hk)⟩
theorem dnk_can {k : Nat} (hk : k < 3) : DkOk (dnk k) ∧ (dnk k).calls ≤ 1000000000 ∧ (dnk k).files.length < 1000000 ∧ (dnk k).turns.length < 1000000 := by
  have b0 : (dnk 0).calls ≤ 1000000000 ∧ (dnk 0).files.length < 1000000 ∧ (dnk 0).turns.length < 1000000 := by decide
  have b1 : (dnk 1).calls ≤ 1000000000 ∧ (dnk 1).files.length < 1000000 ∧ (dnk 1).turns.length < 1000000 := by decide
  have b2 : (dnk 2).calls ≤ 1000000000 ∧ (dnk 2).files.length < 1000000 ∧ (dnk 2).turns.length < 1000000 := by decide
  have k0 : DkOk (dnk 0) := newD_ok (by omega)
  have k1 : DkOk (dnk 1) := createD_ok k0 _ b0.2.1 b0.2.2
  have k2 : DkOk (dnk 2) := createD_ok k1 _ b1.2.1 b1.2.2
  rcases lt3 hk with rfl | rfl | rfl
  · exact ⟨k0, b0⟩
  · exact ⟨k1, b1⟩
  · exact ⟨k2, b2⟩
theorem dnk3_ok : DkOk (dnk 3) ∧ (dnk 3).calls ≤ 1000000000 := ⟨createD_ok (dnk_can (by decide)).1 _ (dnk_can (by decide)).2.2.1 (dnk_can (by decide)).2.2.2, by decide⟩
theorem getN {fs : List Fi} {n K : Nat} (h : ∀ f ∈ fs, f.b.length ≤ n ∧ f.last ≤ f.b.length) : (fs.getD K ⟨[], 0⟩).b.length ≤ n ∧ (fs.getD K ⟨[], 0⟩).last ≤ (fs.getD K ⟨[], 0⟩).b.length := by
  by_cases hk : K < fs.length
  · have : fs.getD K ⟨[], 0⟩ = fs[K] := by simp [List.getD, hk]
    rw [this]
    exact h _ (List.getElem_mem hk)
  · have : fs.getD K ⟨[], 0⟩ = ⟨[], 0⟩ := by simp [List.getD, hk]
    rw [this]
    exact ⟨Nat.zero_le _, Nat.le_refl _⟩
theorem synN_b {fs : List Fi} {i K : Nat} (h : ∀ f ∈ fs, f.b.length ≤ 15 * i ∧ f.last ≤ f.b.length) : ∀ f ∈ synN fs K, f.b.length ≤ 15 * (i + 1) ∧ f.last ≤ f.b.length := fun f hf => by
  rcases List.mem_or_eq_of_mem_set hf with h1 | h1
  · have := h f h1; omega
  · have := (getN (K := K) h).1
    subst h1
    simp only [Nat.le_refl, and_true]
    omega
theorem appN_b {fs : List Fi} {i K : Nat} {p : List UInt8} (hp : p.length ≤ 15) (h : ∀ f ∈ fs, f.b.length ≤ 15 * i ∧ f.last ≤ f.b.length) : ∀ f ∈ appN fs K p, f.b.length ≤ 15 * (i + 1) ∧ f.last ≤ f.b.length := fun f hf => by
  rcases List.mem_or_eq_of_mem_set hf with h1 | h1
  · have := h f h1; omega
  · have := getN (K := K) h
    subst h1
    simp only [List.length_append]
    omega
theorem cutN_get (fs : List Fi) (j : Nat) : ((cutN fs).getD j ⟨[], 0⟩).b = (fs.getD j ⟨[], 0⟩).b.take (fs.getD j ⟨[], 0⟩).last := by
  unfold cutN
  by_cases hk : j < fs.length
  · simp [List.getD, hk]
  · simp [List.getD, hk]
theorem cutN_b {fs : List Fi} {i : Nat} (h : ∀ f ∈ fs, f.b.length ≤ 15 * i ∧ f.last ≤ f.b.length) (hi : i ≤ 40) : ∀ f ∈ cutN fs, f.b.length ≤ 250000 ∧ f.last ≤ f.b.length := fun f hf => by
  obtain ⟨g, hg, rfl⟩ := List.mem_map.1 hf
  have := h g hg
  simp only [List.length_take]
  omega
def fs0 : List Fi := [⟨[], 0⟩, ⟨[], 0⟩, ⟨[], 0⟩]
theorem Bx.mk0 {h : Hp} {w1 : World} (hf : ∀ k, foot h k → k < w1.heap.size) : Bx h w1.heap.size (w1.heap.size + 1) (w1.heap.size + 1 + 1) fs0 (((w1.alloc (Obj.cells #[Value.string { data := #[97] }, Value.string { data := #[98] }, Value.string { data := #[99] }] 9)).alloc (Obj.cells #[Value.string { data := #[] }, Value.string { data := #[] }, Value.string { data := #[] }] 40)).alloc (Obj.cells #[Value.string { data := #[] }, Value.string { data := #[] }, Value.string { data := #[] }] 40)) := by
  refine ⟨?_, ?_, ?_, fun hx => ?_, fun hx => ?_, fun hx => ?_, by omega, by omega, by omega⟩
  · exact (((Up.refl _).alloc _).block _ (by simp <;> omega)).trans ((((Up.refl _).alloc _).block _ (by simp <;> omega)).trans (heap_alloc_new w1 _))
  · exact (((Up.refl _).alloc _).block _ (by simp <;> omega)).trans (by
      have h := heap_alloc_new (w1.alloc (Obj.cells #[Value.string { data := #[97] }, Value.string { data := #[98] }, Value.string { data := #[99] }] 9)) (Obj.cells #[Value.string { data := #[] }, Value.string { data := #[] }, Value.string { data := #[] }] 40)
      rw [show (w1.alloc (Obj.cells #[Value.string { data := #[97] }, Value.string { data := #[98] }, Value.string { data := #[99] }] 9)).heap.size = w1.heap.size + 1 by simp] at h
      exact h)
  · have h := heap_alloc_new ((w1.alloc (Obj.cells #[Value.string { data := #[97] }, Value.string { data := #[98] }, Value.string { data := #[99] }] 9)).alloc (Obj.cells #[Value.string { data := #[] }, Value.string { data := #[] }, Value.string { data := #[] }] 40)) (Obj.cells #[Value.string { data := #[] }, Value.string { data := #[] }, Value.string { data := #[] }] 40)
    rw [show ((w1.alloc (Obj.cells #[Value.string { data := #[97] }, Value.string { data := #[98] }, Value.string { data := #[99] }] 9)).alloc (Obj.cells #[Value.string { data := #[] }, Value.string { data := #[] }, Value.string { data := #[] }] 40)).heap.size = w1.heap.size + 1 + 1 by simp] at h
    exact h
  · have := hf _ hx; omega
  · have := hf _ hx; omega
  · have := hf _ hx; omega
set_option maxRecDepth 100000 in
set_option maxHeartbeats 4000000 in
theorem law_any (A0 : Option Addr) (m0 c0 : Nat) (l0 : List Int64) (w : World) (hr0 : IsZ w A0 m0 c0 l0) :
    Calls Try.prog 5 #[.slice A0 m0 c0] w fun e w' => e = .returned (.bool true) ∧ Up w w' := by
  have hm0 : m0 ≤ 9223372036854775807 := by have := hr0.2; omega
  go_enter Try.func5, Try.ntmps5
  go_wp2_with fail
  refine (dnew_any 1048576 w).mono ?_
  rintro e w1 ⟨h1, rfl, H1, hu1, hf1⟩
  go_wp2_with fail
  have hb0 := Bx.mk0 (h := h1) (w1 := w1) (fun k hk => (H1.lt hk).2)
  have hu2 : Up w1 _ := (((Up.refl w1).alloc (Obj.cells #[Value.string { data := #[97] }, Value.string { data := #[98] }, Value.string { data := #[99] }] 9)).alloc (Obj.cells #[Value.string { data := #[] }, Value.string { data := #[] }, Value.string { data := #[] }] 40)).alloc (Obj.cells #[Value.string { data := #[] }, Value.string { data := #[] }, Value.string { data := #[] }] 40)
  have H2 := H1.up hu2
  have hu3 := hu1.trans hu2
  have hnb : w.heap.size ≤ w1.heap.size := hu1.size
  have hna : w.heap.size ≤ w1.heap.size + 1 := by omega
  have hla : w.heap.size ≤ w1.heap.size + 1 + 1 := by omega
  generalize ((w1.alloc (Obj.cells #[Value.string { data := #[97] }, Value.string { data := #[98] }, Value.string { data := #[99] }] 9)).alloc (Obj.cells #[Value.string { data := #[] }, Value.string { data := #[] }, Value.string { data := #[] }] 40)).alloc (Obj.cells #[Value.string { data := #[] }, Value.string { data := #[] }, Value.string { data := #[] }] 40) = w2 at *
  generalize w1.heap.size + 1 + 1 = la at *
  generalize w1.heap.size + 1 = na at *
  generalize w1.heap.size = nb at *
  have HG1 : Hid (h1.g = h1.g) := Lib.hid rfl
  generalize hG : h1.g = G at *
  have HG2 : Hid (h1.g = G) := Lib.hid hG
  clear H1 hu1 hf1 hu2 hG HG1
  go_loopw [7] (fun iv wr => ∃ (k : Nat) (h : Hp), iv = .int .i64 (k : Int) ∧ k ≤ 3 ∧ Hid (h.g = G) ∧ DiskAt w.heap.size h (dnk k) wr ∧ Up w wr ∧ Bx h nb na la fs0 wr) (fun iv _ => 3 - (intOf iv).toNat)
  case atStart => exact ⟨0, h1, rfl, by omega, HG2, H2, hu3, hb0⟩
  case round =>
    obtain ⟨k, h, rfl, hk3, HG, H, hup, hb⟩ := hrel
    clear H2 hu3 hb0 HG2
    by_cases hlt : k < 3
    · have i1 : (k : Int) < 3 := by omega
      have hcn := hb.name hlt
      obtain ⟨q1, q2, q3, q4⟩ := dnk_can hlt
      have hcc := create_any H q1 q2 q3 q4 (nmk k) (by simp [nmk])
      rw [HG.out, (dnk_ok k hlt).1] at hcc
      rw [show ((0 : Nat) : Int) = 0 from rfl] at hcc
      have HCC := Lib.hid hcc
      clear hcc q1 q2 q3 q4
      go_wp2_with fail
      refine HCC.out.mono ?_
      rintro e w3 ⟨h3, rfl, H3, D3⟩
      have hb3 := hb.to D3
      have hu3 := D3.below H (Nat.le_refl _) hup
      have hg3 : h3.g = G := D3.g.trans HG.out
      have HG3 := Lib.hid hg3
      clear HCC hcn D3 H hb hup hg3 HG
      go_wp2_with fail
      go_roundw
      case rel => exact ⟨k + 1, h3, by go_num, by omega, HG3, H3, hu3, hb3⟩
      case measure => simp [intOf]; omega
    · have i1 : ¬ (k : Int) < 3 := by omega
      obtain rfl : k = 3 := by omega
      have hcs := syncDir_any H dnk3_ok.1 dnk3_ok.2
      rw [HG.out, dnk_end] at hcs
      (try dsimp only at hcs)
      rw [show ((0 : Nat) : Int) = 0 from rfl] at hcs
      have HCS := Lib.hid hcs
      clear hcs i1
      go_wp2_with fail
      refine HCS.out.mono ?_
      rintro e w3 ⟨h3, rfl, H3, D3⟩
      have hb3 := hb.to D3
      have hu3 := D3.below H (Nat.le_refl _) hup
      have hg3 : h3.g = G := D3.g.trans HG.out
      have HG3 := Lib.hid hg3
      clear HCS D3 H hb hup hg3 HG
      go_wp2_with fail
      go_loopw [8] (fun iv wr => ∃ (i : Nat) (h : Hp) (fs : List Fi) (c : Nat), iv = .int .i64 (i : Int) ∧ i ≤ 40 ∧ i ≤ m0 ∧ Hid (fs.length = 3) ∧ Hid (∀ f ∈ fs, f.b.length ≤ 15 * i ∧ f.last ≤ f.b.length) ∧ c ≤ 4 + i ∧ Hid (h.g = G) ∧ DiskAt w.heap.size h (dn3 fs c) wr ∧ Up w wr ∧ Bx h nb na la fs wr) (fun iv _ => 40 - (intOf iv).toNat)
      case atStart => exact ⟨0, h3, fs0, 4, rfl, by omega, by omega, by rfl, by show ∀ f ∈ fs0, _; simp [fs0], by omega, HG3, H3, hu3, hb3⟩
      case round =>
        obtain ⟨i, h, fs, c, rfl, hi40, him, HF3, HFB, hcb, HG, H, hup, hb⟩ := hrel
        clear H3 hu3 hb3 HG3
        have hok6 : DkOk (dn3 fs c) := dn3_ok HF3.out (fun f hf => ⟨by have := (HFB.out f hf).1; omega, (HFB.out f hf).2⟩)
        by_cases hlt : i < m0
        · by_cases h40 : i < 40
          · obtain ⟨b, o, rfl, hbB, hcell0⟩ := hr0.1.znum hlt
            obtain ⟨hx1, hx2⟩ := i64_rg (l0.getD i 0)
            generalize ((l0).getD i 0).toInt = x at *
            have j1 : (i : Int) < (m0 : Int) := by omega
            have j2 : (i : Int) < 40 := by omega
            obtain ⟨C1, hC, hC2⟩ := i64_and_le x 255 (by omega)
            replace hC : bits .and .i64 x 255 = (C1 : Int) := hC
            obtain ⟨K, hK, hKm⟩ : ∃ K : Nat, (C1 : Int) % 3 = (K : Int) ∧ K < 3 := ⟨C1 % 3, (by omega), Nat.mod_lt C1 (by omega)⟩
            have hcx := (hup.cell (p := ⟨b, o + i, none⟩) hbB).trans hcell0
            have hKi : (K : Int) < 3 := by omega
            obtain ⟨C3, hC3, -⟩ := i64_and_le (x / 256) 3 (by omega)
            replace hC3 : bits .and .i64 (x / 256) 3 = (C3 : Int) := hC3
            obtain ⟨C4, hC4, hC4b⟩ := i64_and_le (x / 1024) 15 (by omega)
            replace hC4 : bits .and .i64 (x / 1024) 15 = (C4 : Int) := hC4
            have hnm := hb.name hKm
            have hlen : ∀ f ∈ fs, f.b.length ≤ 600 := fun f hf => by have := (HFB.out f hf).1; omega
            by_cases h0 : C3 = 0
            · subst h0
              rw [show ((0 : Nat) : Int) = 0 from rfl] at hC3
              have hcs := sync_any H hok6 (by simp only [dn3]; omega) (nmk K) (by simp [nmk])
              rw [HG.out, dn3_sync hKm] at hcs
              (try dsimp only at hcs)
              rw [show ((0 : Nat) : Int) = 0 from rfl] at hcs
              have HCS := Lib.hid hcs
              clear hcs hlen
              go_wp2_with fail
              clear hC hC3 hC4 hcx hnm
              refine HCS.out.mono ?_
              rintro e w4 ⟨h4, rfl, H4, D4⟩
              have hb4 := hb.to D4
              have hu4 := D4.below H (Nat.le_refl _) hup
              have hg4 : h4.g = G := D4.g.trans HG.out
              have HG4 := Lib.hid hg4
              have hKf : K < fs.length := by rw [HF3.out]; exact hKm
              have ca := hb4.now hKf
              have cl := hb4.las hKf
              have zl := blk_free hb4.bl K
              have HGEN := Lib.hid (dset H4 hu4 hla hb4.fl K)
              have hbs := Lib.hid (hb4.sync hKf)
              clear HCS D4 H hb hup hg4 HG hb4 H4 hu4 hKf
              go_wp2_with fail
              go_roundw
              case rel =>
                exact ⟨i + 1, h4, synN fs K, c + 1, by go_num, by omega, by omega, (by show (synN fs K).length = 3; simp [synN]; exact HF3.out), synN_b HFB.out, by omega, HG4, (HGEN.out _).1, (HGEN.out _).2, hbs.out⟩
              case measure => simp [intOf]; omega
            · have h03 : ((C3 : Int) == 0) = false := by rw [beq_eq_false_iff_ne]; omega
              go_wp2_with fail
              clear hC hC3 hC4 hcx hnm h03
              refine (bytes_any (i : Int) C4 _ (by omega) (by omega)).mono ?_
              rintro e w6 ⟨rfl, hu6⟩
              have hpl := bytesL_len (i : Int) C4
              generalize bytesL (i : Int) C4 = p at *
              have hpl2 : p.length ≤ 15 := by omega
              clear hpl
              have H6 := H.up hu6
              have hup6 := hup.trans hu6
              have hb6 := hb.up hu6
              have hnm6 := hb6.name hKm
              have hcl6 : (dn3 fs c).calls ≤ 1000000000 := by simp only [dn3]; omega
              have hst := dn3_append (c := c) hKm p HF3.out (fun f hf => by have := hlen f hf; omega) (by omega)
              have hcat : tx (fs.getD K ⟨[], 0⟩).b ++ tx p = tx (cc (fs.getD K ⟨[], 0⟩).b p) := tx_append' _ _
              have hgl : (fs.getD K ⟨[], 0⟩).b.length ≤ 600 := by have := (getN (K := K) HFB.out).1; omega
              have hnz : ¬ (9223372036854775807 < (tx (fs.getD K ⟨[], 0⟩).b).size + (tx p).size) := by rw [tx_size, tx_size]; omega
              obtain ⟨cb, w7, hconv, hcap, hrd7, hu7, -, hlt7⟩ := conv_b w6 p
              have H7 := H6.up hu7
              have hb7 := hb6.up hu7
              have hup7 := hup6.trans hu7
              have hca := dappend_any H7 hok6 hcl6 (nmk K) (by simp [nmk]) (some ⟨w6.heap.size, 0, none⟩) p.length cb p hrd7 (by omega) (fun y hy hfy => by
                obtain ⟨a, ha, e⟩ := hy
                injection ha with ha
                subst ha
                have h9 := (H6.lt hfy).2
                have e' : w6.heap.size = y := e
                omega)
              rw [HG.out, hst] at hca
              (try dsimp only at hca)
              rw [show ((0 : Nat) : Int) = 0 from rfl] at hca
              have HCA := Lib.hid hca
              clear hst hca hrd7 hlt7 hlen hgl
              go_wp2_with fail
              clear hconv hnm6
              refine HCA.out.mono ?_
              rintro e w8 ⟨h8, rfl, H8, D8⟩
              have hb8 := hb7.to D8
              have hup8 := D8.below H7 (Nat.le_refl _) hup7
              have hg8 : h8.g = G := D8.g.trans HG.out
              have HG8 := Lib.hid hg8
              have hKf : K < fs.length := by rw [HF3.out]; exact hKm
              have ca := hb8.now hKf
              have za := blk_free hb8.ba K
              have HGEN := Lib.hid (dset H8 hup8 hna hb8.fa K)
              have hbs := Lib.hid (hb8.app hKf p (fun f hf => (HFB.out f hf).2))
              clear HCA D8 H hb hup hg8 HG hb8 H8 hup8 hKf H7 hb7 hup7 hu7 H6 hup6 hb6 hu6
              go_wp2_with fail
              go_roundw
              case rel =>
                exact ⟨i + 1, h8, appN fs K p, c + 1, by go_num, by omega, by omega, (by show (appN fs K p).length = 3; simp [appN]; exact HF3.out), appN_b hpl2 HFB.out, by omega, HG8, (HGEN.out _).1, (HGEN.out _).2, hbs.out⟩
              case measure => simp [intOf]; omega
          · have j1 : (i : Int) < (m0 : Int) := by omega
            have j2 : ¬ (i : Int) < 40 := by omega
            have hua : Up wr (wr.alloc (.cells #[.int .i64 0, .int .i64 0, .int .i64 0] 3)) := (Up.refl wr).alloc _
            have hrk : Rd (wr.alloc (.cells #[.int .i64 0, .int .i64 0, .int .i64 0] 3)) (wr.alloc (.cells #[.int .i64 0, .int .i64 0, .int .i64 0] 3)).heap.size 1 (some ⟨wr.heap.size, 0, none⟩) 3 (izs [0, 0, 0]) := Rd.made wr #[.int .i64 0, .int .i64 0, .int .i64 0] 3 rfl
            have Hc := H.up hua
            have hbc := hb.up hua
            have hupc := hup.trans hua
            have hcc := crash_any Hc hok6 (some ⟨wr.heap.size, 0, none⟩) 3 3 [0, 0, 0] hrk (by omega) (by omega) (by simp) (fun _ a ha hf => by
              injection ha with ha
              subst ha
              have h9 := (H.lt hf).2
              exact absurd h9 (Nat.lt_irrefl _)) (fun _ a ha => by
              injection ha with ha
              subst ha
              simp) (fun x hx => by cases hx)
            rw [HG.out, dn3_crash HF3.out (fun f hf => (HFB.out f hf).2)] at hcc
            have HCC := Lib.hid hcc
            clear hcc hrk H hb hup
            go_wp2_with fail
            refine HCC.out.mono ?_
            rintro e w8 ⟨h8, rfl, H8, D8⟩
            have hb8 := hbc.to D8
            have hup8 := D8.below Hc (Nat.le_refl _) hupc
            have hg8 : h8.g = G := D8.g.trans HG.out
            have HG8 := Lib.hid hg8
            clear HCC D8 hg8 HG Hc hbc hupc hua j1
            go_wp2_with fail
            go_loopw [11] (fun iv wr => ∃ (j : Nat) (h : Hp), iv = .int .i64 (j : Int) ∧ j ≤ 3 ∧ Hid (h.g = G) ∧ DiskAt w.heap.size h (dn3 (cutN fs) c) wr ∧ Up w wr ∧ Bx h nb na la fs wr) (fun iv _ => 3 - (intOf iv).toNat)
            case atStart => exact ⟨0, h8, rfl, by omega, HG8, H8, hup8, hb8⟩
            case round =>
              obtain ⟨j, h, rfl, hj3, HG, H, hup, hb⟩ := hrel
              clear H8 hup8 hb8 HG8
              by_cases hj : j < 3
              · have hji : (j : Int) < 3 := by omega
                have hnm := hb.name hj
                have hok9 : DkOk (dn3 (cutN fs) c) := dn3_ok (by simp [cutN]; exact HF3.out) (cutN_b HFB.out (by omega))
                have hcd := dread_any H hok9 (nmk j) (by simp [nmk])
                rw [HG.out, dn3_read hj, cutN_get] at hcd
                (try dsimp only at hcd)
                rw [show ((0 : Nat) : Int) = 0 from rfl] at hcd
                have HCD := Lib.hid hcd
                clear hcd hok9
                go_wp2_with fail
                refine HCD.out.mono ?_
                rintro e wa ⟨R, rn, rc, rfl, howna, hua⟩
                have cl := (hb.up hua).las (k := j) (by rw [HF3.out]; exact hj)
                generalize (fs.getD j ⟨[], 0⟩).b.take (fs.getD j ⟨[], 0⟩).last = tl at *
                have Ha := H.up hua
                have hupa := hup.trans hua
                have hba := hb.up hua
                have hsame : ((tx tl).toList == (tx tl).toList) = true := tx_beq rfl
                have hS : ∀ W, Up wa W → Up wa W ∧ W.cell? ⟨la, j, none⟩ = some (.string (tx tl)) := fun W hW => ⟨hW, (hW.cell (p := ⟨la, j, none⟩) (blt hba.bl)).trans cl⟩
                clear H hup hb HCD hnm
                go_upto_region 30 with fail
                apply Rg.region_up _ (by kernel_rfl) (by kernel_rfl) hS
                · intro QN hQN
                  iterate 3 (apply Rg.RK.ok; (· intro vs w1 hS; go_simp; with_reducible rfl); (· rfl); simp only [Act.put, List.setIfInBounds_toArray, List.set_cons_zero, List.set_cons_succ, Nat.reduceAdd])
                  iterate 1 (apply Rg.RK.gok (t := 109); (· intro vs w1 hS; go_simp; with_reducible rfl); (· rfl); (· intro vs; rfl); simp only [Act.put, List.setIfInBounds_toArray, List.set_cons_zero, List.set_cons_succ, Nat.reduceAdd])
                  apply Rg.RK.gok (t := 109) (v := .string (tx (tl)))
                  · intro vs w1 hS
                    exact exec_str rfl rfl ((OwnB.rd howna).up hS.1)
                  · rfl
                  · intro vs; rfl
                  simp only [Act.put, List.setIfInBounds_toArray, List.set_cons_zero, List.set_cons_succ, Nat.reduceAdd]
                  iterate 4 (apply Rg.RK.gok (t := 109); (· intro vs w1 hS; go_simp; with_reducible rfl); (· rfl); (· intro vs; rfl); simp only [Act.put, List.setIfInBounds_toArray, List.set_cons_zero, List.set_cons_succ, Nat.reduceAdd])
                  iterate 1 (apply Rg.RK.ok; (· intro vs w1 hS; go_simp; with_reducible rfl); (· rfl); simp only [Act.put, List.setIfInBounds_toArray, List.set_cons_zero, List.set_cons_succ, Nat.reduceAdd])
                  apply Rg.RK.fin []
                  intro vs w1 hK hS _
                  refine hQN.out _ _ ?_
                  clear hQN
                  go_wp2_with fail
                  go_roundw
                  case rel => exact ⟨j + 1, h, by go_num, by omega, HG, Ha.up hS.1, hupa.trans hS.1, hba.up hS.1⟩
                  case measure => simp [intOf]; omega
                · kernel_rfl
              · have hji : ¬ (j : Int) < 3 := by omega
                go_wp2_with fail
                refine (awake4_any _).mono ?_
                rintro e wc ⟨rfl, huc⟩
                go_wp2_with fail
                go_ret
                exact ⟨rfl, hup.trans huc⟩
        · have j1 : ¬ (i : Int) < (m0 : Int) := by omega
          have hua : Up wr (wr.alloc (.cells #[.int .i64 0, .int .i64 0, .int .i64 0] 3)) := (Up.refl wr).alloc _
          have hrk : Rd (wr.alloc (.cells #[.int .i64 0, .int .i64 0, .int .i64 0] 3)) (wr.alloc (.cells #[.int .i64 0, .int .i64 0, .int .i64 0] 3)).heap.size 1 (some ⟨wr.heap.size, 0, none⟩) 3 (izs [0, 0, 0]) := Rd.made wr #[.int .i64 0, .int .i64 0, .int .i64 0] 3 rfl
          have Hc := H.up hua
          have hbc := hb.up hua
          have hupc := hup.trans hua
          have hcc := crash_any Hc hok6 (some ⟨wr.heap.size, 0, none⟩) 3 3 [0, 0, 0] hrk (by omega) (by omega) (by simp) (fun _ a ha hf => by
            injection ha with ha
            subst ha
            have h9 := (H.lt hf).2
            exact absurd h9 (Nat.lt_irrefl _)) (fun _ a ha => by
            injection ha with ha
            subst ha
            simp) (fun x hx => by cases hx)
          rw [HG.out, dn3_crash HF3.out (fun f hf => (HFB.out f hf).2)] at hcc
          have HCC := Lib.hid hcc
          clear hcc hrk H hb hup
          go_wp2_with fail
          refine HCC.out.mono ?_
          rintro e w8 ⟨h8, rfl, H8, D8⟩
          have hb8 := hbc.to D8
          have hup8 := D8.below Hc (Nat.le_refl _) hupc
          have hg8 : h8.g = G := D8.g.trans HG.out
          have HG8 := Lib.hid hg8
          clear HCC D8 hg8 HG Hc hbc hupc hua j1
          go_wp2_with fail
          go_loopw [11] (fun iv wr => ∃ (j : Nat) (h : Hp), iv = .int .i64 (j : Int) ∧ j ≤ 3 ∧ Hid (h.g = G) ∧ DiskAt w.heap.size h (dn3 (cutN fs) c) wr ∧ Up w wr ∧ Bx h nb na la fs wr) (fun iv _ => 3 - (intOf iv).toNat)
          case atStart => exact ⟨0, h8, rfl, by omega, HG8, H8, hup8, hb8⟩
          case round =>
            obtain ⟨j, h, rfl, hj3, HG, H, hup, hb⟩ := hrel
            clear H8 hup8 hb8 HG8
            by_cases hj : j < 3
            · have hji : (j : Int) < 3 := by omega
              have hnm := hb.name hj
              have hok9 : DkOk (dn3 (cutN fs) c) := dn3_ok (by simp [cutN]; exact HF3.out) (cutN_b HFB.out (by omega))
              have hcd := dread_any H hok9 (nmk j) (by simp [nmk])
              rw [HG.out, dn3_read hj, cutN_get] at hcd
              (try dsimp only at hcd)
              rw [show ((0 : Nat) : Int) = 0 from rfl] at hcd
              have HCD := Lib.hid hcd
              clear hcd hok9
              go_wp2_with fail
              refine HCD.out.mono ?_
              rintro e wa ⟨R, rn, rc, rfl, howna, hua⟩
              have cl := (hb.up hua).las (k := j) (by rw [HF3.out]; exact hj)
              generalize (fs.getD j ⟨[], 0⟩).b.take (fs.getD j ⟨[], 0⟩).last = tl at *
              have Ha := H.up hua
              have hupa := hup.trans hua
              have hba := hb.up hua
              have hsame : ((tx tl).toList == (tx tl).toList) = true := tx_beq rfl
              have hS : ∀ W, Up wa W → Up wa W ∧ W.cell? ⟨la, j, none⟩ = some (.string (tx tl)) := fun W hW => ⟨hW, (hW.cell (p := ⟨la, j, none⟩) (blt hba.bl)).trans cl⟩
              clear H hup hb HCD hnm
              go_upto_region 30 with fail
              apply Rg.region_up _ (by kernel_rfl) (by kernel_rfl) hS
              · intro QN hQN
                iterate 3 (apply Rg.RK.ok; (· intro vs w1 hS; go_simp; with_reducible rfl); (· rfl); simp only [Act.put, List.setIfInBounds_toArray, List.set_cons_zero, List.set_cons_succ, Nat.reduceAdd])
                iterate 1 (apply Rg.RK.gok (t := 109); (· intro vs w1 hS; go_simp; with_reducible rfl); (· rfl); (· intro vs; rfl); simp only [Act.put, List.setIfInBounds_toArray, List.set_cons_zero, List.set_cons_succ, Nat.reduceAdd])
                apply Rg.RK.gok (t := 109) (v := .string (tx (tl)))
                · intro vs w1 hS
                  exact exec_str rfl rfl ((OwnB.rd howna).up hS.1)
                · rfl
                · intro vs; rfl
                simp only [Act.put, List.setIfInBounds_toArray, List.set_cons_zero, List.set_cons_succ, Nat.reduceAdd]
                iterate 4 (apply Rg.RK.gok (t := 109); (· intro vs w1 hS; go_simp; with_reducible rfl); (· rfl); (· intro vs; rfl); simp only [Act.put, List.setIfInBounds_toArray, List.set_cons_zero, List.set_cons_succ, Nat.reduceAdd])
                iterate 1 (apply Rg.RK.ok; (· intro vs w1 hS; go_simp; with_reducible rfl); (· rfl); simp only [Act.put, List.setIfInBounds_toArray, List.set_cons_zero, List.set_cons_succ, Nat.reduceAdd])
                apply Rg.RK.fin []
                intro vs w1 hK hS _
                refine hQN.out _ _ ?_
                clear hQN
                go_wp2_with fail
                go_roundw
                case rel => exact ⟨j + 1, h, by go_num, by omega, HG, Ha.up hS.1, hupa.trans hS.1, hba.up hS.1⟩
                case measure => simp [intOf]; omega
              · kernel_rfl
            · have hji : ¬ (j : Int) < 3 := by omega
              go_wp2_with fail
              refine (awake4_any _).mono ?_
              rintro e wc ⟨rfl, huc⟩
              go_wp2_with fail
              go_ret
              exact ⟨rfl, hup.trans huc⟩
end Go.Proofs.Ytebhhfmekmpnkaa.diskNever

/-
  'clepsydra/clepsydralaw4.DiskNever': for every input the law returns true; each argument reads behind the call as it read before. No condition.
-/
namespace Go.Proofs.Ytebhhfmekmpnkaa.diskNever
open Go.ChangeShapes Go.WideShapes Go.ChangeAt Go.RowKit
open Go.ChangeMaps (open_string shut_string)
set_option linter.unusedVariables false

set_option maxRecDepth 100000 in
theorem lifted (os : Os) (started : os.Started) (H : Type) (enc : TypeId × Value → H) :
    ReturnsInHanded {} Try.checked os 5 .any (Rows.diskNeverSpec.pre6 enc Try.prog Try.f5 Rows.diskNeverRow.domain false) (Rows.diskNeverSpec.post enc Try.prog Try.f5 false true false false) := by
  refine returnsInHanded_of_change (C := Try.checked) prog_own started (by kernel_rfl) Try.func5
    (ChangeSpec.witness6 (enc := enc) (C := Try.checked) false ⟨#[], #[.slice none 0 0], []⟩ 8 (by kernel_rfl) (by kernel_rfl) (by kernel_rfl) (by kernel_rfl)) ?_
  intro W base args ds gs before hval0 hW hcnd _
  have hval : ∀ (j : Nat) t v, Try.f5.params[j]? = some t → args[j]? = some v → Value.okWide Try.prog W .any base t v := hval0
  have hW' := hW
  obtain ⟨p, q, hA0, hV, rfl, hfz, hnd⟩ := hW
  have hA : DataW.TrodAll enc Try.prog W 0 (fun _ => true) true Try.f5.params.toList args.toList ds p := hA0
  rw [Try.params5] at hA hval
  obtain ⟨v0, vs0, d0, ds0, p0, q0, hargs, rfl, rfl, h0, r0⟩ := trodAll_cons hA
  obtain ⟨rfl, rfl, rfl⟩ := trodAll_nil r0
  obtain rfl : args = #[v0] := by cases args; simp_all
  obtain ⟨rfl, rfl⟩ := trodVars_none hV
  obtain ⟨a0, len0, cap0, rfl⟩ := okWide_slice Try.underlying22 (hval 0 22 v0 rfl rfl)
  have k0 := h0
  have lt0 : ∀ x ∈ p0, x.block < W.heap.size := by obtain ⟨m, hm⟩ := k0; exact DataW.trod_lt m _ _ _ hm
  obtain ⟨l0, w0⟩ := is_z h0
  clear hA0 hval0
  refine (law_any a0 len0 cap0 l0 W w0).mono fun e W' ⟨he, bel⟩ => ?_
  subst he
  exact ⟨_, rfl, _, _, _, [], _, [], hW', trodAll_mk1 (shut_bool Try.underlying4 _), (trodAll_cons_mk (Below.trod laidOut (by kernel_rfl) (of_decide_eq_true (by kernel_rfl)) k0 bel lt0) trodAll_mk0), rfl, bel.frame _, fun h => by cases h⟩

theorem proved : Rows.DiskNeverSaid :=
  OpenClaim.holds_of_wide 5 Try.f5 rfl rfl rfl rfl rfl rfl rfl ⟨rfl, rfl, rfl, rfl, rfl⟩ rfl rfl rfl rfl rfl (by kernel_rfl) Try.func5 (by kernel_rfl)
    (of_decide_eq_true (by kernel_rfl)) (by unfold Func.isWrapper; first | (rw [if_pos (by decide +kernel)]; kernel_rfl) | (rw [if_neg (by decide +kernel)]; exact ⟨rfl, rfl⟩))
    (fun os started H enc _ => lifted os started H enc)
#print axioms proved
end Go.Proofs.Ytebhhfmekmpnkaa.diskNever
