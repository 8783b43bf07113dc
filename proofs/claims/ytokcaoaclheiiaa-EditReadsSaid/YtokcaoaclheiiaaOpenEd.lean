/-
  Opening arguments: edits, and slices of them.
-/
import Derived.Test.YtokcaoaclheiiaaOpenM
import Derived.Test.YtokcaoaclheiiaaEditW4
namespace Go.Proofs.Ytokcaoaclheiiaa
open Go.ChangeShapes Go.WideShapes Go.ChangeAt Go.RowKit Go.Deep
set_option linter.unusedVariables false
set_option linter.unusedSimpArgs false

/-- an edit as it lies in memory, and what its two rows hold -/
structure EdV where
  D : Option Addr
  dn : Nat
  dc : Nat
  ds : List Int
  A : Option Addr
  an : Nat
  ac : Nat
  add : List Fl
  lg : Int
  f : Nat
  ce : Nat
  at_ : Nat
  le : Nat
def EdV.cs (e : EdV) : List Value := [.slice e.D e.dn e.dc, .slice e.A e.an e.ac, .int .i64 e.lg, .int .u64 (e.f : Int), .int .u64 (e.ce : Int), .int .u64 (e.at_ : Int), .int .u64 (e.le : Int)]
theorem EdV.cs_len (e : EdV) : e.cs.length = 7 := rfl
structure IsEd (w : World) (e : EdV) : Prop where
  rd : Rd w w.heap.size 1 e.D e.dn (nmv e.ds)
  dc1 : e.dn ≤ e.dc
  dc2 : e.dc ≤ 9223372036854775807
  ra : Rd w w.heap.size 2 e.A e.an (fvs e.add)
  ac1 : e.an ≤ e.ac
  ac2 : e.ac ≤ 9223372036854775807
  lg1 : -9223372036854775808 ≤ e.lg ∧ e.lg ≤ 9223372036854775807
  nf : e.f < 18446744073709551616
  nc : e.ce < 18446744073709551616
  na : e.at_ < 18446744073709551616
  nl : e.le < 18446744073709551616
  bd : ∀ x ∈ e.ds, -9223372036854775808 ≤ x ∧ x ≤ 9223372036854775807
  ba : ∀ x ∈ e.add, (-9223372036854775808 ≤ x.1 ∧ x.1 ≤ 9223372036854775807) ∧ (-9223372036854775808 ≤ x.2 ∧ x.2 ≤ 9223372036854775807)
section
variable {H : Type} {enc : TypeId × Value → H} {W : World} {sp : Nat → Bool} {a : Option Addr} {len cap : Nat} {d : DataW H} {p : List MemPlace}
theorem ints_cells {fuel : Nat} {cs : List Value} {y : DataW H × List MemPlace} (hf : DataW.trod enc Try.prog W 0 (fun _ => true) true fuel 30 cs = some y) :
    ∃ (A : Option Addr) (n c : Nat) (l : List Int), cs = [.slice A n c] ∧ Rd W W.heap.size 1 A n (nmv l) ∧ n ≤ c ∧ c ≤ 9223372036854775807 ∧ ∀ x ∈ l, -9223372036854775808 ≤ x ∧ x ≤ 9223372036854775807 := by
  rcases open_ints Try.underlying30 Try.underlying3 (by kernel_rfl) hf with ⟨hcs, _⟩ | ⟨x, l, c, zs, hcs, _, hl, hm, hz, _, hcell, hwz⟩
  · exact ⟨none, 0, 0, [], hcs, Rd.empty, by omega, by omega, fun x hx => by cases hx⟩
  · refine ⟨some x, l, c, _, hcs, rd_ints (fun z : Int => Value.int .i64 z) (fun n => n) (fun n hn => rfl) hl (by simpa using hz) hcell hwz, hl, by simpa only [maxLen] using hm, fun z hz => ?_⟩
    rw [List.map_id'] at hz
    exact bd_i64 (hwz z (List.mem_of_mem_take hz))
set_option maxRecDepth 100000 in
theorem file_cells {fuel : Nat} {cs : List Value} {y : DataW H × List MemPlace} (hf : DataW.trod enc Try.prog W 0 (fun _ => true) true fuel 41 cs = some y) :
    ∃ f : Fl, cs = flc f ∧ (-9223372036854775808 ≤ f.1 ∧ f.1 ≤ 9223372036854775807) ∧ (-9223372036854775808 ≤ f.2 ∧ f.2 ≤ 9223372036854775807) := by
  obtain ⟨hlen, n, got⟩ := struct_one Try.underlying41 (by kernel_rfl) (by kernel_rfl) hf
  obtain ⟨y0, g0⟩ := got 0 _ rfl
  obtain ⟨y1, g1⟩ := got 1 _ rfl
  obtain ⟨n0, e0, _, w0⟩ := DataW.trod_int Try.underlying3 g0
  obtain ⟨n1, e1, _, w1⟩ := DataW.trod_int Try.underlying3 g1
  have hl2 : cs.length = 2 := hlen
  match cs, hl2 with
  | [c0, c1], _ =>
    simp only [List.drop_zero, List.drop_succ_cons, List.take_succ_cons, List.take_zero, List.cons.injEq, and_true] at e0 e1
    exact ⟨(n0, n1), by rw [e0, e1]; rfl, bd_i64 w0, bd_i64 w1⟩
instance : Inhabited { f : Fl // (-9223372036854775808 ≤ f.1 ∧ f.1 ≤ 9223372036854775807) ∧ (-9223372036854775808 ≤ f.2 ∧ f.2 ≤ 9223372036854775807) } := ⟨⟨(0, 0), by omega, by omega⟩⟩
theorem files_cells {fuel : Nat} {cs : List Value} {y : DataW H × List MemPlace} (hf : DataW.trod enc Try.prog W 0 (fun _ => true) true fuel 25 cs = some y) :
    ∃ (A : Option Addr) (n c : Nat) (l : List Fl), cs = [.slice A n c] ∧ Rd W W.heap.size 2 A n (fvs l) ∧ n ≤ c ∧ c ≤ 9223372036854775807 ∧ ∀ f ∈ l, (-9223372036854775808 ≤ f.1 ∧ f.1 ≤ 9223372036854775807) ∧ (-9223372036854775808 ≤ f.2 ∧ f.2 ≤ 9223372036854775807) := by
  rcases open_slice Try.underlying25 hf with ⟨hcs, _⟩ | ⟨x, l, c, m, n, D, Pl, hcs, _, hl, hm, hmm, _, hx⟩
  · exact ⟨none, 0, 0, [], hcs, Rd.empty, by omega, by omega, fun x hx => by cases hx⟩
  · have hC : Try.prog.cellsOf 41 = 2 := by kernel_rfl
    rw [hC] at hx
    obtain ⟨L, hL, hr⟩ := rd_elems (α := { f : Fl // (-9223372036854775808 ≤ f.1 ∧ f.1 ≤ 9223372036854775807) ∧ (-9223372036854775808 ≤ f.2 ∧ f.2 ≤ 9223372036854775807) }) (W := W) (len := l) (a := x) (base := 0) (fun f => flc f.1) (sz := 2) (fun _ => rfl) (by omega) (fun i hi => by
      obtain ⟨cs', h1, h2⟩ := hx i (by simp at hmm; omega)
      obtain ⟨f, e, hb⟩ := file_cells h2
      exact ⟨cs', h1, ⟨f, hb⟩, e⟩)
    have e : fvs (L.map (·.1)) = L.flatMap fun f => flc f.1 := by
      clear hr hL
      induction L with
      | nil => rfl
      | cons q r ih => simp only [fvs, List.map_cons, List.flatMap_cons] at *; rw [ih]
    refine ⟨some x, l, c, L.map (·.1), hcs, by rw [e]; exact hr, hl, by simpa only [maxLen] using hm, fun f hf => ?_⟩
    obtain ⟨q, _, rfl⟩ := List.mem_map.1 hf
    exact q.2
set_option maxRecDepth 100000 in
theorem edit_cells {fuel : Nat} {cs : List Value} {y : DataW H × List MemPlace} (hf : DataW.trod enc Try.prog W 0 (fun _ => true) true fuel 32 cs = some y) : ∃ e : EdV, cs = e.cs ∧ IsEd W e := by
  obtain ⟨hlen, n, got⟩ := struct_one Try.underlying32 (by kernel_rfl) (by kernel_rfl) hf
  obtain ⟨y0, g0⟩ := got 0 _ rfl
  obtain ⟨y1, g1⟩ := got 1 _ rfl
  obtain ⟨y2, g2⟩ := got 2 _ rfl
  obtain ⟨y3, g3⟩ := got 3 _ rfl
  obtain ⟨y4, g4⟩ := got 4 _ rfl
  obtain ⟨y5, g5⟩ := got 5 _ rfl
  obtain ⟨y6, g6⟩ := got 6 _ rfl
  obtain ⟨D, dn, dc, ds, e0, hd, d1, d2, db⟩ := ints_cells g0
  obtain ⟨A, an, ac, add, e1, ha, a1, a2, ab⟩ := files_cells g1
  obtain ⟨n2, e2, _, w2⟩ := DataW.trod_int Try.underlying3 g2
  obtain ⟨n3, e3, _, w3⟩ := DataW.trod_int Try.underlying22 g3
  obtain ⟨n4, e4, _, w4⟩ := DataW.trod_int Try.underlying22 g4
  obtain ⟨n5, e5, _, w5⟩ := DataW.trod_int Try.underlying22 g5
  obtain ⟨n6, e6, _, w6⟩ := DataW.trod_int Try.underlying22 g6
  obtain ⟨k3, rfl, b3⟩ := u64_nat w3
  obtain ⟨k4, rfl, b4⟩ := u64_nat w4
  obtain ⟨k5, rfl, b5⟩ := u64_nat w5
  obtain ⟨k6, rfl, b6⟩ := u64_nat w6
  have hl7 : cs.length = 7 := hlen
  match cs, hl7 with
  | [c0, c1, c2, c3, c4, c5, c6], _ =>
    simp only [List.drop_zero, List.drop_succ_cons, List.take_succ_cons, List.take_zero, List.cons.injEq, and_true] at e0 e1 e2 e3 e4 e5 e6
    exact ⟨⟨D, dn, dc, ds, A, an, ac, add, n2, k3, k4, k5, k6⟩, by rw [e0, e1, e2, e3, e4, e5, e6]; rfl, hd, d1, d2, ha, a1, a2, bd_i64 w2, b3, b4, b5, b6, db, ab⟩
set_option maxRecDepth 100000 in
/-- an edit by value -/
theorem is_edit {b0 : Nat} {v : Value} (hv : Value.okWide Try.prog W .any b0 32 v) (h : DataW.Trod enc Try.prog W 0 (fun _ => true) true 32 v d p) : ∃ e : EdV, v = .agg e.cs.toArray ∧ IsEd W e := by
  obtain ⟨cs, rfl, hsz⟩ := okWide_struct Try.underlying32 hv
  obtain ⟨fuel, hf⟩ := h
  obtain ⟨e, he, hi⟩ := edit_cells hf
  refine ⟨e, ?_, hi⟩
  congr 1
  apply Array.toList_inj.1
  simpa [Value.cells] using he
/-- a slice of edits that came in -/
def IsEs (w : World) (A : Option Addr) (n c : Nat) (l : List EdV) : Prop := Rd w w.heap.size 7 A n (l.flatMap EdV.cs) ∧ (∀ e ∈ l, IsEd w e) ∧ n ≤ c ∧ c ≤ 9223372036854775807
def ed0 : EdV := ⟨none, 0, 0, [], none, 0, 0, [], 0, 0, 0, 0, 0⟩
theorem isEd0 (w : World) : IsEd w ed0 where
  rd := Rd.empty
  dc1 := by decide
  dc2 := by decide
  ra := Rd.empty
  ac1 := by decide
  ac2 := by decide
  lg1 := by decide
  nf := by decide
  nc := by decide
  na := by decide
  nl := by decide
  bd := fun x hx => nomatch hx
  ba := fun x hx => nomatch hx
instance : Inhabited { e : EdV // IsEd W e } := ⟨⟨ed0, isEd0 W⟩⟩
set_option maxRecDepth 100000 in
theorem is_es (h : DataW.Trod enc Try.prog W 0 (fun _ => true) true 36 (.slice a len cap) d p) : ∃ l, IsEs W a len cap l := by
  obtain ⟨fuel, hf⟩ := h
  rcases open_slice Try.underlying36 hf with ⟨hcs, _⟩ | ⟨x, l, c, m, n, D, Pl, hcs, _, hl, hm, hmm, _, hx⟩
  · simp [Value.cells] at hcs
    obtain ⟨rfl, rfl, rfl⟩ := hcs
    exact ⟨[], Rd.empty, fun p hp => (by cases hp), by omega, by omega⟩
  · simp [Value.cells] at hcs
    obtain ⟨rfl, rfl, rfl⟩ := hcs
    have hC : Try.prog.cellsOf 32 = 7 := by kernel_rfl
    rw [hC] at hx
    obtain ⟨L, hL, hr⟩ := rd_elems (α := { e : EdV // IsEd W e }) (W := W) (len := len) (a := x) (base := 0) (fun e => e.1.cs) (sz := 7) (fun _ => rfl) (by omega) (fun i hi => by
      obtain ⟨cs', h1, h2⟩ := hx i (by simp at hmm; omega)
      obtain ⟨e, he, hp⟩ := edit_cells h2
      exact ⟨cs', h1, ⟨e, hp⟩, he⟩)
    have e : (L.map (·.1)).flatMap EdV.cs = L.flatMap fun f => f.1.cs := by
      clear hr hL
      induction L with
      | nil => rfl
      | cons q r ih => simp only [List.map_cons, List.flatMap_cons, ih]
    refine ⟨L.map (·.1), by rw [e]; exact hr, fun p hp => ?_, hl, by simpa only [maxLen] using hm⟩
    obtain ⟨q, _, rfl⟩ := List.mem_map.1 hp
    exact q.2
/-- a slice's edit k: its seven cells, in whatever grows -/
theorem IsEs.at_ {w : World} {A : Option Addr} {n c : Nat} {l : List EdV} (h : IsEs w A n c l) {k : Nat} (hk : k < n) :
    ∃ b o e, A = some ⟨b, o, none⟩ ∧ l[k]? = some e ∧ IsEd w e ∧ ∀ W, Up w W → W.cell? ⟨b, o + k * 7, none⟩ = some (.slice e.D e.dn e.dc) ∧ W.cell? ⟨b, o + k * 7 + 1, none⟩ = some (.slice e.A e.an e.ac) ∧ W.cell? ⟨b, o + k * 7 + 2, none⟩ = some (.int .i64 e.lg) ∧
      W.cell? ⟨b, o + k * 7 + 3, none⟩ = some (.int .u64 (e.f : Int)) ∧ W.cell? ⟨b, o + k * 7 + 4, none⟩ = some (.int .u64 (e.ce : Int)) ∧ W.cell? ⟨b, o + k * 7 + 5, none⟩ = some (.int .u64 (e.at_ : Int)) ∧ W.cell? ⟨b, o + k * 7 + 6, none⟩ = some (.int .u64 (e.le : Int)) := by
  obtain ⟨hr, hp, hc1, hc2⟩ := h
  have hl := hr.1
  rw [flat_len EdV.cs EdV.cs_len] at hl
  obtain ⟨b, o, e, hb, hc⟩ := hr.2 (by omega)
  have hkl : k < l.length := by omega
  refine ⟨b, o, l[k], e, List.getElem?_eq_getElem hkl, hp _ (List.getElem_mem _), fun W hW => ?_⟩
  have got : ∀ j u, j < 7 → (l[k]).cs[j]? = some u → W.cell? ⟨b, o + k * 7 + j, none⟩ = some u := fun j u hj hu => by
    rw [Nat.add_assoc]
    exact (hW.cell (p := ⟨b, o + (k * 7 + j), none⟩) hb).trans (hc _ _ ((flat_at EdV.cs EdV.cs_len l hkl hj).trans hu))
  exact ⟨got 0 _ (by omega) rfl, got 1 _ (by omega) rfl, got 2 _ (by omega) rfl, got 3 _ (by omega) rfl, got 4 _ (by omega) rfl, got 5 _ (by omega) rfl, got 6 _ (by omega) rfl⟩
end
end Go.Proofs.Ytokcaoaclheiiaa
