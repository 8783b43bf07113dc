/-
  Opening arguments: slices of items, of whole numbers.
-/
import Derived.Test.YtpifigalaembdaaOpen
import Derived.Test.YtpifigalaembdaaItem
namespace Go.Proofs.Ytpifigalaembdaa
open Go.ChangeShapes Go.WideShapes Go.ChangeAt Go.RowKit Go.Deep
set_option linter.unusedVariables false

theorem flat_len {α : Type} (f : α → List Value) {sz : Nat} (hf : ∀ x, (f x).length = sz) (l : List α) : (l.flatMap f).length = l.length * sz := by
  induction l with
  | nil => simp
  | cons x l ih => rw [List.flatMap_cons, List.length_append, hf, ih, List.length_cons, Nat.add_mul]; omega
theorem flat_at {α : Type} (f : α → List Value) {sz : Nat} (hf : ∀ x, (f x).length = sz) (l : List α) {k : Nat} (hk : k < l.length) {j : Nat} (hj : j < sz) : (l.flatMap f)[k * sz + j]? = (f l[k])[j]? := by
  induction l generalizing k with
  | nil => simp at hk
  | cons x l ih =>
    cases k with
    | zero =>
      simp only [List.flatMap_cons, Nat.zero_mul, Nat.zero_add, List.getElem_cons_zero]
      rw [List.getElem?_append_left (by rw [hf]; exact hj)]
    | succ k =>
      have hk' : k < l.length := by simpa using hk
      have := ih hk'
      simp only [List.flatMap_cons, List.getElem_cons_succ]
      rw [List.getElem?_append_right (by rw [hf, Nat.add_mul]; omega), ← this]
      congr 1; rw [hf, Nat.add_mul]; omega

theorem add_at (b o k : Nat) : (⟨b, o, none⟩ : Addr).add k = ⟨b, o + k, none⟩ := by unfold Addr.add; split <;> simp_all
theorem rd_elems {α : Type} [Inhabited α] {W : World} (f : α → List Value) {sz : Nat} (hf : ∀ x, (f x).length = sz) (hsz : 0 < sz) {a : Addr} {len base : Nat}
    (h : ∀ i, i < len → ∃ cs', W.cells? base (a.add (i * sz)) sz = some cs' ∧ ∃ x, cs' = f x) : ∃ l : List α, l.length = len ∧ Rd W W.heap.size sz (some a) len (l.flatMap f) := by
  obtain ⟨g, hg⟩ := choose_lt (p := fun i x => W.cells? base (a.add (i * sz)) sz = some (f x)) (n := len) (fun i hi => by
    obtain ⟨cs', h1, x, rfl⟩ := h i hi
    exact ⟨x, h1⟩)
  refine ⟨(List.range len).map g, by simp, by rw [flat_len f hf]; simp, fun hn => ?_⟩
  obtain ⟨b, o, spot⟩ := a
  have h0 := (World.cells?_some (hg 0 hn)).2.2 0 hsz
  have hx0 : (f (g 0))[0]? = some ((f (g 0))[0]'(by rw [hf]; exact hsz)) := List.getElem?_eq_getElem _
  rw [hx0] at h0
  have add0 : ∀ a : Addr, a.add 0 = a := fun a => by simp [Addr.add]
  rw [Nat.zero_mul, add0, add0] at h0
  have hspot : spot = none := World.cell?_spot h0
  subst hspot
  have hb : b < W.heap.size := World.block_lt_of_cell? W _ h0
  refine ⟨b, o, rfl, hb, fun j u hu => ?_⟩
  have hj : j < len * sz := by
    have := (List.getElem?_eq_some_iff.1 hu).1
    rw [flat_len f hf] at this; simpa using this
  have hi : j / sz < len := by rw [Nat.div_lt_iff_lt_mul hsz]; exact hj
  have hr : j % sz < sz := Nat.mod_lt _ hsz
  have hjj : j = j / sz * sz + j % sz := by rw [Nat.mul_comm]; exact (Nat.div_add_mod j sz).symm
  have hc := (World.cells?_some (hg _ hi)).2.2 _ hr
  have e : ((⟨b, o, none⟩ : Addr).add (j / sz * sz)).add (j % sz) = ⟨b, o + j, none⟩ := by
    rw [add_at, add_at, Nat.add_assoc, ← hjj]
  rw [e] at hc
  have hfl := flat_at f hf ((List.range len).map g) (k := j / sz) (by simpa using hi) hr
  rw [← hjj] at hfl
  rw [hc, ← hu, hfl]
  simp

instance : Inhabited It := ⟨⟨0, 0, 0, 0, 0⟩⟩
/-- a slice of items that came in -/
def IsI (w : World) (A : Option Addr) (n c : Nat) (l : List It) : Prop := Rd w w.heap.size 5 A n (itcs l) ∧ n ≤ c ∧ c ≤ 9223372036854775807
section
variable {H : Type} {enc : TypeId × Value → H} {W : World} {sp : Nat → Bool} {a : Option Addr} {len cap : Nat} {d : DataW H} {p : List MemPlace}
theorem is_i (h : DataW.Trod enc Try.prog W 0 (fun _ => true) true 28 (.slice a len cap) d p) : ∃ l, IsI W a len cap l := by
  obtain ⟨fuel, hf⟩ := h
  rcases open_slice Try.underlying28 hf with ⟨hcs, _⟩ | ⟨x, l, c, m, n, D, Pl, hcs, _, hl, hm, hmm, _, hx⟩
  · simp [Value.cells] at hcs
    obtain ⟨rfl, rfl, rfl⟩ := hcs
    exact ⟨[], Rd.empty, by omega, by omega⟩
  · simp [Value.cells] at hcs
    obtain ⟨rfl, rfl, rfl⟩ := hcs
    have hC : Try.prog.cellsOf 24 = 5 := by kernel_rfl
    rw [hC] at hx
    obtain ⟨L, hL, hr⟩ := rd_elems (W := W) (len := len) (a := x) (base := 0) itc (sz := 5) (fun _ => rfl) (by omega) (fun i hi => by
      obtain ⟨cs', h1, h2⟩ := hx i (by simp at hmm; omega)
      exact ⟨cs', h1, item_cells' h2⟩)
    exact ⟨L, hr, hl, by simpa only [maxLen] using hm⟩
/-- a slice of whole numbers that came in -/
def zvs (l : List Int64) : List Value := l.map fun z => Value.int .i64 z.toInt
def IsZ (w : World) (A : Option Addr) (n c : Nat) (l : List Int64) : Prop := Rd w w.heap.size 1 A n (zvs l) ∧ n ≤ c ∧ c ≤ 9223372036854775807
theorem is_z (h : DataW.Trod enc Try.prog W 0 (fun _ => true) true 37 (.slice a len cap) d p) : ∃ l, IsZ W a len cap l := by
  obtain ⟨fuel, hf⟩ := h
  rcases open_ints Try.underlying37 Try.underlying3 (by kernel_rfl) hf with ⟨hcs, _⟩ | ⟨x, l, c, zs, hcs, _, hl, hm, hz, _, hcell, hwz⟩
  · simp [Value.cells] at hcs
    obtain ⟨rfl, rfl, rfl⟩ := hcs
    exact ⟨[], Rd.empty, by omega, by omega⟩
  · simp [Value.cells] at hcs
    obtain ⟨rfl, rfl, rfl⟩ := hcs
    refine ⟨_, rd_ints (fun z : Int64 => Value.int .i64 z.toInt) (fun n => Int64.ofInt n) (fun n hn => ?_) hl (by simpa using hz) hcell hwz, hl, by simpa only [maxLen] using hm⟩
    exact congrArg _ (i64_of hn).symm
theorem Rd.zlen {w : World} {B n : Nat} {A : Option Addr} {q : List Int64} (h : Rd w B 1 A n (zvs q)) : n = q.length := by have := h.1; simp [zvs] at this; omega
theorem Rd.znum {w : World} {B n : Nat} {A : Option Addr} {q : List Int64} (h : Rd w B 1 A n (zvs q)) {k : Nat} (hk : k < n) :
    ∃ b o, A = some ⟨b, o, none⟩ ∧ b < B ∧ w.cell? ⟨b, o + k, none⟩ = some (.int .i64 (q.getD k 0).toInt) := by
  obtain ⟨b, o, e, hb, hc⟩ := h.2 (by omega)
  have hl : k < q.length := by have := h.zlen; omega
  exact ⟨b, o, e, hb, hc k _ (by simp [zvs, hl, List.getD])⟩
end
end Go.Proofs.Ytpifigalaembdaa
