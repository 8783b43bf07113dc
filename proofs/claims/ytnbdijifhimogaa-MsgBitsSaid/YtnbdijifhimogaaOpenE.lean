/-
  Opening arguments: a slice out of its elements.
-/
import Derived.Test.YtnbdijifhimogaaOpen
import Derived.Deep.Slices
import Derived.Deep.Fields
namespace Go.Proofs.Ytnbdijifhimogaa
open Go.ChangeShapes Go.WideShapes Go.ChangeAt Go.RowKit Go.Deep
set_option linter.unusedVariables false

theorem flat_len {α : Type} (f : α → List Value) {sz : Nat} (hf : ∀ x, (f x).length = sz) (l : List α) : (l.flatMap f).length = l.length * sz := by
  induction l with
  | nil => simp
  | cons x l ih => rw [List.flatMap_cons, List.length_append, hf, ih, List.length_cons, Nat.add_mul]; omega
theorem flat_at {α : Type} (f : α → List Value) {sz : Nat} (hf : ∀ x, (f x).length = sz) (l : List α) {k : Nat} (hk : k < l.length) {j : Nat} (hj : j < sz) : (l.flatMap f)[k * sz + j]? = (f l[k])[j]? := by
  induction l generalizing k with
  | nil => simp at hk
  | cons x l ih =>
    cases k with
    | zero =>
      simp only [List.flatMap_cons, Nat.zero_mul, Nat.zero_add, List.getElem_cons_zero]
      rw [List.getElem?_append_left (by rw [hf]; exact hj)]
    | succ k =>
      have hk' : k < l.length := by simpa using hk
      have := ih hk'
      simp only [List.flatMap_cons, List.getElem_cons_succ]
      rw [List.getElem?_append_right (by rw [hf, Nat.add_mul]; omega), ← this]
      congr 1; rw [hf, Nat.add_mul]; omega

theorem add_at (b o k : Nat) : (⟨b, o, none⟩ : Addr).add k = ⟨b, o + k, none⟩ := by unfold Addr.add; split <;> simp_all
theorem rd_elems {α : Type} [Inhabited α] {W : World} (f : α → List Value) {sz : Nat} (hf : ∀ x, (f x).length = sz) (hsz : 0 < sz) {a : Addr} {len base : Nat}
    (h : ∀ i, i < len → ∃ cs', W.cells? base (a.add (i * sz)) sz = some cs' ∧ ∃ x, cs' = f x) : ∃ l : List α, l.length = len ∧ Rd W W.heap.size sz (some a) len (l.flatMap f) := by
  obtain ⟨g, hg⟩ := choose_lt (p := fun i x => W.cells? base (a.add (i * sz)) sz = some (f x)) (n := len) (fun i hi => by
    obtain ⟨cs', h1, x, rfl⟩ := h i hi
    exact ⟨x, h1⟩)
  refine ⟨(List.range len).map g, by simp, by rw [flat_len f hf]; simp, fun hn => ?_⟩
  obtain ⟨b, o, spot⟩ := a
  have h0 := (World.cells?_some (hg 0 hn)).2.2 0 hsz
  have hx0 : (f (g 0))[0]? = some ((f (g 0))[0]'(by rw [hf]; exact hsz)) := List.getElem?_eq_getElem _
  rw [hx0] at h0
  have add0 : ∀ a : Addr, a.add 0 = a := fun a => by simp [Addr.add]
  rw [Nat.zero_mul, add0, add0] at h0
  have hspot : spot = none := World.cell?_spot h0
  subst hspot
  have hb : b < W.heap.size := World.block_lt_of_cell? W _ h0
  refine ⟨b, o, rfl, hb, fun j u hu => ?_⟩
  have hj : j < len * sz := by
    have := (List.getElem?_eq_some_iff.1 hu).1
    rw [flat_len f hf] at this; simpa using this
  have hi : j / sz < len := by rw [Nat.div_lt_iff_lt_mul hsz]; exact hj
  have hr : j % sz < sz := Nat.mod_lt _ hsz
  have hjj : j = j / sz * sz + j % sz := by rw [Nat.mul_comm]; exact (Nat.div_add_mod j sz).symm
  have hc := (World.cells?_some (hg _ hi)).2.2 _ hr
  have e : ((⟨b, o, none⟩ : Addr).add (j / sz * sz)).add (j % sz) = ⟨b, o + j, none⟩ := by
    rw [add_at, add_at, Nat.add_assoc, ← hjj]
  rw [e] at hc
  have hfl := flat_at f hf ((List.range len).map g) (k := j / sz) (by simpa using hi) hr
  rw [← hjj] at hfl
  rw [hc, ← hu, hfl]
  simp

end Go.Proofs.Ytnbdijifhimogaa
