/-
  The walk of slices.Delete at files: one is taken out of a row of the call's own.
-/
import Derived.Test.YtokcaoaclheiiaaEditW2
import Derived.Shelf.RegionOpenPlain
import Derived.Deep.RegionLaw
import Derived.Laws.IdiomCopy
import Derived.Lib.SliceRun
namespace Go.Proofs.Ytokcaoaclheiiaa
open Go.RowKit
set_option linter.unusedVariables false
set_option linter.unusedSimpArgs false

theorem setCs_heap (g : Nat) (t : TypeId) : ∀ (vs : List Value) (o : Nat) (w : World) (cur : Array Value), w.heap[g]? = some (.cells cur t (0, 0)) → o + vs.length ≤ cur.size →
    ∃ cur', (w.setCells g o vs).heap[g]? = some (.cells cur' t (0, 0)) ∧ cur'.toList = cur.toList.take o ++ vs ++ cur.toList.drop (o + vs.length)
  | [], o, w, cur, h, ho => ⟨cur, h, by simp⟩
  | v :: vs, o, w, cur, h, ho => by
    have h1 := setc_heap w g o v cur t h
    simp only [List.length_cons] at ho
    obtain ⟨cur', h2, h3⟩ := setCs_heap g t vs (o + 1) _ _ h1 (by rw [Array.size_setIfInBounds]; omega)
    refine ⟨cur', h2, ?_⟩
    rw [h3, Array.toList_setIfInBounds]
    have hlt : o < cur.toList.length := by rw [Array.length_toList]; omega
    rw [List.take_succ_eq_append_getElem (by rw [List.length_set]; exact hlt), List.getElem_set_self, List.take_set_of_le (by omega), List.drop_set_of_lt (by omega), List.length_cons]
    simp only [List.append_assoc, List.cons_append, List.nil_append, show o + 1 + vs.length = o + (vs.length + 1) by omega]
theorem setCs_keeps (g : Nat) : ∀ (vs : List Value) (o : Nat) (w w' : World), Rg.Keeps (fun x => x = g) w w' → Rg.Keeps (fun x => x = g) w (w'.setCells g o vs)
  | [], _, _, _, h => h
  | v :: vs, o, w, w', h => setCs_keeps g vs (o + 1) w _ (setc_keeps w w' g o v h)

theorem file_info : ∃ i, Try.prog.info? 41 = some i ∧ i.size = 2 ∧ i.zero = some (.agg #[.int .i64 0, .int .i64 0]) := by
  obtain ⟨i, hi, hz, hs, hby⟩ := info_parts (P := Try.prog) (e := 41) (z := .agg #[.int .i64 0, .int .i64 0]) (size := 2) (bytes := 16) (by kernel_rfl)
  exact ⟨i, hi, hs, hz⟩
theorem clear_file (W : World) (ty : TypeId) (b o c : Nat) (hc : ∀ j, j < 2 → (W.cell? ⟨b, o + j, none⟩).isSome = true) (hf : ∀ j, j < 2 → W.frozen? ⟨b, o + j, none⟩ = false) :
    (Builtin.clear_ #[25] ty #[.slice (some ⟨b, o, none⟩) 1 c]).run Try.prog W = .ok (.tuple #[]) (W.setCells b o [.int .i64 0, .int .i64 0]) := by
  obtain ⟨i, hi, hs, hz⟩ := file_info
  have hv : ∀ w, (zeroValue 41).run Try.prog w = .ok (.agg #[.int .i64 0, .int .i64 0]) w := fun w => by
    have hz0 : Try.t41.zero = some (.agg #[.int .i64 0, .int .i64 0]) := by kernel_rfl
    unfold zeroValue
    simp [go_sem, hz0]
  have hst := run_storeCells_cells (P := Try.prog) b o [.int .i64 0, .int .i64 0] 0 W (by simpa using hc) (by simpa using hf) (by intro v hv'; simp at hv'; subst hv'; rfl)
  simp only [Nat.add_zero] at hst
  have hzc2 : Builtin.zeroCells (Value.agg #[.int .i64 0, .int .i64 0]).cells 1 = #[.int .i64 0, .int .i64 0] := by
    apply Array.ext_getElem?
    intro j
    simp [Builtin.zeroCells, Value.cells]
    rcases j with _ | _ | j <;> simp
  have hzc : (Builtin.zeroCells (Value.agg #[.int .i64 0, .int .i64 0]).cells 1).toList = [.int .i64 0, .int .i64 0] := by rw [hzc2]
  simp [Builtin.clear_, run_underlying Try.underlying25, hv, hzc, hzc2, hst]
theorem erase_cells (l : List Fl) (i : Nat) (cur : List Value) (n : Nat) (hi : i < n) (hn : n = l.length) (hc : cur.take (n * 2) = fvs l) :
    (((cur.take (i * 2) ++ fvs (l.drop (i + 1)) ++ cur.drop (i * 2 + (fvs (l.drop (i + 1))).length)).take ((n - 1) * 2) ++ ([.int .i64 0, .int .i64 0] : List Value) ++ (cur.take (i * 2) ++ fvs (l.drop (i + 1)) ++ cur.drop (i * 2 + (fvs (l.drop (i + 1))).length)).drop ((n - 1) * 2 + 2)).take ((n - 1) * 2)) = fvs (l.eraseIdx i) := by
  have hl : (n * 2) ≤ cur.length := by
    have := congrArg List.length hc
    rw [List.length_take, fvs_length] at this; omega
  have h1 : cur.take (i * 2) = fvs (l.take i) := by rw [← fvs_take, ← hc, List.take_take]; congr 1; omega
  have h2 : (fvs (l.drop (i + 1))).length = (n - (i + 1)) * 2 := by rw [fvs_length, List.length_drop, ← hn]
  have h3 : (fvs (l.take i)).length = i * 2 := by rw [fvs_length, List.length_take, ← hn, Nat.min_eq_left (by omega)]
  rw [h1]
  have h4 : (fvs (l.take i) ++ fvs (l.drop (i + 1))).length = (n - 1) * 2 := by rw [List.length_append, h2, h3]; omega
  generalize cur.drop (i * 2 + (fvs (l.drop (i + 1))).length) = Y
  have h5 : fvs (l.eraseIdx i) = fvs (l.take i) ++ fvs (l.drop (i + 1)) := by rw [List.eraseIdx_eq_take_drop_succ, fvs_append]
  rw [h5]
  generalize fvs (l.take i) ++ fvs (l.drop (i + 1)) = X at *
  rw [← h4]
  have h6 : (X ++ Y).take X.length = X := List.take_left
  rw [h6, List.append_assoc, List.take_left]
set_option maxRecDepth 100000 in
set_option maxHeartbeats 1600000 in
theorem delete_any (g n c base : Nat) (l : List Fl) (i : Nat) (w : World) (h : w.ownsRow base 41 2 (.slice (some ⟨g, 0, none⟩) n c) n (fvs l)) (hi : i < n) :
    Calls Try.prog 28 #[.slice (some ⟨g, 0, none⟩) n c, .int .i64 (i : Int), .int .i64 ((i : Int) + 1)] w fun e w' => e = .returned (.slice (some ⟨g, 0, none⟩) (n - 1) c) ∧ w'.ownsRow base 41 2 (.slice (some ⟨g, 0, none⟩) (n - 1) c) (n - 1) (fvs (l.eraseIdx i)) ∧ Rg.Keeps (fun x => x = g) w w' := by
  obtain ⟨it, hit, his, hiz⟩ := file_info
  have hlen := h.1
  rw [fvs_length] at hlen
  obtain ⟨cur, hg, hh, hnc, hcm, hcs, ht⟩ : ∃ cur, base ≤ g ∧ w.heap[g]? = some (.cells cur 41 (0, 0)) ∧ n ≤ c ∧ c ≤ maxLen ∧ cur.size = c * 2 ∧ cur.toList.take (n * 2) = fvs l := by
    rcases h.2 with ⟨hv, h0⟩ | ⟨g', cap, cur, hv, hg, hh, hnc, hcm, hcs, ht⟩
    · omega
    · injection hv with h1 h2 h3
      injection h1 with h1
      injection h1 with h1
      subst h1; subst h3
      exact ⟨cur, hg, hh, hnc, hcm, hcs, ht⟩
  obtain ⟨news, hnews⟩ : ∃ news, news = fvs (l.drop (i + 1)) := ⟨_, rfl⟩
  have hnl : news.length = (n - (i + 1)) * 2 := by rw [hnews, fvs_length, List.length_drop]; omega
  have hfin := erase_cells l i cur.toList n hi (by omega) ht
  rw [← hnews] at hfin
  have hone : Hid (∀ u ∈ news, u.oneCell' = true) := by rw [hnews]; exact fvs_one _
  have hcell : ∀ j, j < c * 2 → ∃ u, w.cell? ⟨g, j, none⟩ = some u := fun j hj => ⟨_, by rw [blk_cell hh, Array.getElem?_eq_getElem (by omega)]⟩
  have hsrc : Hid (∀ t u, news[t]? = some u → w.drew.cell? ⟨g, (i + 1) * 2 + t, none⟩ = some u) := by
    intro t u hu
    have h1 : t < news.length := (List.getElem?_eq_some_iff.1 hu).1
    show w.cell? _ = _
    rw [blk_cell hh, ← Array.getElem?_toList]
    have h2 : (fvs l)[(i + 1) * 2 + t]? = some u := by rw [← hu, hnews, ← fvs_drop, List.getElem?_drop]
    rw [← h2, ← ht, List.getElem?_take_of_lt (by omega)]
  have hspare : Hid (∀ t, t < news.length → (w.drew.cell? ⟨g, 0 + i * 2 + t, none⟩).isSome = true ∧ w.drew.frozen? ⟨g, 0 + i * 2 + t, none⟩ = false) := by
    intro t ht'
    rw [Nat.zero_add]
    obtain ⟨u, hu⟩ := hcell (i * 2 + t) (by omega)
    exact ⟨by show (w.cell? _).isSome = true; rw [hu]; rfl, blk_free hh _⟩
  obtain ⟨W1, hW1⟩ : ∃ W1, W1 = w.drew.setCells g (0 + i * 2) news := ⟨_, rfl⟩
  obtain ⟨cur1, hh1, hc1⟩ := setCs_heap g 41 news (i * 2) w.drew cur hh (by omega)
  rw [Nat.zero_add] at hW1
  rw [← hW1] at hh1
  have hs1 : cur1.size = c * 2 := by
    have := congrArg List.length hc1
    rw [List.length_append, List.length_append, List.length_take, List.length_drop, Array.length_toList, Array.length_toList] at this
    omega
  have hcl : ∀ ty, (Builtin.clear_ #[25] ty #[.slice (some ⟨g, (n - 1) * 2, none⟩) 1 (c - (n - 1))]).run Try.prog W1 = .ok (.tuple #[]) (W1.setCells g ((n - 1) * 2) [.int .i64 0, .int .i64 0]) := fun ty =>
    clear_file W1 ty g _ _ (fun j hj => by rw [blk_cell hh1, Array.getElem?_eq_getElem (by omega)]; rfl) (fun j hj => blk_free hh1 _)
  obtain ⟨cur2, hh2, hc2⟩ := setCs_heap g 41 [.int .i64 0, .int .i64 0] ((n - 1) * 2) W1 cur1 hh1 (by simp; omega)
  have hK : Rg.Keeps (fun x => x = g) w (W1.setCells g ((n - 1) * 2) [.int .i64 0, .int .i64 0]) := setCs_keeps g _ _ _ _ (by rw [hW1]; exact setCs_keeps g _ _ _ _ ⟨rfl, rfl, rfl, Nat.le_refl _, fun _ _ _ => rfl⟩)
  have hown : (W1.setCells g ((n - 1) * 2) [.int .i64 0, .int .i64 0]).ownsRow base 41 2 (.slice (some ⟨g, 0, none⟩) (n - 1) c) (n - 1) (fvs (l.eraseIdx i)) := by
    refine ⟨by rw [fvs_length, List.length_eraseIdx, if_pos (by omega)]; omega, .inr ⟨g, c, cur2, rfl, hg, hh2, by omega, hcm, ?_, ?_⟩⟩
    · have := congrArg List.length hc2
      rw [List.length_append, List.length_append, List.length_take, List.length_drop, Array.length_toList, Array.length_toList] at this
      simp at this; omega
    · rw [hc2, hc1]; exact hfin
  have HW := Lib.hid hW1
  have HK := Lib.hid hK
  have HO := Lib.hid hown
  clear hW1 hK hown hh1 hc1 hs1 hh2 hc2 hfin hcell hh hcs ht h hnews
  have z1 : (i : Int) + 1 ≤ (n : Int) := by omega
  have z2 : (n : Int) ≤ (c : Int) := by omega
  have z3 : (i : Int) ≤ (c : Int) := by omega
  have z4 : ((i : Int) + 1).toNat = i + 1 := by omega
  have z5 : ¬ ((i : Int) = (i : Int) + 1) := by omega
  have z6 : ¬ n = i := by omega
  have z7 : (0 : Int) ≤ (i : Int) + 1 := by omega
  have z8 : (i : Int) + 1 ≤ (c : Int) := by omega
  go_enter Try.func28, Try.ntmps28
  go_wp2_with fail
  have mixed : Try.prog.follows .mixedOrders = true := by kernel_rfl
  by_cases hci : c = i + 1
  · have hn0 : news.length = 0 := by rw [hnl]; omega
    have hni : n = i + 1 := by omega
    have hnil : news = [] := List.length_eq_zero_iff.1 hn0
    subst hci
    subst hni
    have y1 : (i : Int) ≤ (i : Int) + 1 := by omega
    have y2 : i ≤ i + 1 := by omega
    go_region_law_o (refine step_append_room rfl (.tmp 22) (.tmp 25) 25 rfl 41 it 2 Try.underlying25 hit his g 0 i (i + 1) (by simp [Act.eval, Act.put]) ⟨g, 0, none⟩ 0 0 news (by simp [Act.eval, Act.put]) hn0 (fun t u hu => by rw [hnil] at hu; simp at hu) hone.out (by omega) hspare.out ?_; rw [Nat.zero_add, ← HW.out])
    have hcl2 := fun ty => hcl ty
    rw [show i + 1 - 1 = i by omega, show i + 1 - i = 1 by omega] at hcl2
    go_wp2_with fail
    go_ret
    exact ⟨rfl, HO.out, HK.out⟩
  · go_region_law_o (refine step_append_room rfl (.tmp 22) (.tmp 25) 25 rfl 41 it 2 Try.underlying25 hit his g 0 i c (by simp [Act.eval, Act.put]) ⟨g, (i + 1) * 2, none⟩ (n - (i + 1)) (c - (i + 1)) news (by simp [Act.eval, Act.put]) hnl (fun t u hu => by rw [add_at]; exact hsrc.out t u hu) hone.out (by omega) hspare.out ?_; rw [Nat.zero_add, ← HW.out])
    have e1 : i + (n - (i + 1)) = n - 1 := by omega
    simp only [e1]
    have y1 : ((n - 1 : Nat) : Int) ≤ (n : Int) := by omega
    have y2 : ((n - 1 : Nat) : Int) ≤ (c : Int) := by omega
    have y3 : (0 : Int) ≤ ((n - 1 : Nat) : Int) := by omega
    have y4 : ¬ c = n - 1 := by omega
    have y5 : n - (n - 1) = 1 := by omega
    go_wp2_with fail
    go_ret
    exact ⟨rfl, HO.out, HK.out⟩
end Go.Proofs.Ytokcaoaclheiiaa
