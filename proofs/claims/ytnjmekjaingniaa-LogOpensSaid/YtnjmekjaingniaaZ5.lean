/-
  Texts of this claim, joined: Conv, LogW6, FrameW11, FrameW12, BegC, LogW7.
-/
import Derived.Lib.ConvBytes
import Derived.BigFrame
import Derived.Test.YtnjmekjaingniaaZ4
/-
  []byte(s): a new slice that holds a text's bytes.
-/
namespace Go.Proofs.Ytnjmekjaingniaa
open Go.RowKit
set_option linter.unusedVariables false
set_option linter.unusedSimpArgs false

theorem conv_b (w : World) (l : List UInt8) : ∃ c w', (convert 9 26 (.string (tx l))).run Try.prog w = .ok (.slice (some ⟨w.heap.size, 0, none⟩) l.length c) w' ∧ l.length ≤ c ∧
    Rd w' w'.heap.size 1 (some ⟨w.heap.size, 0, none⟩) l.length (bvs l) ∧ Up w w' ∧ (∀ j, j < l.length → w'.frozen? ⟨w.heap.size, j, none⟩ = false) ∧ w.heap.size < w'.heap.size := by
  have hrun := Lib.run_convert_string_bytes (P := Try.prog) w 9 26 5 (tx l) Try.underlying9 bytesT.ut Try.underlying5
  rw [tx_size] at hrun
  refine ⟨_, _, hrun, grownCap_ge w _ 0 _, ⟨by rw [bvs_length, Nat.mul_one], fun _ => ⟨w.heap.size, 0, rfl, by rw [Lib.bytesWorld_size]; omega, fun j u hu => ?_⟩⟩, ⟨rfl, rfl, rfl, by rw [Lib.bytesWorld_size]; omega, fun k hk => Lib.bytesWorld_at_old w _ _ k hk⟩, fun j hj => ?_, by rw [Lib.bytesWorld_size]; omega⟩
  · rw [Nat.zero_add]
    have hj := (List.getElem?_eq_some_iff.1 hu).1
    rw [bvs_length] at hj
    rw [Lib.bytesWorld_cell w _ _ j (by rw [tx_size]; exact hj), tx_list, ← hu]
    simp [bvs, bv, hj, List.getD]
  · have hge := grownCap_ge w l.length 0 5
    unfold World.frozen?
    rw [Lib.bytesWorld_at_new]
    have hs : j < (Lib.bytesCells w 5 (tx l)).size := by
      unfold Lib.bytesCells
      simp [tx_size]; omega
    simp
    omega
end Go.Proofs.Ytnjmekjaingniaa

/-
  Words for the laws of logs: what few and text come to, as hypotheses.
-/
namespace Go.Proofs.Ytnjmekjaingniaa
open Go.RowKit Go.Maps
set_option linter.unusedVariables false
set_option linter.unusedSimpArgs false

theorem Rd.tor {w : World} {B n k : Nat} {A : Option Addr} {rs : List Rw} (h : Rd w B 1 A n (rwv rs)) (hk : k ≤ n) : Rd w B 1 A k (rwv (rs.take k)) := by
  have := h.to_ hk
  simpa [rwv, List.map_take] using this
theorem RwOk.take {w : World} {rs : List Rw} (h : RwOk w rs) (k : Nat) : RwOk w (rs.take k) := fun r hr => h r (List.mem_of_mem_take hr)
theorem RwOk.append {w : World} {rs ss : List Rw} (h : RwOk w rs) (k : RwOk w ss) : RwOk w (rs ++ ss) := fun r hr => (List.mem_append.1 hr).elim (h r) (k r)
theorem rwl_take (rs : List Rw) (k : Nat) : rwl (rs.take k) = (rwl rs).take k := by simp [rwl, List.map_take]
theorem rwl_append (rs ss : List Rw) : rwl (rs ++ ss) = rwl rs ++ rwl ss := by simp [rwl]
theorem rwv_append (rs ss : List Rw) : rwv (rs ++ ss) = rwv rs ++ rwv ss := by simp [rwv]
theorem goodR_sub {rs : List Rw} {r : Rw} (h : r ∈ goodR rs) : r ∈ rs := (List.mem_filter.1 h).1
theorem goodR_all (rs : List Rw) : ∀ q ∈ rwl (goodR rs), batE q = 0 := by rw [rwl_goodR]; exact goodL_ok
theorem IsRI.ok {w : World} {A : Option Addr} {n c : Nat} {rs : List Rw} (h : IsRI w A n c rs) : RwOk w rs := fun r hr => ⟨(h.2.1 r hr).1, (h.2.1 r hr).2.1⟩
theorem IsRI.bd {w : World} {A : Option Addr} {n c : Nat} {rs : List Rw} (h : IsRI w A n c rs) : ∀ r ∈ rs, r.n ≤ 9223372036854775807 := fun r hr => by have := h.2.1 r hr; have := this.2; omega
/-- what text comes to, told of whatever grows out of the world behind it -/
theorem text_facts {rs : List Rw} {w : World} (ho : RwOk w rs) (hn : rs.length ≤ 15) (hb : ∀ r ∈ rs, r.n ≤ 150) :
    (goodR rs).length ≤ 15 ∧ RwOk w (goodR rs) ∧ (∀ r ∈ goodR rs, r.l.length ≤ 150) ∧ (∀ q ∈ rwl (goodR rs), batE q = 0) ∧ (logB (rwl (goodR rs))).length ≤ 900180 := by
  have h1 := goodR_len rs
  have h2 := goodR_all rs
  have h3 := (logB_len _ h2).2
  rw [rwl_len] at h3
  exact ⟨by omega, fun r hr => ho r (goodR_sub hr), fun r hr => by have h4 := (ho r (goodR_sub hr)).1.ilen; have h5 := hb r (goodR_sub hr); omega, h2, by omega⟩
/-- the ends' cells -/
theorem ends_cell {w : World} {B n c : Nat} {A : Option Addr} {g : List (List It)} (h : OwnK w B A n c (endsG g)) (hn : n = g.length + 1) : ∃ b, A = some ⟨b, 0, none⟩ ∧ b < w.heap.size ∧ ∀ j, j < n → w.cell? ⟨b, j, none⟩ = some (.int .i64 (endL g j : Int)) := by
  obtain ⟨b, rfl, -, hb⟩ := own_some h (by omega)
  obtain ⟨b1, o1, e, hlt, hc⟩ := (Rd.own h).2 (by omega)
  injection e with e
  injection e with e1 e2
  subst e1; subst e2
  refine ⟨b, rfl, hb, fun j hj => ?_⟩
  have h9 := hc j (.int .i64 (endL g j : Int)) (by unfold nvi; rw [List.getElem?_map, endsG_get g (by omega)]; rfl)
  rwa [Nat.zero_add] at h9
/-- append(s, x...), guarded and asked -/
theorem wpList_append_want {P : Program} (w : World) {ops : Array Oper} {rest : List Oper} {o : Oper} {a : Act} {Q : Exit → Act → World → Prop} {s x : Operand} {t e : TypeId} {sz bytes : Nat} (hT : SlT P t e sz bytes)
    {base n B m c : Nat} {v : Value} {xs news : List Value} {A : Option Addr}
    (hown : w.ownsRow base e sz v n xs) (hr : Rd w B sz A m news) (h1 : ∀ u ∈ news, u.oneCell' = true)
    (hb : n + m ≤ 4611686018427387903) (hbytes : (n + m) * bytes ≤ 140737488355328) (hbase : base ≤ w.heap.size)
    (hw : Region.wanted o (yielded ops a.tmps) = true)
    (ho : o.op = .call { callee := .builtin .append, args := #[s, x], argTypes := #[t, t] })
    (hs : a.eval s = v) (hx : a.eval x = .slice A m c)
    (h : ∀ v' w', w'.ownsRow base e sz v' (n + m) (xs ++ news) → w.grownBy w' v.ownBlock → (v'.ownBlock = v.ownBlock ∨ v'.ownBlock = some w.heap.size) → wpList P ops Q rest (a.put o.dst v') w') : wpList P ops Q (o :: rest) a w :=
  BigFrame.wpList_want hw fun _ hK => wp_append_rd w s x hT ho hs hx hown hr h1 hb hbytes hbase fun v' w' h2 h3 h4 => hK _ _ (h v' w' h2 h3 h4)
theorem tx_takeX (l : List UInt8) (n : Nat) : (tx l).extract 0 n = tx (l.take n) := tx_of (by simp [tx_list])
theorem tx_dropX (l : List UInt8) (n m : Nat) (h : m = l.length) : (tx l).extract n m = tx (l.drop n) := tx_of (by subst h; simp [tx_list, List.take_of_length_le])
end Go.Proofs.Ytnjmekjaingniaa

/-
  The walk of clepsydraref1.Split.
-/
namespace Go.Proofs.Ytnjmekjaingniaa
open Go.RowKit
set_option linter.unusedVariables false
set_option linter.unusedSimpArgs false

end Go.Proofs.Ytnjmekjaingniaa

/-
  []byte(s) whose bytes are written: the new block itself.
-/
namespace Go.Proofs.Ytnjmekjaingniaa
open Go.RowKit
set_option linter.unusedVariables false
set_option linter.unusedSimpArgs false

/-- the block g begins with these bytes; none of them is shut -/
def Beg (g : Nat) (l : List UInt8) (w : World) : Prop := ∃ (cs : Array Value) (t : TypeId) (fz : Nat × Nat), w.heap[g]? = some (.cells cs t fz) ∧ l.length ≤ cs.size ∧ l.length ≤ fz.1 ∧ ∀ j, j < l.length → cs[j]? = some (bv (l.getD j 0))
theorem Beg.sta {g : Nat} {l : List UInt8} {w w' : World} {Y : Nat → Prop} (h : Beg g l w) (hs : Rg.Sta Y w w') (hy : Y g) : Beg g l w' := by
  obtain ⟨cs, t, fz, hh, h2, h3⟩ := h
  exact ⟨cs, t, fz, (hs.block g (Array.getElem?_eq_some_iff.1 hh).1 hy).trans hh, h2, h3⟩
theorem Beg.up {g : Nat} {l : List UInt8} {w w' : World} (h : Beg g l w) (hu : Up w w') : Beg g l w' := by
  obtain ⟨cs, t, fz, hh, h2, h3⟩ := h
  exact ⟨cs, t, fz, (hu.block g (Array.getElem?_eq_some_iff.1 hh).1).trans hh, h2, h3⟩
theorem Beg.cell {g : Nat} {l : List UInt8} {w : World} (h : Beg g l w) {j : Nat} (hj : j < l.length) : w.cell? ⟨g, j, none⟩ = some (bv (l.getD j 0)) := by
  obtain ⟨cs, t, fz, hh, h2, h4, h3⟩ := h
  rw [cell_of_row w g j cs t fz hh, h3 j hj]
theorem Beg.free {g : Nat} {l : List UInt8} {w : World} (h : Beg g l w) {j : Nat} (hj : j < l.length) : w.frozen? ⟨g, j, none⟩ = false := by
  obtain ⟨cs, t, fz, hh, h2, h4, h3⟩ := h
  simp [World.frozen?, hh]
  omega
theorem Beg.lt {g : Nat} {l : List UInt8} {w : World} (h : Beg g l w) : g < w.heap.size := by
  obtain ⟨cs, t, fz, hh, h2, h3⟩ := h
  exact (Array.getElem?_eq_some_iff.1 hh).1
theorem Beg.rd {g : Nat} {l : List UInt8} {w : World} (h : Beg g l w) : Rd w w.heap.size 1 (some ⟨g, 0, none⟩) l.length (bvs l) := by
  refine ⟨by rw [bvs_length, Nat.mul_one], fun _ => ⟨g, 0, rfl, h.lt, fun j u hu => ?_⟩⟩
  have hj := (List.getElem?_eq_some_iff.1 hu).1
  rw [bvs_length] at hj
  rw [Nat.zero_add, h.cell hj, ← hu]
  simp [bvs, bv, hj, List.getD]
theorem Beg.set {g : Nat} {l : List UInt8} {w : World} (h : Beg g l w) {j : Nat} (hj : j < l.length) (x : UInt8) : Beg g (l.set j x) (w.setCell ⟨g, j, none⟩ (bv x)) := by
  obtain ⟨cs, t, fz, hh, h2, h4, h3⟩ := h
  refine ⟨cs.setIfInBounds j (bv x), t, fz, by simp [World.setCell, Array.getElem?_modify, hh], by simp; exact h2, by simp; exact h4, fun i hi => ?_⟩
  rw [List.length_set] at hi
  by_cases hij : j = i
  · subst hij
    rw [Array.getElem?_setIfInBounds_self_of_lt (by omega)]
    simp [List.getD, hj]
  · rw [Array.getElem?_setIfInBounds_ne hij, h3 i hi]
    simp [List.getD, List.getElem?_set_ne hij]
theorem conv_beg (w : World) (l : List UInt8) : ∃ c w', (convert 9 26 (.string (tx l))).run Try.prog w = .ok (.slice (some ⟨w.heap.size, 0, none⟩) l.length c) w' ∧ l.length ≤ c ∧
    Beg w.heap.size l w' ∧ Up w w' := by
  have hrun := Lib.run_convert_string_bytes (P := Try.prog) w 9 26 5 (tx l) Try.underlying9 bytesT.ut Try.underlying5
  rw [tx_size] at hrun
  refine ⟨_, _, hrun, grownCap_ge w _ 0 _, ?_, ⟨rfl, rfl, rfl, by rw [Lib.bytesWorld_size]; omega, fun k hk => Lib.bytesWorld_at_old w _ _ k hk⟩⟩
  have hge := grownCap_ge w l.length 0 5
  have hs : l.length ≤ (Lib.bytesCells w 5 (tx l)).size := by
    unfold Lib.bytesCells
    simp [tx_size]
  refine ⟨_, _, _, Lib.bytesWorld_at_new w _ _, hs, hs, fun j hj => ?_⟩
  have hc := Lib.bytesWorld_cell w 5 (tx l) j (by rw [tx_size]; exact hj)
  rw [tx_list] at hc
  rw [cell_of_row _ _ _ _ _ _ (Lib.bytesWorld_at_new w _ _)] at hc
  exact hc
end Go.Proofs.Ytnjmekjaingniaa

/-
  []byte(s) that is written and appended to: the new block with its spare places.
-/
namespace Go.Proofs.Ytnjmekjaingniaa
open Go.RowKit
set_option linter.unusedVariables false
set_option linter.unusedSimpArgs false

def BegC (g : Nat) (l : List UInt8) (cap : Nat) (w : World) : Prop := ∃ (cs : Array Value) (fz : Nat × Nat), w.heap[g]? = some (.cells cs 5 fz) ∧ l.length ≤ cap ∧ cs.size = cap ∧ cap ≤ fz.1 ∧ ∀ j, j < l.length → cs[j]? = some (bv (l.getD j 0))
theorem BegC.beg {g cap : Nat} {l : List UInt8} {w : World} (h : BegC g l cap w) : Beg g l w := by
  obtain ⟨cs, fz, hh, h1, h2, h3, h4⟩ := h
  exact ⟨cs, _, fz, hh, by omega, by omega, h4⟩
theorem BegC.set {g cap : Nat} {l : List UInt8} {w : World} (h : BegC g l cap w) {j : Nat} (hj : j < l.length) (x : UInt8) : BegC g (l.set j x) cap (w.setCell ⟨g, j, none⟩ (bv x)) := by
  obtain ⟨cs, fz, hh, h1, h2, h3, h4⟩ := h
  refine ⟨cs.setIfInBounds j (bv x), fz, by simp [World.setCell, Array.getElem?_modify, hh], by simp; exact h1, by simp; exact h2, h3, fun i hi => ?_⟩
  rw [List.length_set] at hi
  by_cases hij : j = i
  · subst hij
    rw [Array.getElem?_setIfInBounds_self_of_lt (by omega)]
    simp [List.getD, hj]
  · rw [Array.getElem?_setIfInBounds_ne hij, h4 i hi]
    simp [List.getD, List.getElem?_set_ne hij]
set_option maxRecDepth 100000 in
theorem conv_begc (w : World) (l : List UInt8) : ∃ c w', (convert 9 26 (.string (tx l))).run Try.prog w = .ok (.slice (some ⟨w.heap.size, 0, none⟩) l.length c) w' ∧ l.length ≤ c ∧
    BegC w.heap.size l c w' ∧ Up w w' := by
  have hrun := Lib.run_convert_string_bytes (P := Try.prog) w 9 26 5 (tx l) Try.underlying9 bytesT.ut Try.underlying5
  rw [tx_size] at hrun
  have hge := grownCap_ge w l.length 0 5
  have hs : (Lib.bytesCells w 5 (tx l)).size = grownCap w l.length 0 5 := by
    unfold Lib.bytesCells
    have hd : (tx l).data.size = l.length := by rw [← tx_size]; rfl
    simp only [Array.size_append, Array.size_map, Array.size_replicate, tx_size, hd]
    omega
  refine ⟨_, _, hrun, hge, ?_, ⟨rfl, rfl, rfl, by rw [Lib.bytesWorld_size]; omega, fun k hk => Lib.bytesWorld_at_old w _ _ k hk⟩⟩
  refine ⟨_, _, Lib.bytesWorld_at_new w _ _, hge, hs, by rw [hs]; exact Nat.le_refl _, fun j hj => ?_⟩
  have hc := Lib.bytesWorld_cell w 5 (tx l) j (by rw [tx_size]; exact hj)
  rw [tx_list] at hc
  rw [cell_of_row _ _ _ _ _ _ (Lib.bytesWorld_at_new w _ _)] at hc
  exact hc
set_option maxRecDepth 100000 in
/-- append(c[:k], x...) -/
theorem run_append_begc (ty : TypeId) {w0 w : World} {g cap k m c B : Nat} {l news : List UInt8} {A : Option Addr} (hB : BegC g l cap w) (hk : k ≤ l.length) (hr : Rd w B 1 A m (bvs news)) (hb : k + m ≤ 140737488355328) (hg : w0.heap.size ≤ g) (hu : Up w0 w) :
    ∃ A' c' w', (Builtin.append_ #[26, 26] ty #[.slice (some ⟨g, 0, none⟩) k cap, .slice A m c]).run Try.prog w = .ok (.slice A' (k + m) c') w' ∧ Rd w' w'.heap.size 1 A' (k + m) (bvs (l.take k ++ news)) ∧ k + m ≤ c' ∧ Up w0 w' := by
  have hBg := hB.beg
  have hrd := hBg.rd.bto hk
  obtain ⟨ht, ⟨i, z, hi, hz, hsize, hby, hzs⟩, hsz⟩ := bytesT
  have hgl := hBg.lt
  have hnl : news.length = m := hr.blen.symm
  obtain ⟨cs, fz, hh, h1, h2, h3, h4⟩ := hB
  rcases A with _ | ad
  · have hm : m = 0 := by
      rcases Nat.eq_zero_or_pos m with h0 | h0
      · exact h0
      · obtain ⟨b, o, h, _⟩ := hr.2 h0
        cases h
    subst hm
    have hn : news = [] := List.eq_nil_of_length_eq_zero hnl
    subst hn
    refine ⟨some ⟨g, 0, none⟩, cap, w, ?_, by simpa using hrd, by omega, hu⟩
    have hkc : k ≤ cap := by omega
    simp [Builtin.append_, run_underlying ht, sizeOf, typeInfo, hi, Builtin.lenOf, Builtin.firstCells, hkc, storeCells]
  · have hcells : ∀ j u, (bvs news)[j]? = some u → w.cell? (ad.add j) = some u := by
      intro j u hj
      rcases Nat.eq_zero_or_pos m with h0 | h0
      · have hn : news = [] := List.eq_nil_of_length_eq_zero (by omega)
        subst hn
        simp [bvs] at hj
      · obtain ⟨b, o, h, _, hc⟩ := hr.2 h0
        injection h with h
        subst h
        have e : (⟨b, o, none⟩ : Addr).add j = ⟨b, o + j, none⟩ := by unfold Addr.add; split <;> simp_all
        rw [e]
        exact hc j u hj
    have hbl : (bvs news).length = m := by rw [bvs_length, hnl]
    by_cases hroom : k + m ≤ cap
    · have hfit : ∀ j, j < (bvs news).length → (w.cell? ⟨g, 0 + k * i.size + j, none⟩).isSome = true := by
        intro j hj
        rw [hsize, cell_of_row w g _ cs _ fz hh]
        simp; omega
      have hfr : ∀ j, j < (bvs news).length → w.frozen? ⟨g, 0 + k * i.size + j, none⟩ = false := by
        intro j hj
        rw [hsize]
        simp [World.frozen?, hh]
        omega
      have hrun := run_append_room_cells (P := Try.prog) w 26 ty 5 i ht hi g 0 k cap ad m c (bvs news) (by rw [hbl, hsize, Nat.mul_one]) hcells (bvs_one _) hroom hfit hfr
      have hbs := below_sets g hg (bvs news) (0 + k * i.size) w (Below.refl w0.heap.size w)
      refine ⟨_, _, _, hrun, ?_, hroom, Below.trans (show Below w0.heap.size w0 w from hu) hbs⟩
      rw [hsize, Nat.mul_one, Nat.zero_add] at *
      refine ⟨by rw [bvs_length, List.length_append, List.length_take, hnl]; omega, fun _ => ⟨g, 0, rfl, Nat.lt_of_lt_of_le hgl hbs.size, fun j u hj => ?_⟩⟩
      rw [Nat.zero_add]
      rw [bvs_append, List.getElem?_append] at hj
      have hl : (bvs (l.take k)).length = k := by rw [bvs_length, List.length_take]; omega
      rw [hl] at hj
      by_cases hjk : j < k
      · rw [if_pos hjk] at hj
        rw [World.cell?_setCells_out g (bvs news) k w ⟨g, j, none⟩ (fun _ _ => .inl (by simp only; omega))]
        have := (hrd.2 (by omega))
        obtain ⟨b, o, e, _, hc⟩ := this
        injection e with e
        injection e with e1 e2
        subst e1; subst e2
        have := hc j u hj
        rwa [Nat.zero_add] at this
      · rw [if_neg hjk] at hj
        have e2 : j = k + (j - k) := by omega
        rw [e2]
        obtain ⟨hjn, hjv⟩ := List.getElem?_eq_some_iff.1 hj
        rw [World.cell?_setCells_in g (bvs news) k w (fun i hi => by rw [cell_of_row w g _ cs _ fz hh]; simp; omega) _ hjn, ← hjv]
    · have holds : ∀ j u, (bvs (l.take k))[j]? = some u → w.cell? ((⟨g, 0, none⟩ : Addr).add j) = some u := by
        intro j u hj
        have hjl := (List.getElem?_eq_some_iff.1 hj).1
        rw [bvs_length, List.length_take] at hjl
        have e : (⟨g, 0, none⟩ : Addr).add j = ⟨g, 0 + j, none⟩ := by unfold Addr.add; split <;> simp_all
        rw [e]
        obtain ⟨b, o, e, _, hc⟩ := hrd.2 (by omega)
        injection e with e
        injection e with e1 e2
        subst e1; subst e2
        exact hc j u hj
      obtain ⟨v', w', hrun, ho, hg'⟩ := run_append_arg_grows (P := Try.prog) w 26 ty 5 i z 1 1 ht hi hz hsize hby hzs hsz ⟨g, 0, none⟩ k cap (bvs (l.take k)) (by rw [bvs_length, List.length_take]; omega) holds ad m c (bvs news) (by rw [hbl, Nat.mul_one]) hcells (by omega) (by simp only [maxLen]; omega) (by omega)
      obtain ⟨A', c', rfl, hrd'⟩ := Rd.from_ownsRow ho
      exact ⟨A', c', w', hrun, by rw [bvs_append]; exact hrd', own_cap ho, hu.grown hg' (fun k hk => by cases hk)⟩
set_option maxRecDepth 100000 in
theorem wpList_append_begc {ops : Array Oper} {rest : List Oper} {o : Oper} {a : Act} {Q : Exit → Act → World → Prop} {s x : Operand} {w0 w : World} {g cap k m c B : Nat} {l news : List UInt8} {A : Option Addr} (hB : BegC g l cap w) (hk : k ≤ l.length) (hr : Rd w B 1 A m (bvs news)) (hb : k + m ≤ 140737488355328) (hg : w0.heap.size ≤ g) (hu : Up w0 w)
    (hgd : o.guard = none) (ho : o.op = .call { callee := .builtin .append, args := #[s, x], argTypes := #[26, 26] })
    (hs : a.eval s = .slice (some ⟨g, 0, none⟩) k cap) (hx : a.eval x = .slice A m c)
    (h : ∀ A' c' w', Rd w' w'.heap.size 1 A' (k + m) (bvs (l.take k ++ news)) → k + m ≤ c' → Up w0 w' → wpList Try.prog ops Q rest (a.put o.dst (.slice A' (k + m) c')) w') : wpList Try.prog ops Q (o :: rest) a w := by
  refine wpList_plain hgd fun _ hK => ?_
  obtain ⟨A', c', w', hrun, h2, h3, h4⟩ := run_append_begc o.type (c := c) hB hk hr hb hg hu
  unfold Oper.wp execOp
  simp only [ho, resolve, invoke, builtin, Sem.run_bind, Sem.run_pure, Result.andThen_ok, List.map_toArray, List.map_cons, List.map_nil, hs, hx, hrun]
  exact hK _ _ (h A' c' w' h2 h3 h4)
end Go.Proofs.Ytnjmekjaingniaa

/-
  The walks of a Log's Sync, of log.Open.
-/
namespace Go.Proofs.Ytnjmekjaingniaa
open Go.RowKit Go.Maps
set_option linter.unusedVariables false
set_option linter.unusedSimpArgs false

theorem istore_any (g o : Nat) (x y : Int) (w : World) (hc : w.cell? ⟨g, o, none⟩ = some (.int .i64 x)) (hz : w.frozen? ⟨g, o, none⟩ = false) :
    Calls Try.prog 45 #[.pointer (some ⟨g, o, none⟩), .int .i64 y] w fun e w' => e = .returned (.tuple #[]) ∧ w' = w.setCell ⟨g, o, none⟩ (.int .i64 y) := by
  have hst := run_call_store (P := Try.prog) Try.func71 (by kernel_rfl) (by kernel_rfl) (by kernel_rfl) (by kernel_rfl) (k := .i64) (y := y) hc hz
  go_enter Try.func45, Try.ntmps45
  go_wp2_with fail
  exact bodyPost_end (results_none rfl _ _ _) rfl ⟨rfl, rfl⟩
def LSyncPost (B gl : Nat) (h : Hp) (d : Dk) (nm : List UInt8) (sz ct : Nat) (w : World) (e : Ending) (w' : World) : Prop :=
  ∃ h', e = .returned (.int .i64 ((syncD d nm).2 : Int)) ∧ DiskAt B h' (syncD d nm).1 w' ∧ LogAt gl h.g nm sz ct false w' ∧ LgTo gl h w h' w'
set_option maxRecDepth 100000 in
set_option maxHeartbeats 1600000 in
theorem lsync_any {B gl : Nat} {h : Hp} {d : Dk} {w : World} {nm : List UInt8} {sz ct : Nat} (H : DiskAt B h d w) (L : LogAt gl h.g nm sz ct false w) (hf : ¬ foot h gl) (hok : DkOk d) (hcl : d.calls ≤ 1000000000) (hs : nm.length ≤ 9223372036854775807) :
    Calls Try.prog 30 #[.pointer (some ⟨gl, 0, none⟩)] w (LSyncPost B gl h d nm sz ct w) := by
  have hL : w.heap[gl]? = some (.cells #[.pointer (some ⟨h.g, 0, none⟩), .string (tx nm), .int .i64 (sz : Int), .int .i64 (ct : Int), .bool false] 95 (0, 0)) := L
  have c4 := blk_cell hL 4
  simp only [List.getElem?_toArray, List.getElem?_cons_zero, List.getElem?_cons_succ] at c4
  have hca := fun (W : World) (hW : Up w W) => sync_any (H.up hW) hok hcl nm hs
  have HCA := Lib.hid hca
  have hSz := fun (W : World) (hW : Up w W) => (L.up hW).c01
  clear hca
  go_enter Try.func30, Try.ntmps30
  go_upto_region 3 with fail
  clear c4 hL
  go_region_held3 (fun W => W.cell? ⟨gl, 0, none⟩ = some (.pointer (some ⟨h.g, 0, none⟩)) ∧ W.cell? ⟨gl, 1, none⟩ = some (.string (tx nm))) (first | exact hSz _ (Up.refl _) | exact hSz _ (Up.refl _).drew | assumption | go_keep) (first
    | (go_at_call 51; with_reducible refine (HCA.out _ (Up.refl _).drew).mono ?_; rintro e w3 ⟨h3, rfl, H3, D3⟩; have L3 : LogAt gl h.g nm sz ct false w3 := (L.up (Up.refl _).drew).keeps D3.kept hf; have q3 := L3.c01))
  go_wp2_with fail
  go_ret
  exact ⟨h3, rfl, H3, L3, (LgTo.up (Up.refl _).drew).trans (LgTo.dk D3)⟩
set_option maxRecDepth 100000 in
theorem lsync_torn {gl gd : Nat} {nm : List UInt8} {sz ct : Nat} {w : World} (L : LogAt gl gd nm sz ct true w) : Calls Try.prog 30 #[.pointer (some ⟨gl, 0, none⟩)] w fun e w' => e = .returned (.int .i64 9) ∧ w' = w := by
  have c4 : w.cell? ⟨gl, 4, none⟩ = some (.bool true) := blk_cell (show w.heap[gl]? = _ from L) 4
  go_enter Try.func30, Try.ntmps30
  go_wp2_with fail
  go_ret
  exact ⟨rfl, rfl⟩
set_option maxRecDepth 100000 in
theorem lput_torn {gl gd : Nat} {nm : List UInt8} {sz ct : Nat} {w : World} (L : LogAt gl gd nm sz ct true w) (A : Option Addr) (n c : Nat) : Calls Try.prog 27 #[.pointer (some ⟨gl, 0, none⟩), .slice A n c] w fun e w' => e = .returned (.int .i64 9) ∧ w' = w := by
  have c4 : w.cell? ⟨gl, 4, none⟩ = some (.bool true) := blk_cell (show w.heap[gl]? = _ from L) 4
  go_enter Try.func27, Try.ntmps27
  go_wp2_with fail
  go_ret
  exact ⟨rfl, rfl⟩
set_option maxRecDepth 100000 in
theorem lnew_nil (s : List UInt8) (w : World) : Calls Try.prog 23 #[.pointer none, .string (tx s)] w fun e w' => e = .returned (.tuple #[.pointer none, .int .i64 1]) ∧ w' = w := by
  go_enter Try.func23, Try.ntmps23
  go_wp2_with fail
  refine bodyPost_ret (v := .tuple #[.pointer none, .int .i64 1]) (by simp [results, Try.results23, go_sem]) rfl ?_
  exact ⟨rfl, rfl⟩
set_option maxRecDepth 100000 in
theorem lopen_nil (s : List UInt8) (w : World) : Calls Try.prog 22 #[.pointer none, .string (tx s)] w fun e w' => e = .returned (.tuple #[.pointer none, .slice none 0 0, .bool false, .int .i64 1]) ∧ w' = w := by
  go_enter Try.func22, Try.ntmps22
  go_wp2_with fail
  refine bodyPost_ret (v := .tuple #[.pointer none, .slice none 0 0, .bool false, .int .i64 1]) (by simp [results, Try.results22, go_sem]) rfl ?_
  exact ⟨rfl, rfl⟩
/-- what Open comes to -/
def LOpenPost (h : Hp) (d : Dk) (nm : List UInt8) (w : World) (e : Ending) (w' : World) : Prop :=
  Up w w' ∧ (((readD d nm).2 ≠ 0 ∧ e = .returned (.tuple #[.pointer none, .slice none 0 0, .bool false, .int .i64 ((readD d nm).2 : Int)])) ∨
    ((readD d nm).2 = 0 ∧ replL (readD d nm).1 = none ∧ e = .returned (.tuple #[.pointer none, .slice none 0 0, .bool false, .int .i64 9])) ∨
    ((readD d nm).2 = 0 ∧ ∃ g en, replL (readD d nm).1 = some (g, en) ∧ ∃ gl R m rc rs, e = .returned (.tuple #[.pointer (some ⟨gl, 0, none⟩), .slice R m rc, .bool (!decide (en < (readD d nm).1.length)), .int .i64 0]) ∧
      LogAt gl h.g nm en g.length (decide (en < (readD d nm).1.length)) w' ∧ w.heap.size ≤ gl ∧ OwnRI w' w.heap.size R m rc rs ∧ RwOwn w' w.heap.size rs ∧ rwl rs = g))
theorem readD_len {d : Dk} (h : DkOk d) (s : List UInt8) : (readD d s).1.length ≤ 250000 := by
  unfold readD
  split
  · simp
  · split
    · simp
    · split
      · simp
      · exact (fileOf_ok h _).1
set_option maxRecDepth 100000 in
set_option maxHeartbeats 3200000 in
theorem lopen_any {B : Nat} {h : Hp} {d : Dk} {w : World} (H : DiskAt B h d w) (hok : DkOk d) (nm : List UInt8) (hs : nm.length ≤ 9223372036854775807) :
    Calls Try.prog 22 #[.pointer (some ⟨h.g, 0, none⟩), .string (tx nm)] w (LOpenPost h d nm w) := by
  have hc := dread_any H hok nm hs
  have hlen := readD_len hok nm
  have hpost : ∀ e w', LOpenPost h d nm w e w' = (Up w w' ∧ (((readD d nm).2 ≠ 0 ∧ e = .returned (.tuple #[.pointer none, .slice none 0 0, .bool false, .int .i64 ((readD d nm).2 : Int)])) ∨
    ((readD d nm).2 = 0 ∧ replL (readD d nm).1 = none ∧ e = .returned (.tuple #[.pointer none, .slice none 0 0, .bool false, .int .i64 9])) ∨
    ((readD d nm).2 = 0 ∧ ∃ g en, replL (readD d nm).1 = some (g, en) ∧ ∃ gl R m rc rs, e = .returned (.tuple #[.pointer (some ⟨gl, 0, none⟩), .slice R m rc, .bool (!decide (en < (readD d nm).1.length)), .int .i64 0]) ∧
      LogAt gl h.g nm en g.length (decide (en < (readD d nm).1.length)) w' ∧ w.heap.size ≤ gl ∧ OwnRI w' w.heap.size R m rc rs ∧ RwOwn w' w.heap.size rs ∧ rwl rs = g))) := fun _ _ => rfl
  obtain ⟨b, E, hd⟩ : ∃ a b, readD d nm = (a, b) := ⟨_, _, rfl⟩
  rw [hd] at hc hlen
  simp only [hd] at hpost
  (try dsimp only at hc hlen)
  have HP := Lib.hid hpost
  have HC := Lib.hid hc
  clear hpost hc hd
  go_enter Try.func22, Try.ntmps22
  go_wp2_with fail
  refine HC.out.mono ?_
  rintro e w1 ⟨R, n, c, rfl, hR, hu1⟩
  by_cases hE : E = 0
  · have c1 : ((E : Int) != 0) = false := by rw [bne_eq_false_iff_eq]; omega
    have hrd := hR.rd
    have hn := hrd.blen
    have hnc := own_cap hR
    have hn2 : n ≤ 250000 := by omega
    have HN := Lib.hid hn
    have hsz1 := hu1.size
    clear hn hlen hR
    go_wp2_with fail
    refine (replay14_any R n c b w1 hrd (by omega) hnc).mono ?_
    intro e w2 h2
    cases hre : replL b with
    | none =>
      rw [hre] at h2
      obtain ⟨rfl, hu2⟩ := h2
      have HRE := Lib.hid hre
      clear hre
      go_wp2_with fail
      refine bodyPost_ret (v := .tuple #[.pointer none, .slice none 0 0, .bool false, .int .i64 9]) (by simp [results, Try.results22, go_sem]) rfl ?_
      rw [HP.out]
      exact ⟨hu1.trans hu2, .inr (.inl ⟨hE, HRE.out, rfl⟩)⟩
    | some x =>
      obtain ⟨g, en⟩ := x
      rw [hre] at h2
      obtain ⟨R2, m, rc, rs, rfl, hR2, hO2, hl2, hu2⟩ := h2
      (try dsimp only at hl2)
      have HRE := Lib.hid hre
      have hml : m = g.length := by rw [hR2.len, ← hl2, rwl_len]
      have HML := Lib.hid hml
      have HL2 := Lib.hid hl2
      have hm9 : m ≤ 9223372036854775807 := by
        have := (replL_bd hre).1
        have := (replL_bd hre).2.1
        have := HN.out
        (try dsimp only at *)
        omega
      clear hre hml hl2
      by_cases ht : en < n
      · have t1 : (en : Int) < (n : Int) := by omega
        have htb : decide (en < b.length) = true := by rw [← HN.out]; simp [ht]
        have t2 : decide (en < n) = true := by simp [ht]
        have HTB := Lib.hid htb
        obtain ⟨w3, hw3⟩ : ∃ w3, w3 = w2.alloc (.cells #[.pointer (some ⟨h.g, 0, none⟩), .string (tx nm), .int .i64 (en : Int), .int .i64 0, .bool true] 95) := ⟨_, rfl⟩
        have hu3 : Up w2 w3 := by rw [hw3]; exact (Up.refl w2).alloc _
        have hb3 : w3.heap[w2.heap.size]? = some (.cells #[.pointer (some ⟨h.g, 0, none⟩), .string (tx nm), .int .i64 (en : Int), .int .i64 0, .bool true] 95 (0, 0)) := by rw [hw3]; exact heap_alloc_new w2 _
        have HW3 := Lib.hid hw3
        have hgl : w.heap.size ≤ w2.heap.size := Nat.le_trans hsz1 hu2.size
        clear hw3 ht htb
        go_wp2_with fail
        rw [← HW3.out]
        clear HW3
        have hR3 := hR2.up hu3
        have hO3 := hO2.up hu3
        have hR2lt : ∀ k, inA R2 k → k < w2.heap.size := fun k hk => (inA_own hR2 hk).2
        have hsz2 := hu2.size
        generalize hg2 : w2.heap.size = gl at hb3 hgl hR2lt ⊢
        have hO2lt : ∀ r ∈ rs, ∀ k, inA r.A k → k < gl := fun r hr k hk => by have := (inA_own (hO2 r hr) hk).2; omega
        refine (istore_any gl 3 0 (m : Int) w3 (blk_cell hb3 3) (blk_free hb3 3)).mono ?_
        rintro e w4 ⟨rfl, hw4⟩
        have hb4 : w4.heap[gl]? = some (.cells #[.pointer (some ⟨h.g, 0, none⟩), .string (tx nm), .int .i64 (en : Int), .int .i64 (m : Int), .bool true] 95 (0, 0)) := by rw [hw4]; exact setc_heap w3 gl 3 _ _ _ hb3
        have hK4 : Rg.Keeps (fun k => k = gl) w3 w4 := by rw [hw4]; exact setc_keeps _ _ _ _ _ (Rg.Keeps.refl _ _)
        have hup13 : Up w w3 := hu1.trans (hu2.trans hu3)
        have hup4 : Up w w4 := ⟨hK4.os.trans hup13.os, hK4.tape.trans hup13.tape, hK4.output.trans hup13.output, Nat.le_trans hup13.size hK4.size, fun k hk => (hK4.block k (Nat.lt_of_lt_of_le hk hup13.size) (by show ¬ k = gl; omega)).trans (hup13.block k hk)⟩
        have hR4 : OwnRI w4 w1.heap.size R2 m rc rs := own_keepsX hR3 hK4 (fun k hk e => by have := hR2lt k hk; omega)
        have hO4 : RwOwn w4 w1.heap.size rs := fun r hr => own_keepsX (hO3 r hr) hK4 (fun k hk e => by have := hO2lt r hr k hk; omega)
        have hSc := fun (W : World) (hW : Up w4 W) => blk_cell ((hW.block _ (Array.getElem?_eq_some_iff.1 hb4).1).trans hb4) 4
        simp only [List.getElem?_toArray, List.getElem?_cons_zero, List.getElem?_cons_succ] at hSc
        clear hw4 hK4 hb3 hR3 hO3 hR2 hO2 hu3 hrd hup13
        go_wp2_with fail
        apply Rg.region_up _ (by kernel_rfl) (by kernel_rfl) hSc
        · intro QN hQN
          iterate 11 (apply Rg.RK.ok; (· intro vs w1 hS; go_simp; with_reducible rfl); (· rfl); simp only [Act.put, List.setIfInBounds_toArray, List.set_cons_zero, List.set_cons_succ, Nat.reduceAdd])
          apply Rg.RK.fin []
          intro vs w1 hK hS _
          refine hQN.out _ _ ?_
          clear hQN
          have hu5 := keeps_up hK
          clear hS hK
          go_wp2_with fail
          refine bodyPost_ret (v := .tuple #[.pointer (some ⟨gl, 0, none⟩), .slice R2 m rc, .bool (!true), .int .i64 0]) (by simp [results, Try.results22, go_sem]) rfl ?_
          rw [HP.out]
          refine ⟨hup4.trans hu5, .inr (.inr ⟨hE, g, en, HRE.out, gl, R2, m, rc, rs, ?_, ?_, hgl, own_base (own_up hR4 hu5) hsz1, (hO4.up hu5).base hsz1, HL2.out⟩)⟩
          · rw [HTB.out]
          · rw [HTB.out, ← HML.out]
            exact (hu5.block _ (Array.getElem?_eq_some_iff.1 hb4).1).trans hb4
        · kernel_rfl
      · have t1 : ¬ (en : Int) < (n : Int) := by omega
        have htb : decide (en < b.length) = false := by rw [← HN.out]; simp [ht]
        have t2 : decide (en < n) = false := by simp [ht]
        have HTB := Lib.hid htb
        obtain ⟨w3, hw3⟩ : ∃ w3, w3 = w2.alloc (.cells #[.pointer (some ⟨h.g, 0, none⟩), .string (tx nm), .int .i64 (en : Int), .int .i64 0, .bool false] 95) := ⟨_, rfl⟩
        have hu3 : Up w2 w3 := by rw [hw3]; exact (Up.refl w2).alloc _
        have hb3 : w3.heap[w2.heap.size]? = some (.cells #[.pointer (some ⟨h.g, 0, none⟩), .string (tx nm), .int .i64 (en : Int), .int .i64 0, .bool false] 95 (0, 0)) := by rw [hw3]; exact heap_alloc_new w2 _
        have HW3 := Lib.hid hw3
        have hgl : w.heap.size ≤ w2.heap.size := Nat.le_trans hsz1 hu2.size
        clear hw3 ht htb
        go_wp2_with fail
        rw [← HW3.out]
        clear HW3
        have hR3 := hR2.up hu3
        have hO3 := hO2.up hu3
        have hR2lt : ∀ k, inA R2 k → k < w2.heap.size := fun k hk => (inA_own hR2 hk).2
        have hsz2 := hu2.size
        generalize hg2 : w2.heap.size = gl at hb3 hgl hR2lt ⊢
        have hO2lt : ∀ r ∈ rs, ∀ k, inA r.A k → k < gl := fun r hr k hk => by have := (inA_own (hO2 r hr) hk).2; omega
        refine (istore_any gl 3 0 (m : Int) w3 (blk_cell hb3 3) (blk_free hb3 3)).mono ?_
        rintro e w4 ⟨rfl, hw4⟩
        have hb4 : w4.heap[gl]? = some (.cells #[.pointer (some ⟨h.g, 0, none⟩), .string (tx nm), .int .i64 (en : Int), .int .i64 (m : Int), .bool false] 95 (0, 0)) := by rw [hw4]; exact setc_heap w3 gl 3 _ _ _ hb3
        have hK4 : Rg.Keeps (fun k => k = gl) w3 w4 := by rw [hw4]; exact setc_keeps _ _ _ _ _ (Rg.Keeps.refl _ _)
        have hup13 : Up w w3 := hu1.trans (hu2.trans hu3)
        have hup4 : Up w w4 := ⟨hK4.os.trans hup13.os, hK4.tape.trans hup13.tape, hK4.output.trans hup13.output, Nat.le_trans hup13.size hK4.size, fun k hk => (hK4.block k (Nat.lt_of_lt_of_le hk hup13.size) (by show ¬ k = gl; omega)).trans (hup13.block k hk)⟩
        have hR4 : OwnRI w4 w1.heap.size R2 m rc rs := own_keepsX hR3 hK4 (fun k hk e => by have := hR2lt k hk; omega)
        have hO4 : RwOwn w4 w1.heap.size rs := fun r hr => own_keepsX (hO3 r hr) hK4 (fun k hk e => by have := hO2lt r hr k hk; omega)
        have hSc := fun (W : World) (hW : Up w4 W) => blk_cell ((hW.block _ (Array.getElem?_eq_some_iff.1 hb4).1).trans hb4) 4
        simp only [List.getElem?_toArray, List.getElem?_cons_zero, List.getElem?_cons_succ] at hSc
        clear hw4 hK4 hb3 hR3 hO3 hR2 hO2 hu3 hrd hup13
        go_wp2_with fail
        apply Rg.region_up _ (by kernel_rfl) (by kernel_rfl) hSc
        · intro QN hQN
          iterate 11 (apply Rg.RK.ok; (· intro vs w1 hS; go_simp; with_reducible rfl); (· rfl); simp only [Act.put, List.setIfInBounds_toArray, List.set_cons_zero, List.set_cons_succ, Nat.reduceAdd])
          apply Rg.RK.fin []
          intro vs w1 hK hS _
          refine hQN.out _ _ ?_
          clear hQN
          have hu5 := keeps_up hK
          clear hS hK
          go_wp2_with fail
          refine bodyPost_ret (v := .tuple #[.pointer (some ⟨gl, 0, none⟩), .slice R2 m rc, .bool (!false), .int .i64 0]) (by simp [results, Try.results22, go_sem]) rfl ?_
          rw [HP.out]
          refine ⟨hup4.trans hu5, .inr (.inr ⟨hE, g, en, HRE.out, gl, R2, m, rc, rs, ?_, ?_, hgl, own_base (own_up hR4 hu5) hsz1, (hO4.up hu5).base hsz1, HL2.out⟩)⟩
          · rw [HTB.out]
          · rw [HTB.out, ← HML.out]
            exact (hu5.block _ (Array.getElem?_eq_some_iff.1 hb4).1).trans hb4
        · kernel_rfl
  · have c1 : ((E : Int) != 0) = true := by rw [bne_iff_ne]; omega
    go_wp2_with fail
    refine bodyPost_ret (v := .tuple #[.pointer none, .slice none 0 0, .bool false, .int .i64 (E : Int)]) (by simp [results, Try.results22, go_sem]) rfl ?_
    rw [HP.out]
    exact ⟨hu1, .inl ⟨hE, rfl⟩⟩
end Go.Proofs.Ytnjmekjaingniaa
