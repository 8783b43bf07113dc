/-
  Texts of this claim, joined: Conv, LogW6, LogW7, DkW11, DkW12, LogP2.
-/
import Derived.Lib.ConvBytes
import Derived.BigFrame
import Derived.StillTailTactics
import Derived.Test.YtnjmekjaingniaaZ4
/-
  []byte(s): a new slice that holds a text's bytes.
-/
namespace Go.Proofs.Ytnjmekjaingniaa
open Go.RowKit
set_option linter.unusedVariables false
set_option linter.unusedSimpArgs false

theorem conv_b (w : World) (l : List UInt8) : ∃ c w', (convert 9 26 (.string (tx l))).run Try.prog w = .ok (.slice (some ⟨w.heap.size, 0, none⟩) l.length c) w' ∧ l.length ≤ c ∧
    Rd w' w'.heap.size 1 (some ⟨w.heap.size, 0, none⟩) l.length (bvs l) ∧ Up w w' ∧ (∀ j, j < l.length → w'.frozen? ⟨w.heap.size, j, none⟩ = false) ∧ w.heap.size < w'.heap.size := by
  have hrun := Lib.run_convert_string_bytes (P := Try.prog) w 9 26 5 (tx l) Try.underlying9 bytesT.ut Try.underlying5
  rw [tx_size] at hrun
  refine ⟨_, _, hrun, grownCap_ge w _ 0 _, ⟨by rw [bvs_length, Nat.mul_one], fun _ => ⟨w.heap.size, 0, rfl, by rw [Lib.bytesWorld_size]; omega, fun j u hu => ?_⟩⟩, ⟨rfl, rfl, rfl, by rw [Lib.bytesWorld_size]; omega, fun k hk => Lib.bytesWorld_at_old w _ _ k hk⟩, fun j hj => ?_, by rw [Lib.bytesWorld_size]; omega⟩
  · rw [Nat.zero_add]
    have hj := (List.getElem?_eq_some_iff.1 hu).1
    rw [bvs_length] at hj
    rw [Lib.bytesWorld_cell w _ _ j (by rw [tx_size]; exact hj), tx_list, ← hu]
    simp [bvs, bv, hj, List.getD]
  · have hge := grownCap_ge w l.length 0 5
    unfold World.frozen?
    rw [Lib.bytesWorld_at_new]
    have hs : j < (Lib.bytesCells w 5 (tx l)).size := by
      unfold Lib.bytesCells
      simp [tx_size]; omega
    simp
    omega
end Go.Proofs.Ytnjmekjaingniaa

/-
  Words for the laws of logs: what few and text come to, as hypotheses.
-/
namespace Go.Proofs.Ytnjmekjaingniaa
open Go.RowKit Go.Maps
set_option linter.unusedVariables false
set_option linter.unusedSimpArgs false

theorem Rd.tor {w : World} {B n k : Nat} {A : Option Addr} {rs : List Rw} (h : Rd w B 1 A n (rwv rs)) (hk : k ≤ n) : Rd w B 1 A k (rwv (rs.take k)) := by
  have := h.to_ hk
  simpa [rwv, List.map_take] using this
theorem RwOk.take {w : World} {rs : List Rw} (h : RwOk w rs) (k : Nat) : RwOk w (rs.take k) := fun r hr => h r (List.mem_of_mem_take hr)
theorem RwOk.append {w : World} {rs ss : List Rw} (h : RwOk w rs) (k : RwOk w ss) : RwOk w (rs ++ ss) := fun r hr => (List.mem_append.1 hr).elim (h r) (k r)
theorem rwl_take (rs : List Rw) (k : Nat) : rwl (rs.take k) = (rwl rs).take k := by simp [rwl, List.map_take]
theorem rwl_append (rs ss : List Rw) : rwl (rs ++ ss) = rwl rs ++ rwl ss := by simp [rwl]
theorem rwv_append (rs ss : List Rw) : rwv (rs ++ ss) = rwv rs ++ rwv ss := by simp [rwv]
theorem goodR_sub {rs : List Rw} {r : Rw} (h : r ∈ goodR rs) : r ∈ rs := (List.mem_filter.1 h).1
theorem goodR_all (rs : List Rw) : ∀ q ∈ rwl (goodR rs), batE q = 0 := by rw [rwl_goodR]; exact goodL_ok
theorem IsRI.ok {w : World} {A : Option Addr} {n c : Nat} {rs : List Rw} (h : IsRI w A n c rs) : RwOk w rs := fun r hr => ⟨(h.2.1 r hr).1, (h.2.1 r hr).2.1⟩
theorem IsRI.bd {w : World} {A : Option Addr} {n c : Nat} {rs : List Rw} (h : IsRI w A n c rs) : ∀ r ∈ rs, r.n ≤ 9223372036854775807 := fun r hr => by have := h.2.1 r hr; have := this.2; omega
/-- what text comes to, told of whatever grows out of the world behind it -/
theorem text_facts {rs : List Rw} {w : World} (ho : RwOk w rs) (hn : rs.length ≤ 15) (hb : ∀ r ∈ rs, r.n ≤ 150) :
    (goodR rs).length ≤ 15 ∧ RwOk w (goodR rs) ∧ (∀ r ∈ goodR rs, r.l.length ≤ 150) ∧ (∀ q ∈ rwl (goodR rs), batE q = 0) ∧ (logB (rwl (goodR rs))).length ≤ 900180 := by
  have h1 := goodR_len rs
  have h2 := goodR_all rs
  have h3 := (logB_len _ h2).2
  rw [rwl_len] at h3
  exact ⟨by omega, fun r hr => ho r (goodR_sub hr), fun r hr => by have h4 := (ho r (goodR_sub hr)).1.ilen; have h5 := hb r (goodR_sub hr); omega, h2, by omega⟩
/-- the ends' cells -/
theorem ends_cell {w : World} {B n c : Nat} {A : Option Addr} {g : List (List It)} (h : OwnK w B A n c (endsG g)) (hn : n = g.length + 1) : ∃ b, A = some ⟨b, 0, none⟩ ∧ b < w.heap.size ∧ ∀ j, j < n → w.cell? ⟨b, j, none⟩ = some (.int .i64 (endL g j : Int)) := by
  obtain ⟨b, rfl, -, hb⟩ := own_some h (by omega)
  obtain ⟨b1, o1, e, hlt, hc⟩ := (Rd.own h).2 (by omega)
  injection e with e
  injection e with e1 e2
  subst e1; subst e2
  refine ⟨b, rfl, hb, fun j hj => ?_⟩
  have h9 := hc j (.int .i64 (endL g j : Int)) (by unfold nvi; rw [List.getElem?_map, endsG_get g (by omega)]; rfl)
  rwa [Nat.zero_add] at h9
/-- append(s, x...), guarded and asked -/
theorem wpList_append_want {P : Program} (w : World) {ops : Array Oper} {rest : List Oper} {o : Oper} {a : Act} {Q : Exit → Act → World → Prop} {s x : Operand} {t e : TypeId} {sz bytes : Nat} (hT : SlT P t e sz bytes)
    {base n B m c : Nat} {v : Value} {xs news : List Value} {A : Option Addr}
    (hown : w.ownsRow base e sz v n xs) (hr : Rd w B sz A m news) (h1 : ∀ u ∈ news, u.oneCell' = true)
    (hb : n + m ≤ 4611686018427387903) (hbytes : (n + m) * bytes ≤ 140737488355328) (hbase : base ≤ w.heap.size)
    (hw : Region.wanted o (yielded ops a.tmps) = true)
    (ho : o.op = .call { callee := .builtin .append, args := #[s, x], argTypes := #[t, t] })
    (hs : a.eval s = v) (hx : a.eval x = .slice A m c)
    (h : ∀ v' w', w'.ownsRow base e sz v' (n + m) (xs ++ news) → w.grownBy w' v.ownBlock → (v'.ownBlock = v.ownBlock ∨ v'.ownBlock = some w.heap.size) → wpList P ops Q rest (a.put o.dst v') w') : wpList P ops Q (o :: rest) a w :=
  BigFrame.wpList_want hw fun _ hK => wp_append_rd w s x hT ho hs hx hown hr h1 hb hbytes hbase fun v' w' h2 h3 h4 => hK _ _ (h v' w' h2 h3 h4)
theorem tx_takeX (l : List UInt8) (n : Nat) : (tx l).extract 0 n = tx (l.take n) := tx_of (by simp [tx_list])
theorem tx_dropX (l : List UInt8) (n m : Nat) (h : m = l.length) : (tx l).extract n m = tx (l.drop n) := tx_of (by subst h; simp [tx_list, List.take_of_length_le])
end Go.Proofs.Ytnjmekjaingniaa

/-
  The walks of a Log's Sync, of log.Open.
-/
namespace Go.Proofs.Ytnjmekjaingniaa
open Go.RowKit Go.Maps
set_option linter.unusedVariables false
set_option linter.unusedSimpArgs false

theorem istore_any (g o : Nat) (x y : Int) (w : World) (hc : w.cell? ⟨g, o, none⟩ = some (.int .i64 x)) (hz : w.frozen? ⟨g, o, none⟩ = false) :
    Calls Try.prog 45 #[.pointer (some ⟨g, o, none⟩), .int .i64 y] w fun e w' => e = .returned (.tuple #[]) ∧ w' = w.setCell ⟨g, o, none⟩ (.int .i64 y) := by
  have hst := run_call_store (P := Try.prog) Try.func71 (by kernel_rfl) (by kernel_rfl) (by kernel_rfl) (by kernel_rfl) (k := .i64) (y := y) hc hz
  go_enter Try.func45, Try.ntmps45
  go_wp2_with fail
  exact bodyPost_end (results_none rfl _ _ _) rfl ⟨rfl, rfl⟩
def LSyncPost (B gl : Nat) (h : Hp) (d : Dk) (nm : List UInt8) (sz ct : Nat) (w : World) (e : Ending) (w' : World) : Prop :=
  ∃ h', e = .returned (.int .i64 ((syncD d nm).2 : Int)) ∧ DiskAt B h' (syncD d nm).1 w' ∧ LogAt gl h.g nm sz ct false w' ∧ LgTo gl h w h' w'
set_option maxRecDepth 100000 in
set_option maxHeartbeats 1600000 in
theorem lsync_any {B gl : Nat} {h : Hp} {d : Dk} {w : World} {nm : List UInt8} {sz ct : Nat} (H : DiskAt B h d w) (L : LogAt gl h.g nm sz ct false w) (hf : ¬ foot h gl) (hok : DkOk d) (hcl : d.calls ≤ 1000000000) (hs : nm.length ≤ 9223372036854775807) :
    Calls Try.prog 30 #[.pointer (some ⟨gl, 0, none⟩)] w (LSyncPost B gl h d nm sz ct w) := by
  have hL : w.heap[gl]? = some (.cells #[.pointer (some ⟨h.g, 0, none⟩), .string (tx nm), .int .i64 (sz : Int), .int .i64 (ct : Int), .bool false] 95 (0, 0)) := L
  have c4 := blk_cell hL 4
  simp only [List.getElem?_toArray, List.getElem?_cons_zero, List.getElem?_cons_succ] at c4
  have hca := fun (W : World) (hW : Up w W) => sync_any (H.up hW) hok hcl nm hs
  have HCA := Lib.hid hca
  have hSz := fun (W : World) (hW : Up w W) => (L.up hW).c01
  clear hca
  go_enter Try.func30, Try.ntmps30
  go_upto_region 3 with fail
  clear c4 hL
  go_region_held3 (fun W => W.cell? ⟨gl, 0, none⟩ = some (.pointer (some ⟨h.g, 0, none⟩)) ∧ W.cell? ⟨gl, 1, none⟩ = some (.string (tx nm))) (first | exact hSz _ (Up.refl _) | exact hSz _ (Up.refl _).drew | assumption | go_keep) (first
    | (go_at_call 51; with_reducible refine (HCA.out _ (Up.refl _).drew).mono ?_; rintro e w3 ⟨h3, rfl, H3, D3⟩; have L3 : LogAt gl h.g nm sz ct false w3 := (L.up (Up.refl _).drew).keeps D3.kept hf; have q3 := L3.c01))
  go_wp2_with fail
  go_ret
  exact ⟨h3, rfl, H3, L3, (LgTo.up (Up.refl _).drew).trans (LgTo.dk D3)⟩
set_option maxRecDepth 100000 in
theorem lsync_torn {gl gd : Nat} {nm : List UInt8} {sz ct : Nat} {w : World} (L : LogAt gl gd nm sz ct true w) : Calls Try.prog 30 #[.pointer (some ⟨gl, 0, none⟩)] w fun e w' => e = .returned (.int .i64 9) ∧ w' = w := by
  have c4 : w.cell? ⟨gl, 4, none⟩ = some (.bool true) := blk_cell (show w.heap[gl]? = _ from L) 4
  go_enter Try.func30, Try.ntmps30
  go_wp2_with fail
  go_ret
  exact ⟨rfl, rfl⟩
set_option maxRecDepth 100000 in
theorem lput_torn {gl gd : Nat} {nm : List UInt8} {sz ct : Nat} {w : World} (L : LogAt gl gd nm sz ct true w) (A : Option Addr) (n c : Nat) : Calls Try.prog 27 #[.pointer (some ⟨gl, 0, none⟩), .slice A n c] w fun e w' => e = .returned (.int .i64 9) ∧ w' = w := by
  have c4 : w.cell? ⟨gl, 4, none⟩ = some (.bool true) := blk_cell (show w.heap[gl]? = _ from L) 4
  go_enter Try.func27, Try.ntmps27
  go_wp2_with fail
  go_ret
  exact ⟨rfl, rfl⟩
set_option maxRecDepth 100000 in
theorem lnew_nil (s : List UInt8) (w : World) : Calls Try.prog 23 #[.pointer none, .string (tx s)] w fun e w' => e = .returned (.tuple #[.pointer none, .int .i64 1]) ∧ w' = w := by
  go_enter Try.func23, Try.ntmps23
  go_wp2_with fail
  refine bodyPost_ret (v := .tuple #[.pointer none, .int .i64 1]) (by simp [results, Try.results23, go_sem]) rfl ?_
  exact ⟨rfl, rfl⟩
set_option maxRecDepth 100000 in
theorem lopen_nil (s : List UInt8) (w : World) : Calls Try.prog 22 #[.pointer none, .string (tx s)] w fun e w' => e = .returned (.tuple #[.pointer none, .slice none 0 0, .bool false, .int .i64 1]) ∧ w' = w := by
  go_enter Try.func22, Try.ntmps22
  go_wp2_with fail
  refine bodyPost_ret (v := .tuple #[.pointer none, .slice none 0 0, .bool false, .int .i64 1]) (by simp [results, Try.results22, go_sem]) rfl ?_
  exact ⟨rfl, rfl⟩
/-- what Open comes to -/
def LOpenPost (h : Hp) (d : Dk) (nm : List UInt8) (w : World) (e : Ending) (w' : World) : Prop :=
  Up w w' ∧ (((readD d nm).2 ≠ 0 ∧ e = .returned (.tuple #[.pointer none, .slice none 0 0, .bool false, .int .i64 ((readD d nm).2 : Int)])) ∨
    ((readD d nm).2 = 0 ∧ replL (readD d nm).1 = none ∧ e = .returned (.tuple #[.pointer none, .slice none 0 0, .bool false, .int .i64 9])) ∨
    ((readD d nm).2 = 0 ∧ ∃ g en, replL (readD d nm).1 = some (g, en) ∧ ∃ gl R m rc rs, e = .returned (.tuple #[.pointer (some ⟨gl, 0, none⟩), .slice R m rc, .bool (!decide (en < (readD d nm).1.length)), .int .i64 0]) ∧
      LogAt gl h.g nm en g.length (decide (en < (readD d nm).1.length)) w' ∧ w.heap.size ≤ gl ∧ OwnRI w' w.heap.size R m rc rs ∧ RwOwn w' w.heap.size rs ∧ rwl rs = g))
theorem readD_len {d : Dk} (h : DkOk d) (s : List UInt8) : (readD d s).1.length ≤ 250000 := by
  unfold readD
  split
  · simp
  · split
    · simp
    · split
      · simp
      · exact (fileOf_ok h _).1
set_option maxRecDepth 100000 in
set_option maxHeartbeats 3200000 in
theorem lopen_any {B : Nat} {h : Hp} {d : Dk} {w : World} (H : DiskAt B h d w) (hok : DkOk d) (nm : List UInt8) (hs : nm.length ≤ 9223372036854775807) :
    Calls Try.prog 22 #[.pointer (some ⟨h.g, 0, none⟩), .string (tx nm)] w (LOpenPost h d nm w) := by
  have hc := dread_any H hok nm hs
  have hlen := readD_len hok nm
  have hpost : ∀ e w', LOpenPost h d nm w e w' = (Up w w' ∧ (((readD d nm).2 ≠ 0 ∧ e = .returned (.tuple #[.pointer none, .slice none 0 0, .bool false, .int .i64 ((readD d nm).2 : Int)])) ∨
    ((readD d nm).2 = 0 ∧ replL (readD d nm).1 = none ∧ e = .returned (.tuple #[.pointer none, .slice none 0 0, .bool false, .int .i64 9])) ∨
    ((readD d nm).2 = 0 ∧ ∃ g en, replL (readD d nm).1 = some (g, en) ∧ ∃ gl R m rc rs, e = .returned (.tuple #[.pointer (some ⟨gl, 0, none⟩), .slice R m rc, .bool (!decide (en < (readD d nm).1.length)), .int .i64 0]) ∧
      LogAt gl h.g nm en g.length (decide (en < (readD d nm).1.length)) w' ∧ w.heap.size ≤ gl ∧ OwnRI w' w.heap.size R m rc rs ∧ RwOwn w' w.heap.size rs ∧ rwl rs = g))) := fun _ _ => rfl
  obtain ⟨b, E, hd⟩ : ∃ a b, readD d nm = (a, b) := ⟨_, _, rfl⟩
  rw [hd] at hc hlen
  simp only [hd] at hpost
  (try dsimp only at hc hlen)
  have HP := Lib.hid hpost
  have HC := Lib.hid hc
  clear hpost hc hd
  go_enter Try.func22, Try.ntmps22
  go_wp2_with fail
  refine HC.out.mono ?_
  rintro e w1 ⟨R, n, c, rfl, hR, hu1⟩
  by_cases hE : E = 0
  · have c1 : ((E : Int) != 0) = false := by rw [bne_eq_false_iff_eq]; omega
    have hrd := hR.rd
    have hn := hrd.blen
    have hnc := own_cap hR
    have hn2 : n ≤ 250000 := by omega
    have HN := Lib.hid hn
    have hsz1 := hu1.size
    clear hn hlen hR
    go_wp2_with fail
    refine (replay14_any R n c b w1 hrd (by omega) hnc).mono ?_
    intro e w2 h2
    cases hre : replL b with
    | none =>
      rw [hre] at h2
      obtain ⟨rfl, hu2⟩ := h2
      have HRE := Lib.hid hre
      clear hre
      go_wp2_with fail
      refine bodyPost_ret (v := .tuple #[.pointer none, .slice none 0 0, .bool false, .int .i64 9]) (by simp [results, Try.results22, go_sem]) rfl ?_
      rw [HP.out]
      exact ⟨hu1.trans hu2, .inr (.inl ⟨hE, HRE.out, rfl⟩)⟩
    | some x =>
      obtain ⟨g, en⟩ := x
      rw [hre] at h2
      obtain ⟨R2, m, rc, rs, rfl, hR2, hO2, hl2, hu2⟩ := h2
      (try dsimp only at hl2)
      have HRE := Lib.hid hre
      have hml : m = g.length := by rw [hR2.len, ← hl2, rwl_len]
      have HML := Lib.hid hml
      have HL2 := Lib.hid hl2
      have hm9 : m ≤ 9223372036854775807 := by
        have := (replL_bd hre).1
        have := (replL_bd hre).2.1
        have := HN.out
        (try dsimp only at *)
        omega
      clear hre hml hl2
      by_cases ht : en < n
      · have t1 : (en : Int) < (n : Int) := by omega
        have htb : decide (en < b.length) = true := by rw [← HN.out]; simp [ht]
        have t2 : decide (en < n) = true := by simp [ht]
        have HTB := Lib.hid htb
        obtain ⟨w3, hw3⟩ : ∃ w3, w3 = w2.alloc (.cells #[.pointer (some ⟨h.g, 0, none⟩), .string (tx nm), .int .i64 (en : Int), .int .i64 0, .bool true] 95) := ⟨_, rfl⟩
        have hu3 : Up w2 w3 := by rw [hw3]; exact (Up.refl w2).alloc _
        have hb3 : w3.heap[w2.heap.size]? = some (.cells #[.pointer (some ⟨h.g, 0, none⟩), .string (tx nm), .int .i64 (en : Int), .int .i64 0, .bool true] 95 (0, 0)) := by rw [hw3]; exact heap_alloc_new w2 _
        have HW3 := Lib.hid hw3
        have hgl : w.heap.size ≤ w2.heap.size := Nat.le_trans hsz1 hu2.size
        clear hw3 ht htb
        go_wp2_with fail
        rw [← HW3.out]
        clear HW3
        have hR3 := hR2.up hu3
        have hO3 := hO2.up hu3
        have hR2lt : ∀ k, inA R2 k → k < w2.heap.size := fun k hk => (inA_own hR2 hk).2
        have hsz2 := hu2.size
        generalize hg2 : w2.heap.size = gl at hb3 hgl hR2lt ⊢
        have hO2lt : ∀ r ∈ rs, ∀ k, inA r.A k → k < gl := fun r hr k hk => by have := (inA_own (hO2 r hr) hk).2; omega
        refine (istore_any gl 3 0 (m : Int) w3 (blk_cell hb3 3) (blk_free hb3 3)).mono ?_
        rintro e w4 ⟨rfl, hw4⟩
        have hb4 : w4.heap[gl]? = some (.cells #[.pointer (some ⟨h.g, 0, none⟩), .string (tx nm), .int .i64 (en : Int), .int .i64 (m : Int), .bool true] 95 (0, 0)) := by rw [hw4]; exact setc_heap w3 gl 3 _ _ _ hb3
        have hK4 : Rg.Keeps (fun k => k = gl) w3 w4 := by rw [hw4]; exact setc_keeps _ _ _ _ _ (Rg.Keeps.refl _ _)
        have hup13 : Up w w3 := hu1.trans (hu2.trans hu3)
        have hup4 : Up w w4 := ⟨hK4.os.trans hup13.os, hK4.tape.trans hup13.tape, hK4.output.trans hup13.output, Nat.le_trans hup13.size hK4.size, fun k hk => (hK4.block k (Nat.lt_of_lt_of_le hk hup13.size) (by show ¬ k = gl; omega)).trans (hup13.block k hk)⟩
        have hR4 : OwnRI w4 w1.heap.size R2 m rc rs := own_keepsX hR3 hK4 (fun k hk e => by have := hR2lt k hk; omega)
        have hO4 : RwOwn w4 w1.heap.size rs := fun r hr => own_keepsX (hO3 r hr) hK4 (fun k hk e => by have := hO2lt r hr k hk; omega)
        have hSc := fun (W : World) (hW : Up w4 W) => blk_cell ((hW.block _ (Array.getElem?_eq_some_iff.1 hb4).1).trans hb4) 4
        simp only [List.getElem?_toArray, List.getElem?_cons_zero, List.getElem?_cons_succ] at hSc
        clear hw4 hK4 hb3 hR3 hO3 hR2 hO2 hu3 hrd hup13
        go_wp2_with fail
        apply Rg.region_up _ (by kernel_rfl) (by kernel_rfl) hSc
        · intro QN hQN
          iterate 11 (apply Rg.RK.ok; (· intro vs w1 hS; go_simp; with_reducible rfl); (· rfl); simp only [Act.put, List.setIfInBounds_toArray, List.set_cons_zero, List.set_cons_succ, Nat.reduceAdd])
          apply Rg.RK.fin []
          intro vs w1 hK hS _
          refine hQN.out _ _ ?_
          clear hQN
          have hu5 := keeps_up hK
          clear hS hK
          go_wp2_with fail
          refine bodyPost_ret (v := .tuple #[.pointer (some ⟨gl, 0, none⟩), .slice R2 m rc, .bool (!true), .int .i64 0]) (by simp [results, Try.results22, go_sem]) rfl ?_
          rw [HP.out]
          refine ⟨hup4.trans hu5, .inr (.inr ⟨hE, g, en, HRE.out, gl, R2, m, rc, rs, ?_, ?_, hgl, own_base (own_up hR4 hu5) hsz1, (hO4.up hu5).base hsz1, HL2.out⟩)⟩
          · rw [HTB.out]
          · rw [HTB.out, ← HML.out]
            exact (hu5.block _ (Array.getElem?_eq_some_iff.1 hb4).1).trans hb4
        · kernel_rfl
      · have t1 : ¬ (en : Int) < (n : Int) := by omega
        have htb : decide (en < b.length) = false := by rw [← HN.out]; simp [ht]
        have t2 : decide (en < n) = false := by simp [ht]
        have HTB := Lib.hid htb
        obtain ⟨w3, hw3⟩ : ∃ w3, w3 = w2.alloc (.cells #[.pointer (some ⟨h.g, 0, none⟩), .string (tx nm), .int .i64 (en : Int), .int .i64 0, .bool false] 95) := ⟨_, rfl⟩
        have hu3 : Up w2 w3 := by rw [hw3]; exact (Up.refl w2).alloc _
        have hb3 : w3.heap[w2.heap.size]? = some (.cells #[.pointer (some ⟨h.g, 0, none⟩), .string (tx nm), .int .i64 (en : Int), .int .i64 0, .bool false] 95 (0, 0)) := by rw [hw3]; exact heap_alloc_new w2 _
        have HW3 := Lib.hid hw3
        have hgl : w.heap.size ≤ w2.heap.size := Nat.le_trans hsz1 hu2.size
        clear hw3 ht htb
        go_wp2_with fail
        rw [← HW3.out]
        clear HW3
        have hR3 := hR2.up hu3
        have hO3 := hO2.up hu3
        have hR2lt : ∀ k, inA R2 k → k < w2.heap.size := fun k hk => (inA_own hR2 hk).2
        have hsz2 := hu2.size
        generalize hg2 : w2.heap.size = gl at hb3 hgl hR2lt ⊢
        have hO2lt : ∀ r ∈ rs, ∀ k, inA r.A k → k < gl := fun r hr k hk => by have := (inA_own (hO2 r hr) hk).2; omega
        refine (istore_any gl 3 0 (m : Int) w3 (blk_cell hb3 3) (blk_free hb3 3)).mono ?_
        rintro e w4 ⟨rfl, hw4⟩
        have hb4 : w4.heap[gl]? = some (.cells #[.pointer (some ⟨h.g, 0, none⟩), .string (tx nm), .int .i64 (en : Int), .int .i64 (m : Int), .bool false] 95 (0, 0)) := by rw [hw4]; exact setc_heap w3 gl 3 _ _ _ hb3
        have hK4 : Rg.Keeps (fun k => k = gl) w3 w4 := by rw [hw4]; exact setc_keeps _ _ _ _ _ (Rg.Keeps.refl _ _)
        have hup13 : Up w w3 := hu1.trans (hu2.trans hu3)
        have hup4 : Up w w4 := ⟨hK4.os.trans hup13.os, hK4.tape.trans hup13.tape, hK4.output.trans hup13.output, Nat.le_trans hup13.size hK4.size, fun k hk => (hK4.block k (Nat.lt_of_lt_of_le hk hup13.size) (by show ¬ k = gl; omega)).trans (hup13.block k hk)⟩
        have hR4 : OwnRI w4 w1.heap.size R2 m rc rs := own_keepsX hR3 hK4 (fun k hk e => by have := hR2lt k hk; omega)
        have hO4 : RwOwn w4 w1.heap.size rs := fun r hr => own_keepsX (hO3 r hr) hK4 (fun k hk e => by have := hO2lt r hr k hk; omega)
        have hSc := fun (W : World) (hW : Up w4 W) => blk_cell ((hW.block _ (Array.getElem?_eq_some_iff.1 hb4).1).trans hb4) 4
        simp only [List.getElem?_toArray, List.getElem?_cons_zero, List.getElem?_cons_succ] at hSc
        clear hw4 hK4 hb3 hR3 hO3 hR2 hO2 hu3 hrd hup13
        go_wp2_with fail
        apply Rg.region_up _ (by kernel_rfl) (by kernel_rfl) hSc
        · intro QN hQN
          iterate 11 (apply Rg.RK.ok; (· intro vs w1 hS; go_simp; with_reducible rfl); (· rfl); simp only [Act.put, List.setIfInBounds_toArray, List.set_cons_zero, List.set_cons_succ, Nat.reduceAdd])
          apply Rg.RK.fin []
          intro vs w1 hK hS _
          refine hQN.out _ _ ?_
          clear hQN
          have hu5 := keeps_up hK
          clear hS hK
          go_wp2_with fail
          refine bodyPost_ret (v := .tuple #[.pointer (some ⟨gl, 0, none⟩), .slice R2 m rc, .bool (!false), .int .i64 0]) (by simp [results, Try.results22, go_sem]) rfl ?_
          rw [HP.out]
          refine ⟨hup4.trans hu5, .inr (.inr ⟨hE, g, en, HRE.out, gl, R2, m, rc, rs, ?_, ?_, hgl, own_base (own_up hR4 hu5) hsz1, (hO4.up hu5).base hsz1, HL2.out⟩)⟩
          · rw [HTB.out]
          · rw [HTB.out, ← HML.out]
            exact (hu5.block _ (Array.getElem?_eq_some_iff.1 hb4).1).trans hb4
        · kernel_rfl
  · have c1 : ((E : Int) != 0) = true := by rw [bne_iff_ne]; omega
    go_wp2_with fail
    refine bodyPost_ret (v := .tuple #[.pointer none, .slice none 0 0, .bool false, .int .i64 (E : Int)]) (by simp [results, Try.results22, go_sem]) rfl ?_
    rw [HP.out]
    exact ⟨hu1, .inl ⟨hE, rfl⟩⟩
end Go.Proofs.Ytnjmekjaingniaa

/-
  The walk of the disk's Crash: the files.
-/
namespace Go.Proofs.Ytnjmekjaingniaa
open Go.RowKit Go.Maps
set_option linter.unusedVariables false
set_option linter.unusedSimpArgs false

theorem own_take {w : World} {base n c m : Nat} {e : TypeId} {A : Option Addr} {l : List UInt8} (h : w.ownsRow base e 1 (.slice A n c) n (bvs l)) (hm : m ≤ n) : w.ownsRow base e 1 (.slice A m c) m (bvs (l.take m)) := by
  have hl : l.length = n := by have := h.1; simp [bvs] at this; omega
  rcases h.2 with ⟨hv, hn⟩ | ⟨g, cap, cur, hv, hb, hh, hnc, hcm, hcs, htake⟩
  · subst hn
    have hm0 : m = 0 := by omega
    subst hm0
    refine ⟨by simp [bvs], .inl ⟨hv, rfl⟩⟩
  · injection hv with e1 e2 e3
    subst e3
    refine ⟨by simp [bvs, hl]; omega, .inr ⟨g, c, cur, by rw [e1], hb, hh, by omega, hcm, hcs, ?_⟩⟩
    have h9 : bvs (l.take m) = (bvs l).take m := by simp [bvs, List.map_take]
    rw [h9, ← htake, List.take_take]
    congr 1
    omega
theorem cut_to_u (W : World) (A : Option Addr) (n c m : Nat) (h1 : m ≤ c) :
    (Instr.slice 26 (.slice A n c) none (some (.int .i64 (m : Int))) none).run Try.prog W = .ok (.slice A m c) W := by
  rw [run_slice_h W 26 A n c (by rw [elem_b]; exact Try.underlying26) .i64 (m : Int) (by omega) (by omega), elem_b, sizeOf_b]
  have e4 : ∀ a : Addr, a.add 0 = a := fun a => by unfold Addr.add; simp
  cases A <;> simp [sliced, e4]
/-- what stands of the disk, of what is kept and of memory, in the first loop -/
structure CrI (B : Nat) (h : Hp) (d : Dk) (w : World) (gk : Nat) (P : Prop) (A0 : Option Addr) (R : Option Addr) (rn rc : Nat) (fs : List Fi) (keep : List Int) (A : Option Addr) (n c : Nat) (W : World) : Prop where
  H : DiskAt B h { d with files := fs } W
  ok : DkOk { d with files := fs }
  len : fs.length = d.files.length
  K : KeepAt gk keep A n c W
  n1 : n ≤ 9223372036854775807
  rg : ∀ x ∈ keep, -9223372036854775808 ≤ x ∧ x ≤ 9223372036854775807
  pn : 0 < n → P
  sub : ∀ a', A = some a' → ∃ a, A0 = some a ∧ a.block = a'.block
  row : W.ownsRow (w.heap.size + 1) 3 1 (.slice R rn rc) rn (nvd (ledL d))
  kp : Rg.Keeps (foot h) w W
section
variable {P : Prop} {B : Nat} {h : Hp} {d : Dk} {w : World} {gk : Nat} {A0 R A : Option Addr} {rn rc n c : Nat} {fs : List Fi} {keep : List Int} {W W' : World}
theorem CrI.up (I : CrI B h d w gk P A0 R rn rc fs keep A n c W) (hu : Up W W') : CrI B h d w gk P A0 R rn rc fs keep A n c W' :=
  ⟨I.H.up hu, I.ok, I.len, I.K.up hu, I.n1, I.rg, I.pn, I.sub, own_up I.row hu, Keeps.trans2 I.kp (Rg.Keeps.of_up hu)⟩
/-- the closure has taken a number -/
theorem CrI.next (I : CrI B h d w gk P A0 R rn rc fs keep A n c W) {A' : Option Addr} {n' c' : Nat} (hgk : gk = w.heap.size) (hfl : ∀ k, foot h k → k < w.heap.size) (K' : KeepAt gk keep.tail A' n' c' W') (hn : n' ≤ n) (hs : ∀ a', A' = some a' → ∃ a, A = some a ∧ a.block = a'.block) (hK : Rg.Keeps (fun k => k = gk) W W') :
    CrI B h d w gk P A0 R rn rc fs keep.tail A' n' c' W' :=
  ⟨I.H.keepsX hK (fun k hk e => by have := hfl k hk; omega), I.ok, I.len, K', Nat.le_trans hn I.n1, fun x hx => I.rg x (List.mem_of_mem_tail hx), fun h0 => I.pn (by omega), fun a' ha' => by
    obtain ⟨a, ha, e⟩ := hs a' ha'
    obtain ⟨a2, ha2, e2⟩ := I.sub a ha
    exact ⟨a2, ha2, e2.trans e⟩, own_keepsX I.row hK (fun k hk e => by have := (inA_own I.row hk).1; omega), ⟨hK.os.trans I.kp.os, hK.tape.trans I.kp.tape, hK.output.trans I.kp.output, Nat.le_trans I.kp.size hK.size, fun k hk hx => (hK.block k (Nat.lt_of_lt_of_le hk I.kp.size) (by omega)).trans (I.kp.block k hk hx)⟩⟩
/-- one file has turned -/
theorem CrI.file (I : CrI B h d w gk P A0 R rn rc fs keep A n c W) (hgk : gk = w.heap.size) (hfl : ∀ k, foot h k → k < w.heap.size) (hA0 : P → ∀ a, A0 = some a → ¬ foot h a.block) {i : Nat} {f : Fl} {x : Fi} {v : Int} (hf : h.fl[i]? = some f) (hx : fs[i]? = some x) (hb : W'.heap[f.g]? = some (.cells #[.slice f.A (crash1 x v).b.length f.c, .int .i64 ((crash1 x v).last : Int)] 93 (0, 0))) (hK : Rg.Keeps (fun k => k = f.g) W W') :
    CrI B h d w gk P A0 R rn rc (fs.set i (crash1 x v)) keep A n c W' := by
  have hF := I.H.each i f x hf hx
  have hxok := I.ok.fb x (List.mem_of_getElem? hx)
  obtain ⟨q1, q2, q3⟩ := crash1_ok v hxok
  have hfg : foot h f.g := .inr (.inr (.inr (.inr (.inr ⟨f, List.mem_of_getElem? hf, .inl rfl⟩))))
  have hgkf : gk ≠ f.g := by have := hfl _ hfg; omega
  have hown : OwnB W' B f.A (crash1 x v).b.length f.c (crash1 x v).b := by
    refine own_keepsX ?_ hK (fun k hk e => ?_)
    · have h9 := own_take (m := (crash1 x v).b.length) hF.own (by unfold crash1; simp only [List.length_take]; omega)
      have h8 : x.b.take (crash1 x v).b.length = (crash1 x v).b := by
        unfold crash1
        simp only [List.length_take]
        rw [Nat.min_eq_left q3]
      rw [h8] at h9
      exact h9
    · have h1 := kd_row hF.own hk
      rw [e, kd_cells hF.blk] at h1
      exact absurd h1 (by decide)
  obtain ⟨H3, D3⟩ := I.H.setFile (x' := crash1 x v) (A' := f.A) (c' := f.c) hf hx hb hown (Keeps.weak hK (fun k hk => .inl hk)) (fun k hk => .inl hk)
  have hset : h.fl.set i ⟨f.g, f.A, f.c⟩ = h.fl := by
    obtain ⟨hi, e⟩ := List.getElem?_eq_some_iff.1 hf
    have : (⟨f.g, f.A, f.c⟩ : Fl) = h.fl[i] := by rw [e]
    rw [this]
    exact List.set_getElem_self _
  rw [hset] at H3
  refine ⟨H3, setFile_ok I.ok i _ ⟨q1, Nat.le_of_eq q2⟩, by rw [List.length_set]; exact I.len, I.K.keepsX hK hgkf (fun h0 a ha e => ?_), I.n1, I.rg, I.pn, I.sub, own_keepsX I.row hK (fun k hk e => by have := (inA_own I.row hk).1; have := hfl _ hfg; omega), Keeps.trans2 I.kp (Keeps.weak hK (fun k hk => by subst hk; exact hfg))⟩
  obtain ⟨a2, ha2, e2⟩ := I.sub a ha
  exact hA0 (I.pn h0) a2 ha2 (by rw [e2, e]; exact hfg)
end
/-- what stands in the second loop -/
structure CrT (B : Nat) (h : Hp) (d : Dk) (w : World) (gk : Nat) (P : Prop) (A0 : Option Addr) (fs : List Fi) (j : Nat) (D : Mp) (keep : List Int) (A : Option Addr) (n c : Nat) (W : World) : Prop where
  H : DiskAt B h { d with files := fs, lasted := D } W
  M : MOk D d.files.length
  sz : Maps.size D ≤ Maps.size d.lasted + j
  K : KeepAt gk keep A n c W
  n1 : n ≤ 9223372036854775807
  pn : 0 < n → P
  sub : ∀ a', A = some a' → ∃ a, A0 = some a ∧ a.block = a'.block
  kp : Rg.Keeps (foot h) w W
section
variable {P : Prop} {B : Nat} {h : Hp} {d : Dk} {w : World} {gk j : Nat} {D : Mp} {A0 A : Option Addr} {n c : Nat} {fs : List Fi} {keep : List Int} {W W' : World}
theorem CrT.up (I : CrT B h d w gk P A0 fs j D keep A n c W) (hu : Up W W') : CrT B h d w gk P A0 fs j D keep A n c W' :=
  ⟨I.H.up hu, I.M, I.sz, I.K.up hu, I.n1, I.pn, I.sub, Keeps.trans2 I.kp (Rg.Keeps.of_up hu)⟩
theorem CrT.more (I : CrT B h d w gk P A0 fs j D keep A n c W) : CrT B h d w gk P A0 fs (j + 1) D keep A n c W := ⟨I.H, I.M, by have := I.sz; omega, I.K, I.n1, I.pn, I.sub, I.kp⟩
theorem CrT.next (I : CrT B h d w gk P A0 fs j D keep A n c W) {A' : Option Addr} {n' c' : Nat} (hgk : gk = w.heap.size) (hfl : ∀ k, foot h k → k < w.heap.size) (K' : KeepAt gk keep.tail A' n' c' W') (hn : n' ≤ n) (hs : ∀ a', A' = some a' → ∃ a, A = some a ∧ a.block = a'.block) (hK : Rg.Keeps (fun k => k = gk) W W') :
    CrT B h d w gk P A0 fs j D keep.tail A' n' c' W' :=
  ⟨I.H.keepsX hK (fun k hk e => by have := hfl k hk; omega), I.M, I.sz, K', Nat.le_trans hn I.n1, fun h0 => I.pn (by omega), fun a' ha' => by
    obtain ⟨a, ha, e⟩ := hs a' ha'
    obtain ⟨a2, ha2, e2⟩ := I.sub a ha
    exact ⟨a2, ha2, e2.trans e⟩, ⟨hK.os.trans I.kp.os, hK.tape.trans I.kp.tape, hK.output.trans I.kp.output, Nat.le_trans I.kp.size hK.size, fun k hk hx => (hK.block k (Nat.lt_of_lt_of_le hk I.kp.size) (by omega)).trans (I.kp.block k hk hx)⟩⟩
/-- the names that last have turned -/
theorem CrT.las (I : CrT B h d w gk P A0 fs j D keep A n c W) (hgk : gk = w.heap.size) (hfl : ∀ k, foot h k → k < w.heap.size) (hA0 : P → ∀ a, A0 = some a → ¬ foot h a.block) (t : Tn) (ht : t.kind = 1 → t.file < d.files.length) {n' : Nat} (hm : W'.ownsMap Try.prog 9 (plainElem Try.prog 3) h.lb n' (doM t D)) (hK : Rg.Keeps (fun k => k = h.lb) W W') :
    CrT B h d w gk P A0 fs (j + 1) (doM t D) keep A n c W' := by
  have hlb : foot h h.lb := .inr (.inr (.inl rfl))
  have hgl : gk ≠ h.lb := by have := hfl _ hlb; omega
  obtain ⟨H2, -⟩ := I.H.setLasted (D' := doM t D) hK hm
  refine ⟨H2, doM_ok I.M t ht, by have := doM_size I.M t; have := I.sz; omega, I.K.keepsX hK hgl (fun h0 a ha e => ?_), I.n1, I.pn, I.sub, Keeps.trans2 I.kp (Keeps.weak hK (fun k hk => by subst hk; exact hlb))⟩
  obtain ⟨a2, ha2, e2⟩ := I.sub a ha
  exact hA0 (I.pn h0) a2 ha2 (by rw [e2, e]; exact hlb)
/-- the end of a Crash -/
theorem DiskAt.crashEnd (H : DiskAt B h d W) {lb' n2 : Nat} {D2 : Mp} (d' : Dk) (hd : W'.heap[h.g]? = some (.cells (dcs d' { h with nb := h.lb, lb := lb', ta := none, tc := 0 }) 86 (0, 0))) (hK : Rg.Keeps (fun k => k = h.g) W W')
    (e1 : d'.files = d.files) (e2 : d'.names = d.lasted) (e3 : d'.lasted = D2) (e4 : d'.turns = []) (m2 : W'.ownsMap Try.prog 9 (plainElem Try.prog 3) lb' n2 D2) (hl : W.heap.size ≤ lb') :
    DiskAt B { h with nb := h.lb, lb := lb', ta := none, tc := 0 } d' W' ∧ DkTo h W { h with nb := h.lb, lb := lb', ta := none, tc := 0 } W' := by
  have hx : ∀ k, k = h.g → kd W k = some (some 86) := fun k hk => by subst hk; exact kd_cells H.hd
  have hf := H.fkeep hK (fun k hk => by rw [hx k hk]; exact ⟨by decide, by decide, by decide⟩)
  have hm := H.mkeep hK (fun k hk => by rw [hx k hk]; simp)
  have hlb := H.lt (k := h.lb) (.inr (.inr (.inl rfl)))
  have hgb := H.lt (k := h.g) (.inl rfl)
  refine ⟨⟨hd, H.base, by rw [e1]; exact hf.1, by rw [e1]; exact H.flen, by rw [e1]; exact hf.2, H.apart, by rw [e2]; exact hm.2, by rw [e3]; exact map_tight m2, ?_, ⟨H.nbase.2, ?_⟩, by rw [e4]; exact World.ownsRow_nil _ _ _ _⟩, rfl, Keeps.weak hK (fun k hk => .inl hk), fun k hk => ?_⟩
  · show h.lb ≠ lb'
    omega
  · show B ≤ lb'
    omega
  · rcases hk with hk | hk | hk | hk | ⟨a, ha, _⟩ | hk
    · exact .inl (.inl hk)
    · exact .inl (.inr (.inr (.inl hk)))
    · have hk' : k = lb' := hk
      subst hk'
      exact .inr hl
    · exact .inl (.inr (.inr (.inr (.inl hk))))
    · cases ha
    · exact .inl (.inr (.inr (.inr (.inr (.inr hk)))))
end
end Go.Proofs.Ytnjmekjaingniaa

/-
  The walk of the disk's Crash.
-/
namespace Go.Proofs.Ytnjmekjaingniaa
open Go.RowKit Go.Maps
set_option linter.unusedVariables false
set_option linter.unusedSimpArgs false

theorem ledT_lt {d : Dk} {i k : Nat} (h : i ∈ ledT d k) : i < k := by
  unfold ledT at h
  have := (List.mem_filter.1 h).1
  rwa [List.mem_range] at this
/-- Go's remainder, made not less than nought -/
theorem tmod_fix (v m : Int) (hm : 0 < m) : (0 ≤ v.tmod m → v.tmod m = v % m) ∧ (v.tmod m < 0 → v.tmod m + m = v % m) ∧ -m < v.tmod m ∧ v.tmod m < m := by
  have h1 := Int.emod_nonneg v (show m ≠ 0 by omega)
  have h2 := Int.emod_lt_of_pos v hm
  have h3 := Int.emod_add_mul_ediv v m
  have h4 := Int.tmod_add_mul_tdiv v m
  have h5 : v.tmod m < m := Int.tmod_lt_of_pos v hm
  have h6 : -m < v.tmod m := by
    have := Int.tmod_lt_of_pos (-v) hm
    rw [Int.neg_tmod] at this
    omega
  have h7 : v.tmod m - v % m = m * (v / m - v.tdiv m) := by rw [Int.mul_sub]; omega
  have h8 : v.tmod m - v % m < m := by omega
  have h9 : -(2 * m) < v.tmod m - v % m := by omega
  generalize v / m - v.tdiv m = q at h7
  have hq1 : q < 1 := by
    by_cases hq : q < 1
    · exact hq
    · have : m * 1 ≤ m * q := Int.mul_le_mul_of_nonneg_left (by omega) (by omega)
      omega
  have hq2 : -2 < q := by
    by_cases hq : -2 < q
    · exact hq
    · have : m * q ≤ m * (-2) := Int.mul_le_mul_of_nonneg_left (by omega) (by omega)
      omega
  have hq : q = 0 ∨ q = -1 := by omega
  refine ⟨fun h => ?_, fun h => ?_, h6, h5⟩
  · rcases hq with rfl | rfl <;> omega
  · rcases hq with rfl | rfl <;> omega
set_option maxRecDepth 100000 in
set_option maxHeartbeats 4000000 in
theorem crash_any {B : Nat} {h : Hp} {d : Dk} {w : World} (H : DiskAt B h d w) (hok : DkOk d) (A0 : Option Addr) (n0 c0 : Nat) (keep : List Int) (hr : Rd w w.heap.size 1 A0 n0 (izs keep)) (hnc : n0 ≤ c0) (hn0 : n0 ≤ 9223372036854775807) (hrg : ∀ x ∈ keep, -9223372036854775808 ≤ x ∧ x ≤ 9223372036854775807) (hA0 : 0 < n0 → ∀ a, A0 = some a → ¬ foot h a.block) (hA1 : 0 < n0 → ∀ a, A0 = some a → a.block < w.heap.size)
    (hta : ∀ t ∈ d.turns, t.a.length ≤ 9223372036854775807 ∧ t.b.length ≤ 9223372036854775807) :
    Calls Try.prog 31 #[.pointer (some ⟨h.g, 0, none⟩), .slice A0 n0 c0] w fun e w' => ∃ h', e = .returned (.tuple #[]) ∧ DiskAt B h' (crashD d keep) w' ∧ DkTo h w h' w' := by
  have hu0 : Up w (w.alloc (.cells #[.slice A0 n0 c0] 35)) := (Up.refl w).alloc _
  have H0 := H.up hu0
  have K0 : KeepAt w.heap.size keep A0 n0 c0 (w.alloc (.cells #[.slice A0 n0 c0] 35)) := ⟨heap_alloc_new w _, hr.up hu0, hnc, fun h0 a ha => by have := hA1 h0 a ha; omega⟩
  have hsz0 : (w.alloc (.cells #[.slice A0 n0 c0] 35)).heap.size = w.heap.size + 1 := World.size_alloc _ _
  have hfl : ∀ k, foot h k → k < w.heap.size := fun k hk => (H.lt hk).2
  have HFL := Lib.hid hfl
  have HRG := Lib.hid hrg
  have HA0 := Lib.hid hA0
  have HTA := Lib.hid hta
  have HSZ := Lib.hid hsz0
  clear hfl hrg hA0 hA1 hta hr hnc hsz0
  go_enter Try.func31, Try.ntmps31
  go_wp2_with fail
  refine (led_any H0 hok).mono ?_
  rintro e w1 ⟨R, rn, rc, rfl, hrow, hu1⟩
  rw [HSZ.out] at hrow
  have I1 : CrI B h d w w.heap.size (0 < n0) A0 R rn rc d.files keep A0 n0 c0 w1 := ⟨H0.up hu1, hok, rfl, K0.up hu1, hn0, HRG.out, fun h0 => h0, fun a' ha' => ⟨a', ha', rfl⟩, hrow, Rg.Keeps.of_up (hu0.trans hu1)⟩
  have hrl : rn = (ledL d).length := by have := hrow.1; rw [nvd_len] at this; omega
  have hrn : rn ≤ 1000000 := by
    have h1 := ledT_len d d.files.length
    have h2 := hok.nf
    have h3 : (ledL d).length ≤ d.files.length := h1
    omega
  have HRL := Lib.hid hrl
  clear hrl hrow hu1 hu0 H0 K0
  generalize hgkE : w.heap.size = gk at I1 ⊢
  have HGK := Lib.hid hgkE
  clear hgkE
  go_wp2_with fail
  go_loopw [16] (fun iv wr => ∃ (j : Nat) (fs : List Fi) (kp : List Int) (A : Option Addr) (n c : Nat), iv = .int .i64 (j : Int) ∧ j ≤ rn ∧ CrI B h d w gk (0 < n0) A0 R rn rc fs kp A n c wr ∧ Hid (crashF ((ledL d).drop j) fs kp = crashF (ledL d) d.files keep)) (fun iv _ => rn - (intOf iv).toNat)
  case atStart => exact ⟨0, d.files, keep, A0, n0, c0, rfl, Nat.zero_le _, I1, rfl⟩
  case round =>
    obtain ⟨j, fs, kp, A, n, c, rfl, hj, I, hcf⟩ := hrel
    clear I1
    by_cases hlt : j < rn
    · have hlti : (j : Int) < (rn : Int) := by omega
      have hjl : j < (ledL d).length := by have := HRL.out; omega
      obtain ⟨i, hi⟩ : ∃ i, (ledL d)[j]? = some i := ⟨_, List.getElem?_eq_getElem hjl⟩
      have hil : i < fs.length := by
        have h1 := ledT_lt (List.mem_of_getElem? hi)
        rw [I.len]; exact h1
      have hdrop : (ledL d).drop j = i :: (ledL d).drop (j + 1) := by
        rw [List.drop_eq_getElem_cons hjl]
        rw [List.getElem?_eq_getElem hjl] at hi
        injection hi with hi
        rw [hi]
      obtain ⟨gR, hgR, -, -⟩ := own_some I.row (by omega)
      subst hgR
      obtain ⟨bR, oR, eR, -, hcR⟩ := (Rd.own I.row).2 (by omega)
      injection eR with eR
      injection eR with eR1 eR2
      subst eR1; subst eR2
      have cR := hcR j (.int .i64 (i : Int)) (by rw [nvd, List.getElem?_map, hi]; rfl)
      rw [Nat.zero_add] at cR
      obtain ⟨b, f, x, hfa, hf, hx, cF, hF⟩ := file_cell I.H hil
      replace hx : fs[i]? = some x := hx
      have c1 : wr.cell? ⟨h.g, 1, none⟩ = some (.slice (some ⟨b, 0, none⟩) fs.length h.fc) := by have := blk_cell I.H.hd 1; rw [← hfa]; exact this
      have ii : (i : Int) < (fs.length : Int) := by omega
      have hfi := I.ok.fb x (List.mem_of_getElem? hx)
      have d0 : ∀ W, Up wr W → W.cell? ⟨f.g, 0, none⟩ = some (.slice f.A x.b.length f.c) := fun W hW => (hW.cell (p := ⟨f.g, 0, none⟩) (Array.getElem?_eq_some_iff.1 hF.blk).1).trans (blk_cell hF.blk 0)
      have d1 : ∀ W, Up wr W → W.cell? ⟨f.g, 1, none⟩ = some (.int .i64 (x.last : Int)) := fun W hW => (hW.cell (p := ⟨f.g, 1, none⟩) (Array.getElem?_eq_some_iff.1 hF.blk).1).trans (blk_cell hF.blk 1)
      have hS : ∀ W, Up wr W → Up wr W ∧ W.cell? ⟨f.g, 0, none⟩ = some (.slice f.A x.b.length f.c) ∧ W.cell? ⟨f.g, 1, none⟩ = some (.int .i64 (x.last : Int)) := fun W hW => ⟨hW, d0 W hW, d1 W hW⟩
      obtain ⟨N, hN⟩ : ∃ N : Nat, N = keepRest x := ⟨_, rfl⟩
      have hN1 : (x.b.length : Int) - (x.last : Int) = (N : Int) := by rw [hN]; unfold keepRest; omega
      have hNb : N ≤ 250000 := by rw [hN]; unfold keepRest; omega
      have hstep : crashF ((ledL d).drop j) fs kp = if N = 0 then crashF ((ledL d).drop (j + 1)) fs kp else crashF ((ledL d).drop (j + 1)) (fs.set i (crash1 x (kp.headD (N : Int)))) kp.tail := by
        rw [hdrop]
        have hg : fs.getD i ⟨[], 0⟩ = x := by rw [List.getD_eq_getElem?_getD, hx]; rfl
        conv => lhs; unfold crashF
        rw [hg, hN]
      have HST := Lib.hid hstep
      have HN := Lib.hid hN
      have HFF := Lib.hid hf
      have HX := Lib.hid hx
      have HNI := Lib.hid hN1
      clear hstep hN hf hx hcR hdrop hi hfa d0 d1 hN1
      go_upto_region 6 with fail
      have hN1 := HNI.out
      have hwN : IntKind.i64.wrap (N : Int) = (N : Int) := IntWalk.i64_in _ (by omega)
      clear c1 cR cF
      apply Rg.region_up _ (by kernel_rfl) (by kernel_rfl) hS
      · intro QN hQN
        iterate 11 (apply Rg.RK.ok; (· intro vs w1 hS; go_simp; with_reducible rfl); (· rfl); simp only [Act.put, List.setIfInBounds_toArray, List.set_cons_zero, List.set_cons_succ, Nat.reduceAdd])
        apply Rg.RK.fin []
        intro vs w2 hK hS9 hf
        refine hQN.out _ _ ?_
        clear hQN
        have hu2 := keeps_up hK
        have I2 := I.up hu2
        clear hK hS9 hf hS I hF hN1 hwN
        by_cases hN0 : N = 0
        · have hb0 : ((N : Int) == 0) = true := by rw [beq_iff_eq]; omega
          have hst := HST.out
          rw [if_pos hN0] at hst
          have HS2 : Hid (crashF ((ledL d).drop (j + 1)) fs kp = crashF (ledL d) d.files keep) := hst.symm.trans hcf.out
          clear hst HST hN0 hcf
          go_wp2_with fail
          go_roundw
          case rel => exact ⟨j + 1, fs, kp, A, n, c, by go_num, by omega, I2, HS2⟩
          case measure => simp [intOf]; omega
        · have hb0 : ((N : Int) == 0) = false := by rw [beq_eq_false_iff_ne]; omega
          have hst := HST.out
          rw [if_neg hN0] at hst
          have HS2 : Hid (crashF ((ledL d).drop (j + 1)) (fs.set i (crash1 x (kp.headD (N : Int)))) kp.tail = crashF (ledL d) d.files keep) := hst.symm.trans hcf.out
          clear hst HST hcf
          go_wp2_with fail
          refine (next_any I2.K I2.n1 (N : Int)).mono ?_
          rintro e w3 ⟨A3, n3, c3, rfl, K3, hn3, hs3, hK3⟩
          have I3 := I2.next HGK.out.symm HFL.out K3 hn3 hs3 hK3
          have hvr : -9223372036854775808 ≤ kp.headD (N : Int) ∧ kp.headD (N : Int) ≤ 9223372036854775807 := by
            cases kp with
            | nil => show _ ≤ (N : Int) ∧ (N : Int) ≤ _; omega
            | cons y r => exact I2.rg y (List.mem_cons_self ..)
          have hkn : Hid (crash1 x (kp.headD (N : Int)) = ⟨x.b.take (x.last + ((kp.headD (N : Int)) % ((N : Int) + 1)).toNat), x.last + ((kp.headD (N : Int)) % ((N : Int) + 1)).toNat⟩) := by
            show _ = _
            unfold crash1
            rw [← HN.out]
          clear hs3 hK3 K3 hn3 I2
          generalize kp.headD (N : Int) = v at *
          obtain ⟨tf1, tf2, tf3, tf4⟩ := tmod_fix v ((N : Int) + 1) (by omega)
          have he1 := Int.emod_nonneg v (show (N : Int) + 1 ≠ 0 by omega)
          have he2 := Int.emod_lt_of_pos v (show (0 : Int) < (N : Int) + 1 by omega)
          obtain ⟨K, hK⟩ : ∃ K : Nat, v % ((N : Int) + 1) = (K : Int) := ⟨(v % ((N : Int) + 1)).toNat, by omega⟩
          rw [hK] at tf1 tf2 he1 he2
          have hkn2 := hkn.out
          rw [hK, Int.toNat_natCast] at hkn2
          have HKN := Lib.hid hkn2
          clear hkn2 hkn hK
          have hN1z : ¬ ((N : Int) + 1 = 0) := by omega
          obtain ⟨q, hq⟩ : ∃ q : Int, q = v.tmod ((N : Int) + 1) := ⟨_, rfl⟩
          rw [← hq] at tf1 tf2 tf3 tf4
          have hq2 : v.tmod ((N : Int) + 1) = q := hq.symm
          clear hq
          have hF := I3.H.each i f x HFF.out HX.out
          have hxl := (I3.ok.fb x (List.mem_of_getElem? HX.out))
          have hKN : K ≤ N := by omega
          have hNx : N = x.b.length - x.last := by have := HN.out; unfold keepRest at this; exact this
          have hML : x.last + K ≤ x.b.length := by omega
          have hcap : x.b.length ≤ f.c := own_cap hF.own
          have HNX := Lib.hid hNx
          clear hNx
          obtain ⟨M, hM⟩ : ∃ M : Nat, M = x.last + K := ⟨_, rfl⟩
          rw [← hM] at HKN hML
          have hM1 : (x.last : Int) + (K : Int) = (M : Int) := by omega
          have hwM : IntKind.i64.wrap (M : Int) = (M : Int) := IntWalk.i64_in _ (by omega)
          have HM := Lib.hid hM
          clear hM
          have CUT := fun W => cut_to_u W f.A x.b.length f.c M (by omega)
          by_cases hq0 : q < 0
          · have hqK : q + ((N : Int) + 1) = (K : Int) := tf2 hq0
            clear tf1 tf2
            go_upto_region 11 with fail
            have hS2 : ∀ W, Rg.Keeps (fun k => k = f.g) w3.drew W → Rg.Keeps (fun k => k = f.g) w3.drew W := fun W hW => hW
            apply Rg.region_own 15 _ (fun g => g = f.g) (fun W => W.heap[f.g]? = some (.cells #[.slice f.A x.b.length f.c, .int .i64 (x.last : Int)] 93 (0, 0))) rfl (by kernel_rfl) (by kernel_rfl) (by rintro g rfl; exact (Array.getElem?_eq_some_iff.1 hF.blk).1) hF.blk (fun v1 v2 h1 hs => (hs.block f.g (Array.getElem?_eq_some_iff.1 h1).1 (.inr rfl)).trans h1) hS2
            · intro QN hQN
              iterate 4 (apply Rg.RK.ok; (· intro vs w1 hS; go_simp; with_reducible rfl); (· rfl); simp only [Act.put, List.setIfInBounds_toArray, List.set_cons_zero, List.set_cons_succ, Nat.reduceAdd])
              apply Rg.RK.okU [15]
              · intro vs w9 hS9 hf
                obtain ⟨hh, -⟩ := hf
                have d0 : w9.cell? ⟨f.g, 0, none⟩ = some (.slice f.A x.b.length f.c) := blk_cell hh 0
                clear hh hS9
                go_simp
                with_reducible rfl
              · rfl
              simp only [Act.put, List.setIfInBounds_toArray, List.set_cons_zero, List.set_cons_succ, Nat.reduceAdd]
              iterate 3 (apply Rg.RK.ok; (· intro vs w1 hS; go_simp; with_reducible rfl); (· rfl); simp only [Act.put, List.setIfInBounds_toArray, List.set_cons_zero, List.set_cons_succ, Nat.reduceAdd])
              apply Rg.RK.okU [15]
              · intro vs w9 hS9 hf
                obtain ⟨hh, -⟩ := hf
                have d1 : w9.cell? ⟨f.g, 1, none⟩ = some (.int .i64 (x.last : Int)) := blk_cell hh 1
                clear hh hS9
                go_simp
                with_reducible rfl
              · rfl
              simp only [Act.put, List.setIfInBounds_toArray, List.set_cons_zero, List.set_cons_succ, Nat.reduceAdd]
              iterate 2 (apply Rg.RK.ok; (· intro vs w1 hS; go_simp; with_reducible rfl); (· rfl); simp only [Act.put, List.setIfInBounds_toArray, List.set_cons_zero, List.set_cons_succ, Nat.reduceAdd])
              iterate 3 (apply Rg.RK.ok; (· intro vs w1 hS; go_simp; with_reducible rfl); (· rfl); simp only [Act.put, List.setIfInBounds_toArray, List.set_cons_zero, List.set_cons_succ, Nat.reduceAdd])
              apply Rg.RK.opD (fun vs W => W.heap[f.g]? = some (.cells #[.slice f.A M f.c, .int .i64 (x.last : Int)] 93 (0, 0))) (fun _ g => g = f.g) [15] [15] [] (fun vs vs' h => ⟨rfl, rfl⟩)
              · exact fun vs v1 v2 h1 hs => (hs.block f.g (Array.getElem?_eq_some_iff.1 h1).1 (.inr rfl)).trans h1
              · rfl
              · intro vs w9 hK hS9 hf Kk hKK
                obtain ⟨hh, -⟩ := hf
                have hh2 : w9.heap[f.g]? = some (.cells #[.slice f.A x.b.length f.c, .int .i64 (x.last : Int)] 93 (0, 0)) := hh
                have t0 : w9.cell? ⟨f.g, 0, none⟩ = some (.slice f.A x.b.length f.c) := blk_cell hh2 0
                have s0 := blk_free hh2 0
                have hset := setc_heap w9 f.g 0 (.slice f.A M f.c) _ _ hh2
                have hK9 : Rg.Keeps (fun k => k = f.g) w9 (w9.setCell ⟨f.g, 0, none⟩ (.slice f.A M f.c)) := setc_keeps _ _ _ _ _ (Rg.Keeps.refl _ _)
                have HH := Lib.hid hh2
                clear hh hh2
                go_simp
                refine hKK.out undef _ hset (Keeps.weak hK9 fun y hy => ⟨15, List.mem_singleton.2 rfl, hy⟩) (fun y hy => ?_)
                have hy2 : y = f.g := hy
                subst hy2
                exact ⟨Nat.lt_of_lt_of_le (Array.getElem?_eq_some_iff.1 HH.out).1 hK9.size, .inr ⟨15, List.mem_singleton.2 rfl, rfl⟩⟩
              simp only [Act.put, List.setIfInBounds_toArray, List.set_cons_zero, List.set_cons_succ, Nat.reduceAdd]
              apply Rg.RK.fin [14]
              intro vs w5 hK hS9 hf
              obtain ⟨h14, -⟩ := hf
              refine hQN.out _ _ ?_
              clear hQN hS9
              have h14' : w5.heap[f.g]? = some (.cells #[.slice f.A M f.c, .int .i64 (x.last : Int)] 93 (0, 0)) := h14
              have d0 : w5.cell? ⟨f.g, 0, none⟩ = some (.slice f.A M f.c) := blk_cell h14' 0
              have d1 : w5.cell? ⟨f.g, 1, none⟩ = some (.int .i64 (x.last : Int)) := blk_cell h14' 1
              have z1 := blk_free h14' 1
              have hset := setc_heap w5 f.g 1 (.int .i64 (M : Int)) _ _ h14'
              have hKK : Rg.Keeps (fun k => k = f.g) w3 (w5.setCell ⟨f.g, 1, none⟩ (.int .i64 (M : Int))) := setc_keeps _ _ _ _ _ ⟨hK.os, hK.tape, hK.output, hK.size, hK.block⟩
              have hcl : (crash1 x v).b.length = M := by rw [HKN.out]; simp only [List.length_take]; omega
              have hcm : (crash1 x v).last = M := by rw [HKN.out]
              have I5 := I3.file HGK.out.symm HFL.out HA0.out (v := v) HFF.out HX.out (by rw [hset, hcl, hcm]; rfl) hKK
              have HI5 := Lib.hid I5
              clear hset hKK hcl hcm I5 hK h14 h14' hF I3 hS2 CUT
              go_wp2_with fail
              go_roundw
              case rel => exact ⟨j + 1, fs.set i (crash1 x v), kp.tail, A3, n3, c3, by go_num, by omega, HI5.out, HS2⟩
              case measure => simp [intOf]; omega
            · kernel_rfl
          · have hqK : q = (K : Int) := tf1 (by omega)
            clear tf1 tf2
            subst hqK
            go_upto_region 11 with fail
            have hS2 : ∀ W, Rg.Keeps (fun k => k = f.g) w3.drew W → Rg.Keeps (fun k => k = f.g) w3.drew W := fun W hW => hW
            apply Rg.region_own 15 _ (fun g => g = f.g) (fun W => W.heap[f.g]? = some (.cells #[.slice f.A x.b.length f.c, .int .i64 (x.last : Int)] 93 (0, 0))) rfl (by kernel_rfl) (by kernel_rfl) (by rintro g rfl; exact (Array.getElem?_eq_some_iff.1 hF.blk).1) hF.blk (fun v1 v2 h1 hs => (hs.block f.g (Array.getElem?_eq_some_iff.1 h1).1 (.inr rfl)).trans h1) hS2
            · intro QN hQN
              iterate 4 (apply Rg.RK.ok; (· intro vs w1 hS; go_simp; with_reducible rfl); (· rfl); simp only [Act.put, List.setIfInBounds_toArray, List.set_cons_zero, List.set_cons_succ, Nat.reduceAdd])
              apply Rg.RK.okU [15]
              · intro vs w9 hS9 hf
                obtain ⟨hh, -⟩ := hf
                have d0 : w9.cell? ⟨f.g, 0, none⟩ = some (.slice f.A x.b.length f.c) := blk_cell hh 0
                clear hh hS9
                go_simp
                with_reducible rfl
              · rfl
              simp only [Act.put, List.setIfInBounds_toArray, List.set_cons_zero, List.set_cons_succ, Nat.reduceAdd]
              iterate 3 (apply Rg.RK.ok; (· intro vs w1 hS; go_simp; with_reducible rfl); (· rfl); simp only [Act.put, List.setIfInBounds_toArray, List.set_cons_zero, List.set_cons_succ, Nat.reduceAdd])
              apply Rg.RK.okU [15]
              · intro vs w9 hS9 hf
                obtain ⟨hh, -⟩ := hf
                have d1 : w9.cell? ⟨f.g, 1, none⟩ = some (.int .i64 (x.last : Int)) := blk_cell hh 1
                clear hh hS9
                go_simp
                with_reducible rfl
              · rfl
              simp only [Act.put, List.setIfInBounds_toArray, List.set_cons_zero, List.set_cons_succ, Nat.reduceAdd]
              iterate 2 (apply Rg.RK.ok; (· intro vs w1 hS; go_simp; with_reducible rfl); (· rfl); simp only [Act.put, List.setIfInBounds_toArray, List.set_cons_zero, List.set_cons_succ, Nat.reduceAdd])
              iterate 3 (apply Rg.RK.ok; (· intro vs w1 hS; go_simp; with_reducible rfl); (· rfl); simp only [Act.put, List.setIfInBounds_toArray, List.set_cons_zero, List.set_cons_succ, Nat.reduceAdd])
              apply Rg.RK.opD (fun vs W => W.heap[f.g]? = some (.cells #[.slice f.A M f.c, .int .i64 (x.last : Int)] 93 (0, 0))) (fun _ g => g = f.g) [15] [15] [] (fun vs vs' h => ⟨rfl, rfl⟩)
              · exact fun vs v1 v2 h1 hs => (hs.block f.g (Array.getElem?_eq_some_iff.1 h1).1 (.inr rfl)).trans h1
              · rfl
              · intro vs w9 hK hS9 hf Kk hKK
                obtain ⟨hh, -⟩ := hf
                have hh2 : w9.heap[f.g]? = some (.cells #[.slice f.A x.b.length f.c, .int .i64 (x.last : Int)] 93 (0, 0)) := hh
                have t0 : w9.cell? ⟨f.g, 0, none⟩ = some (.slice f.A x.b.length f.c) := blk_cell hh2 0
                have s0 := blk_free hh2 0
                have hset := setc_heap w9 f.g 0 (.slice f.A M f.c) _ _ hh2
                have hK9 : Rg.Keeps (fun k => k = f.g) w9 (w9.setCell ⟨f.g, 0, none⟩ (.slice f.A M f.c)) := setc_keeps _ _ _ _ _ (Rg.Keeps.refl _ _)
                have HH := Lib.hid hh2
                clear hh hh2
                go_simp
                refine hKK.out undef _ hset (Keeps.weak hK9 fun y hy => ⟨15, List.mem_singleton.2 rfl, hy⟩) (fun y hy => ?_)
                have hy2 : y = f.g := hy
                subst hy2
                exact ⟨Nat.lt_of_lt_of_le (Array.getElem?_eq_some_iff.1 HH.out).1 hK9.size, .inr ⟨15, List.mem_singleton.2 rfl, rfl⟩⟩
              simp only [Act.put, List.setIfInBounds_toArray, List.set_cons_zero, List.set_cons_succ, Nat.reduceAdd]
              apply Rg.RK.fin [14]
              intro vs w5 hK hS9 hf
              obtain ⟨h14, -⟩ := hf
              refine hQN.out _ _ ?_
              clear hQN hS9
              have h14' : w5.heap[f.g]? = some (.cells #[.slice f.A M f.c, .int .i64 (x.last : Int)] 93 (0, 0)) := h14
              have d0 : w5.cell? ⟨f.g, 0, none⟩ = some (.slice f.A M f.c) := blk_cell h14' 0
              have d1 : w5.cell? ⟨f.g, 1, none⟩ = some (.int .i64 (x.last : Int)) := blk_cell h14' 1
              have z1 := blk_free h14' 1
              have hset := setc_heap w5 f.g 1 (.int .i64 (M : Int)) _ _ h14'
              have hKK : Rg.Keeps (fun k => k = f.g) w3 (w5.setCell ⟨f.g, 1, none⟩ (.int .i64 (M : Int))) := setc_keeps _ _ _ _ _ ⟨hK.os, hK.tape, hK.output, hK.size, hK.block⟩
              have hcl : (crash1 x v).b.length = M := by rw [HKN.out]; simp only [List.length_take]; omega
              have hcm : (crash1 x v).last = M := by rw [HKN.out]
              have I5 := I3.file HGK.out.symm HFL.out HA0.out (v := v) HFF.out HX.out (by rw [hset, hcl, hcm]; rfl) hKK
              have HI5 := Lib.hid I5
              clear hset hKK hcl hcm I5 hK h14 h14' hF I3 hS2 CUT
              go_wp2_with fail
              go_roundw
              case rel => exact ⟨j + 1, fs.set i (crash1 x v), kp.tail, A3, n3, c3, by go_num, by omega, HI5.out, HS2⟩
              case measure => simp [intOf]; omega
            · kernel_rfl
      · kernel_rfl
    · have hlti : ¬ (j : Int) < (rn : Int) := by omega
      have hdone : crashF (ledL d) d.files keep = (fs, kp) := by
        have h9 := hcf.out
        rw [List.drop_of_length_le (by have := HRL.out; omega)] at h9
        rw [← h9]
        rfl
      have HDONE := Lib.hid hdone
      clear hdone hcf
      obtain ⟨tn, htn⟩ : ∃ tn, tn = d.turns.length := ⟨_, rfl⟩
      obtain ⟨TA, hTA⟩ : ∃ TA, TA = h.ta := ⟨_, rfl⟩
      have c4 : wr.cell? ⟨h.g, 4, none⟩ = some (.slice TA tn h.tc) := by rw [htn, hTA]; exact blk_cell I.H.hd 4
      have htn1 : tn ≤ 1000000 := by rw [htn]; exact hok.nt
      have T1 : CrT B h d w gk (0 < n0) A0 fs 0 d.lasted kp A n c wr := ⟨I.H, hok.la, Nat.le_refl _, I.K, I.n1, I.pn, I.sub, I.kp⟩
      have HFLEN := Lib.hid I.len
      have HOK2 := Lib.hid I.ok
      have HTN := Lib.hid htn
      have HTAA := Lib.hid hTA
      clear htn hTA I
      go_wp2_with fail
      clear c4
      go_loopw [79] (fun iv wr => ∃ (j : Nat) (D : Mp) (kq : List Int) (A : Option Addr) (n c : Nat), iv = .int .i64 (j : Int) ∧ j ≤ tn ∧ CrT B h d w gk (0 < n0) A0 fs j D kq A n c wr ∧ Hid (crashT (d.turns.drop j) D kq = crashT d.turns d.lasted kp)) (fun iv _ => tn - (intOf iv).toNat)
      case atStart => exact ⟨0, d.lasted, kp, A, n, c, rfl, Nat.zero_le _, T1, rfl⟩
      case round =>
        obtain ⟨j2, D, kq, A, n, c, rfl, hj2, I, hct⟩ := hrel
        clear T1
        have hwsz : w.heap.size ≤ wr.heap.size := I.kp.size
        by_cases hlt2 : j2 < tn
        · have hlti2 : (j2 : Int) < (tn : Int) := by omega
          have hjl : j2 < d.turns.length := by have := HTN.out; omega
          have hrt : Rd wr wr.heap.size 4 h.ta d.turns.length (tcs d.turns) := Rd.own I.H.turns
          rw [← HTAA.out, ← HTN.out] at hrt
          obtain ⟨b, o, t, rfl, hb, ht, q0, q1, q2, q3⟩ := hrt.turn_at hlt2 HTN.out
          have hdrop : d.turns.drop j2 = t :: d.turns.drop (j2 + 1) := by
            rw [List.drop_eq_getElem_cons hjl]
            rw [List.getElem?_eq_getElem hjl] at ht
            injection ht with ht
            rw [ht]
          have hstep : crashT (d.turns.drop j2) D kq = crashT (d.turns.drop (j2 + 1)) (if evI (kq.headD 0) = true then doM t D else D) kq.tail := by
            rw [hdrop]
            rfl
          have HST := Lib.hid hstep
          have HTM := Lib.hid (List.mem_of_getElem? ht)
          clear hstep hdrop ht hrt
          go_upto_region 17 with fail
          clear q0 q1 q2 q3
          have hua : Up wr (wr.alloc (.cells #[.int .i64 (t.kind : Int), .int .i64 (t.file : Int), .string (tx t.a), .string (tx t.b)] 91)) := (Up.refl wr).alloc _
          have hbt := heap_alloc_new wr (.cells #[.int .i64 (t.kind : Int), .int .i64 (t.file : Int), .string (tx t.a), .string (tx t.b)] 91)
          have Ia := I.up hua
          have hgt : gk < wr.heap.size := (Array.getElem?_eq_some_iff.1 I.K.blk).1
          clear I hua
          generalize wr.alloc (.cells #[.int .i64 (t.kind : Int), .int .i64 (t.file : Int), .string (tx t.a), .string (tx t.b)] 91) = wa at *
          generalize wr.heap.size = gt at *
          go_wp2_with fail
          refine (next_any Ia.K Ia.n1 0).mono ?_
          rintro e w3 ⟨A3, n3, c3, rfl, K3, hn3, hs3, hK3⟩
          have I3 := Ia.next HGK.out.symm HFL.out K3 hn3 hs3 hK3
          have hb3 := (hK3.block gt (Array.getElem?_eq_some_iff.1 hbt).1 (by omega)).trans hbt
          have HTF : t.kind = 1 → t.file < d.files.length := fun h1 => (hok.tn t HTM.out).elim id (fun h2 => absurd h1 h2)
          have htl := HTA.out t HTM.out
          have hsl := hok.sl
          have hszD := I3.sz
          have hnf := hok.nf
          have HTFF := Lib.hid HTF
          clear hbt hs3 hK3 K3 hn3 Ia HTF
          generalize kq.headD 0 = vv at *
          have hst := HST.out
          cases hev : evI vv with
          | true =>
            have hb1 : (bits .and .i64 vv 1 == 0) = true := hev
            rw [hev, if_pos rfl] at hst
            have HS2 : Hid (crashT (d.turns.drop (j2 + 1)) (doM t D) kq.tail = crashT d.turns d.lasted kp) := hst.symm.trans hct.out
            clear hst HST hct hev
            go_upto_region 18 with fail
            clear hb1
            have q0 := blk_cell hb3 0
            have q1 := blk_cell hb3 1
            have q2 := blk_cell hb3 2
            have q3 := blk_cell hb3 3
            have cl : w3.cell? ⟨h.g, 3, none⟩ = some (.map (some h.lb)) := blk_cell I3.H.hd 3
            have I4 := I3.up (Up.drew (Up.refl w3))
            go_still_tail 5, (by kernel_rfl)
            change wpList _ _ _ _ _ w3.drew
            generalize w3.drew = w4 at *
            clear q0 q1 q2 q3 cl I3 hb3
            go_wp2_with fail
            refine (do_any t h.lb (Maps.size D) d.files.length D w4 I4.H.lasted (by omega) I4.M hnf (fun h1 => by have := HTFF.out h1; omega) htl.1 htl.2).mono ?_
            rintro e w5 ⟨rfl, ⟨n', hm⟩, hK5⟩
            have I5 := I4.las HGK.out.symm HFL.out HA0.out t HTFF.out hm hK5
            clear I4 hm hK5
            go_wp2_with fail
            go_roundw
            case rel => exact ⟨j2 + 1, doM t D, kq.tail, A3, n3, c3, by go_num, by omega, I5, HS2⟩
            case measure => simp [intOf]; omega
          | false =>
            have hb1 : (bits .and .i64 vv 1 == 0) = false := hev
            rw [hev, if_neg (by decide)] at hst
            have HS2 : Hid (crashT (d.turns.drop (j2 + 1)) D kq.tail = crashT d.turns d.lasted kp) := hst.symm.trans hct.out
            clear hst HST hct hev hb3
            go_wp2_with fail
            go_roundw
            case rel => exact ⟨j2 + 1, D, kq.tail, A3, n3, c3, by go_num, by omega, I3.more, HS2⟩
            case measure => simp [intOf]; omega
        · have hlti2 : ¬ (j2 : Int) < (tn : Int) := by omega
          have hdone2 : (crashT d.turns d.lasted kp).1 = D := by
            have h9 := hct.out
            rw [List.drop_of_length_le (by have := HTN.out; omega)] at h9
            rw [← h9]
            rfl
          have HD2 := Lib.hid hdone2
          clear hdone2 hct
          have hd0 : wr.heap[h.g]? = some (.cells (dcs { d with files := fs, lasted := D } h) 86 (0, 0)) := I.H.hd
          have cl : wr.cell? ⟨h.g, 3, none⟩ = some (.map (some h.lb)) := blk_cell hd0 3
          have c2 : wr.cell? ⟨h.g, 2, none⟩ = some (.map (some h.nb)) := blk_cell hd0 2
          have z2 := blk_free hd0 2
          have hdA := setc_heap wr h.g 2 (.map (some h.lb)) _ _ hd0
          have y2 : (wr.setCell ⟨h.g, 2, none⟩ (.map (some h.lb))).cell? ⟨h.g, 2, none⟩ = some (.map (some h.lb)) := by rw [blk_cell hdA 2]; simp [dcs]
          have hKA : Rg.Keeps (fun k => k = h.g) wr (wr.setCell ⟨h.g, 2, none⟩ (.map (some h.lb))) := setc_keeps _ _ _ _ _ (Rg.Keeps.refl _ _)
          have hmA := map_keepsX I.H.lasted hKA (fun e9 => by
            have h1 := kd_map I.H.lasted
            rw [e9, kd_cells I.H.hd] at h1
            cases h1)
          go_wp2_with fail
          refine (mclone_any h.lb _ D _ hmA).mono ?_
          rintro e w5 ⟨rfl, hm5, hu5⟩
          have hszA : (wr.setCell ⟨h.g, 2, none⟩ (.map (some h.lb))).heap.size = wr.heap.size := by simp [World.setCell]
          rw [hszA] at hm5 ⊢
          have hd5 := (hu5.block _ (Array.getElem?_eq_some_iff.1 hdA).1).trans hdA
          have e2 := blk_cell hd5 2
          have e3 : w5.cell? ⟨h.g, 3, none⟩ = some (.map (some h.lb)) := blk_cell hd5 3
          have s3 := blk_free hd5 3
          have e4 : w5.cell? ⟨h.g, 4, none⟩ = some (.slice h.ta d.turns.length h.tc) := blk_cell hd5 4
          have s4 := blk_free hd5 4
          have e6 : w5.cell? ⟨h.g, 6, none⟩ = some (.bool d.dead) := blk_cell hd5 6
          have s6 := blk_free hd5 6
          have e7 : w5.cell? ⟨h.g, 7, none⟩ = some (.int .i64 (d.stop : Int)) := blk_cell hd5 7
          have s7 := blk_free hd5 7
          have e8 : w5.cell? ⟨h.g, 8, none⟩ = some (.int .i64 (d.fail : Int)) := blk_cell hd5 8
          have s8 := blk_free hd5 8
          have hset := setc_heap _ h.g 8 (.int .i64 0) _ _ (setc_heap _ h.g 7 (.int .i64 0) _ _ (setc_heap _ h.g 6 (.bool false) _ _ (setc_heap _ h.g 4 (.slice none 0 0) _ _ (setc_heap w5 h.g 3 (.map (some wr.heap.size)) _ _ hd5))))
          have hK5 : Rg.Keeps (fun k => k = h.g) w5 (((((w5.setCell ⟨h.g, 3, none⟩ (.map (some wr.heap.size))).setCell ⟨h.g, 4, none⟩ (.slice none 0 0)).setCell ⟨h.g, 6, none⟩ (.bool false)).setCell ⟨h.g, 7, none⟩ (.int .i64 0)).setCell ⟨h.g, 8, none⟩ (.int .i64 0)) := setc_keeps _ _ _ _ _ (setc_keeps _ _ _ _ _ (setc_keeps _ _ _ _ _ (setc_keeps _ _ _ _ _ (setc_keeps _ _ _ _ _ (Rg.Keeps.refl _ _)))))
          have hgl := (I.H.lt (k := h.g) (.inl rfl)).2
          have hKr : Rg.Keeps (fun k => k = h.g) wr (((((w5.setCell ⟨h.g, 3, none⟩ (.map (some wr.heap.size))).setCell ⟨h.g, 4, none⟩ (.slice none 0 0)).setCell ⟨h.g, 6, none⟩ (.bool false)).setCell ⟨h.g, 7, none⟩ (.int .i64 0)).setCell ⟨h.g, 8, none⟩ (.int .i64 0)) := Keeps.trans2 hKA (Keeps.trans2 (Rg.Keeps.of_up hu5) hK5)
          have hmZ := map_keepsX hm5 hK5 (fun e9 => by omega)
          obtain ⟨HZ, DZ⟩ := I.H.crashEnd (crashD d keep) (lb' := wr.heap.size) (by
            rw [hset]
            simp [dcs, crashD, HDONE.out, HFLEN.out]) hKr (by show (crashF _ _ _).1 = fs; rw [HDONE.out]) (by show (crashT _ _ (crashF _ _ _).2).1 = D; rw [HDONE.out]; exact HD2.out) (by show (crashT _ _ (crashF _ _ _).2).1 = D; rw [HDONE.out]; exact HD2.out) rfl hmZ (Nat.le_refl _)
          have DZ2 : DkTo h w { h with nb := h.lb, lb := wr.heap.size, ta := none, tc := 0 } _ := ⟨rfl, Keeps.trans2 I.kp DZ.kept, fun k hk => (DZ.foot k hk).imp id (fun h9 => Nat.le_trans I.kp.size h9)⟩
          have HZZ := Lib.hid HZ
          have DZZ := Lib.hid DZ2
          clear hset hK5 hKr hmZ HZ DZ DZ2 hu5 hm5 hKA hmA hdA hd5 y2 z2 c2 cl hd0 hszA e2
          go_wp2_with fail
          exact bodyPost_end (results_none rfl _ _ _) rfl ⟨_, rfl, HZZ.out, DZZ.out⟩
end Go.Proofs.Ytnjmekjaingniaa

/-
  LogPlays: what stands of the disk and the Log, call by call.
-/
namespace Go.Proofs.Ytnjmekjaingniaa
open Go.RowKit Go.Maps
set_option linter.unusedVariables false
set_option linter.unusedSimpArgs false

def itY : It := ⟨9, 1, 0, 9, 0⟩
theorem itY_c : itcs [itY] = [.int .i64 9, .int .i64 1, .int .u64 0, .int .u64 9, .int .i64 0] := by simp [itcs, itc, itY]
theorem itY_E : batE [itY] = 0 := by
  have h1 : bytesE [itY] = 0 := by decide +kernel
  have h2 : (itemsB [itY]).length ≤ 42 := by
    have h1 := numB_ten (n := 1) (by omega)
    have h2 := itB_len itY
    unfold itemsB
    rw [List.length_append]
    simp only [List.flatMap_cons, List.flatMap_nil, List.append_nil, List.length_cons, List.length_nil, Nat.zero_add]
    omega
  unfold batE
  rw [if_neg (by simp), h1, if_neg (by simp), if_neg (by omega)]
def nm7 : List UInt8 := [108, 111, 103, 46, 55]
def d7 (b : List UInt8) (last c fl : Nat) : Dk := dkF 1048576 nm7 b last c (nmF nm7) [] fl
theorem d7_ok {b : List UInt8} {last c fl : Nat} (h : b.length ≤ 250000) (h2 : last ≤ b.length) (hfl : fl ≤ 9223372036854775807) : DkOk (d7 b last c fl) := dkF_ok h h2 (.inr rfl) (.inl rfl) hfl (by omega)
theorem d7_put {b : List UInt8} {last c fl sz ct : Nat} {l : List It} (hb : b.length + (batB l).length ≤ 250000) (hfl : fl ≤ 1) : putS (d7 b last c fl) nm7 sz ct l =
    if batE l ≠ 0 then (batE l, d7 b last c fl, sz, ct) else if fl = 1 then (15, d7 b last (c + 1) 0, sz, ct) else (0, d7 (b ++ batB l) last (c + 1) 0, sz + (batB l).length, ct + 1) := by
  unfold putS
  by_cases he : batE l ≠ 0
  · rw [if_pos he, if_pos he]
  · rw [if_neg he, if_neg he]
    by_cases h1 : fl = 1
    · subst h1
      have h9 : appendD (d7 b last c 1) nm7 (batB l) = (d7 b last (c + 1) 0, 15) := dkF_fail (batB l) (by decide)
      rw [h9, if_pos rfl, if_pos (by simp)]
    · have h0 : fl = 0 := by omega
      subst h0
      have h9 : appendD (d7 b last c 0) nm7 (batB l) = (d7 (b ++ batB l) last (c + 1) 0, 0) := dkF_append (batB l) (by decide) hb (by omega)
      rw [h9, if_neg h1, if_neg (by simp)]
/-- of which type the disk's blocks are -/
theorem foot_kd {B : Nat} {h : Hp} {d : Dk} {w : World} (H : DiskAt B h d w) {k : Nat} (hk : foot h k) : kd w k ≠ some (some 22) := by
  rcases hk with rfl | rfl | rfl | hk | hk | ⟨f, hf, hk⟩
  · rw [kd_cells H.hd]; decide
  · rw [kd_map H.names]; decide
  · rw [kd_map H.lasted]; decide
  · rw [kd_row H.files hk]; decide
  · rw [kd_row H.turns hk]; decide
  · obtain ⟨i, hi, rfl⟩ := List.getElem_of_mem hf
    have hi2 : i < d.files.length := by rw [← H.flen]; exact hi
    have hF := H.each i h.fl[i] d.files[i] (List.getElem?_eq_getElem hi) (List.getElem?_eq_getElem hi2)
    rcases hk with rfl | hk
    · rw [kd_cells hF.blk]; decide
    · rw [kd_row hF.own hk]; decide
/-- what stands behind some rounds -/
structure PI (w0 : World) (gl G : Nat) (rs ds : List Rw) (sy c fl : Nat) (h : Hp) (W : World) : Prop where
  up : Up w0 W
  H : DiskAt w0.heap.size h (d7 (logB (rwl ds)) (endL (rwl ds) sy) c fl) W
  L : LogAt gl h.g nm7 (logB (rwl ds)).length ds.length false W
  nf : ¬ foot h gl
  gB : w0.heap.size ≤ gl
  hg : h.g = G
  sub : ∀ r ∈ ds, r ∈ rs
  ld : ds.length ≤ 15
  sy : sy ≤ ds.length
  b0 : ∀ r ∈ ds, batE r.l = 0
  c9 : c ≤ 1000000000
  few : ∀ r ∈ rs, r.l.length ≤ 150
theorem PI.len {w0 : World} {gl G : Nat} {rs ds : List Rw} {sy c fl : Nat} {h : Hp} {W : World} (I : PI w0 gl G rs ds sy c fl h W) : (logB (rwl ds)).length ≤ 72450 := by
  have h1 := logB_few (rwl ds) (fun q hq => by
    obtain ⟨r, hr, rfl⟩ := List.mem_map.1 hq
    exact I.few r (I.sub r hr))
  rw [rwl_len] at h1
  have := I.ld
  omega
theorem PI.ok {w0 : World} {gl G : Nat} {rs ds : List Rw} {sy c fl : Nat} {h : Hp} {W : World} (I : PI w0 gl G rs ds sy c fl h W) (hfl : fl ≤ 1) : DkOk (d7 (logB (rwl ds)) (endL (rwl ds) sy) c fl) :=
  d7_ok (by have := I.len; omega) (endL_le _ _) (by omega)
theorem PI.toUp {w0 : World} {gl G : Nat} {rs ds : List Rw} {sy c fl : Nat} {h : Hp} {W W' : World} (I : PI w0 gl G rs ds sy c fl h W) (hu : Up W W') : PI w0 gl G rs ds sy c fl h W' :=
  ⟨I.up.trans hu, I.H.up hu, I.L.up hu, I.nf, I.gB, I.hg, I.sub, I.ld, I.sy, I.b0, I.c9, I.few⟩
/-- a row of rows beside it -/
theorem PI.row {w0 : World} {gl G : Nat} {rs ds : List Rw} {sy c fl : Nat} {h : Hp} {W W' : World} (I : PI w0 gl G rs ds sy c fl h W) {base n cc : Nat} {A : Option Addr} {ss : List Rw} (hD : OwnRI W base A n cc ss) (hK : Rg.Keeps (fun k => foot h k ∨ k = gl) W W') : OwnRI W' base A n cc ss :=
  own_keepsX hD hK (fun k hk hf => by
    have h1 := kd_row hD hk
    rcases hf with hf | hf
    · exact foot_kd I.H hf h1
    · subst hf
      rw [kd_cells (show W.heap[k]? = _ from I.L)] at h1
      exact absurd h1 (by decide))
/-- behind a write into the caller's row -/
theorem PI.grown {w0 : World} {gl G : Nat} {rs ds : List Rw} {sy c fl : Nat} {h : Hp} {W W' : World} (I : PI w0 gl G rs ds sy c fl h W) {base n cc : Nat} {A : Option Addr} {ss : List Rw} (hD : OwnRI W base A n cc ss) (hb : w0.heap.size ≤ base) (hg : W.grownBy W' (Value.slice A n cc).ownBlock) : PI w0 gl G rs ds sy c fl h W' := by
  have hK := keepsRow hD hg
  have hnf : ∀ k, inA A k → ¬ foot h k := fun k hk hf => foot_kd I.H hf (kd_row hD hk)
  have hng : ¬ inA A gl := fun hk => by
    have h1 := kd_row hD hk
    rw [kd_cells (show W.heap[gl]? = _ from I.L)] at h1
    exact absurd h1 (by decide)
  exact ⟨I.up.grown hg (fun k e => by have := (World.ownsRow.lt hD k e).1; omega), I.H.keepsX hK (fun k hk hx => hnf k hx hk), I.L.keeps hK hng, I.nf, I.gB, I.hg, I.sub, I.ld, I.sy, I.b0, I.c9, I.few⟩
theorem pi_fail {w0 : World} {gl G : Nat} {rs ds : List Rw} {sy c fl : Nat} {h : Hp} {W : World} (I : PI w0 gl G rs ds sy c fl h W) (x : Nat) :
    Calls Try.prog 26 #[.pointer (some ⟨G, 0, none⟩), .int .i64 (x : Int)] W fun e W' => e = .returned (.tuple #[]) ∧ PI w0 gl G rs ds sy c x h W' ∧ LgTo gl h W h W' := by
  have h1 := fail_any I.H (x : Int)
  rw [I.hg] at h1
  refine h1.mono ?_
  rintro e W' ⟨rfl, H', D⟩
  refine ⟨rfl, ⟨D.below I.H (Nat.le_refl _) I.up, by simpa [d7, dkF] using H', I.L.keeps D.kept I.nf, I.nf, I.gB, I.hg, I.sub, I.ld, I.sy, I.b0, I.c9, I.few⟩, LgTo.dk D⟩
/-- what a Put comes to -/
def PutR (w0 : World) (gl G : Nat) (rs ds : List Rw) (sy c fl : Nat) (h : Hp) (W : World) (r : Rw) (e : Ending) (W' : World) : Prop :=
  ∃ h', LgTo gl h W h' W' ∧ ((batE r.l ≠ 0 ∧ e = .returned (.int .i64 (batE r.l : Int)) ∧ PI w0 gl G rs ds sy c fl h' W') ∨ (batE r.l = 0 ∧ fl = 1 ∧ e = .returned (.int .i64 15) ∧ PI w0 gl G rs ds sy (c + 1) 0 h' W') ∨
    (batE r.l = 0 ∧ fl = 0 ∧ e = .returned (.int .i64 0) ∧ PI w0 gl G rs (ds ++ [r]) sy (c + 1) 0 h' W'))
theorem pi_put {w0 : World} {gl G : Nat} {rs ds : List Rw} {sy c fl : Nat} {h : Hp} {W : World} (I : PI w0 gl G rs ds sy c fl h W) (hfl : fl ≤ 1) (hl : ds.length < 15) (hc : c < 1000000000) {r : Rw} (hr : r ∈ rs) (hrd : Rd W W.heap.size 5 r.A r.n (itcs r.l)) :
    Calls Try.prog 27 #[.pointer (some ⟨gl, 0, none⟩), .slice r.A r.n r.c] W (PutR w0 gl G rs ds sy c fl h W r) := by
  have hlen := I.len
  have hbb := batB_few (I.few r hr)
  have hn := hrd.ilen
  have hfr := I.few r hr
  refine (lput_any I.H I.L I.nf (I.ok hfl) I.c9 (by decide) (by omega) (by have := I.ld; omega) r.A r.n r.c r.l hrd (by omega)).mono ?_
  rintro e W' ⟨h', he, H', L', T⟩
  rw [d7_put (by omega) hfl] at he H' L'
  have hnf : ¬ foot h' gl := T.nf I.L.lt I.nf
  have hup := T.below I.H (Nat.le_refl _) I.gB I.up
  have hg' : h'.g = G := T.g.trans I.hg
  have hgg : h.g = h'.g := T.g.symm
  rw [hgg] at L'
  refine ⟨h', T, ?_⟩
  by_cases hb : batE r.l ≠ 0
  · rw [if_pos hb] at he H' L'
    exact .inl ⟨hb, he, ⟨hup, H', L', hnf, I.gB, hg', I.sub, I.ld, I.sy, I.b0, I.c9, I.few⟩⟩
  · rw [if_neg hb] at he H' L'
    by_cases h1 : fl = 1
    · rw [if_pos h1] at he H' L'
      exact .inr (.inl ⟨by omega, h1, he, ⟨hup, H', L', hnf, I.gB, hg', I.sub, I.ld, I.sy, I.b0, by omega, I.few⟩⟩)
    · rw [if_neg h1] at he H' L'
      refine .inr (.inr ⟨by omega, by omega, he, ⟨hup, ?_, ?_, hnf, I.gB, hg', fun x hx => ?_, by simp; omega, by have := I.sy; simp; omega, fun x hx => ?_, by omega, I.few⟩⟩)
      · rw [rwl_snoc, logB_append, logB_one, endL_app _ _ (by rw [rwl_len]; exact I.sy)]
        exact H'
      · rw [rwl_snoc, logB_append, logB_one, List.length_append, List.length_append]
        exact L'
      · rcases List.mem_append.1 hx with hx | hx
        · exact I.sub x hx
        · rw [List.mem_singleton] at hx; subst hx; exact hr
      · rcases List.mem_append.1 hx with hx | hx
        · exact I.b0 x hx
        · rw [List.mem_singleton] at hx; subst hx; omega
theorem pi_sync {w0 : World} {gl G : Nat} {rs ds : List Rw} {sy c : Nat} {h : Hp} {W : World} (I : PI w0 gl G rs ds sy c 0 h W) (hc : c < 1000000000) :
    Calls Try.prog 30 #[.pointer (some ⟨gl, 0, none⟩)] W fun e W' => ∃ h', e = .returned (.int .i64 0) ∧ LgTo gl h W h' W' ∧ PI w0 gl G rs ds ds.length (c + 1) 0 h' W' := by
  refine (lsync_any I.H I.L I.nf (I.ok (by omega)) I.c9 (by decide)).mono ?_
  rintro e W' ⟨h', he, H', L', T⟩
  have hsy : syncD (d7 (logB (rwl ds)) (endL (rwl ds) sy) c 0) nm7 = (d7 (logB (rwl ds)) (logB (rwl ds)).length (c + 1) 0, 0) := dkF_sync (by decide)
  rw [hsy] at he H'
  have hgg : h.g = h'.g := T.g.symm
  rw [hgg] at L'
  refine ⟨h', he, T, ⟨T.below I.H (Nat.le_refl _) I.gB I.up, ?_, L', T.nf I.L.lt I.nf, I.gB, T.g.trans I.hg, I.sub, I.ld, Nat.le_refl _, I.b0, by omega, I.few⟩⟩
  have h9 := endL_all (rwl ds)
  rw [rwl_len] at h9
  rw [h9]
  exact H'
end Go.Proofs.Ytnjmekjaingniaa
