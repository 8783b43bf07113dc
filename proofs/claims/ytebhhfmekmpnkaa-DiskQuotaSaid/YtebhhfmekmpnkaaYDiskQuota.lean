/-
  'clepsydra/clepsydralaw4.DiskQuota': for every input the law returns true; each argument reads behind the call as it read before. No condition.
-/
import Derived.Laws.BitsAllLaws
import Derived.IntWalk
import Derived.Deep.Cut
import Derived.Deep.CutRange
import Derived.Test.YtebhhfmekmpnkaaZ3
/-
  The law DiskQuota: the walk.
-/
namespace Go.Proofs.Ytebhhfmekmpnkaa.diskQuota
open Go.RowKit Go.Maps
set_option linter.unusedVariables false
set_option linter.unusedSimpArgs false
theorem dk_nf {h h' : Hp} {w w' : World} (D : DkTo h w h' w') {k : Nat} (hk : k < w.heap.size) (hn : ¬ foot h k) : ¬ foot h' k := fun hf => by
  rcases D.foot k hf with h1 | h1
  · exact hn h1
  · omega
theorem i64_rg (x : Int64) : -9223372036854775808 ≤ x.toInt ∧ x.toInt ≤ 9223372036854775807 := by
  have h1 := Int64.le_toInt x
  have h2 := Int64.toInt_lt x
  omega
theorem blt {w : World} {g : Nat} {o : Obj} (h : w.heap[g]? = some o) : g < w.heap.size := (Array.getElem?_eq_some_iff.1 h).1
def usv (u : List Nat) : Array Value := (u.map fun (x : Nat) => Value.int .i64 (x : Int)).toArray
structure Bu (h : Hp) (g : Nat) (u : List Nat) (w : World) : Prop where
  b : w.heap[g]? = some (.cells (usv u) 44 (0, 0))
  f : ¬ foot h g
theorem Bu.to {h h' : Hp} {g : Nat} {u : List Nat} {w w' : World} (b : Bu h g u w) (D : DkTo h w h' w') : Bu h' g u w' :=
  ⟨(D.kept.block _ (blt b.b) b.f).trans b.b, dk_nf D (blt b.b) b.f⟩
theorem Bu.up {h : Hp} {g : Nat} {u : List Nat} {w w' : World} (b : Bu h g u w) (x : Up w w') : Bu h g u w' := b.to (DkTo.up x)
theorem Bu.cell {h : Hp} {g : Nat} {u : List Nat} {w : World} (b : Bu h g u w) {k : Nat} (hk : k < u.length) : w.cell? ⟨g, k, none⟩ = some (.int .i64 ((u.getD k 0 : Nat) : Int)) := by
  rw [blk_cell b.b]
  simp [usv, hk, List.getD]
theorem Bu.set {h : Hp} {g : Nat} {u : List Nat} {w : World} (b : Bu h g u w) (k x : Nat) : Bu h g (u.set k x) (w.setCell ⟨g, k, none⟩ (.int .i64 (x : Int))) := by
  refine ⟨?_, b.f⟩
  rw [setc_heap _ _ _ _ _ _ b.b]
  unfold usv
  rw [List.map_set, List.setIfInBounds_toArray]
theorem dset {B : Nat} {h : Hp} {d : Dk} {w0 w : World} (H : DiskAt B h d w) (hu : Up w0 w) {g : Nat} (hg : w0.heap.size ≤ g) (hf : ¬ foot h g) (k : Nat) (v : Value) :
    DiskAt B h d (w.setCell ⟨g, k, none⟩ v) ∧ Up w0 (w.setCell ⟨g, k, none⟩ v) := by
  have hK8 : Rg.Keeps (fun k => k = g) w (w.setCell ⟨g, k, none⟩ v) := setc_keeps _ _ _ _ _ (Rg.Keeps.refl _ _)
  exact ⟨H.keepsX hK8 (fun k hk e => hf (e ▸ hk)), hK8.os.trans hu.os, hK8.tape.trans hu.tape, hK8.output.trans hu.output, Nat.le_trans hu.size hK8.size, fun k hk => (hK8.block k (Nat.lt_of_lt_of_le hk hu.size) (by omega)).trans (hu.block k hk)⟩
theorem lit_name (W : World) {k : Nat} (hk : k < 2) : (W.alloc (.cells #[Value.string { data := #[97] }, Value.string { data := #[98] }] 9)).cell? ⟨W.heap.size, k, none⟩ = some (.string (tx (nmk k))) := by
  rw [blk_cell (heap_alloc_new W _)]
  rcases lt2 hk with rfl | rfl <;> rfl
set_option maxRecDepth 100000 in
set_option maxHeartbeats 4000000 in
theorem law_any (q0 : Int) (A0 : Option Addr) (m0 c0 : Nat) (l0 : List Int64) (w : World) (x0 : -9223372036854775808 ≤ q0 ∧ q0 ≤ 9223372036854775807) (hr0 : IsZ w A0 m0 c0 l0) :
    Calls Try.prog 7 #[.int .i64 q0, .slice A0 m0 c0] w fun e w' => e = .returned (.bool true) ∧ Up w w' := by
  have hm0 : m0 ≤ 9223372036854775807 := by have := hr0.2; omega
  obtain ⟨q, hC, hq⟩ := i64_and_le q0 511 (by omega)
  replace hC : bits .and .i64 q0 511 = (q : Int) := hC
  obtain ⟨da, db, s1, s2, s3, s4, s5, s6, s7⟩ := qd_start q hq
  have HS1 := Lib.hid s1
  have HS2 := Lib.hid s2
  have HS3 := Lib.hid s3
  clear s1 s2 s3
  go_enter Try.func7, Try.ntmps7
  go_wp2_with fail
  clear hC
  refine (dnew_any (q : Int) w).mono ?_
  rintro e w1 ⟨h1, rfl, H1, hu1, hf1⟩
  go_wp2_with fail
  refine (create_any H1 (newD_ok (by omega)) (by simp [newD]) (by simp [newD]) (by simp [newD]) [97] (by decide)).mono ?_
  rintro e w2 ⟨h2, rfl, H2, D2⟩
  rw [HS1.out] at H2 ⊢
  (try dsimp only at H2)
  (try dsimp only)
  rw [show ((0 : Nat) : Int) = 0 from rfl]
  have hu2 := D2.below H1 (Nat.le_refl _) hu1
  have HG2 := Lib.hid D2.g
  generalize hG : h1.g = G at *
  have hcc := create_any H2 s4 s5 s6 s7 [98] (by decide)
  rw [HG2.out, HS2.out] at hcc
  (try dsimp only at hcc)
  rw [show ((0 : Nat) : Int) = 0 from rfl] at hcc
  have HCC := Lib.hid hcc
  clear H1 D2 hu1 hf1 hcc
  go_wp2_with fail
  refine HCC.out.mono ?_
  rintro e w3 ⟨h3, rfl, H3, D3⟩
  have hu3 := D3.below H2 (Nat.le_refl _) hu2
  have HG3 : Hid (h3.g = G) := D3.g.trans HG2.out
  clear HCC D3 H2 hu2 HG2 HS1 HS2 s4 s5 s6 s7 hG
  go_wp2_with fail
  have hua : Up w3 (w3.alloc (.cells #[.int .i64 0, .int .i64 0] 44)) := (Up.refl w3).alloc _
  have hb0 : Bu h3 w3.heap.size [0, 0] (w3.alloc (.cells #[.int .i64 0, .int .i64 0] 44)) := ⟨heap_alloc_new w3 _, fun hk => Nat.lt_irrefl _ (H3.lt hk).2⟩
  have H4 := H3.up hua
  have hu4 := hu3.trans hua
  have hgB : w.heap.size ≤ w3.heap.size := hu3.size
  generalize w3.alloc (.cells #[.int .i64 0, .int .i64 0] 44) = w4 at *
  generalize w3.heap.size = gu at *
  clear H3 hu3 hua
  go_loopw [7] (fun iv wr => ∃ (i : Nat) (h : Hp) (u : List Nat) (d : Dk), iv = .int .i64 (i : Int) ∧ i ≤ 40 ∧ i ≤ m0 ∧ Hid (h.g = G) ∧ Hid (QI q u i d) ∧ DiskAt w.heap.size h d wr ∧ Up w wr ∧ Bu h gu u wr) (fun iv _ => 40 - (intOf iv).toNat)
  case atStart => exact ⟨0, h3, [0, 0], db, rfl, by omega, by omega, HG3, HS3, H4, hu4, hb0⟩
  case round =>
    obtain ⟨i, h, u, d, rfl, hi40, him, HG, HQ, H, hup, hb⟩ := hrel
    clear H4 hu4 hb0 HG3 HS3
    obtain ⟨o1, o2, o3, o4, o5⟩ := HQ.out.ok (by omega)
    by_cases hlt : i < m0
    · by_cases h40 : i < 40
      · obtain ⟨b, o, rfl, hbB, hcell0⟩ := hr0.1.znum hlt
        obtain ⟨hx1, hx2⟩ := i64_rg (l0.getD i 0)
        generalize ((l0).getD i 0).toInt = x at *
        have j1 : (i : Int) < (m0 : Int) := by omega
        have j2 : (i : Int) < 40 := by omega
        obtain ⟨K, hK, hKm⟩ := i64_and_le x 1 (by omega)
        replace hK : bits .and .i64 x 1 = (K : Int) := hK
        obtain ⟨C2, hC2, hC2b⟩ := i64_and_le (x / 2) 63 (by omega)
        replace hC2 : bits .and .i64 (x / 2) 63 = (C2 : Int) := hC2
        obtain ⟨C3, hC3, -⟩ := i64_and_le (x / 256) 7 (by omega)
        replace hC3 : bits .and .i64 (x / 256) 7 = (C3 : Int) := hC3
        have hKi : (K : Int) < 2 := by omega
        have hKn : K < 2 := by omega
        have hcx := (hup.cell (p := ⟨b, o + i, none⟩) hbB).trans hcell0
        have hS : ∀ W, Up wr W → Up wr W ∧ W.cell? ⟨b, o + i, none⟩ = some (.int .i64 x) := fun W hW => ⟨hW, (hW.cell (p := ⟨b, o + i, none⟩) (Nat.lt_of_lt_of_le hbB hup.size)).trans hcx⟩
        go_upto_region 9 with fail
        apply Rg.region_up _ (by kernel_rfl) (by kernel_rfl) hS
        · intro QN hQN
          iterate 13 (apply Rg.RK.ok; (· intro vs w1 hS; go_simp; with_reducible rfl); (· rfl); simp only [Act.put, List.setIfInBounds_toArray, List.set_cons_zero, List.set_cons_succ, Nat.reduceAdd])
          apply Rg.RK.fin []
          intro vs w1 hK hS _
          refine hQN.out _ _ ?_
          clear hQN
          have hal := lit_name w1 hKn
          have hua : Up w1 (w1.alloc (.cells #[Value.string { data := #[97] }, Value.string { data := #[98] }] 9)) := (Up.refl w1).alloc _
          have hcx1 : (w1.alloc (.cells #[Value.string { data := #[97] }, Value.string { data := #[98] }] 9)).cell? ⟨b, o + i, none⟩ = some (.int .i64 x) := ((hS.1.trans hua).cell (p := ⟨b, o + i, none⟩) (Nat.lt_of_lt_of_le hbB hup.size)).trans hcx
          have Ha := H.up (hS.1.trans hua)
          have hba := hb.up (hS.1.trans hua)
          have hupa := hup.trans (hS.1.trans hua)
          have hwg : wr.heap.size ≤ w1.heap.size := hS.1.size
          clear hcx hup hb H hua
          rename Rg.Keeps _ _ _ => hKp
          clear hKp
          clear hS
          rename ∀ W, Up wr W → Up wr W ∧ W.cell? ⟨b, o + i, none⟩ = some (.int .i64 x) => hSS
          clear hSS
          go_upto_region 11 with fail
          clear hal
          generalize w1.alloc (.cells #[Value.string { data := #[97] }, Value.string { data := #[98] }] 9) = w5 at *
          by_cases h0 : C3 = 0
          · subst h0
            rw [show ((0 : Nat) : Int) = 0 from rfl] at hC3
            obtain ⟨d1, d2, r1, r2, r3, r4, r5, r6⟩ := HQ.out.remake hKn
            have hrm := remove_any Ha o1 o2 o4 (nmk K) (by simp [nmk])
            rw [HG.out, r1] at hrm
            (try dsimp only at hrm)
            rw [show ((0 : Nat) : Int) = 0 from rfl] at hrm
            have ok1 : DkOk d1 := by have := removeD_ok o1 (nmk K) o4 o5; rw [r1] at this; exact this
            have HRM := Lib.hid hrm
            have HR2 := Lib.hid r2
            have HQ2 := Lib.hid r6
            have c1 : d1.calls ≤ 1000000000 := by have := HQ.out.calls; omega
            have c2 : d1.files.length < 1000000 := by rw [r3]; exact o3
            have c3 : d1.turns.length < 1000000 := by have := HQ.out.turns; omega
            clear hrm r1 r2 r3 r4 r5 r6
            go_wp2_with fail
            clear hC3 hcx1 hC2 hK
            refine HRM.out.mono ?_
            rintro e w6 ⟨h6, rfl, H6, D6⟩
            have hb6 := hba.to D6
            have hup6 := D6.below Ha (Nat.le_refl _) hupa
            have hg6 : h6.g = G := D6.g.trans HG.out
            have hcc := create_any H6 ok1 c1 c2 c3 (nmk K) (by simp [nmk])
            rw [hg6, HR2.out] at hcc
            (try dsimp only at hcc)
            rw [show ((0 : Nat) : Int) = 0 from rfl] at hcc
            have HCC := Lib.hid hcc
            have HG6 := Lib.hid hg6
            clear hcc HRM D6 Ha hba hupa hg6
            go_wp2_with fail
            refine HCC.out.mono ?_
            rintro e w7 ⟨h7, rfl, H7, D7⟩
            have hb7 := hb6.to D7
            have hup7 := D7.below H6 (Nat.le_refl _) hup6
            have hg7 : h7.g = G := D7.g.trans HG6.out
            have HG7 := Lib.hid hg7
            have HU := HQ.out.used.2.1
            have ck := hb7.cell (k := K) (by rw [HU]; exact hKn)
            have zk := blk_free hb7.b K
            have HGEN := Lib.hid (dset H7 hup7 hgB hb7.f K)
            have hbs := Lib.hid (hb7.set K 0)
            clear HCC D7 H6 hb6 hup6 hg7 H7 hup7 hb7 HU
            go_wp2_with fail
            go_roundw
            case rel => exact ⟨i + 1, h7, u.set K 0, d2, by go_num, by omega, by omega, HG7, HQ2, (HGEN.out _).1, (HGEN.out _).2, hbs.out⟩
            case measure => simp [intOf]; omega
          · have h03 : ((C3 : Int) == 0) = false := by rw [beq_eq_false_iff_ne]; omega
            go_wp2_with fail
            clear hC3 hcx1 hC2 hK h03
            refine (bytes_any (i : Int) C2 _ (by omega) (by omega)).mono ?_
            rintro e w6 ⟨rfl, hu6⟩
            have hpl := bytesL_len (i : Int) C2
            generalize bytesL (i : Int) C2 = p at *
            have HPL := Lib.hid hpl
            have hpl2 : p.length ≤ 63 := by omega
            obtain ⟨d1, r1, r2⟩ := HQ.out.append hKn p (by omega)
            obtain ⟨-, hul, hus⟩ := HQ.out.used
            rw [hpl] at r1 r2
            have HU := Lib.hid hul
            clear hpl hul
            have H6 := Ha.up hu6
            have hup6 := hupa.trans hu6
            have hb6 := hba.up hu6
            obtain ⟨cb, w7, hconv, hcap, hrd7, hu7, -, hlt7⟩ := conv_b w6 p
            have H7 := H6.up hu7
            have hb7 := hb6.up hu7
            have hup7 := hup6.trans hu7
            have hca := dappend_any H7 o1 o2 (nmk K) (by simp [nmk]) (some ⟨w6.heap.size, 0, none⟩) p.length cb p hrd7 (by omega) (fun y hy hfy => by
              obtain ⟨a, ha, e⟩ := hy
              injection ha with ha
              subst ha
              have h9 := (H6.lt hfy).2
              have e' : w6.heap.size = y := e
              omega)
            rw [HG.out, r1] at hca
            (try dsimp only at hca)
            have HR2 := Lib.hid r2
            by_cases hfull : q < u.getD 0 0 + u.getD 1 0 + C2
            · have hr2 := HR2.out
              rw [if_pos hfull] at hca hr2
              rw [show ((15 : Nat) : Int) = 15 from rfl] at hca
              have HCA := Lib.hid hca
              have HQ2 := Lib.hid hr2
              clear hr2 hca hrd7 hlt7 HR2 r1 r2 Ha hba hupa H6 hup6 hb6 hu6
              go_wp2_with fail
              clear hconv
              refine HCA.out.mono ?_
              rintro e w8 ⟨h8, rfl, H8, D8⟩
              have hb8 := hb7.to D8
              have hup8 := D8.below H7 (Nat.le_refl _) hup7
              have hg8 : h8.g = G := D8.g.trans HG.out
              have HG8 := Lib.hid hg8
              have e0 := hb8.cell (k := 0) (by rw [HU.out]; omega)
              have e1 := hb8.cell (k := 1) (by rw [HU.out]; omega)
              clear HCA D8 hg8 H7 hb7 hup7 hu7 HU
              obtain ⟨a0, ha0⟩ : ∃ a0, a0 = u.getD 0 0 := ⟨_, rfl⟩
              obtain ⟨a1, ha1⟩ : ∃ a1, a1 = u.getD 1 0 := ⟨_, rfl⟩
              rw [← ha0] at e0 hfull hus
              rw [← ha1] at e1 hfull hus
              have HA0 := Lib.hid ha0
              have HA1 := Lib.hid ha1
              clear ha0 ha1
              have v1 : IntKind.i64.wrap ((a0 : Int) + (a1 : Int)) = (a0 : Int) + (a1 : Int) := IntWalk.i64_in _ (by omega)
              have v2 : IntKind.i64.wrap ((a0 : Int) + (a1 : Int) + (C2 : Int)) = (a0 : Int) + (a1 : Int) + (C2 : Int) := IntWalk.i64_in _ (by omega)
              have g1 : (q : Int) < (a0 : Int) + (a1 : Int) + (C2 : Int) := by omega
              have HUS : Hid (∀ Wx, Up w8 Wx → Calls Try.prog 24 #[.pointer (some ⟨G, 0, none⟩)] Wx fun e w' => e = .returned (.int .i64 ((a0 + a1 : Nat) : Int)) ∧ Up Wx w') := fun Wx hW => by
                have h9 := usedO_any (H8.up hW) (HQ2.out.ok (by omega)).1
                rw [HG8.out, HQ2.out.used.1, ← HA0.out, ← HA1.out] at h9
                exact h9
              have hbe : (((a0 + a1 : Nat) : Int) != (a0 : Int) + (a1 : Int)) = false := by rw [bne_eq_false_iff_eq]; omega
              have hS : ∀ Wx, Up w8 Wx → Up w8 Wx ∧ Wx.cell? ⟨gu, 0, none⟩ = some (.int .i64 (a0 : Int)) ∧ Wx.cell? ⟨gu, 1, none⟩ = some (.int .i64 (a1 : Int)) := fun Wx hW => ⟨hW, (hW.cell (p := ⟨gu, 0, none⟩) (blt hb8.b)).trans e0, (hW.cell (p := ⟨gu, 1, none⟩) (blt hb8.b)).trans e1⟩
              go_upto_region 20 with fail
              apply Rg.region_up _ (by kernel_rfl) (by kernel_rfl) hS
              · intro QN hQN
                iterate 4 (apply Rg.RK.ok; (· intro vs w1 hS; go_simp; with_reducible rfl); (· rfl); simp only [Act.put, List.setIfInBounds_toArray, List.set_cons_zero, List.set_cons_succ, Nat.reduceAdd])
                iterate 1 (apply Rg.RK.gok (t := 100); (· intro vs w1 hS; go_simp; with_reducible rfl); (· rfl); (· intro vs; rfl); simp only [Act.put, List.setIfInBounds_toArray, List.set_cons_zero, List.set_cons_succ, Nat.reduceAdd])
                apply Rg.RK.gcall (t := 100) (.int .i64 ((a0 + a1 : Nat) : Int)) []
                · rfl
                · intro vs; rfl
                · intro vs w1 hK hS _ K hKK
                  go_simp
                  refine (HUS.out _ hS.1).mono ?_
                  rintro e w2 ⟨rfl, hu2⟩
                  exact hKK.out _ hu2
                simp only [Act.put, List.setIfInBounds_toArray, List.set_cons_zero, List.set_cons_succ, Nat.reduceAdd]
                iterate 6 (apply Rg.RK.gok (t := 100); (· intro vs w1 hS; go_simp; with_reducible rfl); (· rfl); (· intro vs; rfl); simp only [Act.put, List.setIfInBounds_toArray, List.set_cons_zero, List.set_cons_succ, Nat.reduceAdd])
                iterate 1 (apply Rg.RK.ok; (· intro vs w1 hS; go_simp; with_reducible rfl); (· rfl); simp only [Act.put, List.setIfInBounds_toArray, List.set_cons_zero, List.set_cons_succ, Nat.reduceAdd])
                apply Rg.RK.fin []
                intro vs w1 hK hS _
                refine hQN.out _ _ ?_
                clear hQN
                go_wp2_with fail
                go_roundw
                case rel => exact ⟨i + 1, h8, _, d1, by go_num, by omega, by omega, HG8, HQ2, H8.up hS.1, hup8.trans hS.1, hb8.up hS.1⟩
                case measure => simp [intOf]; omega
              · kernel_rfl
            · have hr2 := HR2.out
              rw [if_neg hfull] at hca hr2
              rw [show ((0 : Nat) : Int) = 0 from rfl] at hca
              have HCA := Lib.hid hca
              have HQ2 := Lib.hid hr2
              clear hr2 hca hrd7 hlt7 HR2 r1 r2 Ha hba hupa H6 hup6 hb6 hu6
              go_wp2_with fail
              clear hconv
              refine HCA.out.mono ?_
              rintro e w8 ⟨h8, rfl, H8, D8⟩
              have hb8 := hb7.to D8
              have hup8 := D8.below H7 (Nat.le_refl _) hup7
              have hg8 : h8.g = G := D8.g.trans HG.out
              have HG8 := Lib.hid hg8
              have e0 := hb8.cell (k := 0) (by rw [HU.out]; omega)
              have e1 := hb8.cell (k := 1) (by rw [HU.out]; omega)
              have ek := hb8.cell (k := K) (by rw [HU.out]; omega)
              have zk := blk_free hb8.b K
              have hle : u.getD K 0 ≤ u.getD 0 0 + u.getD 1 0 := by rcases lt2 hKn with rfl | rfl <;> omega
              clear HCA D8 hg8 H7 hb7 hup7 hu7
              have HGEN := Lib.hid (dset H8 hup8 hgB hb8.f K)
              obtain ⟨uk, huk⟩ : ∃ uk, uk = u.getD K 0 := ⟨_, rfl⟩
              have hbs := Lib.hid (hb8.set K (uk + C2))
              obtain ⟨b0, hb0⟩ : ∃ b0, b0 = u.getD 0 0 := ⟨_, rfl⟩
              obtain ⟨b1, hb1⟩ : ∃ b1, b1 = u.getD 1 0 := ⟨_, rfl⟩
              have hlen2 : (u.set K (uk + C2)).length = 2 := by rw [List.length_set]; exact HU.out
              rw [← huk] at ek hle HQ2
              rw [← hb0] at e0 hfull hus hle
              rw [← hb1] at e1 hfull hus hle
              have HL2 := Lib.hid hlen2
              clear hb0 hb1 huk hlen2
              have v1 : IntKind.i64.wrap ((b0 : Int) + (b1 : Int)) = (b0 : Int) + (b1 : Int) := IntWalk.i64_in _ (by omega)
              have v2 : IntKind.i64.wrap ((b0 : Int) + (b1 : Int) + (C2 : Int)) = (b0 : Int) + (b1 : Int) + (C2 : Int) := IntWalk.i64_in _ (by omega)
              have v3 : IntKind.i64.wrap ((uk : Int) + (C2 : Int)) = (uk : Int) + (C2 : Int) := IntWalk.i64_in _ (by omega)
              have g1 : ¬ (q : Int) < (b0 : Int) + (b1 : Int) + (C2 : Int) := by omega
              go_upto_region 20 with fail
              obtain ⟨W9, hW9, H9, hup9, hb9⟩ : ∃ W9, W9 = w8.setCell ⟨gu, K, none⟩ (.int .i64 ((uk : Int) + (C2 : Int))) ∧ DiskAt w.heap.size h8 d1 W9 ∧ Up w W9 ∧ Bu h8 gu (u.set K (uk + C2)) W9 := ⟨_, rfl, (HGEN.out _).1, (HGEN.out _).2, hbs.out⟩
              rw [← hW9]
              clear hW9 HGEN hbs H8 hup8 hb8 e0 e1 ek zk v1 v2 v3 g1
              have e0 := hb9.cell (k := 0) (by rw [HL2.out]; omega)
              have e1 := hb9.cell (k := 1) (by rw [HL2.out]; omega)
              obtain ⟨a0, ha0⟩ : ∃ a0, a0 = (u.set K (uk + C2)).getD 0 0 := ⟨_, rfl⟩
              obtain ⟨a1, ha1⟩ : ∃ a1, a1 = (u.set K (uk + C2)).getD 1 0 := ⟨_, rfl⟩
              have hs9 : a0 + a1 ≤ q := by have := HQ2.out.used.2.2; omega
              rw [← ha0] at e0
              rw [← ha1] at e1
              have HA0 := Lib.hid ha0
              have HA1 := Lib.hid ha1
              clear ha0 ha1
              have v1 : IntKind.i64.wrap ((a0 : Int) + (a1 : Int)) = (a0 : Int) + (a1 : Int) := IntWalk.i64_in _ (by omega)
              have HUS : Hid (∀ Wx, Up W9 Wx → Calls Try.prog 24 #[.pointer (some ⟨G, 0, none⟩)] Wx fun e w' => e = .returned (.int .i64 ((a0 + a1 : Nat) : Int)) ∧ Up Wx w') := fun Wx hW => by
                have h9 := usedO_any (H9.up hW) (HQ2.out.ok (by omega)).1
                rw [HG8.out, HQ2.out.used.1, ← HA0.out, ← HA1.out] at h9
                exact h9
              have hbe : (((a0 + a1 : Nat) : Int) != (a0 : Int) + (a1 : Int)) = false := by rw [bne_eq_false_iff_eq]; omega
              have hS : ∀ Wx, Up W9 Wx → Up W9 Wx ∧ Wx.cell? ⟨gu, 0, none⟩ = some (.int .i64 (a0 : Int)) ∧ Wx.cell? ⟨gu, 1, none⟩ = some (.int .i64 (a1 : Int)) := fun Wx hW => ⟨hW, (hW.cell (p := ⟨gu, 0, none⟩) (blt hb9.b)).trans e0, (hW.cell (p := ⟨gu, 1, none⟩) (blt hb9.b)).trans e1⟩
              go_upto_region 20 with fail
              apply Rg.region_up _ (by kernel_rfl) (by kernel_rfl) hS
              · intro QN hQN
                iterate 4 (apply Rg.RK.ok; (· intro vs w1 hS; go_simp; with_reducible rfl); (· rfl); simp only [Act.put, List.setIfInBounds_toArray, List.set_cons_zero, List.set_cons_succ, Nat.reduceAdd])
                iterate 1 (apply Rg.RK.gok (t := 100); (· intro vs w1 hS; go_simp; with_reducible rfl); (· rfl); (· intro vs; rfl); simp only [Act.put, List.setIfInBounds_toArray, List.set_cons_zero, List.set_cons_succ, Nat.reduceAdd])
                apply Rg.RK.gcall (t := 100) (.int .i64 ((a0 + a1 : Nat) : Int)) []
                · rfl
                · intro vs; rfl
                · intro vs w1 hK hS _ K hKK
                  go_simp
                  refine (HUS.out _ hS.1).mono ?_
                  rintro e w2 ⟨rfl, hu2⟩
                  exact hKK.out _ hu2
                simp only [Act.put, List.setIfInBounds_toArray, List.set_cons_zero, List.set_cons_succ, Nat.reduceAdd]
                iterate 6 (apply Rg.RK.gok (t := 100); (· intro vs w1 hS; go_simp; with_reducible rfl); (· rfl); (· intro vs; rfl); simp only [Act.put, List.setIfInBounds_toArray, List.set_cons_zero, List.set_cons_succ, Nat.reduceAdd])
                iterate 1 (apply Rg.RK.ok; (· intro vs w1 hS; go_simp; with_reducible rfl); (· rfl); simp only [Act.put, List.setIfInBounds_toArray, List.set_cons_zero, List.set_cons_succ, Nat.reduceAdd])
                apply Rg.RK.fin []
                intro vs w1 hK hS _
                refine hQN.out _ _ ?_
                clear hQN
                go_wp2_with fail
                go_roundw
                case rel => exact ⟨i + 1, h8, _, d1, by go_num, by omega, by omega, HG8, HQ2, H9.up hS.1, hup9.trans hS.1, hb9.up hS.1⟩
                case measure => simp [intOf]; omega
              · kernel_rfl
        · kernel_rfl
      · have j1 : (i : Int) < (m0 : Int) := by omega
        have j2 : ¬ (i : Int) < 40 := by omega
        go_wp2_with fail
        refine (awake4_any _).mono ?_
        rintro e wc ⟨rfl, huc⟩
        go_wp2_with fail
        go_ret
        exact ⟨rfl, hup.trans huc⟩
    · have j1 : ¬ (i : Int) < (m0 : Int) := by omega
      go_wp2_with fail
      refine (awake4_any _).mono ?_
      rintro e wc ⟨rfl, huc⟩
      go_wp2_with fail
      go_ret
      exact ⟨rfl, hup.trans huc⟩
end Go.Proofs.Ytebhhfmekmpnkaa.diskQuota

/-
  'clepsydra/clepsydralaw4.DiskQuota': for every input the law returns true; each argument reads behind the call as it read before. No condition.
-/
namespace Go.Proofs.Ytebhhfmekmpnkaa.diskQuota
open Go.ChangeShapes Go.WideShapes Go.ChangeAt Go.RowKit
open Go.ChangeMaps (open_string shut_string)
set_option linter.unusedVariables false

set_option maxRecDepth 100000 in
theorem lifted (os : Os) (started : os.Started) (H : Type) (enc : TypeId × Value → H) :
    ReturnsInHanded {} Try.checked os 7 .any (Rows.diskQuotaSpec.pre6 enc Try.prog Try.f7 Rows.diskQuotaRow.domain false) (Rows.diskQuotaSpec.post enc Try.prog Try.f7 false true false false) := by
  refine returnsInHanded_of_change (C := Try.checked) prog_own started (by kernel_rfl) Try.func7
    (ChangeSpec.witness6 (enc := enc) (C := Try.checked) false ⟨#[], #[.int .i64 0, .slice none 0 0], []⟩ 8 (by kernel_rfl) (by kernel_rfl) (by kernel_rfl) (by kernel_rfl)) ?_
  intro W base args ds gs before hval0 hW hcnd _
  have hval : ∀ (j : Nat) t v, Try.f7.params[j]? = some t → args[j]? = some v → Value.okWide Try.prog W .any base t v := hval0
  have hW' := hW
  obtain ⟨p, q, hA0, hV, rfl, hfz, hnd⟩ := hW
  have hA : DataW.TrodAll enc Try.prog W 0 (fun _ => true) true Try.f7.params.toList args.toList ds p := hA0
  rw [Try.params7] at hA hval
  obtain ⟨v0, vs0, d0, ds0, p0, q0, hargs, rfl, rfl, h0, r0⟩ := trodAll_cons hA
  obtain ⟨v1, vs1, d1, ds1, p1, q1, rfl, rfl, rfl, h1, r1⟩ := trodAll_cons r0
  obtain ⟨rfl, rfl, rfl⟩ := trodAll_nil r1
  obtain rfl : args = #[v0, v1] := by cases args; simp_all
  obtain ⟨rfl, rfl⟩ := trodVars_none hV
  obtain ⟨a0, rfl, rfl, rfl, w0⟩ := open_int Try.underlying3 (hval 0 3 v0 rfl rfl) h0
  have b0 := bd_i64 w0
  obtain ⟨a1, len1, cap1, rfl⟩ := okWide_slice Try.underlying22 (hval 1 22 v1 rfl rfl)
  have k1 := h1
  have lt1 : ∀ x ∈ p1, x.block < W.heap.size := by obtain ⟨m, hm⟩ := k1; exact DataW.trod_lt m _ _ _ hm
  obtain ⟨l1, w1⟩ := is_z h1
  clear hA0 hval0
  refine (law_any a0 a1 len1 cap1 l1 W b0 w1).mono fun e W' ⟨he, bel⟩ => ?_
  subst he
  exact ⟨_, rfl, _, _, _, [], _, [], hW', trodAll_mk1 (shut_bool Try.underlying4 _), (trodAll_cons_mk (shut_int Try.underlying3 w0) (trodAll_cons_mk (Below.trod laidOut (by kernel_rfl) (of_decide_eq_true (by kernel_rfl)) k1 bel lt1) trodAll_mk0)), rfl, bel.frame _, fun h => by cases h⟩

theorem proved : Rows.DiskQuotaSaid :=
  OpenClaim.holds_of_wide 7 Try.f7 rfl rfl rfl rfl rfl rfl rfl ⟨rfl, rfl, rfl, rfl, rfl⟩ rfl rfl rfl rfl rfl (by kernel_rfl) Try.func7 (by kernel_rfl)
    (of_decide_eq_true (by kernel_rfl)) (by unfold Func.isWrapper; first | (rw [if_pos (by decide +kernel)]; kernel_rfl) | (rw [if_neg (by decide +kernel)]; exact ⟨rfl, rfl⟩))
    (fun os started H enc _ => lifted os started H enc)
#print axioms proved
end Go.Proofs.Ytebhhfmekmpnkaa.diskQuota
