/-
  The law ItemCuts: the walk.
-/
import Derived.Test.YtpifigalaembdaaItemLaw
import Derived.Test.YtpifigalaembdaaItemW6
import Derived.Test.YtpifigalaembdaaOpenI
import Derived.Test.YtpifigalaembdaaTx
namespace Go.Proofs.Ytpifigalaembdaa.itemCuts
open Go.RowKit
set_option linter.unusedVariables false
set_option linter.unusedSimpArgs false

def zit : It := ⟨0, 0, 0, 0, 0⟩
theorem zit_c : itc zit = [.int .i64 0, .int .i64 0, .int .u64 0, .int .u64 0, .int .i64 0] := by kernel_rfl
theorem zit_ok : okB zit = false := by decide +kernel
def zi (n : Nat) : Array Value := (itcs (List.replicate n zit)).toArray
theorem zi_made (n : Nat) : madeCells #[.int .i64 0, .int .i64 0, .int .u64 0, .int .u64 0, .int .i64 0] (n * 5) = zi n := by
  apply Array.ext'
  apply List.ext_getElem?
  intro q
  have hz : (zi n).toList = itcs (List.replicate n zit) := rfl
  rw [hz]
  by_cases hq : q < n * 5
  · have hk : q / 5 < (List.replicate n zit).length := by rw [List.length_replicate]; omega
    have h1 := itcs_at (List.replicate n zit) hk (j := q % 5) (by omega)
    rw [show q / 5 * 5 + q % 5 = q by omega] at h1
    rw [h1, List.getElem_replicate, zit_c]
    have h5 : q % 5 < 5 := by omega
    simp only [madeCells, Array.toList_map, Array.toList_range, List.getElem?_map, List.getElem?_range hq, Option.map_some]
    generalize q % 5 = j at h5
    match j, h5 with
    | 0, _ => rfl
    | 1, _ => rfl
    | 2, _ => rfl
    | 3, _ => rfl
    | 4, _ => rfl
  · rw [List.getElem?_eq_none (by simp [size_madeCells]; omega), List.getElem?_eq_none (by rw [itcs_length, List.length_replicate]; omega)]
theorem make_i (w : World) (n : Nat) (hn : n ≤ 1000000) : (Instr.makeSlice 28 (.int .i64 (n : Int)) (.int .i64 (n : Int))).run Try.prog w = .ok (.slice (some ⟨w.heap.size, 0, none⟩) n n) (w.alloc (.cells (zi n) 24)) := by
  obtain ⟨i, hi, hz, hs, hby⟩ := info_parts (P := Try.prog) (e := 24) (z := .agg #[.int .i64 0, .int .i64 0, .int .u64 0, .int .u64 0, .int .i64 0]) (size := 5) (bytes := 40) (by kernel_rfl)
  rw [run_make w _ _ i _ itemsT.ut hi hz .i64 .i64 (n : Int) (n : Int) (by omega) (Int.le_refl _) (by rw [hby]; omega) (by omega)]
  rw [hs, Int.toNat_natCast]
  exact congrArg (fun c => Result.ok (Value.slice (some ⟨w.heap.size, 0, none⟩) n n) (w.alloc (.cells c 24))) (zi_made n)
theorem zi_rd (w : World) (n : Nat) : Rd (w.alloc (.cells (zi n) 24)) (w.alloc (.cells (zi n) 24)).heap.size 5 (some ⟨w.heap.size, 0, none⟩) n (itcs (List.replicate n zit)) := by
  have := Rd.ilit_at w (List.replicate n zit) (zi n) 24 rfl rfl
  rwa [List.length_replicate] at this
theorem zi_may (n : Nat) (h : 0 < n) : bytesE (List.replicate n zit) = if 2000 < n then 2 else 1 := by
  unfold bytesE
  rw [List.length_replicate]
  split
  · rfl
  · have : (List.replicate n zit).all okB = false := by
      obtain ⟨m, rfl⟩ : ∃ m, n = m + 1 := ⟨n - 1, by omega⟩
      rw [List.replicate_succ, List.all_cons, zit_ok]; rfl
    rw [this]; rfl
theorem itemsB_pos (l : List It) : 1 ≤ (itemsB l).length := by unfold itemsB; rw [List.length_append]; have := numB_pos l.length; omega
theorem itemsB_le {l : List It} (h : l.length ≤ 2000) : (itemsB l).length ≤ 10 + 32 * l.length := by
  have h1 := numB_ten (n := l.length) (by omega)
  have h2 : ∀ l : List It, (l.flatMap itB).length ≤ 32 * l.length := by
    intro l
    induction l with
    | nil => simp
    | cons a l ih => have := itB_len a; simp only [List.flatMap_cons, List.length_append, List.length_cons]; omega
  have := h2 l
  simp only [itemsB, List.length_append]; omega

set_option maxRecDepth 100000 in
set_option maxHeartbeats 800000 in
theorem law_any (Q : Option Addr) (m d : Nat) (l : List It) (cut n : Int) (w : World) (hi : IsI w Q m d l) (b1 : -9223372036854775808 ≤ cut ∧ cut ≤ 9223372036854775807) (b2 : -9223372036854775808 ≤ n ∧ n ≤ 9223372036854775807) :
    Calls Try.prog 9 #[.slice Q m d, .int .i64 cut, .int .i64 n] w fun e w' => e = .returned (.bool true) ∧ Up w w' := by
  obtain ⟨hq, hmd, hdm⟩ := hi
  have HL := Lib.hid hq.ilen
  have hmay := fun W hW => may_any Q m d l W hW (by omega)
  by_cases he : bytesE l = 0
  · rw [he] at hmay
    have HM := Lib.hid hmay
    clear hmay
    by_cases hbig : 200 < m
    · clear he
      go_enter Try.func9, Try.ntmps9
      go_wp2_with fail
      refine (HM.out _ hq).mono ?_
      rintro e w1 ⟨rfl, hu1⟩
      go_wp2_with (go_at_call 11; with_reducible refine (awake5_any _).mono ?_; rintro e w4 ⟨rfl, hu4⟩)
      go_ret
      exact ⟨rfl, hu1.trans hu4⟩
    · have g0 : decide (200 < (m : Int)) = false := by simp; omega
      obtain ⟨C, hC, _⟩ := i64_and_le cut 65535 (by omega)
      obtain ⟨N, hN, hN2⟩ := i64_and_le n 15 (by omega)
      replace hC : bits .and .i64 cut 65535 = (C : Int) := hC
      replace hN : bits .and .i64 n 15 = (N : Int) := hN
      have hB : bytesL [] l = itemsB l := by rw [bytesL_yes he]; rfl
      have hpos := itemsB_pos l
      have hle := itemsB_le (l := l) (by have := HL.out; omega)
      have hcut : ∀ j, j < (itemsB l).length → (readL ((itemsB l).take j)).1 ≠ 0 := fun j hj => readL_cut he hj
      have hbeh : readL (itemsB l ++ [0]) = (3, []) := by rw [readL_row [0] he, if_neg (by simp)]
      have HE := Lib.hid he
      have HB := Lib.hid hB
      have HC := Lib.hid hcut
      have HR := Lib.hid hbeh
      clear he hB hcut hbeh
      generalize itemsB l = L at *
      obtain ⟨z, hz⟩ : ∃ z, L.length = z := ⟨_, rfl⟩
      rw [hz] at hpos hle
      have HZ := Lib.hid hz
      clear hz
      have hz4 : z ≤ 7000 := by have := HL.out; omega
      have hzp : (1 : Int) ≤ z := by omega
      obtain ⟨P, hP, hPz⟩ : ∃ P : Nat, (C : Int) % (z : Int) = (P : Int) ∧ P < z := ⟨C % z, by omega, Nat.mod_lt _ (by omega)⟩
      have hz0 : ((z : Int) == 0) = false := by rw [beq_eq_false_iff_ne]; omega
      obtain ⟨M, hM⟩ : ∃ M : Nat, (N : Int) + 1992 = (M : Int) := ⟨N + 1992, by omega⟩
      have hM1 : M ≤ 2007 := by omega
      have hM0 : 1992 ≤ M := by omega
      clear hN2
      have MK : ∀ W : World, (Instr.makeSlice 28 (.int .i64 (M : Int)) (.int .i64 (M : Int))).run Try.prog W = .ok (.slice (some ⟨W.heap.size, 0, none⟩) M M) (W.alloc (.cells (zi M) 24)) := fun W => make_i W M (by omega)
      go_enter Try.func9, Try.ntmps9
      go_wp2_with fail
      refine (HM.out _ hq).mono ?_
      rintro e w1 ⟨rfl, hu1⟩
      go_wp2_with fail
      refine (bytes_any none 0 0 [] Q m d l w1 Rd.empty (hq.up hu1) (by omega) (by omega)).mono ?_
      rintro e w2 ⟨A2, n2, c2, rfl, ho2, hu2⟩
      rw [HE.out]
      rw [HB.out] at ho2
      have hn2 : z = n2 := by rw [ho2.len, HZ.out]
      subst hn2
      have hc2 := ho2.cap
      have hu12 := hu1.trans hu2
      have hr2 := ho2.rd
      clear ho2
      have hPc : (P : Int) ≤ c2 := by omega
      go_wp2_with fail
      have hcE := HC.out P (by rw [HZ.out]; exact hPz)
      refine (read_any A2 P c2 _ w2 (hr2.bto (by omega)) (by omega) (by omega)).mono ?_
      rintro e w3 ⟨A3, n3, c3, rfl, ho3, hu3⟩
      clear ho3
      generalize (readL (L.take P)).1 = E1 at *
      have hE1 : ¬ (E1 : Int) = 0 := by omega
      have hE1b : ((E1 : Int) != 0) = true := by rw [bne_iff_ne]; exact hE1
      clear hcE
      have hr3 := hr2.up hu3
      go_wp2_with (first
        | (at_builtin; refine wpList_append_rd _ bytesT (row_new w3 #[] 5 (base := w3.heap.size) (sz := 1) (n := 0) (Nat.le_refl _) rfl (by omega)) (hr3.up ((Up.refl _).alloc _)) (bvs_one _) (by omega) (by omega) (by simp) rfl rfl rfl rfl ?_; intro v4 w4 hown4 hg4 hat4; obtain ⟨A4, c4, rfl⟩ := own_form hown4; simp only [Nat.zero_add, List.nil_append] at hown4)
        | (at_builtin; refine wpList_append_rd _ bytesT (World.ownsRow.alloc hown4 _) (Rd.boxb _ (b := 0) _ rfl) (bvs_one _) (by omega) (by omega) (by simp; have := hg4.size; simp at this; omega) rfl rfl rfl rfl ?_; intro v5 w5 hown5 hg5 hat5; obtain ⟨A5, c5, rfl⟩ := own_form hown5))
      have hu4 : Up w3 w4 := ((Up.refl w3).alloc _).grown hg4 (fun g hg => ((row_new w3 #[] 5 (base := w3.heap.size) (sz := 1) (n := 0) (Nat.le_refl _) rfl (by omega)).lt g hg).1)
      have hu5 : Up w3 w5 := (hu4.alloc _).grown hg5 (fun g hg => (hown4.lt g hg).1)
      rw [← bvs_append] at hown5
      have hc5 := own_cap hown5
      have hr5 := Rd.own hown5
      clear hg4 hg5 hat4 hat5 hown4 hown5 hr3
      refine (read_any A5 (z + 1) c5 _ w5 hr5 (by omega) hc5).mono ?_
      rintro e w6 ⟨A6, n6, c6, rfl, ho6, hu6⟩
      rw [HR.out]
      clear ho6 hr5
      have hu36 := hu5.trans hu6
      have hu06 := (hu12.trans hu3).trans hu36
      have hzm := zi_may M (by omega)
      by_cases hbg : 2000 < M
      · have hgd : (2000 : Int) < (M : Int) := by omega
        rw [if_pos hbg] at hzm
        have HZM := Lib.hid hzm
        clear hzm
        go_wp2_with fail
        refine (bytes_any none 0 0 [] _ M M _ _ Rd.empty (zi_rd w6 M) (by omega) (by omega)).mono ?_
        rintro e w7 ⟨A7, n7, c7, rfl, ho7, hu7⟩
        rw [HZM.out]
        clear ho7
        go_wp2_with (go_at_call 11; with_reducible refine (awake5_any _).mono ?_; rintro e w8 ⟨rfl, hu8⟩)
        go_ret
        exact ⟨rfl, hu06.trans ((((Up.refl w6).alloc _).trans hu7).trans hu8)⟩
      · have hgd : ¬ (2000 : Int) < (M : Int) := by omega
        rw [if_neg hbg] at hzm
        have HZM := Lib.hid hzm
        clear hzm
        go_wp2_with fail
        refine (bytes_any none 0 0 [] _ M M _ _ Rd.empty (zi_rd w6 M) (by omega) (by omega)).mono ?_
        rintro e w7 ⟨A7, n7, c7, rfl, ho7, hu7⟩
        rw [HZM.out]
        clear ho7
        go_wp2_with (go_at_call 11; with_reducible refine (awake5_any _).mono ?_; rintro e w8 ⟨rfl, hu8⟩)
        go_ret
        exact ⟨rfl, hu06.trans ((((Up.refl w6).alloc _).trans hu7).trans hu8)⟩
  · have HM := Lib.hid hmay
    clear hmay
    generalize bytesE l = E at *
    have hE0 : ¬ (E : Int) = 0 := by omega
    go_enter Try.func9, Try.ntmps9
    go_wp2_with fail
    refine (HM.out _ hq).mono ?_
    rintro e w1 ⟨rfl, hu1⟩
    go_wp2_with (go_at_call 11; with_reducible refine (awake5_any _).mono ?_; rintro e w4 ⟨rfl, hu4⟩)
    go_ret
    exact ⟨rfl, hu1.trans hu4⟩
end Go.Proofs.Ytpifigalaembdaa.itemCuts
