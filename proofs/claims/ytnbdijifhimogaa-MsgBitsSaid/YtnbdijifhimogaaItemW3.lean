/-
  The walk of item.Bytes.
-/
import Derived.Test.YtnbdijifhimogaaItemW2
import Derived.Deep.RegionHeld3
namespace Go.Proofs.Ytnbdijifhimogaa
open Go.RowKit
set_option linter.unusedVariables false

def itB (i : It) : List UInt8 := byteOf i.s.toInt :: byteOf i.k.toInt :: (numB i.t.toNat ++ (numB i.v.toNat ++ numB (signN i.x.toInt)))
def itemsB (l : List It) : List UInt8 := numB l.length ++ l.flatMap itB
def bytesE (l : List It) : Nat := if 2000 < l.length then 2 else if l.all okB then 0 else 1
/-- what Bytes hands back -/
def bytesL (bs : List UInt8) (l : List It) : List UInt8 := if bytesE l = 0 then bs ++ itemsB l else []
theorem bytesL_no {bs : List UInt8} {l : List It} (h : bytesE l ≠ 0) : bytesL bs l = [] := by unfold bytesL; rw [if_neg h]
theorem bytesL_yes {bs : List UInt8} {l : List It} (h : bytesE l = 0) : bytesL bs l = bs ++ itemsB l := by unfold bytesL; rw [if_pos h]
theorem i64_bd (i : Int64) : -9223372036854775808 ≤ i.toInt ∧ i.toInt ≤ 9223372036854775807 := ⟨by have := i.le_toInt; simpa using this, by have := i.toInt_lt; omega⟩
theorem itB_len (i : It) : (itB i).length ≤ 32 := by
  have h1 := numB_ten i.t.toNat_lt
  have h2 := numB_ten i.v.toNat_lt
  have h3 := numB_ten (signN_lt i.x.toInt (i64_bd i.x).1 (i64_bd i.x).2)
  simp only [itB, List.length_cons, List.length_append]; omega

set_option maxRecDepth 100000 in
set_option maxHeartbeats 3200000 in
theorem bytes_any (A : Option Addr) (n c : Nat) (bs : List UInt8) (Q : Option Addr) (m d : Nat) (l : List It) (w : World) (hr : Rd w w.heap.size 1 A n (bvs bs)) (hq : Rd w w.heap.size 5 Q m (itcs l)) (hn : n ≤ 1099511627000) (hm : m ≤ 9223372036854775807) :
    Calls Try.prog 18 #[.slice A n c, .slice Q m d] w fun e w' => ∃ A' n' c', e = .returned (.tuple #[.slice A' n' c', .int .i64 (bytesE l : Int)]) ∧ OwnB w' w.heap.size A' n' c' (bytesL bs l) ∧ Up w w' := by
  have HN := Lib.hid hr.blen
  have HM := Lib.hid hq.ilen
  have nil0 : ∀ w0, OwnB w0 w.heap.size none 0 0 [] := fun w0 => World.ownsRow_nil _ _ _ _
  have NIL := Lib.hid nil0
  clear nil0
  by_cases hbig : 2000 < m
  · have hE : Hid (bytesE l = 2) := by show _ = _; unfold bytesE; rw [if_pos (by rw [← HM.out]; exact hbig)]
    go_enter Try.func18, Try.ntmps18
    go_wp2_with fail
    go_ret2
    rw [hE.out, bytesL_no (by rw [hE.out]; omega)]
    exact ⟨none, 0, 0, rfl, NIL.out _, Up.refl _⟩
  cases hall : l.all okB
  · have hE : Hid (bytesE l = 1) := by show _ = _; unfold bytesE; rw [if_neg (by rw [← HM.out]; exact hbig), hall]; rfl
    have HA := Lib.hid hall
    clear hall
    go_enter Try.func18, Try.ntmps18
    go_wp2_with fail
    refine (all_any Q m d l w hq hm).mono ?_
    rintro e w1 ⟨rfl, hu⟩
    rw [HA.out]
    go_wp2_with fail
    go_ret2
    rw [hE.out, bytesL_no (by rw [hE.out]; omega)]
    exact ⟨none, 0, 0, rfl, NIL.out _, hu⟩
  · have hE : Hid (bytesE l = 0) := by show _ = _; unfold bytesE; rw [if_neg (by rw [← HM.out]; exact hbig), hall]; rfl
    have HA := Lib.hid hall
    clear hall
    go_enter Try.func18, Try.ntmps18
    go_wp2_with fail
    refine (all_any Q m d l w hq hm).mono ?_
    rintro e w1 ⟨rfl, hu1⟩
    rw [HA.out]
    go_wp2_with fail
    refine (put_any A n c bs m w1 (hr.up hu1) (by omega) (by omega)).mono ?_
    rintro e w2 ⟨A2, n2, c2, rfl, ho2, hu2⟩
    have hu12 := hu1.trans hu2
    go_wp2_with fail
    go_loopw [7, 25] (fun v i wr => ∃ (k : Nat) (R : Option Addr) (rn rc : Nat), i = .int .i64 (k : Int) ∧ v = .slice R rn rc ∧ k ≤ m ∧ rn ≤ 32 * k ∧ OwnB wr w2.heap.size R rn rc ((l.take k).flatMap itB) ∧ Up w2 wr) (fun _ i _ => m - (intOf i).toNat)
    case atStart => exact ⟨0, none, 0, 0, rfl, rfl, by omega, by omega, World.ownsRow_nil _ _ _ _, Up.refl _⟩
    case round =>
      obtain ⟨k, R, rn, rc, rfl, rfl, hk, hrn, hown, hu⟩ := hrel
      by_cases hlt : k < m
      · obtain ⟨b, o, i, rfl, hb, hik, x0, x1, x2, x3, x4⟩ := (hq.stay (Nat.le_refl _) (hu12.trans hu)).item_at hlt
        have HI := Lib.hid hik
        clear hik
        have hbi := i64_bd i.x
        obtain ⟨hbi1, hbi2⟩ := hbi
        go_wp2_with (at_builtin; refine wpList_append_rd _ bytesT (news := bvs [byteOf i.s.toInt, byteOf i.k.toInt]) (World.ownsRow.alloc (World.ownsRow.alloc hown _) _) (Rd.lit_at _ _ _ _ (by simp) (by simp [bvs, bv_byteOf])) (bvs_one _) (by simp; omega) (by simp; omega) (by simp; have := hu.size; omega) rfl rfl rfl rfl ?_; intro v3 w3 hown3 hg3 hat3; obtain ⟨R3, rc3, rfl⟩ := own_form hown3)
        have hx3 := ((Rd.item wr i 27).alloc (by simp) (.cells #[.int .u8 (i.s.toInt % 256), .int .u8 (i.k.toInt % 256)] 5)).far (by omega) hg3 (by simp; omega) (fun e => by have := (hown.lt _ e.symm).2; omega)
        obtain ⟨g0, g1, g2, g3, g4⟩ := five_cells hx3
        have hu3 : Up w2 w3 := (((hu.alloc _).alloc _).grown hg3 (fun g hg => (hown.lt g hg).1))
        clear hx3 g0 g1 x0 x1 x2 x3 x4
        go_wp2_with fail
        go_region_held3 (fun W => W.cell? ⟨wr.heap.size, 2, none⟩ = some (.int .u64 (i.t.toNat : Int)) ∧ W.cell? ⟨wr.heap.size, 3, none⟩ = some (.int .u64 (i.v.toNat : Int)) ∧ W.cell? ⟨wr.heap.size, 4, none⟩ = some (.int .i64 i.x.toInt)) (first | exact ⟨g2, g3, g4⟩ | go_keep)
          (first | (go_at_call 35; refine (sign_any _ _ (by omega) (by omega)).mono ?_; rintro e w' ⟨rfl, rfl⟩))
        go_wp2_with fail
        have hlit : Rd (w3.drew.alloc (.cells #[.int .u64 (i.t.toNat : Int), .int .u64 (i.v.toNat : Int), .int .u64 (signN i.x.toInt : Int)] 22)) (w3.heap.size + 1) 1 (some ⟨w3.heap.size, 0, none⟩) 3 (nvs [i.t.toNat, i.v.toNat, signN i.x.toInt]) := by
          have := Rd.made (sz := 1) (n := 3) w3.drew #[.int .u64 (i.t.toNat : Int), .int .u64 (i.v.toNat : Int), .int .u64 (signN i.x.toInt : Int)] 22 rfl
          rw [World.size_alloc] at this
          exact this
        have hns : ∀ j, j < 3 → ([i.t.toNat, i.v.toNat, signN i.x.toInt].getD j 0 : Int) ≤ 18446744073709551615 := by
          intro j hj
          have h1 := i.t.toNat_lt
          have h2 := i.v.toNat_lt
          have h3 := signN_lt i.x.toInt (by omega) (by omega)
          match j, hj with
          | 0, _ => simp; omega
          | 1, _ => simp; omega
          | 2, _ => simp; omega
        have hitB : itB i = [byteOf i.s.toInt, byteOf i.k.toInt] ++ [i.t.toNat, i.v.toNat, signN i.x.toInt].flatMap numB := by simp [itB]
        have hr3n : rn + [byteOf i.s.toInt, byteOf i.k.toInt].length = rn + 2 := rfl
        rw [hr3n, ← bvs_append] at hown3
        have HNS := Lib.hid hns
        have HIT := Lib.hid hitB
        clear hns hitB hr3n g2 g3 g4
        obtain ⟨ns, hns0⟩ : ∃ ns, [i.t.toNat, i.v.toNat, signN i.x.toInt] = ns := ⟨_, rfl⟩
        have hns3 : ns.length = 3 := by rw [← hns0]; rfl
        rw [hns0] at hlit HNS HIT
        have hne3 : R3 ≠ some ⟨w3.heap.size, 0, none⟩ := by
          intro e; subst e
          have := (hown3.lt w3.heap.size rfl).2; omega
        clear hns0
        go_loopw [7, 47] (fun v j ws => ∃ (q : Nat) (S : Option Addr) (sn sc : Nat), j = .int .i64 (q : Int) ∧ v = .slice S sn sc ∧ q ≤ 3 ∧ sn ≤ rn + 2 + 10 * q ∧ OwnB ws w2.heap.size S sn sc ((l.take k).flatMap itB ++ [byteOf i.s.toInt, byteOf i.k.toInt] ++ (ns.take q).flatMap numB) ∧ Hid (S ≠ some ⟨w3.heap.size, 0, none⟩) ∧ Rd ws (w3.heap.size + 1) 1 (some ⟨w3.heap.size, 0, none⟩) 3 (nvs ns) ∧ Up w2 ws ∧ w3.heap.size < ws.heap.size) (fun _ j _ => 3 - (intOf j).toNat)
        case atStart => exact ⟨0, R3, rn + 2, rc3, rfl, rfl, by omega, by omega, by rw [List.take_zero, List.flatMap_nil, List.append_nil]; exact World.ownsRow.alloc hown3 _, hne3, hlit, (hu3.drew).alloc _, by simp⟩
        case round =>
          obtain ⟨q, S, sn, sc, rfl, rfl, hq3, hsn, hows, hne, hlt3, hus, hsz⟩ := hrel
          clear hlit hown3 hne3 hu3 hg3 hat3
          by_cases hq' : q < 3
          · obtain ⟨b5, o5, e5, hb5, hc5⟩ := hlt3.nat hq'
            injection e5 with e5
            injection e5 with e6 e7
            subst e6; subst e7
            rw [Nat.zero_add] at hc5
            have hv := HNS.out q hq'
            have htk : ns.take (q + 1) = ns.take q ++ [ns.getD q 0] := by
              rw [List.take_succ_eq_append_getElem (by omega)]; simp [List.getD, hns3, hq']
            generalize ns.getD q 0 = x at hc5 hv htk
            have HTK := Lib.hid htk
            clear htk
            have hxl := numB_ten (n := x) (by omega)
            go_wp2_with fail
            refine (put_any none 0 0 [] x _ Rd.empty (by omega) hv).mono ?_
            rintro e w5 ⟨A5, n5, c5, rfl, ho5, hu5⟩
            rw [List.nil_append] at ho5
            have hn5 := ho5.len
            have hn5b : n5 ≤ 10 := by omega
            have HN5 := Lib.hid hn5
            clear hn5 hxl
            have hk32 : sn ≤ 64100 := by omega
            go_wp2_with (at_builtin; refine wpList_append_rd _ bytesT (hows.up hu5) ho5.rd (bvs_one _) (by omega) (by omega) (by have := hus.size; have := hu5.size; omega) rfl rfl rfl rfl ?_; intro v6 w6 hown6 hg6 hat6; obtain ⟨S6, sc6, rfl⟩ := own_form hown6)
            have hlt5 : w3.heap.size < w5.heap.size := Nat.lt_of_lt_of_le hsz hu5.size
            have hnb : ∀ g, some g = (Value.slice S sn sc).ownBlock → g < w5.heap.size ∧ g ≠ w3.heap.size := by
              intro g hg
              have h1 := ((hows.up hu5).lt g hg.symm).2
              refine ⟨h1, fun e => hne.out ?_⟩
              subst e
              obtain ⟨g', hS, _⟩ : ∃ g', S = some ⟨g', 0, none⟩ ∧ True := by
                rcases hows.2 with ⟨hv', _⟩ | ⟨g', _, _, hv', _⟩
                · injection hv' with hS _ _; subst hS; simp [Value.ownBlock] at hg
                · injection hv' with hS _ _; exact ⟨g', hS, trivial⟩
              subst hS
              simp [Value.ownBlock] at hg
              rw [hg]
            go_roundw
            case rel =>
              refine ⟨q + 1, S6, sn + n5, sc6, by go_num, rfl, by omega, by omega, ?_, ?_, ?_, (hus.trans hu5).grown hg6 (fun g hg => ((hows.up hu5).lt g hg).1), Nat.lt_of_lt_of_le hlt5 hg6.size⟩
              · show World.ownsRow _ _ _ _ _ _ _
                rw [HTK.out, List.flatMap_append, ← List.append_assoc, bvs_append]
                simpa using hown6
              · intro e
                subst e
                rcases hat6 with h | h
                · exact (hnb w3.heap.size (by simpa [Value.ownBlock] using h)).2 rfl
                · simp [Value.ownBlock] at h; omega
              · exact (hlt3.stay hsz hu5).far (by omega) hg6 hlt5 (fun e => (hnb _ e).2 rfl)
            case measure => simp [intOf]; omega
          · have hq3' : q = 3 := by omega
            subst hq3'
            go_wp2_with fail
            go_roundw
            case rel =>
              refine ⟨k + 1, S, sn, sc, by go_num, rfl, by omega, by omega, ?_, hus⟩
              have hkl : k < l.length := by have := HM.out; omega
              have hti : l.take (k + 1) = l.take k ++ [i] := by
                rw [List.take_succ_eq_append_getElem hkl]
                have := HI.out
                rw [List.getElem?_eq_getElem hkl] at this
                injection this with this
                rw [this]
              rw [show ns.take 3 = ns from List.take_of_length_le (by omega)] at hows
              rw [hti, List.flatMap_append, List.flatMap_singleton, HIT.out, ← List.append_assoc]
              exact hows
            case measure => simp [intOf]; omega
      · have hkm : k = m := by omega
        subst hkm
        have hrow : (l.take k).flatMap itB = l.flatMap itB := by rw [List.take_of_length_le (by have := HM.out; omega)]
        rw [hrow] at hown
        have hn2 : n2 ≤ n + 10 := by have h1 := ho2.len; have h2 := numB_ten (n := k) (by omega); have h3 := HN.out; rw [List.length_append] at h1; omega
        have ho2' : OwnB wr w.heap.size A2 n2 c2 (bs ++ numB k) := own_base (ho2.up hu) hu1.size
        clear hrow ho2
        go_wp2_with (at_builtin; refine wpList_append_rd _ bytesT ho2' hown.rd (bvs_one _) (by omega) (by omega) (hu12.trans hu).size rfl rfl rfl rfl ?_; intro v6 w6 hown6 hg6 hat6; obtain ⟨S6, sc6, rfl⟩ := own_form hown6)
        go_ret2
        rw [hE.out, bytesL_yes hE.out]
        refine ⟨S6, _, sc6, rfl, ?_, (hu12.trans hu).grown hg6 (fun g hg => (ho2'.lt g hg).1)⟩
        show World.ownsRow _ _ _ _ _ _ _
        rw [itemsB, ← HM.out, ← List.append_assoc, bvs_append]
        exact hown6
end Go.Proofs.Ytnbdijifhimogaa
