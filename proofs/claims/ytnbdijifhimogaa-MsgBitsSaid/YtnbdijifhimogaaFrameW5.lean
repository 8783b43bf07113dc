/-
  The walk of frame.Put.
-/
import Derived.Test.YtnbdijifhimogaaFrameW4
namespace Go.Proofs.Ytnbdijifhimogaa
open Go.RowKit
set_option linter.unusedVariables false
set_option linter.unusedSimpArgs false

/-- the error of Put -/
def putE (kind : Int) (n : Nat) : Nat := if kind < 1 ∨ 100 < kind then 1 else if 60000 < n then 2 else 0
def headB (kind : Int) (n : Nat) : List UInt8 := [byteOf kind, UInt8.ofNat (n / 65536), UInt8.ofNat (n / 256), UInt8.ofNat n]
def frameB (kind : Int) (l : List UInt8) : List UInt8 := sealB (headB kind l.length) ++ sealB l
def putL (bs : List UInt8) (kind : Int) (l : List UInt8) : List UInt8 := if putE kind l.length = 0 then bs ++ frameB kind l else []
theorem frameB_len (kind : Int) (l : List UInt8) : (frameB kind l).length = l.length + 12 := by
  simp [frameB, sealB_len, headB]; omega

set_option maxRecDepth 100000 in
set_option maxHeartbeats 1600000 in
theorem fput_any (A : Option Addr) (n c : Nat) (bs : List UInt8) (kind : Int) (B : Option Addr) (m d : Nat) (l : List UInt8) (w : World) (hr : Rd w w.heap.size 1 A n (bvs bs)) (hb : Rd w w.heap.size 1 B m (bvs l)) (hn : n ≤ 549755813888) (hm : m ≤ 9223372036854775807) :
    Calls Try.prog 19 #[.slice A n c, .int .i64 kind, .slice B m d] w fun e w' => ∃ A' n' c', e = .returned (.tuple #[.slice A' n' c', .int .i64 (putE kind l.length : Int)]) ∧ OwnB w' w.heap.size A' n' c' (putL bs kind l) ∧ Up w w' := by
  have nil0 : ∀ w0, OwnB w0 w.heap.size none 0 0 [] := fun w0 => World.ownsRow_nil _ _ _ _
  have NIL := Lib.hid nil0
  clear nil0
  have HM := Lib.hid hb.blen
  have HN := Lib.hid hr.blen
  have bad : ∀ E : Nat, putE kind l.length = E → E ≠ 0 → putL bs kind l = [] := fun E h h' => by unfold putL; rw [if_neg (by rw [h]; exact h')]
  by_cases hk1 : kind < 1
  · have hE : putE kind l.length = 1 := by unfold putE; rw [if_pos (.inl hk1)]
    have hL := bad 1 hE (by omega)
    have HE := Lib.hid hE
    have HO := Lib.hid hL
    clear hE hL bad
    go_enter Try.func19, Try.ntmps19
    go_wp2_with fail
    go_ret2
    rw [HE.out, HO.out]
    exact ⟨none, 0, 0, rfl, NIL.out _, Up.refl _⟩
  by_cases hk2 : 100 < kind
  · have hE : putE kind l.length = 1 := by unfold putE; rw [if_pos (.inr hk2)]
    have hL := bad 1 hE (by omega)
    have HE := Lib.hid hE
    have HO := Lib.hid hL
    clear hE hL bad
    go_enter Try.func19, Try.ntmps19
    go_wp2_with fail
    go_ret2
    rw [HE.out, HO.out]
    exact ⟨none, 0, 0, rfl, NIL.out _, Up.refl _⟩
  by_cases hbig : 60000 < m
  · have hE : putE kind l.length = 2 := by unfold putE; rw [if_neg (by omega), if_pos (by rw [← HM.out]; exact hbig)]
    have hL := bad 2 hE (by omega)
    have HE := Lib.hid hE
    have HO := Lib.hid hL
    clear hE hL bad
    go_enter Try.func19, Try.ntmps19
    go_wp2_with fail
    go_ret2
    rw [HE.out, HO.out]
    exact ⟨none, 0, 0, rfl, NIL.out _, Up.refl _⟩
  · have hE : putE kind l.length = 0 := by unfold putE; rw [if_neg (by omega), if_neg (by rw [← HM.out]; exact hbig)]
    have hL : putL bs kind l = bs ++ (sealB (headB kind m) ++ sealB l) := by unfold putL; rw [hE, if_pos rfl, HM.out]; rfl
    have HE := Lib.hid hE
    have HO := Lib.hid hL
    clear hE hL bad
    go_enter Try.func19, Try.ntmps19
    go_wp2_with fail
    have hh : ([.int .u8 kind, .int .u8 ((m : Int) / 65536), .int .u8 ((m : Int) / 256), .int .u8 ((m : Int) % 256)] : List Value) = bvs (headB kind m) := by
      have e0 : kind = kind % 256 := by omega
      have e1 : (m : Int) / 65536 = ((m / 65536 % 256 : Nat) : Int) := by omega
      have e2 : (m : Int) / 256 = ((m / 256 % 256 : Nat) : Int) := by omega
      have e3 : (m : Int) % 256 = ((m % 256 : Nat) : Int) := by omega
      simp only [bvs, headB, List.map_cons, List.map_nil, bv_ofNat, bv_byteOf, e1, e2, e3, ← e0]
    refine (seal_any _ 4 4 (headB kind m) _ (Rd.lit_at _ _ _ _ rfl hh) (by omega)).mono ?_
    rintro e w1 ⟨A1, c1, rfl, ho1, hu1⟩
    have hw1 : Up w w1 := ((Up.refl w).alloc _).trans hu1
    go_wp2_with fail
    refine (seal_any B m d l w1 (hb.up hw1) (by omega)).mono ?_
    rintro e w2 ⟨A2, c2, rfl, ho2, hu2⟩
    have hw2 : Up w w2 := hw1.trans hu2
    go_wp2_with fail
    have hq : Rd (w2.alloc (.cells #[.slice A n c, .slice A1 8 c1, .slice A2 (m + 4) c2] 28)) (w2.alloc (.cells #[.slice A n c, .slice A1 8 c1, .slice A2 (m + 4) c2] 28)).heap.size 1 (some ⟨w2.heap.size, 0, none⟩) 3 ([⟨A, n, c, bs⟩, ⟨A1, 8, c1, sealB (headB kind m)⟩, ⟨A2, m + 4, c2, sealB l⟩].map Pt.v) := Rd.made w2 _ _ rfl
    have hl : ptsL [⟨A, n, c, bs⟩, ⟨A1, 8, c1, sealB (headB kind m)⟩, ⟨A2, m + 4, c2, sealB l⟩] = bs ++ (sealB (headB kind m) ++ sealB l) := by simp [ptsL]
    have hll : (bs ++ (sealB (headB kind m) ++ sealB l)).length ≤ 1099511627776 := by
      have := HM.out; have := HN.out
      simp [sealB_len, headB]; omega
    refine (concat_any _ 3 3 _ _ hq ?_ (by rw [hl]; exact hll) (by omega)).mono ?_
    · intro p hp
      simp only [List.mem_cons, List.not_mem_nil, or_false] at hp
      rcases hp with rfl | rfl | rfl
      · exact hr.up (hw2.alloc _)
      · exact (ho1.up (hu2.alloc _)).rd
      · exact (ho2.up ((Up.refl _).alloc _)).rd
    rintro e w3 ⟨A3, c3, rfl, ho3, hu3⟩
    have hw3 : Up w w3 := (hw2.alloc _).trans hu3
    rw [hl] at ho3 ⊢
    clear hl hll hq hh
    generalize (bs ++ (sealB (headB kind m) ++ sealB l)).length = N3 at ho3 ⊢
    have hsz : w.heap.size ≤ (w2.alloc (.cells #[.slice A n c, .slice A1 8 c1, .slice A2 (m + 4) c2] 28)).heap.size := (hw2.alloc _).size
    have ho4 := own_base ho3 hsz
    clear ho3 hsz
    go_wp2_with fail
    go_ret2
    rw [HE.out, HO.out]
    exact ⟨A3, N3, c3, rfl, ho4, hw3⟩
end Go.Proofs.Ytnbdijifhimogaa
