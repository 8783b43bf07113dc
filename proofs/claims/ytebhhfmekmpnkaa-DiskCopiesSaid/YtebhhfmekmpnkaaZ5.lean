/-
  Texts of this claim, joined: RkW8, RkC, DkSim, DkSim2, RkW9, DkTwo, DkCp1.
-/
import Derived.Sort.KeysCollected
import Derived.Test.YtebhhfmekmpnkaaZ4
/-
  The walks of the document's disk: List, leads.
-/
namespace Go.Proofs.Ytebhhfmekmpnkaa
open Go.RowKit Go.Maps
set_option linter.unusedVariables false
set_option linter.unusedSimpArgs false

def listR (r : Rk) : List (List UInt8) := if r.dead = true then [] else r.now.map (·.1)
theorem svs_one (l : List (List UInt8)) : ∀ u ∈ svs l, u.oneCell' = true := by
  intro u hu
  simp only [svs, List.mem_map] at hu
  obtain ⟨i, _, rfl⟩ := hu
  rfl
theorem svs_len (l : List (List UInt8)) : (svs l).length = l.length := by simp [svs]
theorem rstrsT : SlT Try.prog 39 9 1 16 := SlT.mk' Try.underlying39 (z := .string ByteArray.empty) (by kernel_rfl) rfl (by decide)
set_option maxRecDepth 100000 in
set_option maxHeartbeats 1600000 in
theorem rlist_any {B : Nat} {h : Rh} {r : Rk} {w : World} (H : RkAt B h r w) (hb : RkB r) :
    Calls Try.prog 58 #[.pointer (some ⟨h.g, 0, none⟩)] w fun e w' => ∃ A c, e = .returned (.slice A (listR r).length c) ∧ w'.ownsRow w.heap.size 9 1 (.slice A (listR r).length c) (listR r).length (svs (listR r)) ∧ Up w w' := by
  have hnn := hb.nn
  have hls : listR r = if r.dead = true then [] else r.now.map (·.1) := rfl
  have HLS := Lib.hid hls
  clear hls
  rcases hdd : r.dead with _ | _
  · have hl := HLS.out
    rw [if_neg (by rw [hdd]; decide)] at hl
    have HL := Lib.hid hl
    have HDD := Lib.hid hdd
    clear hl hdd HLS
    go_enter Try.func58, Try.ntmps58
    go_wp2_with fail
    go_loopw [3, 4] (fun s i wr => ∃ (k : Nat) (A : Option Addr) (c : Nat), i = .int .i64 (k : Int) ∧ s = .slice A k c ∧ k ≤ r.now.length ∧ wr.ownsRow w.heap.size 9 1 (.slice A k c) k (svs ((r.now.take k).map (·.1))) ∧ Up w wr) (fun _ i _ => r.now.length - (intOf i).toNat)
    case atStart => exact ⟨0, none, 0, rfl, rfl, by omega, World.ownsRow_nil _ _ _ _, Up.refl _⟩
    case round =>
      obtain ⟨k, A, c, rfl, rfl, hk, ho, hu⟩ := hrel
      have HW := H.up hu
      have c2 : wr.cell? ⟨h.g, 2, none⟩ = some (.slice h.na r.now.length h.nc) := blk_cell HW.hd 2
      have c8 : wr.cell? ⟨h.g, 8, none⟩ = some (.bool false) := by have := blk_cell HW.hd 8; rw [← HDD.out]; exact this
      by_cases hlt : k < r.now.length
      · have hlti : (k : Int) < (r.now.length : Int) := by omega
        obtain ⟨b, o, p, hna, hbb, hp, n0, n1⟩ := (Rd.own HW.now).name_at hlt
        rw [hna] at c2
        obtain ⟨pn, pf⟩ := p
        (try dsimp only at n0)
        have hsz : w.heap.size ≤ wr.heap.size := hu.size
        have hsv : svs ((r.now.take (k + 1)).map (·.1)) = svs ((r.now.take k).map (·.1)) ++ [.string (tx pn)] := by
          rw [List.take_add_one, hp, List.map_append, svs, svs, List.map_append]; rfl
        have HSV := Lib.hid hsv
        clear hsv hp hna HW H n1
        go_wp2_with (at_builtin; refine wpList_append_rd _ rstrsT (own_up ho ((Up.refl _).alloc _)) (Rd.box _ _ _) (by intro u hu; rw [List.mem_singleton] at hu; subst hu; rfl) (by omega) (by omega) (by rw [World.size_alloc]; omega) rfl rfl rfl rfl ?_; intro v5 w5 ho5 hg5 hat5; obtain ⟨R5, rc5, rfl⟩ := own_form ho5; have hu5 : Up w w5 := (hu.alloc _).grown hg5 (fun g hg => (ho.lt g hg).1))
        go_roundw
        case rel => exact ⟨k + 1, R5, rc5, by go_num, rfl, by omega, by rw [HSV.out]; exact ho5, hu5⟩
        case measure => simp [intOf]; omega
      · have hlti : ¬ (k : Int) < (r.now.length : Int) := by omega
        have hke : (listR r).length = k := by rw [HL.out, List.length_map]; omega
        have hli : svs (listR r) = svs ((r.now.take k).map (·.1)) := by rw [HL.out, List.take_of_length_le (by omega)]
        have HKE := Lib.hid hke
        have HLI := Lib.hid hli
        clear hke hli HL H
        go_wp2_with fail
        go_ret
        rw [HKE.out, HLI.out]
        exact ⟨A, c, rfl, ho, hu⟩
  · have hl := HLS.out
    rw [if_pos hdd] at hl
    have HL := Lib.hid hl
    have c2 : w.cell? ⟨h.g, 2, none⟩ = some (.slice h.na r.now.length h.nc) := blk_cell H.hd 2
    have c8 : w.cell? ⟨h.g, 8, none⟩ = some (.bool true) := by have := blk_cell H.hd 8; rw [← hdd]; exact this
    clear hl hdd HLS
    go_enter Try.func58, Try.ntmps58
    go_wp2_with fail
    go_loopw [3, 4] (fun s i wr => s = .slice none 0 0 ∧ i = .int .i64 0 ∧ wr = w) (fun _ _ _ => 0)
    case atStart => exact ⟨rfl, rfl, rfl⟩
    case round =>
      obtain ⟨rfl, rfl, rfl⟩ := hrel
      by_cases h0 : 0 < r.now.length
      · have h0i : (0 : Int) < (r.now.length : Int) := by omega
        go_wp2_with fail
        go_ret
        rw [HL.out]
        exact ⟨none, 0, rfl, World.ownsRow_nil _ _ _ _, Up.refl _⟩
      · have h0i : ¬ (0 : Int) < (r.now.length : Int) := by omega
        go_wp2_with fail
        go_ret
        rw [HL.out]
        exact ⟨none, 0, rfl, World.ownsRow_nil _ _ _ _, Up.refl _⟩
def madeR (i : Nat) (t : Tn) : Bool := decide (t.kind = 0) && decide (t.file = i)
def leadsR (r : Rk) (i : Nat) : Bool := r.now.any (fun p => decide (p.2 = i)) || (r.last.any (fun p => decide (p.2 = i)) || r.ops.any (madeR i))
theorem NoneTo.any {α : Type} {p : α → Bool} {l : List α} {k : Nat} (h : NoneTo p l k) (hk : l.length ≤ k) : l.any p = false := by
  rw [List.any_eq_false]
  intro x hx
  obtain ⟨j, hj, rfl⟩ := List.getElem_of_mem hx
  rw [h j _ (by omega) (List.getElem?_eq_getElem hj)]
  decide
theorem any_hit {α : Type} {p : α → Bool} {l : List α} {k : Nat} {x : α} (h : l[k]? = some x) (hp : p x = true) : l.any p = true := List.any_eq_true.2 ⟨x, List.mem_of_getElem? h, hp⟩
set_option maxRecDepth 100000 in
set_option maxHeartbeats 1600000 in
theorem rleads_any {B : Nat} {h : Rh} {r : Rk} {w : World} (H : RkAt B h r w) (hb : RkB r) (i : Nat) (hi : i ≤ 1000000) :
    Calls Try.prog 60 #[.pointer (some ⟨h.g, 0, none⟩), .int .i64 (i : Int)] w fun e w' => e = .returned (.bool (leadsR r i)) ∧ w = w' := by
  have hnn := hb.nn
  have hnl := hb.nl
  have hno := hb.no
  have hld : leadsR r i = (r.now.any (fun p => decide (p.2 = i)) || (r.last.any (fun p => decide (p.2 = i)) || r.ops.any (madeR i))) := rfl
  have HLD := Lib.hid hld
  have c2 : w.cell? ⟨h.g, 2, none⟩ = some (.slice h.na r.now.length h.nc) := blk_cell H.hd 2
  have c3 : w.cell? ⟨h.g, 3, none⟩ = some (.slice h.la r.last.length h.lc) := blk_cell H.hd 3
  have c4 : w.cell? ⟨h.g, 4, none⟩ = some (.slice h.oa r.ops.length h.oc) := blk_cell H.hd 4
  have HH := Lib.hid H
  clear hld H
  go_enter Try.func60, Try.ntmps60
  go_wp2_with fail
  go_loopw [5] (fun x wr => ∃ k : Nat, x = .int .i64 (k : Int) ∧ k ≤ r.now.length ∧ wr = w ∧ Hid (NoneTo (fun p : Nm => decide (p.2 = i)) r.now k)) (fun x _ => r.now.length - (intOf x).toNat)
  case atStart => exact ⟨0, rfl, by omega, rfl, NoneTo.zero⟩
  case round =>
    obtain ⟨k, rfl, hk, rfl, hno1⟩ := hrel
    by_cases hlt : k < r.now.length
    · obtain ⟨b, o, p, hna, hbb, hp, n0, n1⟩ := (Rd.own HH.out.now).name_at hlt
      obtain ⟨pn, pf⟩ := p
      (try dsimp only at n0 n1)
      rw [hna] at c2
      have hlti : (k : Int) < (r.now.length : Int) := by omega
      have HP := Lib.hid hp
      clear hp hna
      by_cases hs : pf = i
      · have heq : ((pf : Int) == (i : Int)) = true := by rw [beq_iff_eq]; omega
        have hat : leadsR r i = true := by rw [HLD.out, any_hit HP.out (by simpa using hs)]; rfl
        have HAT := Lib.hid hat
        clear hat hs
        go_wp2_with fail
        go_ret
        rw [HAT.out]
        exact ⟨rfl, rfl⟩
      · have heq : ((pf : Int) == (i : Int)) = false := by rw [beq_eq_false_iff_ne]; omega
        have hno2 : Hid (NoneTo (fun p : Nm => decide (p.2 = i)) r.now (k + 1)) := hno1.out.succ HP.out (by simpa using hs)
        clear hs
        go_wp2_with fail
        go_roundw
        case rel => exact ⟨k + 1, by go_num, by omega, by trivial, hno2⟩
        case measure => simp [intOf]; omega
    · have hlti : ¬ (k : Int) < (r.now.length : Int) := by omega
      have HA1 := Lib.hid (hno1.out.any (by omega))
      clear hno1 hk hlt
      go_wp2_with fail
      go_loopw [6] (fun x wr2 => ∃ j : Nat, x = .int .i64 (j : Int) ∧ j ≤ r.last.length ∧ wr2 = wr ∧ Hid (NoneTo (fun p : Nm => decide (p.2 = i)) r.last j)) (fun x _ => r.last.length - (intOf x).toNat)
      case atStart => exact ⟨0, rfl, by omega, rfl, NoneTo.zero⟩
      case round =>
        obtain ⟨j, rfl, hj, rfl, hno2⟩ := hrel
        by_cases hlt : j < r.last.length
        · obtain ⟨b, o, p, hna, hbb, hp, n0, n1⟩ := (Rd.own HH.out.last).name_at hlt
          obtain ⟨pn, pf⟩ := p
          (try dsimp only at n0 n1)
          rw [hna] at c3
          have hlti2 : (j : Int) < (r.last.length : Int) := by omega
          have HP := Lib.hid hp
          clear hp hna
          by_cases hs : pf = i
          · have heq : ((pf : Int) == (i : Int)) = true := by rw [beq_iff_eq]; omega
            have hat : leadsR r i = true := by rw [HLD.out, any_hit (l := r.last) HP.out (by simpa using hs)]; simp
            have HAT := Lib.hid hat
            clear hat hs
            go_wp2_with fail
            go_ret
            rw [HAT.out]
            exact ⟨rfl, rfl⟩
          · have heq : ((pf : Int) == (i : Int)) = false := by rw [beq_eq_false_iff_ne]; omega
            have hno3 : Hid (NoneTo (fun p : Nm => decide (p.2 = i)) r.last (j + 1)) := hno2.out.succ HP.out (by simpa using hs)
            clear hs
            go_wp2_with fail
            go_roundw
            case rel => exact ⟨j + 1, by go_num, by omega, by trivial, hno3⟩
            case measure => simp [intOf]; omega
        · have hlti2 : ¬ (j : Int) < (r.last.length : Int) := by omega
          have HA2 := Lib.hid (hno2.out.any (by omega))
          clear hno2 hj hlt
          go_wp2_with fail
          go_loopw [7] (fun x wr3 => ∃ q : Nat, x = .int .i64 (q : Int) ∧ q ≤ r.ops.length ∧ wr3 = wr ∧ Hid (NoneTo (madeR i) r.ops q)) (fun x _ => r.ops.length - (intOf x).toNat)
          case atStart => exact ⟨0, rfl, by omega, rfl, NoneTo.zero⟩
          case round =>
            obtain ⟨q, rfl, hq, rfl, hno3⟩ := hrel
            by_cases hlt : q < r.ops.length
            · obtain ⟨b, o, t, hna, hbb, hp, n0, n1, n2, n3⟩ := (Rd.own HH.out.ops).turn_at hlt rfl
              obtain ⟨tk, tf, ta, tb⟩ := t
              (try dsimp only at n0 n1 n2 n3)
              rw [hna] at c4
              have hlti3 : (q : Int) < (r.ops.length : Int) := by omega
              have HP := Lib.hid hp
              clear hp hna n2 n3
              by_cases hs : tk = 0
              · have heq : ((tk : Int) == 0) = true := by rw [beq_iff_eq]; omega
                by_cases hf : tf = i
                · have heq2 : ((tf : Int) == (i : Int)) = true := by rw [beq_iff_eq]; omega
                  have hat : leadsR r i = true := by rw [HLD.out, any_hit (p := madeR i) (l := r.ops) HP.out (by simp [madeR, hs, hf])]; simp
                  have HAT := Lib.hid hat
                  clear hat hs hf
                  go_wp2_with fail
                  go_ret
                  rw [HAT.out]
                  exact ⟨rfl, rfl⟩
                · have heq2 : ((tf : Int) == (i : Int)) = false := by rw [beq_eq_false_iff_ne]; omega
                  have hno4 : Hid (NoneTo (madeR i) r.ops (q + 1)) := hno3.out.succ HP.out (by simp [madeR, hf])
                  clear hs hf
                  go_wp2_with fail
                  go_roundw
                  case rel => exact ⟨q + 1, by go_num, by omega, by trivial, hno4⟩
                  case measure => simp [intOf]; omega
              · have heq : ((tk : Int) == 0) = false := by rw [beq_eq_false_iff_ne]; omega
                have hno4 : Hid (NoneTo (madeR i) r.ops (q + 1)) := hno3.out.succ HP.out (by simp [madeR, hs])
                clear hs
                go_wp2_with fail
                go_roundw
                case rel => exact ⟨q + 1, by go_num, by omega, by trivial, hno4⟩
                case measure => simp [intOf]; omega
            · have hlti3 : ¬ (q : Int) < (r.ops.length : Int) := by omega
              have HA3 := Lib.hid (hno3.out.any (by omega))
              have hat : leadsR r i = false := by rw [HLD.out, HA1.out, HA2.out, HA3.out]; rfl
              have HAT := Lib.hid hat
              clear hno3 hq hlt hat
              go_wp2_with fail
              go_ret
              rw [HAT.out]
              exact ⟨rfl, rfl⟩
end Go.Proofs.Ytebhhfmekmpnkaa

/-
  The document's disk: what a Crash leaves (plain).
-/
namespace Go.Proofs.Ytebhhfmekmpnkaa
open Go.RowKit Go.Maps
set_option linter.unusedVariables false
set_option linter.unusedSimpArgs false

def cutR (x : Fi) (ld : Bool) (ks : List Int) : Fi := if keepRest x ≠ 0 ∧ ld = true then crash1 x (ks.headD (keepRest x : Int)) else ⟨x.b, x.b.length⟩
def ksR (x : Fi) (ld : Bool) (ks : List Int) : List Int := if keepRest x ≠ 0 ∧ ld = true then ks.tail else ks
def crashRF (ld : Nat → Bool) : Nat → Nat → List Fi → List Int → List Fi × List Int
  | 0, _, fs, ks => (fs, ks)
  | m + 1, i, fs, ks => crashRF ld m (i + 1) (fs.set i (cutR (fs.getD i ⟨[], 0⟩) (ld i) ks)) (ksR (fs.getD i ⟨[], 0⟩) (ld i) ks)
def doR (t : Tn) (l : List Nm) : List Nm :=
  if t.kind = 0 then withR l t.a t.file
  else if t.kind = 1 then (if ixN l t.a < l.length then withoutR (withR l t.b (l.getD (ixN l t.a) ([], 0)).2) t.a else l)
  else if t.kind = 2 then withoutR l t.a else l
def skipI (ks : List Int) : Bool := match ks with | [] => false | v :: _ => bits .and .i64 v 1 == 1
def crashRT : List Tn → List Nm → List Int → List Nm
  | [], l, _ => l
  | t :: r, l, ks => crashRT r (if skipI ks = true then l else doR t l) ks.tail
def crashR (r : Rk) (keep : List Int) : Rk :=
  { r with
    files := (crashRF (leadsR r) r.files.length 0 r.files keep).1
    now := crashRT r.ops r.last (crashRF (leadsR r) r.files.length 0 r.files keep).2
    last := crashRT r.ops r.last (crashRF (leadsR r) r.files.length 0 r.files keep).2
    ops := []
    left := -1
    fail := 0
    dead := false }
theorem tx_takeR (l : List UInt8) (n : Nat) : (tx l).extract 0 n = tx (l.take n) := tx_of (by simp [tx_list])
theorem RkB.setF {r : Rk} (h : RkB r) {j : Nat} {x : Fi} (hx : x.b.length ≤ 250000 ∧ x.last ≤ x.b.length) : RkB { r with files := r.files.set j x } :=
  ⟨by show (r.files.set j x).length ≤ _; rw [List.length_set]; exact h.nf, h.nn, h.nl, h.no, fun f hf => (List.mem_or_eq_of_mem_set hf).elim (h.fb f) (fun e => e ▸ hx), fun p hp => by show _ < (r.files.set j x).length; rw [List.length_set]; exact h.now p hp, h.q⟩
end Go.Proofs.Ytebhhfmekmpnkaa

/-
  The disk and the document's disk stand alike: plain laws. Names.
-/
namespace Go.Proofs.Ytebhhfmekmpnkaa
open Go.RowKit Go.Maps
set_option linter.unusedVariables false
set_option linter.unusedSimpArgs false

abbrev Asc (l : List Nm) : Prop := l.Pairwise (fun p q => p.1 < q.1)
def enc (p : Nm) : Lit × Mp := (nk p.1, fiv p.2)
theorem nk_key (s : List UInt8) : WideAt.IsKeyLit (nk s) := trivial
theorem same_nk (a s : List UInt8) : (nk a).sameKey (nk s) = decide (a = s) := by
  cases h : (nk a).sameKey (nk s) with
  | true =>
    have h1 := WideAt.sameKey_eq h
    injection h1 with h1
    exact (decide_eq_true h1).symm
  | false =>
    symm
    rw [decide_eq_false_iff_not]
    rintro rfl
    rw [WideAt.sameKey_self (nk_key a)] at h
    cases h
theorem lt_ne {a b : List UInt8} (h : a < b) : a ≠ b := fun e => by subst e; exact List.lt_irrefl _ h
theorem lt_tri {a b : List UInt8} (h1 : ¬ a < b) (h2 : a ≠ b) : b < a := by
  have h3 : b ≤ a := h1
  rcases List.le_iff_lt_or_eq.1 h3 with h | h
  · exact h
  · exact absurd h.symm h2
theorem withR_nil (s : List UInt8) (f : Nat) : withR [] s f = [(s, f)] := by simp [withR, kN, kN1]
theorem withR_cons (p : Nm) (l : List Nm) (s : List UInt8) (f : Nat) : withR (p :: l) s f = if p.1 < s then p :: withR l s f else if p.1 = s then (s, f) :: l else (s, f) :: p :: l := by
  by_cases h : p.1 < s
  · rw [if_pos h]
    have e1 : kN (p :: l) s = kN l s + 1 := by unfold kN; rw [List.findIdx_cons]; simp [h]
    have e2 : kN1 (p :: l) s = kN1 l s + 1 := by
      unfold kN1
      rw [e1, List.getElem?_cons_succ]
      split <;> rfl
    unfold withR
    rw [e1, e2]
    simp
  · rw [if_neg h]
    have e1 : kN (p :: l) s = 0 := by unfold kN; rw [List.findIdx_cons]; simp [h]
    by_cases h2 : p.1 = s
    · rw [if_pos h2]
      have e2 : kN1 (p :: l) s = 1 := by unfold kN1; rw [e1]; simp [h2]
      unfold withR
      rw [e1, e2]
      simp
    · rw [if_neg h2]
      have e2 : kN1 (p :: l) s = 0 := by unfold kN1; rw [e1]; simp [h2]
      unfold withR
      rw [e1, e2]
      simp
theorem withoutR_nil (s : List UInt8) : withoutR [] s = [] := rfl
theorem ixN_cons (p : Nm) (l : List Nm) (s : List UInt8) : ixN (p :: l) s = if p.1 = s then 0 else ixN l s + 1 := by
  unfold ixN
  rw [List.findIdx_cons]
  by_cases h : p.1 = s <;> simp [h]
theorem withoutR_cons (p : Nm) (l : List Nm) (s : List UInt8) : withoutR (p :: l) s = if p.1 = s then l else p :: withoutR l s := by
  unfold withoutR
  rw [ixN_cons]
  by_cases h : p.1 = s
  · simp [h]
  · rw [if_neg h, if_neg h]
    by_cases h2 : ixN l s < l.length
    · rw [if_pos (by simp; exact h2), if_pos h2]
      simp
    · rw [if_neg (by simp; omega), if_neg h2]
theorem filt_all {l : List Nm} {s : List UInt8} (h : ∀ q ∈ l, q.1 ≠ s) : l.filter (fun q => !decide (q.1 = s)) = l := List.filter_eq_self.2 fun q hq => by simp [h q hq]
theorem Asc.tail_ne {p : Nm} {l : List Nm} (h : Asc (p :: l)) : ∀ q ∈ l, p.1 < q.1 := (List.pairwise_cons.1 h).1
theorem withR_perm : ∀ (l : List Nm) (s : List UInt8) (f : Nat), Asc l → (withR l s f).Perm ((s, f) :: l.filter (fun q => !decide (q.1 = s)))
  | [], s, f, _ => by rw [withR_nil]; exact List.Perm.refl _
  | p :: l, s, f, h => by
    rw [withR_cons]
    have ht := h.tail_ne
    split
    · rename_i h1
      have ih := withR_perm l s f (List.pairwise_cons.1 h).2
      rw [List.filter_cons, if_pos (by simp [lt_ne h1])]
      exact (ih.cons p).trans (List.Perm.swap _ _ _)
    · rename_i h1
      split
      · rename_i h2
        rw [List.filter_cons, if_neg (by simp [h2]), filt_all (fun q hq e => lt_ne (ht q hq) (h2.trans e.symm))]
      · rename_i h2
        have h3 := lt_tri h1 h2
        rw [filt_all (fun q hq e => ?_)]
        subst e
        rcases List.mem_cons.1 hq with rfl | hq
        · exact h2 rfl
        · exact List.lt_irrefl _ (List.lt_trans h3 (ht q hq))
theorem withR_mem {l : List Nm} {s : List UInt8} {f : Nat} (h : Asc l) {q : Nm} (hq : q ∈ withR l s f) : q = (s, f) ∨ (q ∈ l ∧ q.1 ≠ s) := by
  rcases List.mem_cons.1 ((withR_perm l s f h).mem_iff.1 hq) with h1 | h1
  · exact .inl h1
  · obtain ⟨h2, h3⟩ := List.mem_filter.1 h1
    exact .inr ⟨h2, by simpa using h3⟩
theorem withR_asc : ∀ (l : List Nm) (s : List UInt8) (f : Nat), Asc l → Asc (withR l s f)
  | [], s, f, _ => by rw [withR_nil]; exact List.pairwise_singleton _ _
  | p :: l, s, f, h => by
    rw [withR_cons]
    have ht := h.tail_ne
    have h0 := (List.pairwise_cons.1 h).2
    split
    · rename_i h1
      refine List.pairwise_cons.2 ⟨fun q hq => ?_, withR_asc l s f h0⟩
      rcases withR_mem h0 hq with rfl | ⟨h2, _⟩
      · exact h1
      · exact ht q h2
    · rename_i h1
      split
      · rename_i h2
        exact List.pairwise_cons.2 ⟨fun q hq => by rw [← h2]; exact ht q hq, h0⟩
      · rename_i h2
        have h3 := lt_tri h1 h2
        refine List.pairwise_cons.2 ⟨fun q hq => ?_, h⟩
        rcases List.mem_cons.1 hq with rfl | hq
        · exact h3
        · exact List.lt_trans h3 (ht q hq)
theorem withoutR_filter : ∀ (l : List Nm) (s : List UInt8), Asc l → withoutR l s = l.filter (fun q => !decide (q.1 = s))
  | [], s, _ => rfl
  | p :: l, s, h => by
    rw [withoutR_cons]
    have ht := h.tail_ne
    split
    · rename_i h1
      rw [List.filter_cons, if_neg (by simp [h1]), filt_all (fun q hq e => lt_ne (ht q hq) (h1.trans e.symm))]
    · rename_i h1
      rw [List.filter_cons, if_pos (by simp [h1]), withoutR_filter l s (List.pairwise_cons.1 h).2]
theorem withoutR_asc {l : List Nm} (s : List UInt8) (h : Asc l) : Asc (withoutR l s) := by
  rw [withoutR_filter l s h]
  exact h.filter _
theorem withoutR_mem {l : List Nm} {s : List UInt8} (h : Asc l) {q : Nm} (hq : q ∈ withoutR l s) : q ∈ l ∧ q.1 ≠ s := by
  rw [withoutR_filter l s h] at hq
  obtain ⟨h2, h3⟩ := List.mem_filter.1 hq
  exact ⟨h2, by simpa using h3⟩
theorem ixN_lt {l : List Nm} {s : List UInt8} : ixN l s < l.length ↔ ∃ p ∈ l, p.1 = s := by
  unfold ixN
  rw [List.findIdx_lt_length]
  simp
theorem ixN_at {l : List Nm} {s : List UInt8} (h : ixN l s < l.length) : ∃ i, l.getD (ixN l s) ([], 0) = (s, i) ∧ (s, i) ∈ l := by
  have h1 := List.findIdx_getElem (w := h)
  have h2 : l[ixN l s].1 = s := of_decide_eq_true h1
  refine ⟨l[ixN l s].2, ?_, ?_⟩
  · rw [List.getD_eq_getElem?_getD, List.getElem?_eq_getElem h]
    exact Prod.ext h2 rfl
  · have h3 : l[ixN l s] ∈ l := List.getElem_mem h
    have h4 : l[ixN l s] = (s, l[ixN l s].2) := Prod.ext h2 rfl
    rw [← h4]; exact h3
theorem asc_one {l : List Nm} (h : Asc l) {p q : Nm} (hp : p ∈ l) (hq : q ∈ l) (e : p.1 = q.1) : p = q := by
  induction l with
  | nil => cases hp
  | cons x l ih =>
    have ht := h.tail_ne
    rcases List.mem_cons.1 hp with h1 | h1 <;> rcases List.mem_cons.1 hq with h2 | h2
    · rw [h1, h2]
    · subst h1; exact absurd e (lt_ne (ht q h2))
    · subst h2; exact absurd e.symm (lt_ne (ht p h1))
    · exact ih (List.pairwise_cons.1 h).2 h1 h2
/-- a map of names and a rising row of names say the same -/
structure NSim (D : Mp) (l : List Nm) : Prop where
  asc : Asc l
  ent : ∃ es, D = .map es ∧ es.Perm (l.map enc)
theorem NSim.nil : NSim (.map []) [] := ⟨List.Pairwise.nil, [], rfl, List.Perm.refl _⟩
variable {D : Mp} {l : List Nm} {s : List UInt8}
theorem NSim.size (h : NSim D l) : Maps.size D = l.length := by
  obtain ⟨es, rfl, hp⟩ := h.ent
  rw [Maps.size_eq, hp.length_eq, List.length_map]
theorem NSim.has (h : NSim D l) (s : List UInt8) : Maps.has D (nk s) = decide (ixN l s < l.length) := by
  obtain ⟨es, rfl, hp⟩ := h.ent
  rw [Maps.has_eq, hp.any_eq, List.any_map]
  rw [Bool.eq_iff_iff, List.any_eq_true, decide_eq_true_iff, ixN_lt]
  constructor
  · rintro ⟨p, h1, h2⟩
    exact ⟨p, h1, by simpa [enc, same_nk] using h2⟩
  · rintro ⟨p, h1, h2⟩
    exact ⟨p, h1, by simpa [enc, same_nk] using h2⟩
theorem NSim.at_ (h : NSim D l) {i : Nat} (hm : (s, i) ∈ l) (z : Mp) : D.atKey (nk s) z = fiv i := by
  obtain ⟨es, rfl, hp⟩ := h.ent
  unfold DataW.atKey
  cases hf : es.find? (fun p => p.1.sameKey (nk s)) with
  | none =>
    have h1 := List.find?_eq_none.1 hf (enc (s, i)) (hp.mem_iff.2 (List.mem_map.2 ⟨_, hm, rfl⟩))
    simp [enc, same_nk] at h1
  | some p =>
    have h1 := List.find?_some hf
    have h2 := hp.mem_iff.1 (List.mem_of_find?_eq_some hf)
    obtain ⟨q, hq, rfl⟩ := List.mem_map.1 h2
    have h3 : q.1 = s := by simpa [enc, same_nk] using h1
    have h4 := asc_one h.asc hq hm h3
    simp only [hf, h4]; rfl
theorem NSim.mget (h : NSim D l) (hx : ixN l s < l.length) : mget D s = (l.getD (ixN l s) ([], 0)).2 := by
  obtain ⟨i, h1, h2⟩ := ixN_at hx
  rw [mget_of (h.at_ h2), h1]
theorem usedS_perm (fs : List Fi) {a b : List (Lit × Mp)} (h : a.Perm b) : usedS fs (fun _ => false) a = usedS fs (fun _ => false) b := by
  induction h with
  | nil => rfl
  | cons x _ ih => unfold usedS; rw [ih]
  | swap x y l => unfold usedS; unfold usedS; simp; omega
  | trans _ _ h1 h2 => exact h1.trans h2
theorem NSim.used (h : NSim D l) (fs : List Fi) : usedM fs D = usedRS fs l := by
  obtain ⟨es, rfl, hp⟩ := h.ent
  show usedS fs (fun _ => false) es = _
  rw [usedS_perm fs hp]
  clear hp h es
  induction l with
  | nil => rfl
  | cons p l ih =>
    rw [List.map_cons]
    unfold usedS
    rw [ih]
    simp [usedRS, flenAt, enc, fidx, fiv]
theorem NSim.valIn (h : NSim D l) (i : Nat) : valIn D i = l.any (fun p => decide (p.2 = i)) := by
  obtain ⟨es, rfl, hp⟩ := h.ent
  show es.any (fun p => decide (fidx p.2 = i)) = _
  rw [hp.any_eq, List.any_map]
  congr 1
theorem NSim.put (h : NSim D l) (s : List UInt8) (f : Nat) : NSim (D.put (nk s) (fiv f)) (withR l s f) := by
  refine ⟨withR_asc l s f h.asc, ?_⟩
  obtain ⟨es, rfl, hp⟩ := h.ent
  refine ⟨_, rfl, (WideShapes.insert_perm _ _).trans ?_⟩
  refine List.Perm.trans ?_ ((withR_perm l s f h.asc).map enc).symm
  rw [List.map_cons]
  refine List.Perm.cons _ ((hp.filter _).trans ?_)
  rw [List.filter_map]
  have e : ((fun p : Lit × Mp => !p.1.sameKey (nk s)) ∘ enc) = fun q : Nm => !decide (q.1 = s) := by
    funext q
    simp [enc, same_nk]
  rw [e]
theorem NSim.del (h : NSim D l) (s : List UInt8) : NSim (D.del (nk s)) (withoutR l s) := by
  refine ⟨withoutR_asc s h.asc, ?_⟩
  obtain ⟨es, rfl, hp⟩ := h.ent
  refine ⟨_, rfl, ?_⟩
  rw [withoutR_filter l s h.asc]
  refine (hp.filter _).trans ?_
  rw [List.filter_map]
  have e : ((fun p : Lit × Mp => !p.1.sameKey (nk s)) ∘ enc) = fun q : Nm => !decide (q.1 = s) := by
    funext q
    simp [enc, same_nk]
  rw [e]
theorem NSim.keysPerm (h : NSim D l) : (l.map (·.1)).Perm (strKeys D) := by
  obtain ⟨es, rfl, hpe⟩ := h.ent
  have h1 : (strKeys (DataW.map es : Mp)).Perm (strKeys (DataW.map (l.map enc) : Mp)) := hpe.map _
  have h2 : strKeys (DataW.map (l.map enc) : Mp) = l.map (·.1) := by
    show (l.map enc).map _ = _
    rw [List.map_map]
    congr 1
  rw [← h2]
  exact h1.symm
theorem NSim.keys (h : NSim D l) {ss : List (List UInt8)} (hp : ss.Perm (strKeys D)) : ss.mergeSort (fun x y => decide (x ≤ y)) = l.map (·.1) := by
  obtain ⟨es, rfl, hpe⟩ := h.ent
  have hlt : (l.map (·.1)).Pairwise (fun a b => a < b) := List.pairwise_map.2 h.asc
  have hnd : (l.map (·.1)).Nodup := hlt.imp fun {a b} h e => lt_ne h e
  have hpk : ((DataW.map es : Mp)) = .map es := rfl
  have hperm : (l.map (·.1)).Perm (strKeys (DataW.map es : Mp)) := by
    have h1 : (strKeys (DataW.map es : Mp)).Perm (strKeys (DataW.map (l.map enc) : Mp)) := hpe.map _
    have h2 : strKeys (DataW.map (l.map enc) : Mp) = l.map (·.1) := by
      show (l.map enc).map _ = _
      rw [List.map_map]
      congr 1
    rw [← h2]
    exact h1.symm
  have e1 := mergeSort_of_perm (hp.trans hperm.symm)
  refine Eq.trans e1 (List.mergeSort_of_pairwise ?_)
  exact hlt.imp fun {a b} h => by simp only [decide_eq_true_eq]; exact List.le_of_lt h
/-! turns -/
def upT (o : Tn) : Tn := ⟨o.kind + 1, o.file, o.a, o.b⟩
theorem NSim.do_ (h : NSim D l) (o : Tn) : NSim (doM (upT o) D) (doR o l) := by
  unfold doM doR upT
  dsimp only
  by_cases h0 : o.kind = 0
  · rw [if_pos (by omega), if_pos h0]
    exact h.put _ _
  · rw [if_neg (by omega), if_neg h0]
    by_cases h1 : o.kind = 1
    · rw [if_pos (by omega), if_pos h1]
      rw [h.has]
      by_cases hx : ixN l o.a < l.length
      · rw [if_pos (decide_eq_true hx), if_pos hx, h.mget hx]
        exact (h.put _ _).del _
      · rw [if_neg (by simp; omega), if_neg hx]
        exact h
    · rw [if_neg (by omega), if_neg h1]
      by_cases h2 : o.kind = 2
      · rw [if_pos (by omega), if_pos h2]
        exact h.del _
      · rw [if_neg (by omega), if_neg h2]
        exact h
theorem bit01 (v : Int) : bits .and .i64 v 1 = 0 ∨ bits .and .i64 v 1 = 1 := by
  obtain ⟨n, hn, h1⟩ := i64_and_le v 1 (by omega)
  have hn2 : bits .and .i64 v 1 = (n : Int) := hn
  rw [hn2]
  omega
theorem ev_skip (keep : List Int) : evI (keep.headD 0) = !skipI keep := by
  cases keep with
  | nil => decide
  | cons v r =>
    show (bits .and .i64 v 1 == 0) = !(bits .and .i64 v 1 == 1)
    rcases bit01 v with h | h <;> rw [h] <;> decide
theorem NSim.crash : ∀ (ops : List Tn) {D : Mp} {l : List Nm} (keep : List Int), NSim D l → NSim (crashT (ops.map upT) D keep).1 (crashRT ops l keep)
  | [], D, l, keep, h => h
  | t :: r, D, l, keep, h => by
    rw [List.map_cons]
    unfold crashT crashRT
    refine NSim.crash r keep.tail ?_
    rw [ev_skip]
    cases skipI keep with
    | true => exact h
    | false => exact h.do_ t
theorem doR_asc {l : List Nm} (o : Tn) (h : Asc l) : Asc (doR o l) := by
  unfold doR
  split
  · exact withR_asc _ _ _ h
  · split
    · split
      · exact withoutR_asc _ (withR_asc _ _ _ h)
      · exact h
    · split
      · exact withoutR_asc _ h
      · exact h
theorem doR_mem {l : List Nm} {o : Tn} (h : Asc l) {q : Nm} (hq : q ∈ doR o l) : (∃ p ∈ l, p.2 = q.2) ∨ madeR q.2 o = true := by
  unfold doR at hq
  split at hq
  · rename_i h0
    rcases withR_mem h hq with rfl | ⟨h1, _⟩
    · exact .inr (by simp [madeR, h0])
    · exact .inl ⟨q, h1, rfl⟩
  · split at hq
    · split at hq
      · rename_i hx
        have h1 := (withoutR_mem (withR_asc _ _ _ h) hq).1
        rcases withR_mem h h1 with rfl | ⟨h2, _⟩
        · obtain ⟨i, h3, h4⟩ := ixN_at hx
          exact .inl ⟨(o.a, i), h4, by rw [h3]⟩
        · exact .inl ⟨q, h2, rfl⟩
      · exact .inl ⟨q, hq, rfl⟩
    · split at hq
      · exact .inl ⟨q, (withoutR_mem h hq).1, rfl⟩
      · exact .inl ⟨q, hq, rfl⟩
theorem crashRT_mem : ∀ (ops : List Tn) {l : List Nm} (keep : List Int), Asc l → ∀ {q : Nm}, q ∈ crashRT ops l keep → (∃ p ∈ l, p.2 = q.2) ∨ ops.any (madeR q.2) = true
  | [], l, keep, h, q, hq => .inl ⟨q, hq, rfl⟩
  | t :: r, l, keep, h, q, hq => by
    unfold crashRT at hq
    have hasc : Asc (if skipI keep = true then l else doR t l) := by
      split
      · exact h
      · exact doR_asc t h
    rcases crashRT_mem r keep.tail hasc hq with ⟨p, hp, e⟩ | h1
    · split at hp
      · exact .inl ⟨p, hp, e⟩
      · rcases doR_mem h hp with ⟨p2, hp2, e2⟩ | h2
        · exact .inl ⟨p2, hp2, e2.trans e⟩
        · exact .inr (List.any_eq_true.2 ⟨t, List.mem_cons_self, by rw [← e]; exact h2⟩)
    · rw [List.any_cons, h1, Bool.or_true]; exact .inr rfl
theorem withR_len2 (l : List Nm) (s : List UInt8) (f : Nat) (h : Asc l) : (withR l s f).length ≤ l.length + 1 := by
  rw [(withR_perm l s f h).length_eq, List.length_cons]
  have := List.length_filter_le (fun q : Nm => !decide (q.1 = s)) l
  omega
theorem withoutR_len (l : List Nm) (s : List UInt8) (h : Asc l) : (withoutR l s).length ≤ l.length := by
  rw [withoutR_filter l s h]
  exact List.length_filter_le _ _
/-- a name that leads somewhere, struck: one fewer -/
theorem withoutR_len1 {l : List Nm} {s : List UInt8} (h : Asc l) (hx : ixN l s < l.length) : (withoutR l s).length + 1 = l.length := by
  unfold withoutR
  rw [if_pos hx, List.length_append, List.length_take, List.length_drop]
  omega
theorem rename_len (l : List Nm) (a b : List UInt8) (f : Nat) (h : Asc l) (hx : ixN l a < l.length) (hab : a ≠ b) : (withoutR (withR l b f) a).length ≤ l.length := by
  obtain ⟨i, h1, h2⟩ := ixN_at hx
  have h3 : ixN (withR l b f) a < (withR l b f).length := ixN_lt.2 ⟨(a, i), (withR_perm l b f h).mem_iff.2 (List.mem_cons_of_mem _ (List.mem_filter.2 ⟨h2, by simp [hab]⟩)), rfl⟩
  have h4 := withoutR_len1 (withR_asc l b f h) h3
  have h5 := withR_len2 l b f h
  omega
theorem doR_len (o : Tn) (l : List Nm) (h : Asc l) : (doR o l).length ≤ l.length + 1 := by
  unfold doR
  split
  · exact withR_len2 _ _ _ h
  · split
    · split
      · exact Nat.le_trans (withoutR_len _ _ (withR_asc _ _ _ h)) (withR_len2 _ _ _ h)
      · omega
    · split
      · exact Nat.le_trans (withoutR_len _ _ h) (Nat.le_succ _)
      · omega
theorem crashRT_len : ∀ (ops : List Tn) {l : List Nm} (keep : List Int), Asc l → (crashRT ops l keep).length ≤ l.length + ops.length
  | [], l, keep, h => by unfold crashRT; simp
  | t :: r, l, keep, h => by
    unfold crashRT
    by_cases hs : skipI keep = true
    · rw [if_pos hs]
      have := crashRT_len r keep.tail h
      simp; omega
    · rw [if_neg hs]
      have h1 := crashRT_len r keep.tail (doR_asc t h)
      have h2 := doR_len t l h
      simp; omega
end Go.Proofs.Ytebhhfmekmpnkaa

/-
  The disk and the document's disk stand alike: plain laws. Each call.
-/
namespace Go.Proofs.Ytebhhfmekmpnkaa
open Go.RowKit Go.Maps
set_option linter.unusedVariables false
set_option linter.unusedSimpArgs false

structure Sm (k : Nat) (d : Dk) (r : Rk) : Prop where
  rfb : ∀ f ∈ r.files, f.b.length ≤ 250000 ∧ f.last ≤ f.b.length
  qt : d.quota = r.quota
  fl : d.files.length = r.files.length
  fs : ∀ j, leadsR r j = true → d.files[j]? = r.files[j]?
  lt : ∀ j, leadsR r j = true → j < r.files.length
  nm : NSim d.names r.now
  la : NSim d.lasted r.last
  tn : d.turns = r.ops.map upT
  cl : d.calls = r.calls
  dd : d.dead = r.dead
  st : d.stop = r.left.toNat
  l1 : -1 ≤ r.left
  l2 : r.left ≤ 9223372036854775807
  fa : d.fail = r.fail
  b1 : r.files.length ≤ k
  b2 : r.now.length ≤ k
  b3 : r.last.length + r.ops.length ≤ k
  b4 : r.calls ≤ k
  nb : ∀ t ∈ r.ops, t.a.length ≤ 9223372036854775807 ∧ t.b.length ≤ 9223372036854775807
variable {k k' : Nat} {d d' : Dk} {r r' : Rk}
theorem leads_eq {r r' : Rk} (e1 : r'.now = r.now) (e2 : r'.last = r.last) (e3 : r'.ops = r.ops) (j : Nat) : leadsR r' j = leadsR r j := by unfold leadsR; rw [e1, e2, e3]
theorem Sm.mono (h : Sm k d r) (hk : k ≤ k') : Sm k' d r :=
  ⟨h.rfb, h.qt, h.fl, h.fs, h.lt, h.nm, h.la, h.tn, h.cl, h.dd, h.st, h.l1, h.l2, h.fa, Nat.le_trans h.b1 hk, Nat.le_trans h.b2 hk, Nat.le_trans h.b3 hk, Nat.le_trans h.b4 hk, h.nb⟩
theorem Sm.heads (h : Sm k d r) (hk : k ≤ k') (ed : d'.files = d.files ∧ d'.names = d.names ∧ d'.lasted = d.lasted ∧ d'.turns = d.turns ∧ d'.quota = d.quota) (er : r'.files = r.files ∧ r'.now = r.now ∧ r'.last = r.last ∧ r'.ops = r.ops ∧ r'.quota = r.quota)
    (cl : d'.calls = r'.calls) (dd : d'.dead = r'.dead) (st : d'.stop = r'.left.toNat) (l1 : -1 ≤ r'.left) (l2 : r'.left ≤ 9223372036854775807) (fa : d'.fail = r'.fail) (b4 : r'.calls ≤ k') : Sm k' d' r' := by
  obtain ⟨a1, a2, a3, a4, a5⟩ := ed
  obtain ⟨c1, c2, c3, c4, c5⟩ := er
  exact ⟨by rw [c1]; exact h.rfb, by rw [a5, c5]; exact h.qt, by rw [a1, c1]; exact h.fl, fun j hj => by rw [leads_eq c2 c3 c4] at hj; rw [a1, c1]; exact h.fs j hj, fun j hj => by rw [leads_eq c2 c3 c4] at hj; rw [c1]; exact h.lt j hj,
    by rw [a2, c2]; exact h.nm, by rw [a3, c3]; exact h.la, by rw [a4, c4]; exact h.tn, cl, dd, st, l1, l2, fa, by rw [c1]; exact Nat.le_trans h.b1 hk, by rw [c2]; exact Nat.le_trans h.b2 hk, by rw [c3, c4]; exact Nat.le_trans h.b3 hk, b4, by rw [c4]; exact h.nb⟩
theorem Sm.callS (h : Sm k d r) : Sm k (callS d) (callRS r) := by
  have h1 := h.l1
  have h2 := h.l2
  have h3 := h.st
  unfold Go.Proofs.Ytebhhfmekmpnkaa.callS callRS
  by_cases h0 : r.left ≤ 0
  · rw [if_pos h0, if_pos (by omega)]
    exact h
  · rw [if_neg h0, if_neg (by omega)]
    exact h.heads (Nat.le_refl _) ⟨rfl, rfl, rfl, rfl, rfl⟩ ⟨rfl, rfl, rfl, rfl, rfl⟩ h.cl (by
      show decide (d.stop - 1 = 0) = decide (r.left - 1 = 0)
      exact decide_eq_decide.2 (by omega)) (by show d.stop - 1 = (r.left - 1).toNat; omega) (by show -1 ≤ r.left - 1; omega) (by show r.left - 1 ≤ _; omega) h.fa h.b4
theorem Sm.call (h : Sm k d r) : (callD d).2 = (callR r).2 ∧ Sm (k + 1) (callD d).1 (callR r).1 := by
  have h0 : Sm (k + 1) { d with calls := d.calls + 1 } { r with calls := r.calls + 1 } :=
    h.heads (Nat.le_succ _) ⟨rfl, rfl, rfl, rfl, rfl⟩ ⟨rfl, rfl, rfl, rfl, rfl⟩ (by show d.calls + 1 = r.calls + 1; rw [h.cl]) h.dd h.st h.l1 h.l2 h.fa (Nat.succ_le_succ h.b4)
  have h1 := h0.callS
  have e1 := h.dd
  have e2 := h.fa
  unfold callD callR
  by_cases hd : r.dead = true
  · rw [if_pos hd, if_pos (e1.trans hd)]
    exact ⟨rfl, h0⟩
  · rw [if_neg hd, if_neg (by rw [e1]; exact hd)]
    by_cases h2 : r.fail = 0
    · rw [if_pos h2, if_pos (e2.trans h2)]
      exact ⟨rfl, h1⟩
    · rw [if_neg h2, if_neg (by rw [e2]; exact h2)]
      by_cases h3 : r.fail = 1
      · rw [if_pos h3, if_pos (e2.trans h3)]
        exact ⟨rfl, h1.heads (Nat.le_refl _) ⟨rfl, rfl, rfl, rfl, rfl⟩ ⟨rfl, rfl, rfl, rfl, rfl⟩ h1.cl h1.dd h1.st h1.l1 h1.l2 rfl h1.b4⟩
      · rw [if_neg h3, if_neg (by rw [e2]; exact h3)]
        exact ⟨rfl, h1.heads (Nat.le_refl _) ⟨rfl, rfl, rfl, rfl, rfl⟩ ⟨rfl, rfl, rfl, rfl, rfl⟩ h1.cl h1.dd h1.st h1.l1 h1.l2 (by show d.fail - 1 = r.fail - 1; rw [e2]) h1.b4⟩
def aftD (L : List (List UInt8)) (d : Dk) (f : Dk → Dk × Nat) : Dk × Nat := if L.all nameB = false then (d, 10) else if (callD d).2 ≠ 0 then callD d else f (callD d).1
def Res (k : Nat) (x : Dk × Nat) (y : Rk × Nat) : Prop := x.2 = y.2 ∧ Sm k x.1 y.1
theorem Sm.after (h : Sm k d r) (L : List (List UInt8)) {f : Dk → Dk × Nat} {g : Rk → Rk × Nat} (hf : ∀ d1 r1, Sm (k + 1) d1 r1 → Res (k + 2) (f d1) (g r1)) : Res (k + 2) (aftD L d f) (afterR L r g) := by
  unfold aftD afterR
  by_cases h0 : L.all nameB = false
  · rw [if_pos h0, if_pos h0]
    exact ⟨rfl, h.mono (by omega)⟩
  · rw [if_neg h0, if_neg h0]
    obtain ⟨h1, h2⟩ := h.call
    rw [h1]
    by_cases h3 : (callR r).2 ≠ 0
    · rw [if_pos h3, if_pos h3]
      exact ⟨h1, h2.mono (by omega)⟩
    · rw [if_neg h3, if_neg h3]
      exact hf _ _ h2
theorem aft_one (L : List (List UInt8)) (d : Dk) : (L.all nameB = false → callN L d = (d, 10)) ∧ (¬ L.all nameB = false → callN L d = callD d) := by
  constructor
  · intro h; unfold callN; rw [if_neg (by simp [h])]
  · intro h; unfold callN; rw [if_pos (by simpa using h)]
def createD1 (s : List UInt8) (d : Dk) : Dk × Nat :=
  if Maps.has d.names (nk s) = true then (d, 12)
  else if 64 ≤ Maps.size d.names then (d, 65)
  else ({ d with names := d.names.put (nk s) (fiv d.files.length), turns := d.turns ++ [⟨1, d.files.length, s, []⟩], files := d.files ++ [⟨[], 0⟩] }, 0)
def removeD1 (s : List UInt8) (d : Dk) : Dk × Nat :=
  if Maps.has d.names (nk s) = false then (d, 11)
  else ({ d with names := doM ⟨3, 0, s, []⟩ d.names, turns := d.turns ++ [⟨3, 0, s, []⟩] }, 0)
def renameD1 (a b : List UInt8) (d : Dk) : Dk × Nat :=
  if Maps.has d.names (nk a) = false then (d, 11)
  else if a = b then (d, 0)
  else ({ d with names := doM ⟨2, 0, a, b⟩ d.names, turns := d.turns ++ [⟨2, 0, a, b⟩] }, 0)
def syncDirD1 (d : Dk) : Dk × Nat := ({ d with lasted := d.names, turns := [] }, 0)
def appendD1 (s b : List UInt8) (d : Dk) : Dk × Nat :=
  match findI d s with
  | none => (d, 11)
  | some i =>
    if 250000 < b.length ∨ 250000 < (fileOf d i).b.length + b.length then (d, 2)
    else if d.quota < usedD d + b.length then (d, 15)
    else ({ d with files := d.files.set i ⟨(fileOf d i).b ++ b, (fileOf d i).last⟩ }, 0)
def syncD1 (s : List UInt8) (d : Dk) : Dk × Nat :=
  match findI d s with
  | none => (d, 11)
  | some i => ({ d with files := d.files.set i ⟨(fileOf d i).b, (fileOf d i).b.length⟩ }, 0)
theorem createD_aft (d : Dk) (s : List UInt8) : createD d s = aftD [s] d (createD1 s) := by
  obtain ⟨c1, c2⟩ := aft_one [s] d
  obtain ⟨h1, h2, h3, h4, h5, -⟩ := callD_same d
  unfold createD aftD
  by_cases h0 : [s].all nameB = false
  · rw [if_pos h0, c1 h0]; rfl
  · rw [if_neg h0, c2 h0]
    unfold createD1
    rw [h1, h2, h4]
theorem removeD_aft (d : Dk) (s : List UInt8) : removeD d s = aftD [s] d (removeD1 s) := by
  obtain ⟨c1, c2⟩ := aft_one [s] d
  obtain ⟨h1, h2, h3, h4, h5, -⟩ := callD_same d
  unfold removeD aftD
  by_cases h0 : [s].all nameB = false
  · rw [if_pos h0, c1 h0]; rfl
  · rw [if_neg h0, c2 h0]
    unfold removeD1
    rw [h2, h4]
theorem renameD_aft (d : Dk) (a b : List UInt8) : renameD d a b = aftD [a, b] d (renameD1 a b) := by
  obtain ⟨c1, c2⟩ := aft_one [a, b] d
  obtain ⟨h1, h2, h3, h4, h5, -⟩ := callD_same d
  unfold renameD aftD
  by_cases h0 : [a, b].all nameB = false
  · rw [if_pos h0, c1 h0]; rfl
  · rw [if_neg h0, c2 h0]
    unfold renameD1
    rw [h2, h4]
theorem syncDirD_aft (d : Dk) : syncDirD d = aftD [] d syncDirD1 := by
  obtain ⟨h1, h2, h3, h4, h5, -⟩ := callD_same d
  unfold syncDirD aftD
  rw [if_neg (show ¬ [].all nameB = false by simp)]
  unfold syncDirD1
  rw [← h2]
theorem find_call (d : Dk) (s : List UInt8) : findI (callD d).1 s = findI d s := by
  obtain ⟨h1, h2, h3, h4, h5, -⟩ := callD_same d
  unfold findI
  rw [h2]
theorem file_call (d : Dk) (i : Nat) : fileOf (callD d).1 i = fileOf d i := by
  obtain ⟨h1, h2, h3, h4, h5, -⟩ := callD_same d
  unfold fileOf
  rw [h1]
theorem used_call (d : Dk) : usedD (callD d).1 = usedD d := by
  obtain ⟨h1, h2, h3, h4, h5, -⟩ := callD_same d
  unfold usedD
  rw [h1, h2]
theorem appendD_aft (d : Dk) (s b : List UInt8) : appendD d s b = aftD [s] d (appendD1 s b) := by
  obtain ⟨c1, c2⟩ := aft_one [s] d
  obtain ⟨h1, h2, h3, h4, h5, -⟩ := callD_same d
  unfold appendD aftD
  by_cases h0 : [s].all nameB = false
  · rw [if_pos h0, c1 h0]; rfl
  · rw [if_neg h0, c2 h0]
    unfold appendD1
    rw [find_call]
    by_cases h6 : (callD d).2 ≠ 0
    · rw [if_pos h6, if_pos h6]
    · rw [if_neg h6, if_neg h6]
      cases findI d s with
      | none => rfl
      | some i =>
        dsimp only
        rw [file_call, used_call, h5, h1]
theorem syncD_aft (d : Dk) (s : List UInt8) : syncD d s = aftD [s] d (syncD1 s) := by
  obtain ⟨c1, c2⟩ := aft_one [s] d
  obtain ⟨h1, h2, h3, h4, h5, -⟩ := callD_same d
  unfold syncD aftD
  by_cases h0 : [s].all nameB = false
  · rw [if_pos h0, c1 h0]; rfl
  · rw [if_neg h0, c2 h0]
    unfold syncD1
    rw [find_call]
    by_cases h6 : (callD d).2 ≠ 0
    · rw [if_pos h6, if_pos h6]
    · rw [if_neg h6, if_neg h6]
      cases findI d s with
      | none => rfl
      | some i =>
        dsimp only
        rw [file_call, h1]
/-! what leads -/
theorem lead_now {p : Nm} (hp : p ∈ r.now) : leadsR r p.2 = true := by
  unfold leadsR
  rw [List.any_eq_true.2 ⟨p, hp, by simp⟩]; rfl
theorem lead_iff (r : Rk) (j : Nat) : leadsR r j = true ↔ (∃ p ∈ r.now, p.2 = j) ∨ (∃ p ∈ r.last, p.2 = j) ∨ ∃ t ∈ r.ops, madeR j t = true := by
  unfold leadsR
  simp [Bool.or_eq_true, List.any_eq_true]
theorem Sm.lead (h : Sm k d r) (i : Nat) : ledB d i = leadsR r i := by
  unfold ledB leadsR
  rw [h.nm.valIn, h.la.valIn, h.tn, List.any_map]
  have e : (madeT i ∘ upT) = madeR i := by
    funext t
    show (decide (t.kind + 1 = 1) && decide (t.file = i)) = (decide (t.kind = 0) && decide (t.file = i))
    congr 1
    exact decide_eq_decide.2 (by omega)
  rw [e, Bool.or_comm, Bool.or_assoc]
theorem Sm.find (h : Sm k d r) (s : List UInt8) : findI d s = if ixN r.now s < r.now.length then some (fidR r s) else none := by
  unfold findI fidR
  rw [h.nm.has]
  by_cases hx : ixN r.now s < r.now.length
  · rw [if_pos (decide_eq_true hx), if_pos hx, h.nm.mget hx]
  · rw [if_neg (by simp; omega), if_neg hx]
theorem Sm.fid (h : Sm k d r) {s : List UInt8} (hx : ixN r.now s < r.now.length) : leadsR r (fidR r s) = true ∧ fidR r s < r.files.length ∧ fileOf d (fidR r s) = filR r (fidR r s) ∧ filR r (fidR r s) ∈ r.files := by
  obtain ⟨i, h1, h2⟩ := ixN_at hx
  have e : fidR r s = i := by unfold fidR; rw [h1]
  have h3 : leadsR r i = true := lead_now h2
  have h4 := h.lt i h3
  refine ⟨by rw [e]; exact h3, by rw [e]; exact h4, ?_, ?_⟩
  · unfold fileOf filR
    rw [e, List.getD_eq_getElem?_getD, List.getD_eq_getElem?_getD, h.fs i h3]
  · unfold filR
    rw [e, List.getD_eq_getElem?_getD, List.getElem?_eq_getElem h4]
    exact List.getElem_mem h4
theorem Sm.used (h : Sm k d r) : usedD d = usedR r := by
  unfold usedD usedR
  rw [h.nm.used]
  unfold usedRS
  congr 1
  refine List.map_congr_left fun p hp => ?_
  rw [List.getD_eq_getElem?_getD, List.getD_eq_getElem?_getD, h.fs p.2 (lead_now hp)]
theorem Sm.usedO (h : Sm k d r) : usedO d = usedRO r := by
  unfold Go.Proofs.Ytebhhfmekmpnkaa.usedO usedRO
  rw [h.dd, h.used]
theorem Sm.read (h : Sm k d r) (s : List UInt8) : readD d s = readR r s := by
  unfold readD readR
  rw [h.dd, h.find]
  split
  · rfl
  · split
    · rfl
    · by_cases hx : ixN r.now s < r.now.length
      · rw [if_pos hx, if_pos hx]
        dsimp only
        rw [(h.fid hx).2.2.1]
      · rw [if_neg hx, if_neg hx]
theorem Sm.list (h : Sm k d r) (hd : d.dead = false) {ss : List (List UInt8)} (hp : ss.Perm (strKeys d.names)) : ss.mergeSort (fun x y => decide (x ≤ y)) = listR r := by
  rw [h.nm.keys hp]
  unfold listR
  rw [if_neg (by rw [← h.dd, hd]; simp)]
theorem set_both {fs gs : List Fi} (hl : fs.length = gs.length) {S : Nat → Bool} (h : ∀ j, S j = true → fs[j]? = gs[j]?) (i : Nat) (x : Fi) : ∀ j, S j = true → (fs.set i x)[j]? = (gs.set i x)[j]? := fun j hj => by
  rw [List.getElem?_set, List.getElem?_set, hl]
  split
  · rfl
  · exact h j hj
theorem Sm.setF (h : Sm k d r) (i : Nat) (x : Fi) (hx : x.b.length ≤ 250000 ∧ x.last ≤ x.b.length) : Sm k { d with files := d.files.set i x } { r with files := r.files.set i x } :=
  ⟨fun f hf => (List.mem_or_eq_of_mem_set hf).elim (h.rfb f) (fun e => e ▸ hx), h.qt, by show (d.files.set i x).length = (r.files.set i x).length; rw [List.length_set, List.length_set]; exact h.fl,
    fun j hj => set_both h.fl h.fs i x j hj, fun j hj => by show j < (r.files.set i x).length; rw [List.length_set]; exact h.lt j hj, h.nm, h.la, h.tn, h.cl, h.dd, h.st, h.l1, h.l2, h.fa, by show (r.files.set i x).length ≤ k; rw [List.length_set]; exact h.b1, h.b2, h.b3, h.b4, h.nb⟩
theorem Sm.append (h : Sm k d r) (s b : List UInt8) : Res (k + 2) (appendD d s b) (appendR r s b) := by
  rw [appendD_aft]
  refine h.after _ fun d1 r1 h1 => ?_
  unfold appendD1 appendR1
  rw [h1.find]
  by_cases hx : ixN r1.now s < r1.now.length
  · rw [if_pos hx, if_pos hx]
    obtain ⟨g1, g2, g3, g4⟩ := h1.fid hx
    dsimp only
    rw [g3]
    have hb := h1.rfb _ g4
    have hqu : (d1.quota < usedD d1 + b.length) ↔ (r1.quota < usedR r1 + b.length) := by rw [h1.used, h1.qt]
    by_cases h2 : 250000 < (filR r1 (fidR r1 s)).b.length + b.length
    · rw [if_pos (.inr h2), if_pos h2]
      exact ⟨rfl, h1.mono (by omega)⟩
    · rw [if_neg (by omega), if_neg h2]
      by_cases h3 : r1.quota < usedR r1 + b.length
      · rw [if_pos (hqu.2 h3), if_pos h3]
        exact ⟨rfl, h1.mono (by omega)⟩
      · rw [if_neg (fun e => h3 (hqu.1 e)), if_neg h3]
        exact ⟨rfl, (h1.setF (fidR r1 s) ⟨(filR r1 (fidR r1 s)).b ++ b, (filR r1 (fidR r1 s)).last⟩ ⟨by show ((filR r1 (fidR r1 s)).b ++ b).length ≤ _; rw [List.length_append]; omega, by show _ ≤ ((filR r1 (fidR r1 s)).b ++ b).length; rw [List.length_append]; exact Nat.le_trans hb.2 (Nat.le_add_right _ _)⟩).mono (Nat.le_succ _)⟩
  · rw [if_neg hx, if_neg hx]
    exact ⟨rfl, h1.mono (by omega)⟩
theorem Sm.sync (h : Sm k d r) (s : List UInt8) : Res (k + 2) (syncD d s) (syncR r s) := by
  rw [syncD_aft]
  refine h.after _ fun d1 r1 h1 => ?_
  unfold syncD1 syncR1
  rw [h1.find]
  by_cases hx : ixN r1.now s < r1.now.length
  · rw [if_pos hx, if_pos hx]
    obtain ⟨g1, g2, g3, g4⟩ := h1.fid hx
    dsimp only
    rw [g3]
    have hb := h1.rfb _ g4
    exact ⟨rfl, (h1.setF (fidR r1 s) ⟨(filR r1 (fidR r1 s)).b, (filR r1 (fidR r1 s)).b.length⟩ ⟨hb.1, Nat.le_refl _⟩).mono (by omega)⟩
  · rw [if_neg hx, if_neg hx]
    exact ⟨rfl, h1.mono (by omega)⟩
theorem Sm.syncDir (h : Sm k d r) : Res (k + 2) (syncDirD d) (syncDirR r) := by
  rw [syncDirD_aft]
  refine h.after _ fun d1 r1 h1 => ?_
  unfold syncDirD1 syncDirR1
  have hl : ∀ j, leadsR { r1 with last := r1.now, ops := [] } j = true → leadsR r1 j = true := fun j hj => by
    rw [lead_iff] at hj ⊢
    rcases hj with h | h | ⟨t, ht, _⟩
    · exact .inl h
    · exact .inl h
    · cases ht
  exact ⟨rfl, h1.rfb, h1.qt, h1.fl, fun j hj => h1.fs j (hl j hj), fun j hj => h1.lt j (hl j hj), h1.nm, h1.nm, rfl, h1.cl, h1.dd, h1.st, h1.l1, h1.l2, h1.fa, Nat.le_succ_of_le h1.b1, Nat.le_succ_of_le h1.b2, by show r1.now.length + 0 ≤ _; have := h1.b2; omega, Nat.le_succ_of_le h1.b4, fun t ht => (by cases ht)⟩
/-- names have turned, and that is told -/
theorem Sm.turn (h : Sm k d r) (l : List Nm) (o : Tn) {D : Mp} (hn : NSim D l) (hl : l.length ≤ k + 1) (hm : ∀ q ∈ l, leadsR r q.2 = true) (ho : o.kind ≠ 0) (hna : o.a.length ≤ 9223372036854775807 ∧ o.b.length ≤ 9223372036854775807) : Sm (k + 1) { d with names := D, turns := d.turns ++ [upT o] } { r with now := l, ops := r.ops ++ [o] } := by
  have hld : ∀ j, leadsR { r with now := l, ops := r.ops ++ [o] } j = true → leadsR r j = true := fun j hj => by
    rw [lead_iff] at hj
    rcases hj with ⟨p, hp, rfl⟩ | h2 | ⟨t, ht, h2⟩
    · exact hm p hp
    · exact (lead_iff _ _).2 (.inr (.inl h2))
    · rcases List.mem_append.1 ht with ht | ht
      · exact (lead_iff _ _).2 (.inr (.inr ⟨t, ht, h2⟩))
      · rw [List.mem_singleton] at ht
        subst ht
        simp [madeR, ho] at h2
  exact ⟨h.rfb, h.qt, h.fl, fun j hj => h.fs j (hld j hj), fun j hj => h.lt j (hld j hj), hn, h.la, by show d.turns ++ [upT o] = _; rw [h.tn, List.map_append]; rfl, h.cl, h.dd, h.st, h.l1, h.l2, h.fa, Nat.le_succ_of_le h.b1, hl, by show r.last.length + (r.ops ++ [o]).length ≤ _; rw [List.length_append]; have := h.b3; simp; omega, Nat.le_succ_of_le h.b4, fun t ht => (List.mem_append.1 ht).elim (h.nb t) (fun h9 => by rw [List.mem_singleton] at h9; subst h9; exact hna)⟩
theorem Sm.remove (h : Sm k d r) (s : List UInt8) (hs : s.length ≤ 9223372036854775807) : Res (k + 2) (removeD d s) (removeR r s) := by
  rw [removeD_aft]
  refine h.after _ fun d1 r1 h1 => ?_
  unfold removeD1 removeR1
  rw [h1.nm.has]
  by_cases hx : ixN r1.now s < r1.now.length
  · rw [if_neg (by simp [hx]), if_pos hx]
    have hn := h1.nm.do_ ⟨2, 0, s, []⟩
    have e : doR ⟨2, 0, s, []⟩ r1.now = withoutR r1.now s := rfl
    rw [e] at hn
    exact ⟨rfl, h1.turn (withoutR r1.now s) ⟨2, 0, s, []⟩ hn (by have := withoutR_len r1.now s h1.nm.asc; have := h1.b2; omega) (fun q hq => lead_now (withoutR_mem h1.nm.asc hq).1) (Nat.succ_ne_zero 1) ⟨hs, Nat.zero_le _⟩⟩
  · rw [if_pos (by simp; omega), if_neg hx]
    exact ⟨rfl, h1.mono (by omega)⟩
theorem Sm.rename (h : Sm k d r) (a b : List UInt8) (ha : a.length ≤ 9223372036854775807) (hb : b.length ≤ 9223372036854775807) : Res (k + 2) (renameD d a b) (renameR r a b) := by
  rw [renameD_aft]
  refine h.after _ fun d1 r1 h1 => ?_
  unfold renameD1 renameR1
  rw [h1.nm.has]
  by_cases hx : ixN r1.now a < r1.now.length
  · rw [if_neg (by simp [hx]), if_pos hx]
    by_cases hab : a = b
    · rw [if_pos hab, if_pos hab]
      exact ⟨rfl, h1.mono (by omega)⟩
    · rw [if_neg hab, if_neg hab]
      have hn := h1.nm.do_ ⟨1, 0, a, b⟩
      have e : doR ⟨1, 0, a, b⟩ r1.now = withoutR (withR r1.now b (fidR r1 a)) a := by
        unfold doR
        dsimp only
        rw [if_neg (by decide), if_pos rfl, if_pos hx]
        rfl
      rw [e] at hn
      refine ⟨rfl, h1.turn _ ⟨1, 0, a, b⟩ hn (by have := rename_len r1.now a b (fidR r1 a) h1.nm.asc hx hab; have := h1.b2; omega) (fun q hq => ?_) (Nat.succ_ne_zero 0) ⟨ha, hb⟩⟩
      have h2 := (withoutR_mem (withR_asc _ _ _ h1.nm.asc) hq).1
      rcases withR_mem h1.nm.asc h2 with rfl | ⟨h3, _⟩
      · exact (h1.fid hx).1
      · exact lead_now h3
  · rw [if_pos (by simp; omega), if_neg hx]
    exact ⟨rfl, h1.mono (by omega)⟩
theorem Sm.create (h : Sm k d r) (s : List UInt8) (hs : s.length ≤ 9223372036854775807) : Res (k + 2) (createD d s) (createR r s) := by
  rw [createD_aft]
  refine h.after _ fun d1 r1 h1 => ?_
  unfold createD1 createR1
  rw [h1.nm.has, h1.nm.size]
  by_cases hx : ixN r1.now s < r1.now.length
  · rw [if_pos (by simp [hx]), if_pos hx]
    exact ⟨rfl, h1.mono (by omega)⟩
  · rw [if_neg (by simp; omega), if_neg hx]
    by_cases h2 : 64 ≤ r1.now.length
    · rw [if_pos h2, if_pos h2]
      exact ⟨rfl, h1.mono (by omega)⟩
    · rw [if_neg h2, if_neg h2]
      have hfl := h1.fl
      have hld : ∀ j, leadsR { r1 with files := r1.files ++ [⟨[], 0⟩], now := withR r1.now s r1.files.length, ops := r1.ops ++ [⟨0, r1.files.length, s, []⟩] } j = true → leadsR r1 j = true ∨ j = r1.files.length := fun j hj => by
        rw [lead_iff] at hj
        rcases hj with ⟨p, hp, rfl⟩ | h3 | ⟨t, ht, h3⟩
        · rcases withR_mem h1.nm.asc hp with rfl | ⟨h4, _⟩
          · exact .inr rfl
          · exact .inl (lead_now h4)
        · exact .inl ((lead_iff _ _).2 (.inr (.inl h3)))
        · rcases List.mem_append.1 ht with ht | ht
          · exact .inl ((lead_iff _ _).2 (.inr (.inr ⟨t, ht, h3⟩)))
          · rw [List.mem_singleton] at ht
            subst ht
            unfold madeR at h3
            have h4 := (Bool.and_eq_true_iff.1 h3).2
            exact .inr (of_decide_eq_true h4).symm
      have hn : NSim (d1.names.put (nk s) (fiv d1.files.length)) (withR r1.now s r1.files.length) := by rw [hfl]; exact h1.nm.put _ _
      refine ⟨rfl, fun f hf => ?_, h1.qt, ?_, fun j hj => ?_, fun j hj => ?_, hn, h1.la, ?_, h1.cl, h1.dd, h1.st, h1.l1, h1.l2, h1.fa, ?_, ?_, ?_, Nat.le_succ_of_le h1.b4, fun t ht => (List.mem_append.1 ht).elim (h1.nb t) (fun h9 => by rw [List.mem_singleton] at h9; subst h9; exact ⟨hs, Nat.zero_le _⟩)⟩
      · rcases List.mem_append.1 hf with hf | hf
        · exact h1.rfb f hf
        · rw [List.mem_singleton] at hf; subst hf; exact ⟨Nat.zero_le _, Nat.le_refl _⟩
      · show (d1.files ++ [_]).length = (r1.files ++ [_]).length
        rw [List.length_append, List.length_append, hfl]
      · show (d1.files ++ [_])[j]? = (r1.files ++ [_])[j]?
        rcases hld j hj with h3 | rfl
        · have h4 := h1.lt j h3
          rw [List.getElem?_append_left (by omega), List.getElem?_append_left h4]
          exact h1.fs j h3
        · rw [List.getElem?_append_right (by omega), List.getElem?_append_right (Nat.le_refl _), hfl]
      · show j < (r1.files ++ [_]).length
        rw [List.length_append, List.length_singleton]
        rcases hld j hj with h3 | rfl
        · have := h1.lt j h3; omega
        · omega
      · show d1.turns ++ [_] = (r1.ops ++ [_]).map upT
        rw [h1.tn, List.map_append, hfl]; rfl
      · show (r1.files ++ [_]).length ≤ _
        rw [List.length_append, List.length_singleton]; have := h1.b1; omega
      · have := withR_len2 r1.now s r1.files.length h1.nm.asc
        have := h1.b2
        show (withR r1.now s r1.files.length).length ≤ _
        omega
      · show r1.last.length + (r1.ops ++ [_]).length ≤ _
        rw [List.length_append, List.length_singleton]; have := h1.b3; omega
theorem Sm.stop (h : Sm k d r) (n : Int) (hn : n ≤ 9223372036854775807) : Sm k (stopD d n) (stopR r n) :=
  h.heads (Nat.le_refl _) ⟨rfl, rfl, rfl, rfl, rfl⟩ ⟨rfl, rfl, rfl, rfl, rfl⟩ h.cl (by show (d.dead || _) = (r.dead || _); rw [h.dd]) (by show n.toNat = (max n (-1)).toNat; omega) (by show -1 ≤ max n (-1); omega) (by show max n (-1) ≤ _; omega) h.fa h.b4
theorem Sm.fail (h : Sm k d r) (n : Nat) : Sm k { d with fail := n } { r with fail := n } :=
  h.heads (Nat.le_refl _) ⟨rfl, rfl, rfl, rfl, rfl⟩ ⟨rfl, rfl, rfl, rfl, rfl⟩ h.cl h.dd h.st h.l1 h.l2 rfl h.b4
theorem crashF_sim (ld : Nat → Bool) : ∀ (m i : Nat) (fs gs : List Fi) (keep : List Int), fs.length = gs.length → (∀ j, ld j = true → fs[j]? = gs[j]?) → (∀ f ∈ gs, f.b.length ≤ 250000 ∧ f.last ≤ f.b.length) →
    (crashF ((List.range' i m).filter ld) fs keep).2 = (crashRF ld m i gs keep).2 ∧ (crashF ((List.range' i m).filter ld) fs keep).1.length = (crashRF ld m i gs keep).1.length ∧ (∀ j, ld j = true → (crashF ((List.range' i m).filter ld) fs keep).1[j]? = (crashRF ld m i gs keep).1[j]?) ∧
      (∀ f ∈ (crashRF ld m i gs keep).1, f.b.length ≤ 250000 ∧ f.last ≤ f.b.length) ∧ (crashRF ld m i gs keep).1.length = gs.length
  | 0, i, fs, gs, keep, hl, hf, hb => ⟨rfl, hl, hf, hb, rfl⟩
  | m + 1, i, fs, gs, keep, hl, hf, hb => by
    rw [List.range'_succ, List.filter_cons]
    unfold crashRF
    have hgb : (gs.getD i ⟨[], 0⟩).b.length ≤ 250000 ∧ (gs.getD i ⟨[], 0⟩).last ≤ (gs.getD i ⟨[], 0⟩).b.length := by
      rw [List.getD_eq_getElem?_getD]
      cases hx : gs[i]? with
      | none => exact ⟨Nat.zero_le _, Nat.le_refl _⟩
      | some x => exact hb x (List.mem_of_getElem? hx)
    have hset : ∀ z : Fi, (z.b.length ≤ 250000 ∧ z.last ≤ z.b.length) → ∀ f ∈ gs.set i z, f.b.length ≤ 250000 ∧ f.last ≤ f.b.length := fun z hz f hf => (List.mem_or_eq_of_mem_set hf).elim (hb f) (fun e => e ▸ hz)
    by_cases hi : ld i = true
    · rw [if_pos hi]
      have hx : fs.getD i ⟨[], 0⟩ = gs.getD i ⟨[], 0⟩ := by rw [List.getD_eq_getElem?_getD, List.getD_eq_getElem?_getD, hf i hi]
      unfold crashF
      rw [hx]
      by_cases h0 : keepRest (gs.getD i ⟨[], 0⟩) = 0
      · rw [if_pos h0]
        have e1 : cutR (gs.getD i ⟨[], 0⟩) (ld i) keep = ⟨(gs.getD i ⟨[], 0⟩).b, (gs.getD i ⟨[], 0⟩).b.length⟩ := by unfold cutR; rw [if_neg (fun h9 => h9.1 h0)]
        have e2 : ksR (gs.getD i ⟨[], 0⟩) (ld i) keep = keep := by unfold ksR; rw [if_neg (fun h9 => h9.1 h0)]
        rw [e1, e2]
        have e3 : (⟨(gs.getD i ⟨[], 0⟩).b, (gs.getD i ⟨[], 0⟩).b.length⟩ : Fi) = gs.getD i ⟨[], 0⟩ := by
          unfold keepRest at h0
          have : (gs.getD i ⟨[], 0⟩).b.length = (gs.getD i ⟨[], 0⟩).last := by omega
          rw [this]
        rw [e3]
        have hsame : gs.set i (gs.getD i ⟨[], 0⟩) = gs := by
          by_cases hlt : i < gs.length
          · rw [List.getD_eq_getElem?_getD, List.getElem?_eq_getElem hlt]
            exact List.set_getElem_self hlt
          · exact List.set_eq_of_length_le (by omega)
        rw [hsame]
        exact crashF_sim ld m (i + 1) fs gs keep hl hf hb
      · rw [if_neg h0]
        have e1 : cutR (gs.getD i ⟨[], 0⟩) (ld i) keep = crash1 (gs.getD i ⟨[], 0⟩) (keep.headD (keepRest (gs.getD i ⟨[], 0⟩) : Int)) := by unfold cutR; rw [if_pos ⟨h0, hi⟩]
        have e2 : ksR (gs.getD i ⟨[], 0⟩) (ld i) keep = keep.tail := by unfold ksR; rw [if_pos ⟨h0, hi⟩]
        rw [e1, e2]
        have hc := crash1_ok (keep.headD (keepRest (gs.getD i ⟨[], 0⟩) : Int)) hgb
        have h2 := crashF_sim ld m (i + 1) (fs.set i (crash1 (gs.getD i ⟨[], 0⟩) (keep.headD (keepRest (gs.getD i ⟨[], 0⟩) : Int)))) (gs.set i (crash1 (gs.getD i ⟨[], 0⟩) (keep.headD (keepRest (gs.getD i ⟨[], 0⟩) : Int)))) keep.tail (by rw [List.length_set, List.length_set]; exact hl) (set_both hl hf _ _) (hset _ ⟨hc.1, Nat.le_of_eq hc.2.1⟩)
        rw [List.length_set] at h2
        exact h2
    · rw [if_neg hi]
      have e1 : cutR (gs.getD i ⟨[], 0⟩) (ld i) keep = ⟨(gs.getD i ⟨[], 0⟩).b, (gs.getD i ⟨[], 0⟩).b.length⟩ := by unfold cutR; rw [if_neg (by simp [hi])]
      have e2 : ksR (gs.getD i ⟨[], 0⟩) (ld i) keep = keep := by unfold ksR; rw [if_neg (by simp [hi])]
      rw [e1, e2]
      have h2 := crashF_sim ld m (i + 1) fs (gs.set i ⟨(gs.getD i ⟨[], 0⟩).b, (gs.getD i ⟨[], 0⟩).b.length⟩) keep (by rw [List.length_set]; exact hl) (fun j hj => by
        rw [List.getElem?_set]
        split
        · rename_i e; subst e; exact absurd hj hi
        · exact hf j hj) (hset _ ⟨hgb.1, Nat.le_refl _⟩)
      rw [List.length_set] at h2
      exact h2
theorem Sm.crash (h : Sm k d r) (keep : List Int) : Sm k (crashD d keep) (crashR r keep) := by
  have hled : ledL d = (List.range' 0 r.files.length).filter (leadsR r) := by
    unfold ledL ledT
    rw [h.fl, List.range_eq_range']
    congr 1
    funext i
    exact h.lead i
  obtain ⟨g1, g2, g3, g4, g5⟩ := crashF_sim (leadsR r) r.files.length 0 d.files r.files keep h.fl h.fs h.rfb
  have hn : NSim (crashT d.turns d.lasted (crashF (ledL d) d.files keep).2).1 (crashRT r.ops r.last (crashRF (leadsR r) r.files.length 0 r.files keep).2) := by
    rw [hled, g1, h.tn]
    exact h.la.crash _ _
  have hld : ∀ j, leadsR (crashR r keep) j = true → leadsR r j = true := fun j hj => by
    rw [lead_iff] at hj
    have key : (∃ p ∈ crashRT r.ops r.last (crashRF (leadsR r) r.files.length 0 r.files keep).2, p.2 = j) → leadsR r j = true := by
      rintro ⟨p, hp, rfl⟩
      rcases crashRT_mem r.ops _ h.la.asc hp with h1 | h1
      · exact (lead_iff _ _).2 (.inr (.inl h1))
      · exact (lead_iff _ _).2 (.inr (.inr (List.any_eq_true.1 h1)))
    rcases hj with h1 | h1 | ⟨t, ht, _⟩
    · exact key h1
    · exact key h1
    · cases ht
  have hlen := crashRT_len r.ops (crashRF (leadsR r) r.files.length 0 r.files keep).2 h.la.asc
  have hb3 := h.b3
  refine ⟨g4, h.qt, ?_, fun j hj => ?_, fun j hj => ?_, hn, hn, rfl, h.cl, rfl, rfl, Int.le_refl _, by show (-1 : Int) ≤ _; omega, rfl, ?_, Nat.le_trans hlen hb3, ?_, h.b4, fun t ht => (by cases ht)⟩
  · show (crashF (ledL d) d.files keep).1.length = _
    rw [hled]; exact g2
  · show (crashF (ledL d) d.files keep).1[j]? = _
    rw [hled]; exact g3 j (hld j hj)
  · show j < (crashRF (leadsR r) r.files.length 0 r.files keep).1.length
    rw [g5]; exact h.lt j (hld j hj)
  · show (crashRF (leadsR r) r.files.length 0 r.files keep).1.length ≤ k
    rw [g5]; exact h.b1
  · show (crashRT r.ops r.last _).length + 0 ≤ k
    omega
theorem Sm.new (q : Int) : Sm 0 (newD q) (newR q) :=
  ⟨fun f hf => (by cases hf), rfl, rfl, fun j hj => by simp [leadsR, newR] at hj, fun j hj => by simp [leadsR, newR] at hj, NSim.nil, NSim.nil, rfl, rfl, rfl, rfl, by show (-1 : Int) ≤ -1; omega, by show (-1 : Int) ≤ _; omega, rfl, Nat.le_refl _, Nat.le_refl _, Nat.le_refl _, Nat.le_refl _, fun t ht => (by cases ht)⟩
theorem Sm.tnb (h : Sm k d r) : ∀ t ∈ d.turns, t.a.length ≤ 9223372036854775807 ∧ t.b.length ≤ 9223372036854775807 := fun t ht => by
  rw [h.tn] at ht
  obtain ⟨o, ho, rfl⟩ := List.mem_map.1 ht
  exact h.nb o ho
/-- what the walks of the document's disk want -/
theorem Sm.rok (h : Sm k d r) (hok : DkOk d) (hk : k ≤ 1000000) : RkOk r :=
  { nf := Nat.le_trans h.b1 hk, nn := Nat.le_trans h.b2 hk, nl := by have := h.b3; omega, no := by have := h.b3; omega, fb := h.rfb, now := fun p hp => h.lt p.2 (lead_now hp), q := by rw [← h.qt]; exact hok.q, c := by have := h.b4; omega, l1 := h.l1, l2 := h.l2, f := by rw [← h.fa]; exact hok.f }
theorem Sm.dsz (h : Sm k d r) (hk : k < 1000000) : d.calls ≤ 1000000000 ∧ d.files.length < 1000000 ∧ d.turns.length < 1000000 ∧ Maps.size d.names < 1000000 ∧ Maps.size d.lasted + d.turns.length ≤ 1000000 := by
  have h1 := h.b1
  have h2 := h.b2
  have h3 := h.b3
  have h4 := h.b4
  rw [h.cl, h.fl, h.tn, List.length_map, h.nm.size, h.la.size]
  omega
end Go.Proofs.Ytebhhfmekmpnkaa

/-
  The walk of the document's disk: Crash.
-/
namespace Go.Proofs.Ytebhhfmekmpnkaa
open Go.RowKit Go.Maps
set_option linter.unusedVariables false
set_option linter.unusedSimpArgs false

theorem cut_str (l : List UInt8) (m : Nat) (h : m ≤ l.length) (W : World) : (Instr.slice 9 (.string (tx l)) none (some (.int .i64 (m : Int))) none).run Try.prog W = .ok (.string (tx (l.take m))) W := by
  rw [run_slice_string_h W 9 (tx l) Try.underlying9 .i64 (m : Int) (by omega) (by rw [tx_size]; omega), Int.toNat_natCast, tx_takeR]
theorem withoutR_le (l : List Nm) (s : List UInt8) : (withoutR l s).length ≤ l.length := by
  unfold withoutR
  split
  · rw [List.length_append, List.length_take, List.length_drop]; omega
  · omega
set_option maxRecDepth 100000 in
set_option maxHeartbeats 4000000 in
theorem rcrash_any {B : Nat} {h : Rh} {r : Rk} {w : World} (H : RkAt B h r w) (hb : RkB r) (A0 : Option Addr) (n0 c0 : Nat) (keep : List Int) (hr : Rd w w.heap.size 1 A0 n0 (izs keep)) (hn0 : n0 ≤ 1000000) (hrg : ∀ x ∈ keep, -9223372036854775808 ≤ x ∧ x ≤ 9223372036854775807) (hA0 : 0 < n0 → ∀ a, A0 = some a → ¬ rfoot h a.block) :
    Calls Try.prog 35 #[.pointer (some ⟨h.g, 0, none⟩), .slice A0 n0 c0] w fun e w' => ∃ h', e = .returned (.tuple #[]) ∧ RkAt B h' (crashR r keep) w' ∧ RkTo h w h' w' := by
  have HKL := Lib.hid hr.ilenZ
  have HRG := Lib.hid hrg
  have HKD : Hid (∀ W, Rg.Keeps (rfoot h) w W → Rd W W.heap.size 1 A0 n0 (izs keep)) := fun W hK => hr.keepsX0 (Nat.le_refl _) hA0 hK
  obtain ⟨N, hN⟩ : ∃ N, N = r.files.length := ⟨_, rfl⟩
  have hNb : N ≤ 1000000 := by rw [hN]; exact hb.nf
  have HN := Lib.hid hN
  have HB0 := Lib.hid hb
  clear hr hrg hA0 hN
  go_enter Try.func35, Try.ntmps35
  go_wp2_with fail
  go_loopw [4, 5, 6, 7] (fun kv iv _ _ wr => ∃ (j k : Nat) (fs : List Fi), iv = .int .i64 (j : Int) ∧ kv = .int .i64 (k : Int) ∧ j ≤ N ∧ k ≤ j ∧ fs.length = N ∧ RkAt B h { r with files := fs } wr ∧ RkB { r with files := fs } ∧ RkTo h w h wr ∧ Hid (crashRF (leadsR r) (N - j) j fs (keep.drop k) = crashRF (leadsR r) r.files.length 0 r.files keep)) (fun _ iv _ _ _ => N - (intOf iv).toNat)
  case atStart => exact ⟨0, 0, r.files, rfl, rfl, by omega, by omega, HN.out.symm, H, hb, RkTo.refl _ _, by show _ = _; rw [← HN.out]; rfl⟩
  case round =>
    obtain ⟨j, k, fs, rfl, rfl, hj, hkj, hfl, HW, hbW, DW, hcf⟩ := hrel
    have c1 : wr.cell? ⟨h.g, 1, none⟩ = some (.slice h.fa fs.length h.fc) := blk_cell HW.hd 1
    rw [hfl] at c1
    clear H hb
    by_cases hlt : j < N
    · have hlti : (j : Int) < (N : Int) := by omega
      obtain ⟨gF, hgF, -, -⟩ := own_some HW.files (by show 0 < fs.length; omega)
      obtain ⟨b2, o2, x, hfa, hbb2, hx, f0, f1⟩ := (Rd.own HW.files).fi_at (show j < fs.length by omega)
      replace hx : fs[j]? = some x := hx
      rw [hgF] at hfa
      injection hfa with hfa
      injection hfa with e1 e2
      subst e1; subst e2
      rw [Nat.zero_add] at f0 f1
      rw [hgF] at c1
      have hfi := hbW.fb x (List.mem_of_getElem? hx)
      obtain ⟨xb, xl⟩ := x
      (try dsimp only at f0 f1 hfi)
      have k0 : ∀ W, Up wr W → W.cell? ⟨gF, j * 2, none⟩ = some (.string (tx xb)) := fun W hU => (hU.cell (p := ⟨gF, j * 2, none⟩) hbb2).trans f0
      have k1 : ∀ W, Up wr W → W.cell? ⟨gF, j * 2 + 1, none⟩ = some (.int .i64 (xl : Int)) := fun W hU => (hU.cell (p := ⟨gF, j * 2 + 1, none⟩) hbb2).trans f1
      obtain ⟨Q, hQ⟩ : ∃ Q : Nat, Q = xb.length - xl := ⟨_, rfl⟩
      have hQ1 : (xb.length : Int) - (xl : Int) = (Q : Int) := by omega
      have hwQ : IntKind.i64.wrap (Q : Int) = (Q : Int) := IntWalk.i64_in _ (by omega)
      have hQb : Q ≤ 250000 := by omega
      have htx : (tx xb).size = xb.length := tx_size xb
      have hkr : keepRest (⟨xb, xl⟩ : Fi) = Q := by unfold keepRest; rw [hQ]
      have hstep : crashRF (leadsR r) (N - j) j fs (keep.drop k) = crashRF (leadsR r) (N - (j + 1)) (j + 1) (fs.set j (cutR ⟨xb, xl⟩ (leadsR r j) (keep.drop k))) (ksR ⟨xb, xl⟩ (leadsR r j) (keep.drop k)) := by
        have hg : fs.getD j ⟨[], 0⟩ = ⟨xb, xl⟩ := by rw [List.getD_eq_getElem?_getD, hx]; rfl
        rw [show N - j = (N - (j + 1)) + 1 by omega]
        conv => lhs; unfold crashRF
        rw [hg]
      have HST := Lib.hid (hstep.symm.trans hcf.out)
      have HX := Lib.hid hx
      have HKR := Lib.hid hkr
      have HQ := Lib.hid hQ
      have hS : ∀ W, Up wr W → Up wr W := fun _ h => h
      have HGF := Lib.hid hgF
      have HWW := Lib.hid HW
      have HDW := Lib.hid DW
      have HFL := Lib.hid hfl
      clear hstep hcf hx hkr hQ f0 f1 hgF HW DW hbb2 hfl
      go_upto_region 5 with fail
      clear c1
      apply Rg.region_up _ (by kernel_rfl) (by kernel_rfl) hS
      · intro QN hQN
        iterate 11 (apply Rg.RK.ok; (· intro vs w1 hS; go_simp; with_reducible rfl); (· rfl); simp only [Act.put, List.setIfInBounds_toArray, List.set_cons_zero, List.set_cons_succ, Nat.reduceAdd])
        apply Rg.RK.fin []
        intro vs w9 hK hU9 _
        refine hQN.out _ _ ?_
        clear hQN
        have H9 := HWW.out.up hU9
        have D9 := HDW.out.trans (RkTo.up hU9)
        clear k0 k1 hS hU9 hK hQ1 hwQ HWW HDW
        by_cases hQ0 : Q = 0
        · have hb0 : ¬ (0 : Int) < (Q : Int) := by omega
          have hst := HST.out
          have e1 : cutR ⟨xb, xl⟩ (leadsR r j) (keep.drop k) = ⟨xb.take (xl + Q), xl + Q⟩ := by
            unfold cutR
            rw [if_neg (by rw [HKR.out]; omega), List.take_of_length_le (by have := HQ.out; omega)]
            have : xb.length = xl + Q := by have := HQ.out; omega
            rw [this]
          have e2 : ksR ⟨xb, xl⟩ (leadsR r j) (keep.drop k) = keep.drop k := by unfold ksR; rw [if_neg (by rw [HKR.out]; omega)]
          rw [e1, e2] at hst
          have HS2 := Lib.hid hst
          have hK1 : Q ≤ Q := Nat.le_refl _
          clear hst HST e1 e2 hQ0
          go_upto_region 10 with fail
          obtain ⟨M, hM⟩ : ∃ M : Nat, M = xl + (Q) := ⟨_, rfl⟩
          have hM1 : (xl : Int) + ((Q : Nat) : Int) = (M : Int) := by omega
          have hML : M ≤ xb.length := by have := HQ.out; omega
          have hwM : IntKind.i64.wrap (M : Int) = (M : Int) := IntWalk.i64_in _ (by omega)
          have CUT := cut_str xb M hML
          have htm : (tx (xb.take M)).size = M := by rw [tx_size, List.length_take]; omega
          have HS3 : Hid (crashRF (leadsR r) (N - (j + 1)) (j + 1) (fs.set j ⟨xb.take M, M⟩) (keep.drop (k)) = crashRF (leadsR r) r.files.length 0 r.files keep) := by
            show _ = _
            rw [hM]; exact HS2.out
          obtain ⟨cur, hcur, hc0, hc1, hcf⟩ := H9.fblk HGF.out HX.out
          have HCF := Lib.hid hcf
          have HMM := Lib.hid hM
          have hgl := (Array.getElem?_eq_some_iff.1 hcur).1
          have hS2 : ∀ W, Rg.Keeps (fun k => k = gF) w9.drew W → Rg.Keeps (fun k => k = gF) w9.drew W := fun W hW => hW
          have hcz : j * 2 < cur.size := (Array.getElem?_eq_some_iff.1 hc0).1
          clear hcf hM HS2 H9
          apply Rg.region_own 15 _ (fun g => g = gF) (fun W => W.heap[gF]? = some (.cells cur 102 (0, 0))) rfl (by kernel_rfl) (by kernel_rfl) (by rintro g rfl; exact hgl) hcur (fun v1 v2 h hs => (hs.block gF (Array.getElem?_eq_some_iff.1 h).1 (.inr rfl)).trans h) hS2
          · intro QN hQN
            iterate 4 (apply Rg.RK.ok; (· intro vs w1 hS; go_simp; with_reducible rfl); (· rfl); simp only [Act.put, List.setIfInBounds_toArray, List.set_cons_zero, List.set_cons_succ, Nat.reduceAdd])
            apply Rg.RK.okU [15] (v := .string (tx xb))
            · intro vs w8 hS9 hf
              have hf1 := hf.1
              have hh : w8.heap[gF]? = some (.cells cur 102 (0, 0)) := hf1
              have d0 : w8.cell? ⟨gF, j * 2, none⟩ = some (.string (tx xb)) := (blk_cell hh _).trans hc0
              clear hh hf hf1 hS9
              go_simp
              (try with_reducible rfl)
            · rfl
            simp only [Act.put, List.setIfInBounds_toArray, List.set_cons_zero, List.set_cons_succ, Nat.reduceAdd]
            iterate 3 (apply Rg.RK.ok; (· intro vs w1 hS; go_simp; with_reducible rfl); (· rfl); simp only [Act.put, List.setIfInBounds_toArray, List.set_cons_zero, List.set_cons_succ, Nat.reduceAdd])
            apply Rg.RK.okU [15] (v := .int .i64 (xl : Int))
            · intro vs w8 hS9 hf
              have hf1 := hf.1
              have hh : w8.heap[gF]? = some (.cells cur 102 (0, 0)) := hf1
              have d0 : w8.cell? ⟨gF, j * 2 + 1, none⟩ = some (.int .i64 (xl : Int)) := (blk_cell hh _).trans hc1
              clear hh hf hf1 hS9
              go_simp
              (try with_reducible rfl)
            · rfl
            simp only [Act.put, List.setIfInBounds_toArray, List.set_cons_zero, List.set_cons_succ, Nat.reduceAdd]
            iterate 5 (apply Rg.RK.ok; (· intro vs w1 hS; go_simp; with_reducible rfl); (· rfl); simp only [Act.put, List.setIfInBounds_toArray, List.set_cons_zero, List.set_cons_succ, Nat.reduceAdd])
            apply Rg.RK.opD (fun vs W => W.heap[gF]? = some (.cells (cur.setIfInBounds (j * 2) (.string (tx (xb.take M)))) 102 (0, 0))) (fun _ g => g = gF) [15] [15] [] (fun vs vs' h => ⟨rfl, rfl⟩)
            · exact fun vs v1 v2 h1 hs => (hs.block gF (Array.getElem?_eq_some_iff.1 h1).1 (.inr rfl)).trans h1
            · rfl
            · intro vs w8 hK hS9 hf Kk hKK
              have hf1 := hf.1
              have hh2 : w8.heap[gF]? = some (.cells cur 102 (0, 0)) := hf1
              have t0 : w8.cell? ⟨gF, j * 2, none⟩ = some (.string (tx xb)) := (blk_cell hh2 _).trans hc0
              have s0 := blk_free hh2 (j * 2)
              have hset := setc_heap w8 gF (j * 2) (.string (tx (xb.take M))) _ _ hh2
              have hK9 : Rg.Keeps (fun k => k = gF) w8 (w8.setCell ⟨gF, j * 2, none⟩ (.string (tx (xb.take M)))) := setc_keeps _ _ _ _ _ (Rg.Keeps.refl _ _)
              have HH := Lib.hid hh2
              clear hf1 hh2 hf
              go_simp
              refine hKK.out undef _ hset (Keeps.weak hK9 fun y hy => ⟨15, List.mem_singleton.2 rfl, hy⟩) (fun y hy => ?_)
              have hy2 : y = gF := hy
              subst hy2
              exact ⟨Nat.lt_of_lt_of_le (Array.getElem?_eq_some_iff.1 HH.out).1 hK9.size, .inr ⟨15, List.mem_singleton.2 rfl, rfl⟩⟩
            simp only [Act.put, List.setIfInBounds_toArray, List.set_cons_zero, List.set_cons_succ, Nat.reduceAdd]
            apply Rg.RK.fin [14]
            intro vs w7 hK hS9 hf
            have hf1 := hf.1
            have h14 : w7.heap[gF]? = some (.cells (cur.setIfInBounds (j * 2) (.string (tx (xb.take M)))) 102 (0, 0)) := hf1
            refine hQN.out _ _ ?_
            obtain ⟨H7, D7⟩ := HCF.out w7 (xb.take M) ⟨hS9.os, hS9.tape, hS9.output, hS9.size, hS9.block⟩ h14
            have y0 : w7.cell? ⟨gF, j * 2, none⟩ = some (.string (tx (xb.take M))) := by rw [blk_cell h14]; simp [hcz]
            have y1 : w7.cell? ⟨gF, j * 2 + 1, none⟩ = some (.int .i64 (xl : Int)) := by
              rw [blk_cell h14, Array.getElem?_setIfInBounds_ne (by omega)]; exact hc1
            have z1 := blk_free h14 (j * 2 + 1)
            have hjl : j < fs.length := by have := HFL.out; omega
            obtain ⟨H8, D8⟩ := H7.setFi (u := .int .i64 (M : Int)) (j := 1) (y := ⟨xb.take M, xl⟩) HGF.out (by show (fs.set j _)[j]? = _; rw [List.getElem?_set_self hjl]) (by omega) ⟨xb.take M, M⟩ rfl
            have hss : (fs.set j (⟨xb.take M, xl⟩ : Fi)).set j ⟨xb.take M, M⟩ = fs.set j ⟨xb.take M, M⟩ := List.set_set ..
            (try dsimp only at H8)
            rw [hss] at H8
            have D10 := D9.trans (D7.trans D8)
            have hb8 : RkB { r with files := fs.set j ⟨xb.take M, M⟩ } := RkB.setF hbW (by simp only [List.length_take]; omega)
            have HH8 := Lib.hid H8
            have HD8 := Lib.hid D10
            have hl8 : (fs.set j (⟨xb.take M, M⟩ : Fi)).length = N := by rw [List.length_set]; exact HFL.out
            have HL8 := Lib.hid hl8
            clear hQN hS9 hf hf1 H7 D7 H8 D8 D10 h14 hss hl8 hS2 hK HCF hcur D9 hM1 hwM
            go_wp2_with fail
            go_roundw
            case rel => exact ⟨j + 1, k, fs.set j ⟨xb.take M, M⟩, by go_num, by go_num, by omega, by omega, HL8.out, HH8.out, hb8, HD8.out, HS3⟩
            case measure => simp [intOf]; omega
          · kernel_rfl
        · have hb0 : (0 : Int) < (Q : Int) := by omega
          have hnf : j ≤ 1000000 := by omega
          go_wp2_with fail
          refine (rleads_any H9 hbW j hnf).mono ?_
          rintro e w6 ⟨rfl, rfl⟩
          rw [show leadsR { r with files := fs } j = leadsR r j from rfl]
          cases hld : leadsR r j with
          | false =>
            have hst := HST.out
            have e1 : cutR ⟨xb, xl⟩ (leadsR r j) (keep.drop k) = ⟨xb.take (xl + Q), xl + Q⟩ := by
              unfold cutR
              rw [if_neg (by rw [hld]; simp), List.take_of_length_le (by have := HQ.out; omega)]
              have : xb.length = xl + Q := by have := HQ.out; omega
              rw [this]
            have e2 : ksR ⟨xb, xl⟩ (leadsR r j) (keep.drop k) = keep.drop k := by unfold ksR; rw [if_neg (by rw [hld]; simp)]
            rw [e1, e2] at hst
            have HS2 := Lib.hid hst
            have hK1 : Q ≤ Q := Nat.le_refl _
            clear hst HST e1 e2 hQ0 hld
            go_upto_region 10 with fail
            obtain ⟨M, hM⟩ : ∃ M : Nat, M = xl + (Q) := ⟨_, rfl⟩
            have hM1 : (xl : Int) + ((Q : Nat) : Int) = (M : Int) := by omega
            have hML : M ≤ xb.length := by have := HQ.out; omega
            have hwM : IntKind.i64.wrap (M : Int) = (M : Int) := IntWalk.i64_in _ (by omega)
            have CUT := cut_str xb M hML
            have htm : (tx (xb.take M)).size = M := by rw [tx_size, List.length_take]; omega
            have HS3 : Hid (crashRF (leadsR r) (N - (j + 1)) (j + 1) (fs.set j ⟨xb.take M, M⟩) (keep.drop (k)) = crashRF (leadsR r) r.files.length 0 r.files keep) := by
              show _ = _
              rw [hM]; exact HS2.out
            obtain ⟨cur, hcur, hc0, hc1, hcf⟩ := H9.fblk HGF.out HX.out
            have HCF := Lib.hid hcf
            have HMM := Lib.hid hM
            have hgl := (Array.getElem?_eq_some_iff.1 hcur).1
            have hS2 : ∀ W, Rg.Keeps (fun k => k = gF) w9.drew W → Rg.Keeps (fun k => k = gF) w9.drew W := fun W hW => hW
            have hcz : j * 2 < cur.size := (Array.getElem?_eq_some_iff.1 hc0).1
            clear hcf hM HS2 H9
            apply Rg.region_own 15 _ (fun g => g = gF) (fun W => W.heap[gF]? = some (.cells cur 102 (0, 0))) rfl (by kernel_rfl) (by kernel_rfl) (by rintro g rfl; exact hgl) hcur (fun v1 v2 h hs => (hs.block gF (Array.getElem?_eq_some_iff.1 h).1 (.inr rfl)).trans h) hS2
            · intro QN hQN
              iterate 4 (apply Rg.RK.ok; (· intro vs w1 hS; go_simp; with_reducible rfl); (· rfl); simp only [Act.put, List.setIfInBounds_toArray, List.set_cons_zero, List.set_cons_succ, Nat.reduceAdd])
              apply Rg.RK.okU [15] (v := .string (tx xb))
              · intro vs w8 hS9 hf
                have hf1 := hf.1
                have hh : w8.heap[gF]? = some (.cells cur 102 (0, 0)) := hf1
                have d0 : w8.cell? ⟨gF, j * 2, none⟩ = some (.string (tx xb)) := (blk_cell hh _).trans hc0
                clear hh hf hf1 hS9
                go_simp
                (try with_reducible rfl)
              · rfl
              simp only [Act.put, List.setIfInBounds_toArray, List.set_cons_zero, List.set_cons_succ, Nat.reduceAdd]
              iterate 3 (apply Rg.RK.ok; (· intro vs w1 hS; go_simp; with_reducible rfl); (· rfl); simp only [Act.put, List.setIfInBounds_toArray, List.set_cons_zero, List.set_cons_succ, Nat.reduceAdd])
              apply Rg.RK.okU [15] (v := .int .i64 (xl : Int))
              · intro vs w8 hS9 hf
                have hf1 := hf.1
                have hh : w8.heap[gF]? = some (.cells cur 102 (0, 0)) := hf1
                have d0 : w8.cell? ⟨gF, j * 2 + 1, none⟩ = some (.int .i64 (xl : Int)) := (blk_cell hh _).trans hc1
                clear hh hf hf1 hS9
                go_simp
                (try with_reducible rfl)
              · rfl
              simp only [Act.put, List.setIfInBounds_toArray, List.set_cons_zero, List.set_cons_succ, Nat.reduceAdd]
              iterate 5 (apply Rg.RK.ok; (· intro vs w1 hS; go_simp; with_reducible rfl); (· rfl); simp only [Act.put, List.setIfInBounds_toArray, List.set_cons_zero, List.set_cons_succ, Nat.reduceAdd])
              apply Rg.RK.opD (fun vs W => W.heap[gF]? = some (.cells (cur.setIfInBounds (j * 2) (.string (tx (xb.take M)))) 102 (0, 0))) (fun _ g => g = gF) [15] [15] [] (fun vs vs' h => ⟨rfl, rfl⟩)
              · exact fun vs v1 v2 h1 hs => (hs.block gF (Array.getElem?_eq_some_iff.1 h1).1 (.inr rfl)).trans h1
              · rfl
              · intro vs w8 hK hS9 hf Kk hKK
                have hf1 := hf.1
                have hh2 : w8.heap[gF]? = some (.cells cur 102 (0, 0)) := hf1
                have t0 : w8.cell? ⟨gF, j * 2, none⟩ = some (.string (tx xb)) := (blk_cell hh2 _).trans hc0
                have s0 := blk_free hh2 (j * 2)
                have hset := setc_heap w8 gF (j * 2) (.string (tx (xb.take M))) _ _ hh2
                have hK9 : Rg.Keeps (fun k => k = gF) w8 (w8.setCell ⟨gF, j * 2, none⟩ (.string (tx (xb.take M)))) := setc_keeps _ _ _ _ _ (Rg.Keeps.refl _ _)
                have HH := Lib.hid hh2
                clear hf1 hh2 hf
                go_simp
                refine hKK.out undef _ hset (Keeps.weak hK9 fun y hy => ⟨15, List.mem_singleton.2 rfl, hy⟩) (fun y hy => ?_)
                have hy2 : y = gF := hy
                subst hy2
                exact ⟨Nat.lt_of_lt_of_le (Array.getElem?_eq_some_iff.1 HH.out).1 hK9.size, .inr ⟨15, List.mem_singleton.2 rfl, rfl⟩⟩
              simp only [Act.put, List.setIfInBounds_toArray, List.set_cons_zero, List.set_cons_succ, Nat.reduceAdd]
              apply Rg.RK.fin [14]
              intro vs w7 hK hS9 hf
              have hf1 := hf.1
              have h14 : w7.heap[gF]? = some (.cells (cur.setIfInBounds (j * 2) (.string (tx (xb.take M)))) 102 (0, 0)) := hf1
              refine hQN.out _ _ ?_
              obtain ⟨H7, D7⟩ := HCF.out w7 (xb.take M) ⟨hS9.os, hS9.tape, hS9.output, hS9.size, hS9.block⟩ h14
              have y0 : w7.cell? ⟨gF, j * 2, none⟩ = some (.string (tx (xb.take M))) := by rw [blk_cell h14]; simp [hcz]
              have y1 : w7.cell? ⟨gF, j * 2 + 1, none⟩ = some (.int .i64 (xl : Int)) := by
                rw [blk_cell h14, Array.getElem?_setIfInBounds_ne (by omega)]; exact hc1
              have z1 := blk_free h14 (j * 2 + 1)
              have hjl : j < fs.length := by have := HFL.out; omega
              obtain ⟨H8, D8⟩ := H7.setFi (u := .int .i64 (M : Int)) (j := 1) (y := ⟨xb.take M, xl⟩) HGF.out (by show (fs.set j _)[j]? = _; rw [List.getElem?_set_self hjl]) (by omega) ⟨xb.take M, M⟩ rfl
              have hss : (fs.set j (⟨xb.take M, xl⟩ : Fi)).set j ⟨xb.take M, M⟩ = fs.set j ⟨xb.take M, M⟩ := List.set_set ..
              (try dsimp only at H8)
              rw [hss] at H8
              have D10 := D9.trans (D7.trans D8)
              have hb8 : RkB { r with files := fs.set j ⟨xb.take M, M⟩ } := RkB.setF hbW (by simp only [List.length_take]; omega)
              have HH8 := Lib.hid H8
              have HD8 := Lib.hid D10
              have hl8 : (fs.set j (⟨xb.take M, M⟩ : Fi)).length = N := by rw [List.length_set]; exact HFL.out
              have HL8 := Lib.hid hl8
              clear hQN hS9 hf hf1 H7 D7 H8 D8 D10 h14 hss hl8 hS2 hK HCF hcur D9 hM1 hwM
              go_wp2_with fail
              go_roundw
              case rel => exact ⟨j + 1, k, fs.set j ⟨xb.take M, M⟩, by go_num, by go_num, by omega, by omega, HL8.out, HH8.out, hb8, HD8.out, HS3⟩
              case measure => simp [intOf]; omega
            · kernel_rfl
          | true =>
            have hst := HST.out
            have e1 : cutR ⟨xb, xl⟩ (leadsR r j) (keep.drop k) = crash1 ⟨xb, xl⟩ ((keep.drop k).headD (Q : Int)) := by
              unfold cutR
              rw [if_pos ⟨by rw [HKR.out]; exact hQ0, hld⟩, HKR.out]
            have e2 : ksR ⟨xb, xl⟩ (leadsR r j) (keep.drop k) = keep.drop (k + 1) := by unfold ksR; rw [if_pos ⟨by rw [HKR.out]; exact hQ0, hld⟩, List.tail_drop]
            rw [e1, e2] at hst
            clear e1 e2 hld HST
            by_cases hkk : k < n0
            · have hkki : (k : Int) < (n0 : Int) := by omega
              have hkl : k < keep.length := by have := HKL.out; omega
              obtain ⟨v, hv⟩ : ∃ v, keep[k]? = some v := ⟨_, List.getElem?_eq_getElem hkl⟩
              have hhd : (keep.drop k).headD (Q : Int) = v := by rw [List.headD_eq_head?_getD, List.head?_drop, hv]; rfl
              have hvr := HRG.out v (List.mem_of_getElem? hv)
              obtain ⟨bk, ok, rfl, hbk, hck⟩ := (HKD.out w9 D9.kept).2 (by omega)
              have ck := hck k (.int .i64 v) (by rw [izs, List.getElem?_map, hv]; rfl)
              rw [hhd] at hst
              have he1 := Int.emod_nonneg v (show (Q : Int) + 1 ≠ 0 by omega)
              have he2 := Int.emod_lt_of_pos v (show (0 : Int) < (Q : Int) + 1 by omega)
              obtain ⟨K, hK⟩ : ∃ K : Nat, v % ((Q : Int) + 1) = (K : Int) := ⟨(v % ((Q : Int) + 1)).toNat, by omega⟩
              have e3 : crash1 ⟨xb, xl⟩ v = ⟨xb.take (xl + K), xl + K⟩ := by
                unfold crash1
                rw [HKR.out, hK, Int.toNat_natCast]
              rw [e3] at hst
              have HS2 := Lib.hid hst
              obtain ⟨tf1, tf2, tf3, tf4⟩ := tmod_fix v ((Q : Int) + 1) (by omega)
              obtain ⟨q, hq⟩ : ∃ q : Int, q = v.tmod ((Q : Int) + 1) := ⟨_, rfl⟩
              rw [← hq] at tf1 tf2 tf3 tf4
              have hq2 : v.tmod ((Q : Int) + 1) = q := hq.symm
              have hqe : (q + (Q : Int) + 1).tmod ((Q : Int) + 1) = (K : Int) := by
                rw [Int.tmod_eq_emod_of_nonneg (by omega)]
                by_cases hq0 : q < 0
                · have h1 := tf2 hq0
                  rw [hK] at h1
                  rw [show q + (Q : Int) + 1 = (K : Int) by omega, Int.emod_eq_of_lt (by omega) (by omega)]
                · have h1 := tf1 (by omega)
                  rw [hK] at h1
                  rw [show q + (Q : Int) + 1 = (K : Int) + ((Q : Int) + 1) by omega, Int.add_emod_right, Int.emod_eq_of_lt (by omega) (by omega)]
              have hK1 : K ≤ Q := by omega
              have hw1 : IntKind.i64.wrap ((Q : Int) + 1) = (Q : Int) + 1 := IntWalk.i64_in _ (by omega)
              have hw2 : IntKind.i64.wrap q = q := IntWalk.i64_in _ (by omega)
              have hw3 : IntKind.i64.wrap (q + (Q : Int)) = q + (Q : Int) := IntWalk.i64_in _ (by omega)
              have hw4 : IntKind.i64.wrap (q + (Q : Int) + 1) = q + (Q : Int) + 1 := IntWalk.i64_in _ (by omega)
              have hw5 : IntKind.i64.wrap (K : Int) = (K : Int) := IntWalk.i64_in _ (by omega)
              have hQz : ¬ ((Q : Int) + 1 = 0) := by omega
              clear hst e3 hhd hv hq tf1 tf2 tf3 tf4 hK hck he1 he2
              go_upto_region 10 with fail
              clear hw1 hw2 hw3 hw4 hw5 hqe hq2 hQz ck
              obtain ⟨M, hM⟩ : ∃ M : Nat, M = xl + (K) := ⟨_, rfl⟩
              have hM1 : (xl : Int) + ((K : Nat) : Int) = (M : Int) := by omega
              have hML : M ≤ xb.length := by have := HQ.out; omega
              have hwM : IntKind.i64.wrap (M : Int) = (M : Int) := IntWalk.i64_in _ (by omega)
              have CUT := cut_str xb M hML
              have htm : (tx (xb.take M)).size = M := by rw [tx_size, List.length_take]; omega
              have HS3 : Hid (crashRF (leadsR r) (N - (j + 1)) (j + 1) (fs.set j ⟨xb.take M, M⟩) (keep.drop (k + 1)) = crashRF (leadsR r) r.files.length 0 r.files keep) := by
                show _ = _
                rw [hM]; exact HS2.out
              obtain ⟨cur, hcur, hc0, hc1, hcf⟩ := H9.fblk HGF.out HX.out
              have HCF := Lib.hid hcf
              have HMM := Lib.hid hM
              have hgl := (Array.getElem?_eq_some_iff.1 hcur).1
              have hS2 : ∀ W, Rg.Keeps (fun k => k = gF) w9.drew W → Rg.Keeps (fun k => k = gF) w9.drew W := fun W hW => hW
              have hcz : j * 2 < cur.size := (Array.getElem?_eq_some_iff.1 hc0).1
              clear hcf hM HS2 H9
              apply Rg.region_own 15 _ (fun g => g = gF) (fun W => W.heap[gF]? = some (.cells cur 102 (0, 0))) rfl (by kernel_rfl) (by kernel_rfl) (by rintro g rfl; exact hgl) hcur (fun v1 v2 h hs => (hs.block gF (Array.getElem?_eq_some_iff.1 h).1 (.inr rfl)).trans h) hS2
              · intro QN hQN
                iterate 4 (apply Rg.RK.ok; (· intro vs w1 hS; go_simp; with_reducible rfl); (· rfl); simp only [Act.put, List.setIfInBounds_toArray, List.set_cons_zero, List.set_cons_succ, Nat.reduceAdd])
                apply Rg.RK.okU [15] (v := .string (tx xb))
                · intro vs w8 hS9 hf
                  have hf1 := hf.1
                  have hh : w8.heap[gF]? = some (.cells cur 102 (0, 0)) := hf1
                  have d0 : w8.cell? ⟨gF, j * 2, none⟩ = some (.string (tx xb)) := (blk_cell hh _).trans hc0
                  clear hh hf hf1 hS9
                  go_simp
                  (try with_reducible rfl)
                · rfl
                simp only [Act.put, List.setIfInBounds_toArray, List.set_cons_zero, List.set_cons_succ, Nat.reduceAdd]
                iterate 3 (apply Rg.RK.ok; (· intro vs w1 hS; go_simp; with_reducible rfl); (· rfl); simp only [Act.put, List.setIfInBounds_toArray, List.set_cons_zero, List.set_cons_succ, Nat.reduceAdd])
                apply Rg.RK.okU [15] (v := .int .i64 (xl : Int))
                · intro vs w8 hS9 hf
                  have hf1 := hf.1
                  have hh : w8.heap[gF]? = some (.cells cur 102 (0, 0)) := hf1
                  have d0 : w8.cell? ⟨gF, j * 2 + 1, none⟩ = some (.int .i64 (xl : Int)) := (blk_cell hh _).trans hc1
                  clear hh hf hf1 hS9
                  go_simp
                  (try with_reducible rfl)
                · rfl
                simp only [Act.put, List.setIfInBounds_toArray, List.set_cons_zero, List.set_cons_succ, Nat.reduceAdd]
                iterate 5 (apply Rg.RK.ok; (· intro vs w1 hS; go_simp; with_reducible rfl); (· rfl); simp only [Act.put, List.setIfInBounds_toArray, List.set_cons_zero, List.set_cons_succ, Nat.reduceAdd])
                apply Rg.RK.opD (fun vs W => W.heap[gF]? = some (.cells (cur.setIfInBounds (j * 2) (.string (tx (xb.take M)))) 102 (0, 0))) (fun _ g => g = gF) [15] [15] [] (fun vs vs' h => ⟨rfl, rfl⟩)
                · exact fun vs v1 v2 h1 hs => (hs.block gF (Array.getElem?_eq_some_iff.1 h1).1 (.inr rfl)).trans h1
                · rfl
                · intro vs w8 hK hS9 hf Kk hKK
                  have hf1 := hf.1
                  have hh2 : w8.heap[gF]? = some (.cells cur 102 (0, 0)) := hf1
                  have t0 : w8.cell? ⟨gF, j * 2, none⟩ = some (.string (tx xb)) := (blk_cell hh2 _).trans hc0
                  have s0 := blk_free hh2 (j * 2)
                  have hset := setc_heap w8 gF (j * 2) (.string (tx (xb.take M))) _ _ hh2
                  have hK9 : Rg.Keeps (fun k => k = gF) w8 (w8.setCell ⟨gF, j * 2, none⟩ (.string (tx (xb.take M)))) := setc_keeps _ _ _ _ _ (Rg.Keeps.refl _ _)
                  have HH := Lib.hid hh2
                  clear hf1 hh2 hf
                  go_simp
                  refine hKK.out undef _ hset (Keeps.weak hK9 fun y hy => ⟨15, List.mem_singleton.2 rfl, hy⟩) (fun y hy => ?_)
                  have hy2 : y = gF := hy
                  subst hy2
                  exact ⟨Nat.lt_of_lt_of_le (Array.getElem?_eq_some_iff.1 HH.out).1 hK9.size, .inr ⟨15, List.mem_singleton.2 rfl, rfl⟩⟩
                simp only [Act.put, List.setIfInBounds_toArray, List.set_cons_zero, List.set_cons_succ, Nat.reduceAdd]
                apply Rg.RK.fin [14]
                intro vs w7 hK hS9 hf
                have hf1 := hf.1
                have h14 : w7.heap[gF]? = some (.cells (cur.setIfInBounds (j * 2) (.string (tx (xb.take M)))) 102 (0, 0)) := hf1
                refine hQN.out _ _ ?_
                obtain ⟨H7, D7⟩ := HCF.out w7 (xb.take M) ⟨hS9.os, hS9.tape, hS9.output, hS9.size, hS9.block⟩ h14
                have y0 : w7.cell? ⟨gF, j * 2, none⟩ = some (.string (tx (xb.take M))) := by rw [blk_cell h14]; simp [hcz]
                have y1 : w7.cell? ⟨gF, j * 2 + 1, none⟩ = some (.int .i64 (xl : Int)) := by
                  rw [blk_cell h14, Array.getElem?_setIfInBounds_ne (by omega)]; exact hc1
                have z1 := blk_free h14 (j * 2 + 1)
                have hjl : j < fs.length := by have := HFL.out; omega
                obtain ⟨H8, D8⟩ := H7.setFi (u := .int .i64 (M : Int)) (j := 1) (y := ⟨xb.take M, xl⟩) HGF.out (by show (fs.set j _)[j]? = _; rw [List.getElem?_set_self hjl]) (by omega) ⟨xb.take M, M⟩ rfl
                have hss : (fs.set j (⟨xb.take M, xl⟩ : Fi)).set j ⟨xb.take M, M⟩ = fs.set j ⟨xb.take M, M⟩ := List.set_set ..
                (try dsimp only at H8)
                rw [hss] at H8
                have D10 := D9.trans (D7.trans D8)
                have hb8 : RkB { r with files := fs.set j ⟨xb.take M, M⟩ } := RkB.setF hbW (by simp only [List.length_take]; omega)
                have HH8 := Lib.hid H8
                have HD8 := Lib.hid D10
                have hl8 : (fs.set j (⟨xb.take M, M⟩ : Fi)).length = N := by rw [List.length_set]; exact HFL.out
                have HL8 := Lib.hid hl8
                clear hQN hS9 hf hf1 H7 D7 H8 D8 D10 h14 hss hl8 hS2 hK HCF hcur D9 hM1 hwM
                go_wp2_with fail
                go_roundw
                case rel => exact ⟨j + 1, k + 1, fs.set j ⟨xb.take M, M⟩, by go_num, by go_num, by omega, by omega, HL8.out, HH8.out, hb8, HD8.out, HS3⟩
                case measure => simp [intOf]; omega
              · kernel_rfl
            · have hkki : ¬ (k : Int) < (n0 : Int) := by omega
              have hdr : keep.drop k = [] := List.drop_eq_nil_of_le (by have := HKL.out; omega)
              have e3 : crash1 ⟨xb, xl⟩ ((keep.drop k).headD (Q : Int)) = ⟨xb.take (xl + Q), xl + Q⟩ := by
                rw [hdr]
                unfold crash1
                rw [HKR.out]
                show Fi.mk (xb.take (xl + ((Q : Int) % ((Q : Int) + 1)).toNat)) (xl + ((Q : Int) % ((Q : Int) + 1)).toNat) = _
                rw [Int.emod_eq_of_lt (by omega) (by omega), Int.toNat_natCast]
              rw [e3] at hst
              have HS2 := Lib.hid hst
              have hK1 : Q ≤ Q := Nat.le_refl _
              clear hst hdr e3
              go_upto_region 10 with fail
              obtain ⟨M, hM⟩ : ∃ M : Nat, M = xl + (Q) := ⟨_, rfl⟩
              have hM1 : (xl : Int) + ((Q : Nat) : Int) = (M : Int) := by omega
              have hML : M ≤ xb.length := by have := HQ.out; omega
              have hwM : IntKind.i64.wrap (M : Int) = (M : Int) := IntWalk.i64_in _ (by omega)
              have CUT := cut_str xb M hML
              have htm : (tx (xb.take M)).size = M := by rw [tx_size, List.length_take]; omega
              have HS3 : Hid (crashRF (leadsR r) (N - (j + 1)) (j + 1) (fs.set j ⟨xb.take M, M⟩) (keep.drop (k + 1)) = crashRF (leadsR r) r.files.length 0 r.files keep) := by
                show _ = _
                rw [hM]; exact HS2.out
              obtain ⟨cur, hcur, hc0, hc1, hcf⟩ := H9.fblk HGF.out HX.out
              have HCF := Lib.hid hcf
              have HMM := Lib.hid hM
              have hgl := (Array.getElem?_eq_some_iff.1 hcur).1
              have hS2 : ∀ W, Rg.Keeps (fun k => k = gF) w9.drew W → Rg.Keeps (fun k => k = gF) w9.drew W := fun W hW => hW
              have hcz : j * 2 < cur.size := (Array.getElem?_eq_some_iff.1 hc0).1
              clear hcf hM HS2 H9
              apply Rg.region_own 15 _ (fun g => g = gF) (fun W => W.heap[gF]? = some (.cells cur 102 (0, 0))) rfl (by kernel_rfl) (by kernel_rfl) (by rintro g rfl; exact hgl) hcur (fun v1 v2 h hs => (hs.block gF (Array.getElem?_eq_some_iff.1 h).1 (.inr rfl)).trans h) hS2
              · intro QN hQN
                iterate 4 (apply Rg.RK.ok; (· intro vs w1 hS; go_simp; with_reducible rfl); (· rfl); simp only [Act.put, List.setIfInBounds_toArray, List.set_cons_zero, List.set_cons_succ, Nat.reduceAdd])
                apply Rg.RK.okU [15] (v := .string (tx xb))
                · intro vs w8 hS9 hf
                  have hf1 := hf.1
                  have hh : w8.heap[gF]? = some (.cells cur 102 (0, 0)) := hf1
                  have d0 : w8.cell? ⟨gF, j * 2, none⟩ = some (.string (tx xb)) := (blk_cell hh _).trans hc0
                  clear hh hf hf1 hS9
                  go_simp
                  (try with_reducible rfl)
                · rfl
                simp only [Act.put, List.setIfInBounds_toArray, List.set_cons_zero, List.set_cons_succ, Nat.reduceAdd]
                iterate 3 (apply Rg.RK.ok; (· intro vs w1 hS; go_simp; with_reducible rfl); (· rfl); simp only [Act.put, List.setIfInBounds_toArray, List.set_cons_zero, List.set_cons_succ, Nat.reduceAdd])
                apply Rg.RK.okU [15] (v := .int .i64 (xl : Int))
                · intro vs w8 hS9 hf
                  have hf1 := hf.1
                  have hh : w8.heap[gF]? = some (.cells cur 102 (0, 0)) := hf1
                  have d0 : w8.cell? ⟨gF, j * 2 + 1, none⟩ = some (.int .i64 (xl : Int)) := (blk_cell hh _).trans hc1
                  clear hh hf hf1 hS9
                  go_simp
                  (try with_reducible rfl)
                · rfl
                simp only [Act.put, List.setIfInBounds_toArray, List.set_cons_zero, List.set_cons_succ, Nat.reduceAdd]
                iterate 5 (apply Rg.RK.ok; (· intro vs w1 hS; go_simp; with_reducible rfl); (· rfl); simp only [Act.put, List.setIfInBounds_toArray, List.set_cons_zero, List.set_cons_succ, Nat.reduceAdd])
                apply Rg.RK.opD (fun vs W => W.heap[gF]? = some (.cells (cur.setIfInBounds (j * 2) (.string (tx (xb.take M)))) 102 (0, 0))) (fun _ g => g = gF) [15] [15] [] (fun vs vs' h => ⟨rfl, rfl⟩)
                · exact fun vs v1 v2 h1 hs => (hs.block gF (Array.getElem?_eq_some_iff.1 h1).1 (.inr rfl)).trans h1
                · rfl
                · intro vs w8 hK hS9 hf Kk hKK
                  have hf1 := hf.1
                  have hh2 : w8.heap[gF]? = some (.cells cur 102 (0, 0)) := hf1
                  have t0 : w8.cell? ⟨gF, j * 2, none⟩ = some (.string (tx xb)) := (blk_cell hh2 _).trans hc0
                  have s0 := blk_free hh2 (j * 2)
                  have hset := setc_heap w8 gF (j * 2) (.string (tx (xb.take M))) _ _ hh2
                  have hK9 : Rg.Keeps (fun k => k = gF) w8 (w8.setCell ⟨gF, j * 2, none⟩ (.string (tx (xb.take M)))) := setc_keeps _ _ _ _ _ (Rg.Keeps.refl _ _)
                  have HH := Lib.hid hh2
                  clear hf1 hh2 hf
                  go_simp
                  refine hKK.out undef _ hset (Keeps.weak hK9 fun y hy => ⟨15, List.mem_singleton.2 rfl, hy⟩) (fun y hy => ?_)
                  have hy2 : y = gF := hy
                  subst hy2
                  exact ⟨Nat.lt_of_lt_of_le (Array.getElem?_eq_some_iff.1 HH.out).1 hK9.size, .inr ⟨15, List.mem_singleton.2 rfl, rfl⟩⟩
                simp only [Act.put, List.setIfInBounds_toArray, List.set_cons_zero, List.set_cons_succ, Nat.reduceAdd]
                apply Rg.RK.fin [14]
                intro vs w7 hK hS9 hf
                have hf1 := hf.1
                have h14 : w7.heap[gF]? = some (.cells (cur.setIfInBounds (j * 2) (.string (tx (xb.take M)))) 102 (0, 0)) := hf1
                refine hQN.out _ _ ?_
                obtain ⟨H7, D7⟩ := HCF.out w7 (xb.take M) ⟨hS9.os, hS9.tape, hS9.output, hS9.size, hS9.block⟩ h14
                have y0 : w7.cell? ⟨gF, j * 2, none⟩ = some (.string (tx (xb.take M))) := by rw [blk_cell h14]; simp [hcz]
                have y1 : w7.cell? ⟨gF, j * 2 + 1, none⟩ = some (.int .i64 (xl : Int)) := by
                  rw [blk_cell h14, Array.getElem?_setIfInBounds_ne (by omega)]; exact hc1
                have z1 := blk_free h14 (j * 2 + 1)
                have hjl : j < fs.length := by have := HFL.out; omega
                obtain ⟨H8, D8⟩ := H7.setFi (u := .int .i64 (M : Int)) (j := 1) (y := ⟨xb.take M, xl⟩) HGF.out (by show (fs.set j _)[j]? = _; rw [List.getElem?_set_self hjl]) (by omega) ⟨xb.take M, M⟩ rfl
                have hss : (fs.set j (⟨xb.take M, xl⟩ : Fi)).set j ⟨xb.take M, M⟩ = fs.set j ⟨xb.take M, M⟩ := List.set_set ..
                (try dsimp only at H8)
                rw [hss] at H8
                have D10 := D9.trans (D7.trans D8)
                have hb8 : RkB { r with files := fs.set j ⟨xb.take M, M⟩ } := RkB.setF hbW (by simp only [List.length_take]; omega)
                have HH8 := Lib.hid H8
                have HD8 := Lib.hid D10
                have hl8 : (fs.set j (⟨xb.take M, M⟩ : Fi)).length = N := by rw [List.length_set]; exact HFL.out
                have HL8 := Lib.hid hl8
                clear hQN hS9 hf hf1 H7 D7 H8 D8 D10 h14 hss hl8 hS2 hK HCF hcur D9 hM1 hwM
                go_wp2_with fail
                go_roundw
                case rel => exact ⟨j + 1, k + 1, fs.set j ⟨xb.take M, M⟩, by go_num, by go_num, by omega, by omega, HL8.out, HH8.out, hb8, HD8.out, HS3⟩
                case measure => simp [intOf]; omega
              · kernel_rfl
      · kernel_rfl
    · have hlti : ¬ (j : Int) < (N : Int) := by omega
      have hdone : crashRF (leadsR r) r.files.length 0 r.files keep = (fs, keep.drop k) := by
        have h9 := hcf.out
        rw [show N - j = 0 by omega] at h9
        rw [← h9]
        rfl
      have HDONE := Lib.hid hdone
      obtain ⟨no, hno⟩ : ∃ no, no = r.ops.length := ⟨_, rfl⟩
      have hnob : no ≤ 1000000 := by rw [hno]; exact HB0.out.no
      have HNO := Lib.hid hno
      have hnl := HB0.out.nl
      have hla := HW.last
      have hat0 : ∀ q, inA h.la q → rfoot h q ∨ w.heap.size ≤ q := fun q hq => .inl (.inr (.inr (.inr (.inl hq))))
      have c3 : wr.cell? ⟨h.g, 3, none⟩ = some (.slice h.la r.last.length h.lc) := blk_cell HW.hd 3
      have HAT0 := Lib.hid hat0
      have HLA := Lib.hid hla
      clear hdone hcf hno hat0 hla hlt
      go_wp2_with fail
      clear c3 c1
      go_loopw [4, 8, 9, 10, 11] (fun kv lv iv _ _ wq => ∃ (i2 k2 : Nat) (l : List Nm) (A : Option Addr) (c : Nat), iv = .int .i64 (i2 : Int) ∧ kv = .int .i64 (k2 : Int) ∧ lv = .slice A l.length c ∧ i2 ≤ no ∧ k2 ≤ 1000000 + i2 ∧ l.length ≤ 1000000 + i2 ∧ RkAt B h { r with files := fs } wq ∧ RkTo h w h wq ∧
        wq.ownsRow B 110 2 (.slice A l.length c) l.length (ncs l) ∧ Hid (∀ q, inA A q → rfoot h q ∨ w.heap.size ≤ q) ∧ Hid (crashRT (r.ops.drop i2) l (keep.drop k2) = crashRT r.ops r.last (keep.drop k))) (fun _ _ iv _ _ _ => no - (intOf iv).toNat)
      case atStart => exact ⟨0, k, r.last, h.la, h.lc, rfl, rfl, rfl, by omega, by omega, by omega, HW, DW, HLA.out, HAT0.out, rfl⟩
      case round =>
        obtain ⟨i2, k2, l, A, c, rfl, rfl, rfl, hi2, hk2, hll, HQ, DQ, ho, hat, hcr⟩ := hrel
        clear HW DW HLA HAT0
        have c4 : wr.cell? ⟨h.g, 4, none⟩ = some (.slice h.oa r.ops.length h.oc) := blk_cell HQ.hd 4
        rw [← HNO.out] at c4
        by_cases hlt : i2 < no
        · have hlti2 : (i2 : Int) < (no : Int) := by omega
          have hil : i2 < r.ops.length := by have := HNO.out; omega
          have hrt : Rd wr wr.heap.size 4 h.oa r.ops.length (tcs r.ops) := Rd.own HQ.ops
          rw [← HNO.out] at hrt
          obtain ⟨b, o, t, hoa, hbb, ht, q0, q1, q2, q3⟩ := hrt.turn_at hlt HNO.out
          rw [hoa] at c4
          have hdrop : r.ops.drop i2 = t :: r.ops.drop (i2 + 1) := by
            rw [List.drop_eq_getElem_cons hil]
            rw [List.getElem?_eq_getElem hil] at ht
            injection ht with ht
            rw [ht]
          have hst : crashRT (r.ops.drop (i2 + 1)) (if skipI (keep.drop k2) = true then l else doR t l) (keep.drop (k2 + 1)) = crashRT r.ops r.last (keep.drop k) := by
            rw [← hcr.out, hdrop]
            show _ = crashRT (r.ops.drop (i2 + 1)) (if skipI (keep.drop k2) = true then l else doR t l) (keep.drop k2).tail
            rw [List.tail_drop]
          have HST := Lib.hid hst
          have HQH := Lib.hid HQ
          have HDQ := Lib.hid DQ
          have HOH := Lib.hid ho
          clear hst hdrop ht hrt hoa hcr HQ DQ ho
          obtain ⟨tk, tf, ta, tb⟩ := t
          (try dsimp only at q0 q1 q2 q3)
          go_upto_region 17 with fail
          clear q0 q1 q2 q3 c4
          have hua : Up wr (wr.alloc (.cells #[.int .i64 (tk : Int), .int .i64 (tf : Int), .string (tx ta), .string (tx tb)] 105)) := (Up.refl wr).alloc _
          have hbt := heap_alloc_new wr (.cells #[.int .i64 (tk : Int), .int .i64 (tf : Int), .string (tx ta), .string (tx tb)] 105)
          have HQ := HQH.out.up hua
          have DQ := HDQ.out.trans (RkTo.up hua)
          have ho := own_up HOH.out hua
          have hbB : B ≤ (wr.alloc (.cells #[.int .i64 (tk : Int), .int .i64 (tf : Int), .string (tx ta), .string (tx tb)] 105)).heap.size := by have := HQ.lt (.inl rfl); omega
          clear hua HQH HDQ HOH
          generalize wr.alloc (.cells #[.int .i64 (tk : Int), .int .i64 (tf : Int), .string (tx ta), .string (tx tb)] 105) = wa at *
          generalize wr.heap.size = gt at *
          have hws : w.heap.size ≤ wa.heap.size := DQ.kept.size
          have hwk : IntKind.i64.wrap ((k2 : Int) + 1 - 1) = (k2 : Int) := by rw [show (k2 : Int) + 1 - 1 = (k2 : Int) by omega]; exact IntWalk.i64_in _ (by omega)
          have hwk2 : IntKind.i64.wrap (k2 : Int) = (k2 : Int) := IntWalk.i64_in _ (by omega)
          have p0 : wa.cell? ⟨gt, 0, none⟩ = some (.int .i64 (tk : Int)) := blk_cell hbt 0
          have p1 : wa.cell? ⟨gt, 1, none⟩ = some (.int .i64 (tf : Int)) := blk_cell hbt 1
          have p2 : wa.cell? ⟨gt, 2, none⟩ = some (.string (tx ta)) := blk_cell hbt 2
          have p3 : wa.cell? ⟨gt, 3, none⟩ = some (.string (tx tb)) := blk_cell hbt 3
          have hgt : gt < wa.heap.size := (Array.getElem?_eq_some_iff.1 hbt).1
          by_cases hkk : k2 < n0
          · have hkki : (k2 : Int) < (n0 : Int) := by omega
            have hkl : k2 < keep.length := by have := HKL.out; omega
            obtain ⟨v, hv⟩ : ∃ v, keep[k2]? = some v := ⟨_, List.getElem?_eq_getElem hkl⟩
            have hdv : keep.drop k2 = v :: keep.drop (k2 + 1) := by
              rw [List.drop_eq_getElem_cons hkl]
              rw [List.getElem?_eq_getElem hkl] at hv
              injection hv with hv
              rw [hv]
            have hsk : skipI (keep.drop k2) = (bits .and .i64 v 1 == 1) := by rw [hdv]; rfl
            have hst := HST.out
            rw [hsk] at hst
            have hA0 := HKD.out wa DQ.kept
            obtain ⟨bk, ok, rfl, hbk, hck⟩ := hA0.2 (by omega)
            have ck := hck k2 (.int .i64 v) (by rw [izs, List.getElem?_map, hv]; rfl)
            clear hck hdv hv hA0 hsk HST
            cases hev : (bits .and .i64 v 1 == 1) with
            | true =>
              rw [hev, if_pos rfl] at hst
              have HS2 := Lib.hid hst
              clear hst
              go_wp2_with fail
              go_roundw
              case rel => exact ⟨i2 + 1, k2 + 1, l, A, c, by go_num, by go_num, rfl, by omega, by omega, by omega, HQ, DQ, ho, hat, HS2⟩
              case measure => simp [intOf]; omega
            | false =>
              rw [hev, if_neg (by decide)] at hst
              have HST := Lib.hid hst
              clear hst
              go_upto_region 19 with fail
              clear ck hev
              have hll2 : l.length ≤ 4000000 := by omega
              by_cases t0 : tk = 0
              · have b0 : ((tk : Int) == 0) = true := by rw [beq_iff_eq]; omega
                have e1 : doR ⟨tk, tf, ta, tb⟩ l = withR l ta tf := by unfold doR; rw [if_pos t0]
                have hst := HST.out
                rw [e1] at hst
                have HS2 := Lib.hid hst
                clear hst HST e1
                have hnc := own_cap ho
                go_wp2_with fail
                refine (with_any A l.length c l ta tf wa (Rd.own ho) hnc hll2).mono ?_
                rintro e w5 ⟨A5, c5, rfl, ho5, hu5, hat5⟩
                have hw5 := withR_len l ta tf
                have HA5 : Hid (∀ q, inA A5 q → rfoot h q ∨ w.heap.size ≤ q) := fun q hq => .inr (Nat.le_trans hws (inA_own ho5 hq).1)
                have H5 := HQ.up hu5
                have D5 := DQ.trans (RkTo.up hu5)
                have ho6 := own_base ho5 hbB
                clear ho5 hat5 HQ DQ ho hat p0 p1 p2 p3 t0
                go_wp2_with fail
                go_roundw
                case rel => exact ⟨i2 + 1, k2 + 1, _, A5, c5, by go_num, by go_num, rfl, by omega, by omega, by omega, H5, D5, ho6, HA5, HS2⟩
                case measure => simp [intOf]; omega
              · have b0 : ((tk : Int) == 0) = false := by rw [beq_eq_false_iff_ne]; omega
                by_cases t1 : tk = 1
                · have b1 : ((tk : Int) == 1) = true := by rw [beq_iff_eq]; omega
                  go_upto_region 23 with fail
                  go_wp2_with fail
                  refine (rat_any A l.length c l ta wa (Rd.own ho) hll2).mono ?_
                  rintro e w5 ⟨rfl, rfl⟩
                  by_cases hx : ixN l ta < l.length
                  · have hatv : atR l ta = (ixN l ta : Int) := by unfold atR; rw [if_pos hx]
                    have e1 : doR ⟨tk, tf, ta, tb⟩ l = withoutR (withR l tb (l.getD (ixN l ta) ([], 0)).2) ta := by unfold doR; rw [if_neg t0, if_pos t1, if_pos hx]
                    obtain ⟨eb, eo, en, rfl, hebl, hen, n0c, n1c⟩ := (Rd.own ho).name_at hx
                    have e2 : (l.getD (ixN l ta) ([], 0)).2 = en.2 := by rw [List.getD_eq_getElem?_getD, hen]; rfl
                    rw [e2] at e1
                    obtain ⟨nf, hnf⟩ : ∃ nf, nf = en.2 := ⟨_, rfl⟩
                    rw [← hnf] at e1 n1c
                    obtain ⟨nl, hnl⟩ : ∃ nl, nl = withoutR (withR l tb nf) ta := ⟨_, rfl⟩
                    rw [← hnl] at e1
                    obtain ⟨L, hL⟩ : ∃ L, L = nl.length := ⟨_, rfl⟩
                    have hwl := withR_len l tb nf
                    have hLb : nl.length ≤ l.length + 1 := by rw [hnl]; exact Nat.le_trans (withoutR_le _ _) hwl
                    have hnc := own_cap ho
                    have hst := HST.out
                    rw [e1] at hst
                    have HS2 := Lib.hid hst
                    have HNL := Lib.hid hnl
                    have HL := Lib.hid hL
                    rw [hatv]
                    obtain ⟨kx, hkx⟩ : ∃ kx, kx = ixN l ta := ⟨_, rfl⟩
                    rw [← hkx] at hx n1c ⊢
                    have hx0 : ¬ (kx : Int) < 0 := by omega
                    have hx1 : (0 : Int) ≤ (kx : Int) := by omega
                    have r3 : ∀ W, Up wa W → W.cell? ⟨gt, 3, none⟩ = some (.string (tx tb)) := fun W hU => (hU.cell (p := ⟨gt, 3, none⟩) hgt).trans p3
                    have r2 : ∀ W, Up wa W → W.cell? ⟨gt, 2, none⟩ = some (.string (tx ta)) := fun W hU => (hU.cell (p := ⟨gt, 2, none⟩) hgt).trans p2
                    have rn : ∀ W, Up wa W → W.cell? ⟨eb, eo + kx * 2 + 1, none⟩ = some (.int .i64 (nf : Int)) := fun W hU => (hU.cell (p := ⟨eb, eo + kx * 2 + 1, none⟩) hebl).trans n1c
                    have HRD : Hid (∀ W, Up wa W → Rd W W.heap.size 2 (some ⟨eb, eo, none⟩) l.length (ncs l)) := fun W hU => Rd.own (own_up ho hU)
                    have hS : ∀ W, Up wa W → Up wa W := fun _ h => h
                    clear hst HST e1 e2 hen hnf hnl hL hatv hkx n0c n1c p0 p1 p2 p3 t0 t1
                    go_upto_region 25 with fail
                    apply Rg.region_up _ (by kernel_rfl) (by kernel_rfl) hS
                    · intro QN hQN
                      iterate 8 (apply Rg.RK.ok; (· intro vs w1 hS; go_simp; with_reducible rfl); (· rfl); simp only [Act.put, List.setIfInBounds_toArray, List.set_cons_zero, List.set_cons_succ, Nat.reduceAdd])
                      apply Rg.RK.opn (fun v W => W.ownsRow wa.heap.size 110 2 v (withR l tb nf).length (ncs (withR l tb nf))) Rg.ob [] []
                      · exact fun v W1 W2 h hs => row_sta h hs
                      · rfl
                      · intro vs w9 hK hS9 hf K hKK
                        go_simp
                        refine (with_any (some ⟨eb, eo, none⟩) l.length c l tb nf w9 (HRD.out w9 hS9) hnc hll2).mono ?_
                        rintro e w5 ⟨R, rc, rfl, ho5, hu, -⟩
                        exact hKK.out _ _ (own_base ho5 hK.size) (Rg.Keeps.of_up hu) (fun g hg => ⟨(inA_own ho5 (ob_inA hg)).2, .inl (inA_own ho5 (ob_inA hg)).1⟩)
                      simp only [Act.put, List.setIfInBounds_toArray, List.set_cons_zero, List.set_cons_succ, Nat.reduceAdd]
                      iterate 2 (apply Rg.RK.ok; (· intro vs w1 hS; go_simp; with_reducible rfl); (· rfl); simp only [Act.put, List.setIfInBounds_toArray, List.set_cons_zero, List.set_cons_succ, Nat.reduceAdd])
                      apply Rg.RK.opn (fun v W => W.ownsRow wa.heap.size 110 2 v L (ncs nl)) Rg.ob [8] [8]
                      · exact fun v W1 W2 h hs => row_sta h hs
                      · rfl
                      · intro vs w9 hK hS9 hf K hKK
                        have h14 : w9.ownsRow wa.heap.size 110 2 (vs 8) (withR l tb nf).length (ncs (withR l tb nf)) := hf.1
                        obtain ⟨R, rc, hv⟩ := own_form h14
                        rw [hv] at h14
                        (try dsimp only at hKK ⊢)
                        rw [hv] at hKK ⊢
                        have HV := Lib.hid hv
                        clear hv
                        go_simp
                        refine (without_any R (withR l tb nf).length rc (withR l tb nf) ta w9 h14 hK.size (by omega)).mono ?_
                        rintro e w5 ⟨R5, rc5, rfl, ho5, hu, hat5⟩
                        rw [← HNL.out, ← HL.out] at ho5 ⊢
                        refine hKK.out _ _ ho5 (Rg.Keeps.of_up hu) (fun g hg => ⟨(inA_own ho5 (ob_inA hg)).2, ?_⟩)
                        rcases hat5 g (ob_inA hg) with h9 | h9
                        · refine .inr ⟨8, List.mem_singleton.2 rfl, ?_⟩
                          show Rg.ob (vs 8) g
                          rw [HV.out]
                          obtain ⟨x, rfl, hx⟩ := h9
                          exact hx
                        · exact .inl h9
                      simp only [Act.put, List.setIfInBounds_toArray, List.set_cons_zero, List.set_cons_succ, Nat.reduceAdd]
                      apply Rg.RK.opD (fun vs _ => vs 12 = vs 11) (fun _ _ => False) [] [] [11] (fun vs vs' h => by rw [h 12 (by simp), h 11 (by simp)]; exact ⟨rfl, rfl⟩)
                      · exact fun vs W1 W2 h hs => h
                      · rfl
                      · intro vs w4 hK hS hf K hKK
                        go_simp
                        exact hKK.out _ _ (by rw [Rg.upd_same, Rg.upd_ne _ _ (by decide)]) (Rg.Keeps.refl _ _) (fun g hg => hg.elim)
                      simp only [Act.put, List.setIfInBounds_toArray, List.set_cons_zero, List.set_cons_succ, Nat.reduceAdd]
                      apply Rg.RK.fin [11, 12]
                      intro vs w9 hK hU9 hf
                      have h11 : w9.ownsRow wa.heap.size 110 2 (vs 11) L (ncs nl) := hf.1
                      have h12 : vs 12 = vs 11 := hf.2.1
                      refine hQN.out _ _ ?_
                      clear hQN
                      (try dsimp only)
                      obtain ⟨A5, c5, hv⟩ := own_form h11
                      rw [h12]
                      rw [hv] at h11 ⊢
                      have HA5 : Hid (∀ q, inA A5 q → rfoot h q ∨ w.heap.size ≤ q) := fun q hq => .inr (Nat.le_trans hws (inA_own h11 hq).1)
                      have H5 := HQ.up hU9
                      have D5 := DQ.trans (RkTo.up hU9)
                      have ho6 := own_base h11 hbB
                      rw [HL.out] at ho6 ⊢
                      clear h11 h12 hv HQ DQ ho hat r2 r3 rn hK hf hS HRD
                      go_wp2_with fail
                      go_roundw
                      case rel => exact ⟨i2 + 1, k2 + 1, nl, A5, c5, by go_num, by go_num, rfl, by omega, by omega, by omega, H5, D5, ho6, HA5, HS2⟩
                      case measure => simp [intOf]; omega
                    · kernel_rfl
                  · have hatv : atR l ta = -1 := by unfold atR; rw [if_neg hx]
                    have e1 : doR ⟨tk, tf, ta, tb⟩ l = l := by unfold doR; rw [if_neg t0, if_pos t1, if_neg hx]
                    have hst := HST.out
                    rw [e1] at hst
                    have HS2 := Lib.hid hst
                    rw [hatv]
                    clear hst HST e1 hx hatv t0 t1
                    go_wp2_with fail
                    go_roundw
                    case rel => exact ⟨i2 + 1, k2 + 1, l, A, c, by go_num, by go_num, rfl, by omega, by omega, by omega, HQ, DQ, ho, hat, HS2⟩
                    case measure => simp [intOf]; omega
                · have b1 : ((tk : Int) == 1) = false := by rw [beq_eq_false_iff_ne]; omega
                  by_cases t2 : tk = 2
                  · have b2 : ((tk : Int) == 2) = true := by rw [beq_iff_eq]; omega
                    have e1 : doR ⟨tk, tf, ta, tb⟩ l = withoutR l ta := by unfold doR; rw [if_neg t0, if_neg t1, if_pos t2]
                    have hst := HST.out
                    rw [e1] at hst
                    have HS2 := Lib.hid hst
                    clear hst HST e1
                    go_upto_region 27 with fail
                    go_wp2_with fail
                    refine (without_any A l.length c l ta wa ho hbB hll2).mono ?_
                    rintro e w5 ⟨A5, c5, rfl, ho5, hu5, hat5⟩
                    have hw5 := withoutR_le l ta
                    have HA5 : Hid (∀ q, inA A5 q → rfoot h q ∨ w.heap.size ≤ q) := fun q hq => (hat5 q hq).elim (hat.out q) (fun h9 => .inr (Nat.le_trans hws h9))
                    have H5 := HQ.up hu5
                    have D5 := DQ.trans (RkTo.up hu5)
                    clear hat5 HQ DQ ho hat p0 p1 p2 p3 t0 t1 t2
                    go_wp2_with fail
                    go_roundw
                    case rel => exact ⟨i2 + 1, k2 + 1, _, A5, c5, by go_num, by go_num, rfl, by omega, by omega, by omega, H5, D5, ho5, HA5, HS2⟩
                    case measure => simp [intOf]; omega
                  · have b2 : ((tk : Int) == 2) = false := by rw [beq_eq_false_iff_ne]; omega
                    have e1 : doR ⟨tk, tf, ta, tb⟩ l = l := by unfold doR; rw [if_neg t0, if_neg t1, if_neg t2]
                    have hst := HST.out
                    rw [e1] at hst
                    have HS2 := Lib.hid hst
                    clear hst HST e1 t0 t1 t2
                    go_wp2_with fail
                    go_roundw
                    case rel => exact ⟨i2 + 1, k2 + 1, l, A, c, by go_num, by go_num, rfl, by omega, by omega, by omega, HQ, DQ, ho, hat, HS2⟩
                    case measure => simp [intOf]; omega
          · have hkki : ¬ (k2 : Int) < (n0 : Int) := by omega
            have hsk : skipI (keep.drop k2) = false := by rw [List.drop_eq_nil_of_le (by have := HKL.out; omega)]; rfl
            have hst := HST.out
            rw [hsk, if_neg (by decide)] at hst
            clear HST
            have HST := Lib.hid hst
            clear hst hsk
            go_upto_region 19 with fail
            have hll2 : l.length ≤ 4000000 := by omega
            by_cases t0 : tk = 0
            · have b0 : ((tk : Int) == 0) = true := by rw [beq_iff_eq]; omega
              have e1 : doR ⟨tk, tf, ta, tb⟩ l = withR l ta tf := by unfold doR; rw [if_pos t0]
              have hst := HST.out
              rw [e1] at hst
              have HS2 := Lib.hid hst
              clear hst HST e1
              have hnc := own_cap ho
              go_wp2_with fail
              refine (with_any A l.length c l ta tf wa (Rd.own ho) hnc hll2).mono ?_
              rintro e w5 ⟨A5, c5, rfl, ho5, hu5, hat5⟩
              have hw5 := withR_len l ta tf
              have HA5 : Hid (∀ q, inA A5 q → rfoot h q ∨ w.heap.size ≤ q) := fun q hq => .inr (Nat.le_trans hws (inA_own ho5 hq).1)
              have H5 := HQ.up hu5
              have D5 := DQ.trans (RkTo.up hu5)
              have ho6 := own_base ho5 hbB
              clear ho5 hat5 HQ DQ ho hat p0 p1 p2 p3 t0
              go_wp2_with fail
              go_roundw
              case rel => exact ⟨i2 + 1, k2 + 1, _, A5, c5, by go_num, by go_num, rfl, by omega, by omega, by omega, H5, D5, ho6, HA5, HS2⟩
              case measure => simp [intOf]; omega
            · have b0 : ((tk : Int) == 0) = false := by rw [beq_eq_false_iff_ne]; omega
              by_cases t1 : tk = 1
              · have b1 : ((tk : Int) == 1) = true := by rw [beq_iff_eq]; omega
                go_upto_region 23 with fail
                go_wp2_with fail
                refine (rat_any A l.length c l ta wa (Rd.own ho) hll2).mono ?_
                rintro e w5 ⟨rfl, rfl⟩
                by_cases hx : ixN l ta < l.length
                · have hatv : atR l ta = (ixN l ta : Int) := by unfold atR; rw [if_pos hx]
                  have e1 : doR ⟨tk, tf, ta, tb⟩ l = withoutR (withR l tb (l.getD (ixN l ta) ([], 0)).2) ta := by unfold doR; rw [if_neg t0, if_pos t1, if_pos hx]
                  obtain ⟨eb, eo, en, rfl, hebl, hen, n0c, n1c⟩ := (Rd.own ho).name_at hx
                  have e2 : (l.getD (ixN l ta) ([], 0)).2 = en.2 := by rw [List.getD_eq_getElem?_getD, hen]; rfl
                  rw [e2] at e1
                  obtain ⟨nf, hnf⟩ : ∃ nf, nf = en.2 := ⟨_, rfl⟩
                  rw [← hnf] at e1 n1c
                  obtain ⟨nl, hnl⟩ : ∃ nl, nl = withoutR (withR l tb nf) ta := ⟨_, rfl⟩
                  rw [← hnl] at e1
                  obtain ⟨L, hL⟩ : ∃ L, L = nl.length := ⟨_, rfl⟩
                  have hwl := withR_len l tb nf
                  have hLb : nl.length ≤ l.length + 1 := by rw [hnl]; exact Nat.le_trans (withoutR_le _ _) hwl
                  have hnc := own_cap ho
                  have hst := HST.out
                  rw [e1] at hst
                  have HS2 := Lib.hid hst
                  have HNL := Lib.hid hnl
                  have HL := Lib.hid hL
                  rw [hatv]
                  obtain ⟨kx, hkx⟩ : ∃ kx, kx = ixN l ta := ⟨_, rfl⟩
                  rw [← hkx] at hx n1c ⊢
                  have hx0 : ¬ (kx : Int) < 0 := by omega
                  have hx1 : (0 : Int) ≤ (kx : Int) := by omega
                  have r3 : ∀ W, Up wa W → W.cell? ⟨gt, 3, none⟩ = some (.string (tx tb)) := fun W hU => (hU.cell (p := ⟨gt, 3, none⟩) hgt).trans p3
                  have r2 : ∀ W, Up wa W → W.cell? ⟨gt, 2, none⟩ = some (.string (tx ta)) := fun W hU => (hU.cell (p := ⟨gt, 2, none⟩) hgt).trans p2
                  have rn : ∀ W, Up wa W → W.cell? ⟨eb, eo + kx * 2 + 1, none⟩ = some (.int .i64 (nf : Int)) := fun W hU => (hU.cell (p := ⟨eb, eo + kx * 2 + 1, none⟩) hebl).trans n1c
                  have HRD : Hid (∀ W, Up wa W → Rd W W.heap.size 2 (some ⟨eb, eo, none⟩) l.length (ncs l)) := fun W hU => Rd.own (own_up ho hU)
                  have hS : ∀ W, Up wa W → Up wa W := fun _ h => h
                  clear hst HST e1 e2 hen hnf hnl hL hatv hkx n0c n1c p0 p1 p2 p3 t0 t1
                  go_upto_region 25 with fail
                  apply Rg.region_up _ (by kernel_rfl) (by kernel_rfl) hS
                  · intro QN hQN
                    iterate 8 (apply Rg.RK.ok; (· intro vs w1 hS; go_simp; with_reducible rfl); (· rfl); simp only [Act.put, List.setIfInBounds_toArray, List.set_cons_zero, List.set_cons_succ, Nat.reduceAdd])
                    apply Rg.RK.opn (fun v W => W.ownsRow wa.heap.size 110 2 v (withR l tb nf).length (ncs (withR l tb nf))) Rg.ob [] []
                    · exact fun v W1 W2 h hs => row_sta h hs
                    · rfl
                    · intro vs w9 hK hS9 hf K hKK
                      go_simp
                      refine (with_any (some ⟨eb, eo, none⟩) l.length c l tb nf w9 (HRD.out w9 hS9) hnc hll2).mono ?_
                      rintro e w5 ⟨R, rc, rfl, ho5, hu, -⟩
                      exact hKK.out _ _ (own_base ho5 hK.size) (Rg.Keeps.of_up hu) (fun g hg => ⟨(inA_own ho5 (ob_inA hg)).2, .inl (inA_own ho5 (ob_inA hg)).1⟩)
                    simp only [Act.put, List.setIfInBounds_toArray, List.set_cons_zero, List.set_cons_succ, Nat.reduceAdd]
                    iterate 2 (apply Rg.RK.ok; (· intro vs w1 hS; go_simp; with_reducible rfl); (· rfl); simp only [Act.put, List.setIfInBounds_toArray, List.set_cons_zero, List.set_cons_succ, Nat.reduceAdd])
                    apply Rg.RK.opn (fun v W => W.ownsRow wa.heap.size 110 2 v L (ncs nl)) Rg.ob [8] [8]
                    · exact fun v W1 W2 h hs => row_sta h hs
                    · rfl
                    · intro vs w9 hK hS9 hf K hKK
                      have h14 : w9.ownsRow wa.heap.size 110 2 (vs 8) (withR l tb nf).length (ncs (withR l tb nf)) := hf.1
                      obtain ⟨R, rc, hv⟩ := own_form h14
                      rw [hv] at h14
                      (try dsimp only at hKK ⊢)
                      rw [hv] at hKK ⊢
                      have HV := Lib.hid hv
                      clear hv
                      go_simp
                      refine (without_any R (withR l tb nf).length rc (withR l tb nf) ta w9 h14 hK.size (by omega)).mono ?_
                      rintro e w5 ⟨R5, rc5, rfl, ho5, hu, hat5⟩
                      rw [← HNL.out, ← HL.out] at ho5 ⊢
                      refine hKK.out _ _ ho5 (Rg.Keeps.of_up hu) (fun g hg => ⟨(inA_own ho5 (ob_inA hg)).2, ?_⟩)
                      rcases hat5 g (ob_inA hg) with h9 | h9
                      · refine .inr ⟨8, List.mem_singleton.2 rfl, ?_⟩
                        show Rg.ob (vs 8) g
                        rw [HV.out]
                        obtain ⟨x, rfl, hx⟩ := h9
                        exact hx
                      · exact .inl h9
                    simp only [Act.put, List.setIfInBounds_toArray, List.set_cons_zero, List.set_cons_succ, Nat.reduceAdd]
                    apply Rg.RK.opD (fun vs _ => vs 12 = vs 11) (fun _ _ => False) [] [] [11] (fun vs vs' h => by rw [h 12 (by simp), h 11 (by simp)]; exact ⟨rfl, rfl⟩)
                    · exact fun vs W1 W2 h hs => h
                    · rfl
                    · intro vs w4 hK hS hf K hKK
                      go_simp
                      exact hKK.out _ _ (by rw [Rg.upd_same, Rg.upd_ne _ _ (by decide)]) (Rg.Keeps.refl _ _) (fun g hg => hg.elim)
                    simp only [Act.put, List.setIfInBounds_toArray, List.set_cons_zero, List.set_cons_succ, Nat.reduceAdd]
                    apply Rg.RK.fin [11, 12]
                    intro vs w9 hK hU9 hf
                    have h11 : w9.ownsRow wa.heap.size 110 2 (vs 11) L (ncs nl) := hf.1
                    have h12 : vs 12 = vs 11 := hf.2.1
                    refine hQN.out _ _ ?_
                    clear hQN
                    (try dsimp only)
                    obtain ⟨A5, c5, hv⟩ := own_form h11
                    rw [h12]
                    rw [hv] at h11 ⊢
                    have HA5 : Hid (∀ q, inA A5 q → rfoot h q ∨ w.heap.size ≤ q) := fun q hq => .inr (Nat.le_trans hws (inA_own h11 hq).1)
                    have H5 := HQ.up hU9
                    have D5 := DQ.trans (RkTo.up hU9)
                    have ho6 := own_base h11 hbB
                    rw [HL.out] at ho6 ⊢
                    clear h11 h12 hv HQ DQ ho hat r2 r3 rn hK hf hS HRD
                    go_wp2_with fail
                    go_roundw
                    case rel => exact ⟨i2 + 1, k2 + 1, nl, A5, c5, by go_num, by go_num, rfl, by omega, by omega, by omega, H5, D5, ho6, HA5, HS2⟩
                    case measure => simp [intOf]; omega
                  · kernel_rfl
                · have hatv : atR l ta = -1 := by unfold atR; rw [if_neg hx]
                  have e1 : doR ⟨tk, tf, ta, tb⟩ l = l := by unfold doR; rw [if_neg t0, if_pos t1, if_neg hx]
                  have hst := HST.out
                  rw [e1] at hst
                  have HS2 := Lib.hid hst
                  rw [hatv]
                  clear hst HST e1 hx hatv t0 t1
                  go_wp2_with fail
                  go_roundw
                  case rel => exact ⟨i2 + 1, k2 + 1, l, A, c, by go_num, by go_num, rfl, by omega, by omega, by omega, HQ, DQ, ho, hat, HS2⟩
                  case measure => simp [intOf]; omega
              · have b1 : ((tk : Int) == 1) = false := by rw [beq_eq_false_iff_ne]; omega
                by_cases t2 : tk = 2
                · have b2 : ((tk : Int) == 2) = true := by rw [beq_iff_eq]; omega
                  have e1 : doR ⟨tk, tf, ta, tb⟩ l = withoutR l ta := by unfold doR; rw [if_neg t0, if_neg t1, if_pos t2]
                  have hst := HST.out
                  rw [e1] at hst
                  have HS2 := Lib.hid hst
                  clear hst HST e1
                  go_upto_region 27 with fail
                  go_wp2_with fail
                  refine (without_any A l.length c l ta wa ho hbB hll2).mono ?_
                  rintro e w5 ⟨A5, c5, rfl, ho5, hu5, hat5⟩
                  have hw5 := withoutR_le l ta
                  have HA5 : Hid (∀ q, inA A5 q → rfoot h q ∨ w.heap.size ≤ q) := fun q hq => (hat5 q hq).elim (hat.out q) (fun h9 => .inr (Nat.le_trans hws h9))
                  have H5 := HQ.up hu5
                  have D5 := DQ.trans (RkTo.up hu5)
                  clear hat5 HQ DQ ho hat p0 p1 p2 p3 t0 t1 t2
                  go_wp2_with fail
                  go_roundw
                  case rel => exact ⟨i2 + 1, k2 + 1, _, A5, c5, by go_num, by go_num, rfl, by omega, by omega, by omega, H5, D5, ho5, HA5, HS2⟩
                  case measure => simp [intOf]; omega
                · have b2 : ((tk : Int) == 2) = false := by rw [beq_eq_false_iff_ne]; omega
                  have e1 : doR ⟨tk, tf, ta, tb⟩ l = l := by unfold doR; rw [if_neg t0, if_neg t1, if_neg t2]
                  have hst := HST.out
                  rw [e1] at hst
                  have HS2 := Lib.hid hst
                  clear hst HST e1 t0 t1 t2
                  go_wp2_with fail
                  go_roundw
                  case rel => exact ⟨i2 + 1, k2 + 1, l, A, c, by go_num, by go_num, rfl, by omega, by omega, by omega, HQ, DQ, ho, hat, HS2⟩
                  case measure => simp [intOf]; omega
        · have hlti2 : ¬ (i2 : Int) < (no : Int) := by omega
          have hfin : crashRT r.ops r.last (keep.drop k) = l := by
            have h9 := hcr.out
            rw [List.drop_eq_nil_of_le (by have := HNO.out; omega)] at h9
            exact h9.symm
          have HR : Hid (crashR r keep = { r with files := fs, now := l, last := l, ops := [], left := -1, fail := 0, dead := false }) := by
            show crashR r keep = _
            unfold crashR
            rw [HDONE.out]
            dsimp only
            rw [hfin]
          obtain ⟨N1, ho1⟩ := HQ.nowX l ho
          have L1 := N1.lastX l ho1
          have O1 := L1.opsNil
          obtain ⟨S1, -⟩ := O1.setHead { r with files := fs, now := l, last := l, ops := [], left := -1 } 6 (.int .i64 (-1)) rfl rfl rfl rfl rfl
          obtain ⟨S2, -⟩ := S1.setHead { r with files := fs, now := l, last := l, ops := [], left := -1, fail := 0 } 7 (.int .i64 0) rfl rfl rfl rfl rfl
          obtain ⟨S3, -⟩ := S2.setHead { r with files := fs, now := l, last := l, ops := [], left := -1, fail := 0, dead := false } 8 (.bool false) rfl rfl rfl rfl rfl
          have hK9 := setc_keeps _ _ h.g 8 (.bool false) (setc_keeps _ _ h.g 7 (.int .i64 0) (setc_keeps _ _ h.g 6 (.int .i64 (-1)) (setc_keeps _ _ h.g 4 (.slice none 0 0) (setc_keeps _ _ h.g 3 (.slice A l.length c) (setc_keeps _ _ h.g 2 (.slice A l.length c) (Rg.Keeps.refl _ wr))))))
          have DT : RkTo h w { h with na := A, nc := c, la := A, lc := c, oa := none, oc := 0 } _ := ⟨rfl, Keeps.trans2 DQ.kept (Keeps.weak hK9 (fun q hq => .inl hq)), fun q hq => by
            rcases hq with hq | hq | hq | hq | hq
            · exact .inl (.inl hq)
            · exact .inl (.inr (.inl hq))
            · exact hat.out q hq
            · exact hat.out q hq
            · obtain ⟨a, ha, _⟩ := hq; cases ha⟩
          have z2 := blk_free HQ.hd 2
          have z3 := blk_free HQ.hd 3
          have z4 := blk_free HQ.hd 4
          have z6 := blk_free HQ.hd 6
          have z7 := blk_free HQ.hd 7
          have z8 := blk_free HQ.hd 8
          have c2 := blk_cell HQ.hd 2
          have c3 := blk_cell HQ.hd 3
          have c6 := blk_cell HQ.hd 6
          have c7 := blk_cell HQ.hd 7
          have c8 := blk_cell HQ.hd 8
          have HS3 := Lib.hid S3
          have HDT := Lib.hid DT
          clear N1 ho1 L1 O1 S1 S2 S3 DT hK9 hcr hfin hat ho DQ HQ
          go_wp2_with fail
          rw [HR.out]
          exact bodyPost_end (results_none rfl _ _ _) rfl ⟨_, rfl, HS3.out, HDT.out⟩
end Go.Proofs.Ytebhhfmekmpnkaa

/-
  A disk and the document's disk side by side in memory.
-/
namespace Go.Proofs.Ytebhhfmekmpnkaa
open Go.RowKit Go.Maps
set_option linter.unusedVariables false
set_option linter.unusedSimpArgs false

structure Two (B : Nat) (h : Hp) (d : Dk) (hr : Rh) (r : Rk) (w : World) : Prop where
  D : DiskAt B h d w
  R : RkAt B hr r w
  ap : ∀ k, foot h k → ¬ rfoot hr k
structure TwoTo (h : Hp) (hr : Rh) (w : World) (h' : Hp) (hr' : Rh) (w' : World) : Prop where
  g : h'.g = h.g
  gr : hr'.g = hr.g
  kept : Rg.Keeps (fun k => foot h k ∨ rfoot hr k) w w'
  foot : ∀ k, (foot h' k ∨ rfoot hr' k) → (foot h k ∨ rfoot hr k) ∨ w.heap.size ≤ k
/-- what of it stands at whatever has come up -/
structure TwoTo2 (h : Hp) (hr : Rh) (w w' : World) : Prop where
  kept : Rg.Keeps (fun k => foot h k ∨ rfoot hr k) w w'
variable {B : Nat} {h h' h'' : Hp} {hr hr' hr'' : Rh} {d d' : Dk} {r r' : Rk} {w w' w'' : World}
theorem TwoTo.two (x : TwoTo h hr w h' hr' w') : TwoTo2 h hr w w' := ⟨x.kept⟩
theorem TwoTo2.up (hu : Up w w') : TwoTo2 h hr w w' := ⟨Rg.Keeps.of_up hu⟩
theorem TwoTo.refl (h : Hp) (hr : Rh) (w : World) : TwoTo h hr w h hr w := ⟨rfl, rfl, Rg.Keeps.refl _ _, fun k hk => .inl hk⟩
theorem TwoTo.up (hu : Up w w') : TwoTo h hr w h hr w' := ⟨rfl, rfl, Rg.Keeps.of_up hu, fun k hk => .inl hk⟩
theorem TwoTo.trans (x : TwoTo h hr w h' hr' w') (y : TwoTo h' hr' w' h'' hr'' w'') : TwoTo h hr w h'' hr'' w'' := by
  refine ⟨y.g.trans x.g, y.gr.trans x.gr, ⟨y.kept.os.trans x.kept.os, y.kept.tape.trans x.kept.tape, y.kept.output.trans x.kept.output, Nat.le_trans x.kept.size y.kept.size, fun i hi hx => ?_⟩, fun k hk => ?_⟩
  · refine (y.kept.block i (Nat.lt_of_lt_of_le hi x.kept.size) (fun hf => ?_)).trans (x.kept.block i hi hx)
    rcases x.foot i hf with h1 | h1
    · exact hx h1
    · omega
  · rcases y.foot k hk with h1 | h1
    · exact x.foot k h1
    · exact .inr (Nat.le_trans x.kept.size h1)
/-- the kept half, and a step from the same beginning -/
theorem TwoTo2.trans (x : TwoTo2 h hr w w') (y : TwoTo h hr w' h' hr' w'') : TwoTo h hr w h' hr' w'' := by
  refine ⟨y.g, y.gr, ⟨y.kept.os.trans x.kept.os, y.kept.tape.trans x.kept.tape, y.kept.output.trans x.kept.output, Nat.le_trans x.kept.size y.kept.size, fun i hi hx => ?_⟩, fun k hk => ?_⟩
  · exact (y.kept.block i (Nat.lt_of_lt_of_le hi x.kept.size) hx).trans (x.kept.block i hi hx)
  · exact (y.foot k hk).imp id (fun h9 => Nat.le_trans x.kept.size h9)
theorem Two.up (T : Two B h d hr r w) (hu : Up w w') : Two B h d hr r w' := ⟨T.D.up hu, T.R.up hu, T.ap⟩
theorem Two.stepD (T : Two B h d hr r w) (H : DiskAt B h' d' w') (D : DkTo h w h' w') : Two B h' d' hr r w' ∧ TwoTo h hr w h' hr w' := by
  refine ⟨⟨H, T.R.keepsX D.kept (fun k hk hf => T.ap k hf hk), fun k hk hf => ?_⟩, D.g, rfl, Keeps.weak D.kept (fun k hk => .inl hk), fun k hk => ?_⟩
  · rcases D.foot k hk with h1 | h1
    · exact T.ap k h1 hf
    · have := (T.R.lt hf).2; omega
  · rcases hk with hk | hk
    · exact (D.foot k hk).imp .inl id
    · exact .inl (.inr hk)
theorem Two.stepR (T : Two B h d hr r w) (H : RkAt B hr' r' w') (D : RkTo hr w hr' w') : Two B h d hr' r' w' ∧ TwoTo h hr w h hr' w' := by
  refine ⟨⟨T.D.keepsX D.kept (fun k hk hf => T.ap k hk hf), H, fun k hk hf => ?_⟩, rfl, D.g, Keeps.weak D.kept (fun k hk => .inr hk), fun k hk => ?_⟩
  · rcases D.foot k hf with h1 | h1
    · exact T.ap k hk h1
    · have := (T.D.lt hk).2; omega
  · rcases hk with hk | hk
    · exact .inl (.inl hk)
    · exact (D.foot k hk).imp .inr id
theorem Two.lt (T : Two B h d hr r w) {k : Nat} (hk : foot h k ∨ rfoot hr k) : B ≤ k ∧ k < w.heap.size := hk.elim (fun h => T.D.lt h) (fun h => T.R.lt h)
theorem TwoTo.below {w0 : World} (x : TwoTo h hr w h' hr' w') (T : Two B h d hr r w) (hB : w0.heap.size ≤ B) (hu : Up w0 w) : Up w0 w' :=
  ⟨x.kept.os.trans hu.os, x.kept.tape.trans hu.tape, x.kept.output.trans hu.output, Nat.le_trans hu.size x.kept.size, fun k hk => (x.kept.block k (Nat.lt_of_lt_of_le hk hu.size) (fun hf => by have := (T.lt hf).1; omega)).trans (hu.block k hk)⟩
theorem TwoTo2.cell (x : TwoTo2 h hr w w') {g o : Nat} {u : Value} (hl : g < w.heap.size) (hn : ¬ (Go.Proofs.Ytebhhfmekmpnkaa.foot h g ∨ rfoot hr g)) (hc : w.cell? ⟨g, o, none⟩ = some u) : w'.cell? ⟨g, o, none⟩ = some u :=
  (World.cell?_of_block (a := ⟨g, o, none⟩) (x.kept.block g hl hn)).trans hc
theorem DiskAt.baseD {B' : Nat} (H : DiskAt B h d w) (hB : B' ≤ B) : DiskAt B' h d w :=
  ⟨H.hd, Nat.le_trans hB H.base, own_base H.files hB, H.flen, fun i f x hf hx => ⟨(H.each i f x hf hx).blk, own_base (H.each i f x hf hx).own hB, Nat.le_trans hB (H.each i f x hf hx).base⟩, H.apart, H.names, H.lasted, H.nl, ⟨Nat.le_trans hB H.nbase.1, Nat.le_trans hB H.nbase.2⟩, own_base H.turns hB⟩
theorem RkAt.baseR {B' : Nat} (H : RkAt B hr r w) (hB : B' ≤ B) : RkAt B' hr r w := ⟨H.hd, Nat.le_trans hB H.base, own_base H.files hB, own_base H.now hB, own_base H.last hB, own_base H.ops hB⟩
/-- a copy beside the document's disk -/
theorem Two.copy {hc : Hp} (T : Two B h d hr r w) (H : DiskAt w.heap.size hc d w') (hu : Up w w') : Two B hc d hr r w' := by
  have hB : B ≤ w.heap.size := Nat.le_of_lt (Nat.lt_of_le_of_lt T.R.base (T.R.lt (.inl rfl)).2)
  exact ⟨H.baseD hB, T.R.up hu, fun k hk hf => by have h1 := (H.lt hk).1; have h2 := (T.R.lt hf).2; omega⟩
/-- a step of a third disk that lies apart from both -/
theorem Two.past {h3 h3' : Hp} (T : Two B h d hr r w) (x : DkTo h3 w h3' w') (ap : ∀ k, (foot h k ∨ rfoot hr k) → ¬ foot h3 k) : Two B h d hr r w' ∧ ∀ k, (foot h k ∨ rfoot hr k) → ¬ foot h3' k := by
  refine ⟨⟨T.D.keepsX x.kept (fun k hk => ap k (.inl hk)), T.R.keepsX x.kept (fun k hk => ap k (.inr hk)), T.ap⟩, fun k hk hf => ?_⟩
  rcases x.foot k hf with h1 | h1
  · exact ap k hk h1
  · have := (T.lt hk).2; omega
theorem Two.list_le {k : Nat} (T : Two B h d hr r w) (S : Sm k d r) : ∀ s ∈ listR r, s.length ≤ 9223372036854775807 := fun s hs => by
  unfold listR at hs
  split at hs
  · cases hs
  · exact strKeys_le T.D.names Try.underlying9 s (S.nm.keysPerm.mem_iff.1 hs)
end Go.Proofs.Ytebhhfmekmpnkaa

/-
  What the disk's Copy calls: slices.Clone of turns and of bytes, atomic Store.
-/
namespace Go.Proofs.Ytebhhfmekmpnkaa
open Go.RowKit Go.Maps
set_option linter.unusedVariables false
set_option linter.unusedSimpArgs false

set_option maxRecDepth 100000 in
theorem bclone_any (A : Option Addr) (n c : Nat) (l : List UInt8) (w : World) (hr : Rd w w.heap.size 1 A n (bvs l)) (hn : n ≤ 1099511627776) :
    Calls Try.prog 57 #[.slice A n c] w fun e w' => ∃ A' c', e = .returned (.slice A' n c') ∧ OwnB w' w.heap.size A' n c' l ∧ Up w w' := by
  have hnil : ∀ W, (binOp .eql 31 (.slice A n c) (.slice none 0 0)).run Try.prog W = .ok (.bool A.isNone) W := fun W => Lib.run_eql_slice_nil W 31 5 A n c 0 0 Try.underlying31
  rcases A with _ | ad
  · have h0 : n = 0 := by
      rcases Nat.eq_zero_or_pos n with h | h
      · exact h
      · obtain ⟨b, o, e, _⟩ := hr.2 h
        cases e
    subst h0
    have hl : l = [] := List.eq_nil_of_length_eq_zero hr.blen.symm
    subst hl
    rw [show (none : Option Addr).isNone = true from rfl] at hnil
    go_enter Try.func57, Try.ntmps57
    go_wp2_with fail
    go_ret
    exact ⟨none, 0, rfl, World.ownsRow_nil _ _ _ _, Up.refl _⟩
  · rw [show (some ad : Option Addr).isNone = false from rfl] at hnil
    have hrow := row_new w #[] 5 (base := w.heap.size) (sz := 1) (n := 0) (Nat.le_refl _) rfl (by omega)
    have hub : Up w (w.alloc (.cells #[] 5)) := (Up.refl w).alloc _
    have hr1 := hr.up hub
    go_enter Try.func57, Try.ntmps57
    go_wp2_with (at_builtin; refine wpList_append_rd _ bytesT hrow hr1 (bvs_one _) (by omega) (by omega) (by simp) rfl rfl rfl rfl ?_; intro v1 w1 hown1 hg1 hat1)
    obtain ⟨A1, c1, rfl⟩ := own_form hown1
    rw [Nat.zero_add, List.nil_append] at hown1
    rw [Nat.zero_add]
    go_ret
    exact ⟨A1, c1, rfl, hown1, hub.grown hg1 (fun k e => by simp only [Value.ownBlock, Option.some.injEq] at e; omega)⟩
set_option maxRecDepth 100000 in
theorem tclone_any (A : Option Addr) (n c : Nat) (l : List Tn) (w : World) (hr : Rd w w.heap.size 4 A n (tcs l)) (hn : n ≤ 1000000) :
    Calls Try.prog 55 #[.slice A n c] w fun e w' => ∃ A' c', e = .returned (.slice A' n c') ∧ w'.ownsRow w.heap.size 76 4 (.slice A' n c') n (tcs l) ∧ Up w w' := by
  have hnil : ∀ W, (binOp .eql 64 (.slice A n c) (.slice none 0 0)).run Try.prog W = .ok (.bool A.isNone) W := fun W => Lib.run_eql_slice_nil W 64 76 A n c 0 0 Try.underlying64
  rcases A with _ | ad
  · have h0 : n = 0 := by
      rcases Nat.eq_zero_or_pos n with h | h
      · exact h
      · obtain ⟨b, o, e, _⟩ := hr.2 h
        cases e
    subst h0
    have hl : l = [] := List.eq_nil_of_length_eq_zero hr.tlen.symm
    subst hl
    rw [show (none : Option Addr).isNone = true from rfl] at hnil
    go_enter Try.func55, Try.ntmps55
    go_wp2_with fail
    go_ret
    exact ⟨none, 0, rfl, World.ownsRow_nil _ _ _ _, Up.refl _⟩
  · rw [show (some ad : Option Addr).isNone = false from rfl] at hnil
    have hrow := row_new w #[] 76 (base := w.heap.size) (sz := 4) (n := 0) (Nat.le_refl _) rfl (by omega)
    have hub : Up w (w.alloc (.cells #[] 76)) := (Up.refl w).alloc _
    have hr1 := hr.up hub
    go_enter Try.func55, Try.ntmps55
    go_wp2_with (at_builtin; refine wpList_append_rd _ turnsT hrow hr1 (tcs_one _) (by omega) (by omega) (by simp) rfl rfl rfl rfl ?_; intro v1 w1 hown1 hg1 hat1)
    obtain ⟨A1, c1, rfl⟩ := own_form hown1
    rw [Nat.zero_add, List.nil_append] at hown1
    rw [Nat.zero_add]
    go_ret
    exact ⟨A1, c1, rfl, hown1, hub.grown hg1 (fun k e => by simp only [Value.ownBlock, Option.some.injEq] at e; omega)⟩
theorem istored_any (g o : Nat) (x y : Int) (w : World) (hc : w.cell? ⟨g, o, none⟩ = some (.int .i64 x)) (hz : w.frozen? ⟨g, o, none⟩ = false) :
    Calls Try.prog 56 #[.pointer (some ⟨g, o, none⟩), .int .i64 y] w fun e w' => e = .returned (.tuple #[]) ∧ w' = w.setCell ⟨g, o, none⟩ (.int .i64 y) := by
  have hst := run_call_store (P := Try.prog) Try.func75 (by kernel_rfl) (by kernel_rfl) (by kernel_rfl) (by kernel_rfl) (k := .i64) (y := y) hc hz
  go_enter Try.func56, Try.ntmps56
  go_wp2_with fail
  exact bodyPost_end (results_none rfl _ _ _) rfl ⟨rfl, rfl⟩
/-! a file more, as the copy has it -/
theorem DiskAt.addFileF {B : Nat} {h : Hp} {d : Dk} {w w' : World} (H : DiskAt B h d w) {fa' A : Option Addr} {fc' g c : Nat} {x : Fi} (hF : FileAt B ⟨g, A, c⟩ x w') (hg : w.heap.size ≤ g) (hA : ∀ k, inA A k → w.heap.size ≤ k)
    (hd : w'.heap[h.g]? = some (.cells (dcs { d with files := d.files ++ [x] } { h with fa := fa', fc := fc', fl := h.fl ++ [⟨g, A, c⟩] }) 71 (0, 0)))
    (ho : w'.ownsRow B 73 1 (.slice fa' (d.files.length + 1) fc') (d.files.length + 1) (pfs h.fl ++ [.pointer (some ⟨g, 0, none⟩)])) (hK : Rg.Keeps (fun k => k = h.g ∨ inA h.fa k) w w') :
    DiskAt B { h with fa := fa', fc := fc', fl := h.fl ++ [⟨g, A, c⟩] } { d with files := d.files ++ [x] } w' := by
  have hx : ∀ k, (k = h.g ∨ inA h.fa k) → kd w k = some (some 71) ∨ kd w k = some (some 73) := by
    rintro k (rfl | hk)
    · exact .inl (kd_cells H.hd)
    · exact .inr (kd_row H.files hk)
  have hm := H.mkeep hK (fun k hk => by rcases hx k hk with e | e <;> rw [e] <;> simp)
  have ht := H.tkeep hK (fun k hk => by rcases hx k hk with e | e <;> rw [e] <;> decide)
  have heach : ∀ (i : Nat) (f : Fl) (x : Fi), h.fl[i]? = some f → d.files[i]? = some x → FileAt B f x w' := fun i f x hf hx2 => by
    have hF := H.each i f x hf hx2
    refine hF.keepsX hK (fun hX => ?_) (fun k hk hX => ?_)
    · have h1 := kd_cells hF.blk
      rcases hx _ hX with e | e <;> rw [e] at h1 <;> exact absurd h1 (by decide)
    · have h1 := kd_row hF.own hk
      rcases hx _ hX with e | e <;> rw [e] at h1 <;> exact absurd h1 (by decide)
  have hfl := H.flen
  have hold : ∀ (i : Nat) (f : Fl), h.fl[i]? = some f → f.g < w.heap.size ∧ ∀ k, inA f.A k → k < w.heap.size := fun i f hf => by
    have hm := List.mem_of_getElem? hf
    exact ⟨(H.lt (.inr (.inr (.inr (.inr (.inr ⟨f, hm, .inl rfl⟩)))))).2, fun k hk => (H.lt (.inr (.inr (.inr (.inr (.inr ⟨f, hm, .inr hk⟩)))))).2⟩
  refine ⟨hd, H.base, ?_, by simp [hfl], fun i f y hf hx2 => ?_, fun i j f f' hij hf hf' => ?_, hm.1, hm.2, H.nl, H.nbase, ht⟩
  · have hp : pfs (h.fl ++ [⟨g, A, c⟩]) = pfs h.fl ++ [.pointer (some ⟨g, 0, none⟩)] := by simp [pfs]
    show World.ownsRow _ B _ 1 (.slice fa' (d.files ++ [x]).length fc') (d.files ++ [x]).length (pfs (h.fl ++ [(⟨g, A, c⟩ : Fl)]))
    rw [List.length_append, hp]
    exact ho
  · by_cases hi : i < h.fl.length
    · rw [List.getElem?_append_left hi] at hf
      rw [List.getElem?_append_left (by omega)] at hx2
      exact heach i f y hf hx2
    · have hi2 : i = h.fl.length := by
        have := (List.getElem?_eq_some_iff.1 hf).1
        simp at this
        omega
      subst hi2
      rw [List.getElem?_append_right (Nat.le_refl _), Nat.sub_self] at hf
      rw [List.getElem?_append_right (by omega), hfl, Nat.sub_self] at hx2
      simp at hf hx2
      subst hf hx2
      exact hF
  · have hin : ∀ (j : Nat) (f : Fl), (h.fl ++ [⟨g, A, c⟩])[j]? = some f → (j < h.fl.length ∧ h.fl[j]? = some f) ∨ (j = h.fl.length ∧ f = ⟨g, A, c⟩) := fun j f hf => by
      by_cases hj : j < h.fl.length
      · rw [List.getElem?_append_left hj] at hf; exact .inl ⟨hj, hf⟩
      · have h9 := (List.getElem?_eq_some_iff.1 hf).1
        simp at h9
        have hj2 : j = h.fl.length := by omega
        subst hj2
        rw [List.getElem?_append_right (Nat.le_refl _), Nat.sub_self] at hf
        simp at hf
        exact .inr ⟨rfl, hf.symm⟩
    rcases hin i f hf with ⟨h1, h2⟩ | ⟨h1, rfl⟩
    · rcases hin j f' hf' with ⟨h3, h4⟩ | ⟨h3, rfl⟩
      · exact H.apart i j f f' hij h2 h4
      · have h5 := hold i f h2
        exact ⟨fun e => by have e2 : f.g = g := e; omega, fun k hk hk2 => by have := h5.2 k hk; have := hA k hk2; omega⟩
    · rcases hin j f' hf' with ⟨h3, h4⟩ | ⟨h3, rfl⟩
      · have h5 := hold j f' h4
        exact ⟨fun e => by have e2 : g = f'.g := e; omega, fun k hk hk2 => by have := h5.2 k hk2; have := hA k hk; omega⟩
      · omega
end Go.Proofs.Ytebhhfmekmpnkaa
