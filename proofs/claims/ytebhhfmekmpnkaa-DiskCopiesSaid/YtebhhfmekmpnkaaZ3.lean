/-
  Texts of this claim, joined: DkW4, DkW6, DkW7, DkR, DkW8, DkW9, DkW10, DkW11, DkW12, DkLaw.
-/
import Derived.Lib.MinMax
import Derived.Laws.Externs
import Derived.Shelf.SlMaps.Clone
import Derived.Lib.SliceRun
import Derived.StillTailTactics
import Derived.Lib.SlBytesConst
import Derived.Test.YtebhhfmekmpnkaaZ2
/-
  The walks of the disk's used, Used, Stop, Fail.
-/
namespace Go.Proofs.Ytebhhfmekmpnkaa
open Go.RowKit Go.Maps
set_option linter.unusedVariables false
set_option linter.unusedSimpArgs false

def fidx (v : Mp) : Nat := match v with | .lit (.int .i64 c) => c.toNat | _ => 0
def flenAt (fs : List Fi) (v : Mp) : Nat := (fs.getD (fidx v) ⟨[], 0⟩).b.length
/-- the sum over those that were told already -/
def usedS (fs : List Fi) (left : Lit → Bool) : List (Lit × Mp) → Nat
  | [] => 0
  | p :: r => (if left p.1 = true then 0 else flenAt fs p.2) + usedS fs left r
def usedM (fs : List Fi) (D : Mp) : Nat := match D with | .map es => usedS fs (fun _ => false) es | _ => 0
def usedD (d : Dk) : Nat := usedM d.files d.names
theorem usedS_le (fs : List Fi) (left : Lit → Bool) (hf : ∀ f ∈ fs, f.b.length ≤ 250000) : ∀ es : List (Lit × Mp), usedS fs left es ≤ es.length * 250000
  | [] => Nat.le_refl _
  | p :: r => by
    have h := usedS_le fs left hf r
    have h2 : flenAt fs p.2 ≤ 250000 := by
      unfold flenAt
      rw [List.getD_eq_getElem?_getD]
      cases hx : fs[fidx p.2]? with
      | none => exact Nat.zero_le _
      | some x => exact hf x (List.mem_of_getElem? hx)
    unfold usedS
    rw [List.length_cons]
    split <;> omega
theorem usedS_all (fs : List Fi) (left : Lit → Bool) : ∀ es : List (Lit × Mp), (∀ p ∈ es, left p.1 = true) → usedS fs left es = 0
  | [], _ => rfl
  | p :: r, h => by
    unfold usedS
    rw [if_pos (h p (List.mem_cons_self ..)), usedS_all fs left r (fun q hq => h q (List.mem_cons_of_mem _ hq))]
theorem usedS_congr (fs : List Fi) (left left' : Lit → Bool) : ∀ es : List (Lit × Mp), (∀ p ∈ es, left p.1 = left' p.1) → usedS fs left es = usedS fs left' es
  | [], _ => rfl
  | p :: r, h => by
    unfold usedS
    rw [h p (List.mem_cons_self ..), usedS_congr fs left left' r (fun q hq => h q (List.mem_cons_of_mem _ hq))]
theorem sameKey_self {a : Lit} (h : WideAt.IsKeyLit a) : a.sameKey a = true := by
  cases a <;> simp_all [WideAt.IsKeyLit, Lit.sameKey]
theorem usedS_step (fs : List Fi) (left : Lit → Bool) (kl : Lit) (hk : WideAt.IsKeyLit kl) (hl : left kl = true) : ∀ es : List (Lit × Mp), es.Pairwise (fun p q => p.1 ≠ q.1) → ∀ p ∈ es, p.1 = kl → usedS fs (fun z => left z && !z.sameKey kl) es = usedS fs left es + flenAt fs p.2
  | [], _, p, hp, _ => by cases hp
  | q :: r, hpw, p, hp, he => by
    obtain ⟨h1, h2⟩ := List.pairwise_cons.1 hpw
    rcases List.mem_cons.1 hp with rfl | hp
    · have hr : usedS fs (fun z => left z && !z.sameKey kl) r = usedS fs left r := usedS_congr fs _ _ r (fun x hx => by
        have h9 := h1 x hx
        rw [he] at h9
        rw [Maps.sameKey_ne (fun e => h9 e.symm)]
        simp)
      unfold usedS
      rw [hr, he, hl, sameKey_self hk]
      simp
      omega
    · have hr := usedS_step fs left kl hk hl r h2 p hp he
      have h9 := h1 p hp
      rw [he] at h9
      unfold usedS
      rw [hr, Maps.sameKey_ne h9]
      simp
      omega
theorem atKey_mem {es : List (Lit × Mp)} (hpw : es.Pairwise (fun p q => p.1 ≠ q.1)) {kl : Lit} (h : Maps.has (.map es : Mp) kl = true) : ∃ p ∈ es, p.1 = kl ∧ ∀ z, (DataW.map es : Mp).atKey kl z = p.2 := by
  rw [Maps.has_eq, List.any_eq_true] at h
  obtain ⟨p, hp, hk⟩ := h
  have hke := WideAt.sameKey_eq hk
  cases hf : es.find? (fun q => q.1.sameKey kl) with
  | none => exact absurd hk (by simpa using List.find?_eq_none.1 hf p hp)
  | some q =>
    refine ⟨q, List.mem_of_find?_eq_some hf, WideAt.sameKey_eq (by simpa using List.find?_some hf), fun z => ?_⟩
    simp [DataW.atKey, hf]
theorem key_inv (key : Value) (kl : Lit) (h : keyOf Try.prog 9 key = some kl) : ∃ x, key = Value.string x := by
  rw [Go.keyOf_string Try.underlying9] at h
  cases key <;> simp [mapKey, Try.underlying9] at h
  exact ⟨_, rfl⟩
theorem val_inv (v : Value) (y : Mp × List MemPlace) (h : plainElem Try.prog 3 v = some y) : ∃ c, v = Value.int .i64 c := by
  obtain ⟨a, rfl, _⟩ := plainElem_int_inv Try.underlying3 h
  exact ⟨a, rfl⟩
set_option maxRecDepth 100000 in
set_option maxHeartbeats 800000 in
theorem used_any {B : Nat} {h : Hp} {d : Dk} {w : World} (H : DiskAt B h d w) (hok : DkOk d) :
    Calls Try.prog 39 #[.pointer (some ⟨h.g, 0, none⟩)] w fun e w' => e = .returned (.int .i64 (usedD d : Int)) ∧ Up w w' := by
  have c2 : w.cell? ⟨h.g, 2, none⟩ = some (.map (some h.nb)) := blk_cell H.hd 2
  obtain ⟨es, hes, hpw, hkl⟩ := H.names.entries strKey
  have hlen : es.length ≤ 1000000 := by have := hok.sn; rw [hes, Maps.size_eq] at this; exact this
  have hnm := hok.nm.2
  have hfb : ∀ f ∈ d.files, f.b.length ≤ 250000 := fun f hf => (hok.fb f hf).1
  have hud : usedD d = usedS d.files (fun _ => false) es := by unfold usedD; rw [hes]; rfl
  have HES := Lib.hid hes
  have HUD := Lib.hid hud
  have HNM := Lib.hid hnm
  clear hes hud hnm
  go_enter Try.func39, Try.ntmps39
  go_wp2_with (at_range; refine wpList_range_own _ rfl _ 62 rfl 9 3 strKey Try.underlying62 (plainElem Try.prog 3) h.nb _ d.names rfl H.names ?_; intro w1 hrg1 hgr1 hsz1)
  go_frame
  have hup1 : Up w w1 := ⟨hgr1.os, hgr1.tape, hgr1.output, hgr1.size, fun k hk => hgr1.block k hk (by simp)⟩
  go_loopw [3] (fun nv wr => ∃ (left : Lit → Bool) (cnt : Nat), nv = .int .i64 (usedS d.files left es : Int) ∧ wr.ranges Try.prog 9 (plainElem Try.prog 3) h.nb w.heap.size (Maps.size d.names) d.names left cnt ∧ Up w wr ∧ Hid (∀ kl, left kl = true → Maps.has d.names kl = true)) (fun _ wr => wr.rangeLeft h.nb w.heap.size)
  case atStart =>
    refine ⟨Maps.has d.names, _, ?_, hrg1, hup1, fun kl hk => hk⟩
    rw [usedS_all d.files (Maps.has d.names) es (fun p hp => by
      rw [HES.out, Maps.has_eq, List.any_eq_true]
      exact ⟨p, hp, WideAt.sameKey_self (hkl p hp)⟩)]
    rfl
  case round =>
    obtain ⟨left, cnt, rfl, hrg, hup, hsub⟩ := hrel
    clear hrg1 hgr1 hsz1 hup1
    have hT := usedS_le d.files left hfb es
    have HC := Lib.hid (fun (hl0 : ∀ kl, left kl = false) => usedS_congr d.files left (fun _ => false) es (fun p _ => hl0 p.1))
    have HS := Lib.hid (fun (kl : Lit) (hk : WideAt.IsKeyLit kl) (hl : left kl = true) => usedS_step d.files left kl hk hl es hpw)
    have hle := hrg.left_eq
    have HLE := Lib.hid hle
    clear hle
    generalize usedS d.files left es = T at *
    go_wp2_with (first
      | (at_next; refine wpList_next_ranges _ rfl _ rfl 9 strKey (plainElem Try.prog 3) Value.string (Value.int .i64) key_inv val_inv h.nb w.heap.size _ d.names left cnt rfl hrg ?_ ?_)
      | go_in)
    · intro hc0 hl0
      have hTe := HC.out hl0
      have HTE := Lib.hid hTe
      clear hrg hTe hc0 hl0
      go_wp2_with fail
      go_ret
      rw [HUD.out, HTE.out]
      exact ⟨rfl, hup⟩
    · intro x c kl y1 y2 w2 cnt2 hkx hlk hy hat hrg2 hlt hgr2 hsz2 hen
      obtain ⟨i, hi, hat0⟩ := HNM.out kl (hsub.out kl hlk)
      have hci : c = (i : Int) := by
        obtain ⟨c', e1, e2, _⟩ := plainElem_int_inv Try.underlying3 hy
        injection e1 with _ e1
        subst e1
        injection e2 with e2 _
        have h9 := hat (fiv 0)
        rw [hat0 (fiv 0), e2] at h9
        unfold fiv at h9
        injection h9 with h9
        injection h9 with _ h9
        exact h9.symm
      subst hci
      have hup2 : Up w w2 := ⟨hgr2.os.trans hup.os, hgr2.tape.trans hup.tape, hgr2.output.trans hup.output, Nat.le_trans hup.size hgr2.size, fun k hk => (hgr2.block k (Nat.lt_of_lt_of_le hk hup.size) (by simp; omega)).trans (hup.block k hk)⟩
      have H2 := H.up hup2
      obtain ⟨b, f, xx, hfa, hf, hx, hcf, hF⟩ := file_cell H2 hi
      have c1 : w2.cell? ⟨h.g, 1, none⟩ = some (.slice (some ⟨b, 0, none⟩) d.files.length h.fc) := by have := blk_cell H2.hd 1; rw [← hfa]; exact this
      have c0 : w2.cell? ⟨f.g, 0, none⟩ = some (.slice f.A xx.b.length f.c) := blk_cell hF.blk 0
      have i1 : (i : Int) < (d.files.length : Int) := by omega
      have hxl : xx.b.length ≤ 250000 := hfb xx (List.mem_of_getElem? hx)
      have hes2 := HES.out
      obtain ⟨p, hp, hpk, hpa⟩ := atKey_mem (es := es) hpw (kl := kl) (by rw [← hes2]; exact hsub.out kl hlk)
      have hfl : flenAt d.files p.2 = xx.b.length := by
        have h9 := hpa (fiv 0)
        rw [← hes2, hat0 (fiv 0)] at h9
        rw [← h9]
        unfold flenAt fidx fiv
        simp [List.getD, hx]
      have hst := HS.out kl (by rw [← hpk]; exact hkl p hp) hlk p hp hpk
      rw [hfl] at hst
      have HST := Lib.hid hst
      have HLT := Lib.hid hlt
      have HSUB : Hid (∀ z, (left z && !z.sameKey kl) = true → Maps.has d.names z = true) := fun z hz => hsub.out z (by
        rw [Bool.and_eq_true] at hz; exact hz.1)
      clear hst hlt hfl hp hpk hpa hes2 hx hf hfa hF hat hat0 hy hkx hlk hrg hsz2 hgr2 HC HS
      go_wp2_with fail
      go_roundw
      case rel =>
        refine ⟨fun z => left z && !z.sameKey kl, cnt2, ?_, hrg2, hup2, HSUB⟩
        rw [HST.out]
        rfl
      case measure =>
        rw [hrg2.left_eq, HLE.out]
        exact HLT.out
def usedO (d : Dk) : Nat := if d.dead = true then 0 else usedD d
theorem usedO_any {B : Nat} {h : Hp} {d : Dk} {w : World} (H : DiskAt B h d w) (hok : DkOk d) :
    Calls Try.prog 24 #[.pointer (some ⟨h.g, 0, none⟩)] w fun e w' => e = .returned (.int .i64 (usedO d : Int)) ∧ Up w w' := by
  have hu0 : usedO d = if d.dead = true then 0 else usedD d := rfl
  have HU := Lib.hid hu0
  clear hu0
  go_enter Try.func24, Try.ntmps24
  go_wp2_with fail
  refine (dead_any H).mono ?_
  rintro e w1 ⟨rfl, rfl⟩
  cases hd : d.dead with
  | true =>
    rw [hd] at HU
    go_wp2_with fail
    go_ret
    rw [HU.out]
    exact ⟨rfl, Up.refl _⟩
  | false =>
    rw [hd] at HU
    go_wp2_with fail
    refine (used_any H hok).mono ?_
    rintro e w2 ⟨rfl, hu2⟩
    go_wp2_with fail
    go_ret
    rw [HU.out]
    exact ⟨rfl, hu2⟩
theorem fail_any {B : Nat} {h : Hp} {d : Dk} {w : World} (H : DiskAt B h d w) (n : Int) :
    Calls Try.prog 16 #[.pointer (some ⟨h.g, 0, none⟩), .int .i64 n] w fun e w' => e = .returned (.tuple #[]) ∧ DiskAt B h { d with fail := n.toNat } w' ∧ DkTo h w h w' := by
  have c8 : w.cell? ⟨h.g, 8, none⟩ = some (.int .i64 (d.fail : Int)) := blk_cell H.hd 8
  have z8 := blk_free H.hd 8
  by_cases hn : n < 0
  · have hmx : max n 0 = 0 := by omega
    obtain ⟨H1, D1⟩ := H.setHead { d with fail := n.toNat } 8 (.int .i64 0) (by simp [dcs]; omega) rfl rfl rfl rfl
    go_enter Try.func16, Try.ntmps16
    go_wp2_with fail
    exact bodyPost_end (results_none rfl _ _ _) rfl ⟨rfl, H1, D1⟩
  · have hmx : max n 0 = n := by omega
    obtain ⟨H1, D1⟩ := H.setHead { d with fail := n.toNat } 8 (.int .i64 n) (by simp [dcs]; omega) rfl rfl rfl rfl
    have hn2 : 0 ≤ n := by omega
    go_enter Try.func16, Try.ntmps16
    go_wp2_with fail
    exact bodyPost_end (results_none rfl _ _ _) rfl ⟨rfl, H1, D1⟩
def stopD (d : Dk) (n : Int) : Dk := { d with stop := n.toNat, dead := d.dead || decide (n = 0) }
set_option maxRecDepth 100000 in
theorem stop_any {B : Nat} {h : Hp} {d : Dk} {w : World} (H : DiskAt B h d w) (n : Int) :
    Calls Try.prog 15 #[.pointer (some ⟨h.g, 0, none⟩), .int .i64 n] w fun e w' => e = .returned (.tuple #[]) ∧ DiskAt B h (stopD d n) w' ∧ DkTo h w h w' := by
  obtain ⟨quota, files, names, lasted, turns, calls, dead, stop, fail⟩ := d
  have c7 : w.cell? ⟨h.g, 7, none⟩ = some (.int .i64 (stop : Int)) := blk_cell H.hd 7
  have z7 := blk_free H.hd 7
  have c6 : w.cell? ⟨h.g, 6, none⟩ = some (.bool dead) := blk_cell H.hd 6
  have z6 := blk_free H.hd 6
  have core : ∀ (m : Int) (b : Bool), 0 ≤ m → m.toNat = n.toNat → b = (dead || decide (n = 0)) → DiskAt B h (stopD ⟨quota, files, names, lasted, turns, calls, dead, stop, fail⟩ n) ((w.setCell ⟨h.g, 7, none⟩ (.int .i64 m)).setCell ⟨h.g, 6, none⟩ (.bool b)) ∧ DkTo h w h ((w.setCell ⟨h.g, 7, none⟩ (.int .i64 m)).setCell ⟨h.g, 6, none⟩ (.bool b)) := by
    intro m b hm hmn hb
    obtain ⟨H1, D1⟩ := H.setHead ⟨quota, files, names, lasted, turns, calls, dead, n.toNat, fail⟩ 7 (.int .i64 m) (by simp [dcs]; omega) rfl rfl rfl rfl
    obtain ⟨H2, D2⟩ := H1.setHead ⟨quota, files, names, lasted, turns, calls, b, n.toNat, fail⟩ 6 (.bool b) rfl rfl rfl rfl rfl
    subst hb
    exact ⟨H2, D1.trans D2⟩
  have HC := Lib.hid core
  clear core
  cases dead with
  | true =>
    by_cases hn : n < 0
    · have hmx : max n 0 = 0 := by omega
      have H9 := HC.out 0 true (by omega) (by omega) (by simp)
      go_enter Try.func15, Try.ntmps15
      go_wp2_with fail
      exact bodyPost_end (results_none rfl _ _ _) rfl ⟨rfl, H9⟩
    · have hmx : max n 0 = n := by omega
      have hn2 : 0 ≤ n := by omega
      have H9 := HC.out n true (by omega) (by omega) (by simp)
      go_enter Try.func15, Try.ntmps15
      go_wp2_with fail
      exact bodyPost_end (results_none rfl _ _ _) rfl ⟨rfl, H9⟩
  | false =>
    by_cases hn : n < 0
    · have hmx : max n 0 = 0 := by omega
      have H9 := HC.out 0 false (by omega) (by omega) (by simp; omega)
      have hb : (n == 0) = false := by rw [beq_eq_false_iff_ne]; omega
      go_enter Try.func15, Try.ntmps15
      go_wp2_with fail
      exact bodyPost_end (results_none rfl _ _ _) rfl ⟨rfl, H9⟩
    · have hmx : max n 0 = n := by omega
      have hn2 : 0 ≤ n := by omega
      by_cases hz : n = 0
      · have H9 := HC.out n true (by omega) (by omega) (by simp [hz])
        have hb : (n == 0) = true := by rw [beq_iff_eq]; omega
        have HZ := Lib.hid hz
        clear hz
        go_enter Try.func15, Try.ntmps15
        go_wp2_with fail
        exact bodyPost_end (results_none rfl _ _ _) rfl ⟨rfl, H9⟩
      · have H9 := HC.out n false (by omega) (by omega) (by simp [hz])
        have hb : (n == 0) = false := by rw [beq_eq_false_iff_ne]; omega
        go_enter Try.func15, Try.ntmps15
        go_wp2_with fail
        exact bodyPost_end (results_none rfl _ _ _) rfl ⟨rfl, H9⟩
end Go.Proofs.Ytebhhfmekmpnkaa

/-
  The walks of the disk's Append, Sync, Read.
-/
namespace Go.Proofs.Ytebhhfmekmpnkaa
open Go.RowKit Go.Maps
set_option linter.unusedVariables false
set_option linter.unusedSimpArgs false

def fileOf (d : Dk) (i : Nat) : Fi := d.files.getD i ⟨[], 0⟩
theorem fileOf_eq {d : Dk} {i : Nat} {x : Fi} (h : d.files[i]? = some x) : fileOf d i = x := by unfold fileOf; rw [List.getD_eq_getElem?_getD, h]; rfl
def appendD (d : Dk) (s b : List UInt8) : Dk × Nat :=
  if (callN [s] d).2 ≠ 0 then ((callN [s] d).1, (callN [s] d).2)
  else match findI d s with
  | none => ((callN [s] d).1, 11)
  | some i =>
    if 250000 < b.length ∨ 250000 < (fileOf d i).b.length + b.length then ((callN [s] d).1, 2)
    else if d.quota < usedD d + b.length then ((callN [s] d).1, 15)
    else ({ (callN [s] d).1 with files := d.files.set i ⟨(fileOf d i).b ++ b, (fileOf d i).last⟩ }, 0)
def syncD (d : Dk) (s : List UInt8) : Dk × Nat :=
  if (callN [s] d).2 ≠ 0 then ((callN [s] d).1, (callN [s] d).2)
  else match findI d s with
  | none => ((callN [s] d).1, 11)
  | some i => ({ (callN [s] d).1 with files := d.files.set i ⟨(fileOf d i).b, (fileOf d i).b.length⟩ }, 0)
def readD (d : Dk) (s : List UInt8) : List UInt8 × Nat :=
  if nameB s = false then ([], 10)
  else if d.dead = true then ([], 50)
  else match findI d s with
  | none => ([], 11)
  | some i => ((fileOf d i).b, 0)
theorem setFile_ok {d : Dk} (h : DkOk d) (i : Nat) (x : Fi) (hx : x.b.length ≤ 250000 ∧ x.last ≤ x.b.length) : DkOk { d with files := d.files.set i x } := by
  refine ⟨by simpa using h.nm, by simpa using h.la, by simpa using h.tn, by simpa using h.nf, h.nt, h.sn, h.sl, fun f hf => ?_, h.s, h.f, h.q⟩
  rcases List.mem_or_eq_of_mem_set hf with hf | rfl
  · exact h.fb f hf
  · exact hx
theorem fileOf_ok {d : Dk} (h : DkOk d) (i : Nat) : (fileOf d i).b.length ≤ 250000 ∧ (fileOf d i).last ≤ (fileOf d i).b.length := by
  unfold fileOf
  rw [List.getD_eq_getElem?_getD]
  cases hx : d.files[i]? with
  | none => exact ⟨Nat.zero_le _, Nat.le_refl _⟩
  | some x => exact h.fb x (List.mem_of_getElem? hx)
theorem appendD_ok {d : Dk} (h : DkOk d) (s b : List UInt8) : DkOk (appendD d s b).1 := by
  have hc := callN_ok (L := [s]) h
  obtain ⟨h1, -⟩ := callN_same [s] d
  unfold appendD
  split
  · exact hc
  · split
    · exact hc
    · rename_i i hi
      split
      · exact hc
      · split
        · exact hc
        · rename_i hl hq
          have h9 := setFile_ok hc i ⟨(fileOf d i).b ++ b, (fileOf d i).last⟩ ⟨by simp; omega, by simp; have := (fileOf_ok h i).2; omega⟩
          rw [h1] at h9
          exact h9
theorem syncD_ok {d : Dk} (h : DkOk d) (s : List UInt8) : DkOk (syncD d s).1 := by
  have hc := callN_ok (L := [s]) h
  obtain ⟨h1, -⟩ := callN_same [s] d
  unfold syncD
  split
  · exact hc
  · split
    · exact hc
    · rename_i i hi
      have h9 := setFile_ok hc i ⟨(fileOf d i).b, (fileOf d i).b.length⟩ ⟨(fileOf_ok h i).1, Nat.le_refl _⟩
      rw [h1] at h9
      exact h9
theorem findI_same {d d' : Dk} (h : d'.names = d.names) (s : List UInt8) : findI d' s = findI d s := by unfold findI; rw [h]
set_option maxRecDepth 100000 in
set_option maxHeartbeats 1600000 in
theorem sync_any {B : Nat} {h : Hp} {d : Dk} {w : World} (H : DiskAt B h d w) (hok : DkOk d) (hcl : d.calls ≤ 1000000000) (s : List UInt8) (hs : s.length ≤ 9223372036854775807) :
    Calls Try.prog 25 #[.pointer (some ⟨h.g, 0, none⟩), .string (tx s)] w fun e w' => ∃ h', e = .returned (.int .i64 ((syncD d s).2 : Int)) ∧ DiskAt B h' (syncD d s).1 w' ∧ DkTo h w h' w' := by
  have hb : Rd (w.alloc (.cells #[.string (tx s)] 9)) (w.alloc (.cells #[.string (tx s)] 9)).heap.size 1 (some ⟨w.heap.size, 0, none⟩) 1 (svs [s]) := Rd.box w (.string (tx s)) 9
  have H0 := H.up ((Up.refl w).alloc (.cells #[.string (tx s)] 9))
  have D0 : DkTo h w h (w.alloc (.cells #[.string (tx s)] 9)) := DkTo.up ((Up.refl w).alloc (.cells #[.string (tx s)] 9))
  have hcr : syncD d s = syncD d s := rfl
  conv at hcr => rhs; unfold syncD
  have HCR := Lib.hid hcr
  have hok1 := callN_ok (L := [s]) hok
  have hsame := callN_same [s] d
  have HSM := Lib.hid hsame
  clear hcr hsame
  go_enter Try.func25, Try.ntmps25
  go_wp2_with fail
  refine (call_any H0 hok hcl [s] (some ⟨w.heap.size, 0, none⟩) 1 1 hb (fun x hx => by rw [List.mem_singleton] at hx; subst hx; exact hs) (by omega)).mono ?_
  rintro e w1 ⟨rfl, H1, D1⟩
  have D01 := D0.trans D1
  clear H0 D0 D1 hb
  generalize callN [s] d = r at *
  obtain ⟨d1, ec⟩ := r
  (try dsimp only at *)
  by_cases he : ec ≠ 0
  · have heb : ((ec : Int) != 0) = true := by rw [bne_iff_ne]; omega
    have hcr2 := HCR.out
    rw [if_pos he] at hcr2
    have HC2 := Lib.hid hcr2
    clear hcr2 he
    go_wp2_with fail
    go_ret
    rw [HC2.out]
    exact ⟨h, rfl, H1, D01⟩
  · have heb : ((ec : Int) != 0) = false := by rw [bne_eq_false_iff_eq]; omega
    have hcr2 := HCR.out
    rw [if_neg he] at hcr2
    obtain ⟨e1, e2, e3, e4, e5, e6, e7, e8⟩ := HSM.out
    rw [← findI_same e2] at hcr2
    have HC2 := Lib.hid hcr2
    clear hcr2 he HCR e2 e3 e4 e5
    have HE1 := Lib.hid e1
    clear e1
    go_wp2_with fail
    refine (find_any H1 hok1 s hs).mono ?_
    rintro e w2 ⟨rfl, hfi⟩
    rcases hfi with ⟨hfi, rfl⟩ | ⟨i, f, x, hfi, hf, hx, rfl⟩
    · have hcr3 := HC2.out
      rw [hfi] at hcr3
      have HC3 := Lib.hid hcr3
      clear hcr3 hfi HC2
      go_wp2_with fail
      go_ret
      rw [HC3.out]
      exact ⟨h, rfl, H1, D01⟩
    · have hcr3 := HC2.out
      rw [hfi] at hcr3
      (try dsimp only at hcr3)
      have hF := H1.each i f x hf hx
      have c0 : w1.cell? ⟨f.g, 0, none⟩ = some (.slice f.A x.b.length f.c) := blk_cell hF.blk 0
      have c1 : w1.cell? ⟨f.g, 1, none⟩ = some (.int .i64 (x.last : Int)) := blk_cell hF.blk 1
      have z1 := blk_free hF.blk 1
      have hxe : fileOf d i = x := fileOf_eq (by rw [← HE1.out]; exact hx)
      rw [hxe] at hcr3
      have HC3 := Lib.hid hcr3
      have hset := setc_heap w1 f.g 1 (.int .i64 (x.b.length : Int)) _ _ hF.blk
      have hK : Rg.Keeps (fun k => k = f.g) w1 (w1.setCell ⟨f.g, 1, none⟩ (.int .i64 (x.b.length : Int))) := setc_keeps _ _ _ _ _ (Rg.Keeps.refl _ _)
      have hown := own_keepsX hF.own hK (fun k hk e => by
        have h1 := kd_row hF.own hk
        rw [e, kd_cells hF.blk] at h1
        exact absurd h1 (by decide))
      obtain ⟨H3, D3⟩ := H1.setFile (x' := ⟨x.b, x.b.length⟩) hf hx hset hown (Keeps.weak hK (fun k hk => .inl hk)) (fun k hk => .inl hk)
      have D4 := D01.trans D3
      have HH3 := Lib.hid H3
      clear hcr3 hfi hf hx HC2 hset hK hown H3 D3 hxe
      go_wp2_with fail
      go_ret
      have H3 := HH3.out
      rw [HC3.out]
      rw [HE1.out] at H3
      exact ⟨_, rfl, H3, D4⟩
set_option maxRecDepth 100000 in
set_option maxHeartbeats 1600000 in
theorem dread_any {B : Nat} {h : Hp} {d : Dk} {w : World} (H : DiskAt B h d w) (hok : DkOk d) (s : List UInt8) (hs : s.length ≤ 9223372036854775807) :
    Calls Try.prog 22 #[.pointer (some ⟨h.g, 0, none⟩), .string (tx s)] w fun e w' => ∃ R n c, e = .returned (.tuple #[.slice R n c, .int .i64 ((readD d s).2 : Int)]) ∧ OwnB w' w.heap.size R n c (readD d s).1 ∧ Up w w' := by
  have hr0 : readD d s = readD d s := rfl
  conv at hr0 => rhs; unfold readD
  have HR := Lib.hid hr0
  clear hr0
  go_enter Try.func22, Try.ntmps22
  go_wp2_with fail
  refine (named_any s w hs).mono ?_
  rintro e w1 ⟨rfl, rfl⟩
  cases hnb : nameB s with
  | false =>
    have hr1 := HR.out
    rw [if_pos hnb] at hr1
    have HR1 := Lib.hid hr1
    clear hr1 hnb HR
    go_wp2_with fail
    go_ret2
    rw [HR1.out]
    exact ⟨none, 0, 0, rfl, World.ownsRow_nil _ _ _ _, Up.refl _⟩
  | true =>
    have hr1 := HR.out
    rw [if_neg (by rw [hnb]; decide)] at hr1
    have HR1 := Lib.hid hr1
    clear hr1 hnb HR
    go_wp2_with fail
    refine (dead_any H).mono ?_
    rintro e w2 ⟨rfl, rfl⟩
    cases hd : d.dead with
    | true =>
      have hr2 := HR1.out
      rw [if_pos hd] at hr2
      have HR2 := Lib.hid hr2
      clear hr2 hd HR1
      go_wp2_with fail
      go_ret2
      rw [HR2.out]
      exact ⟨none, 0, 0, rfl, World.ownsRow_nil _ _ _ _, Up.refl _⟩
    | false =>
      have hr2 := HR1.out
      rw [if_neg (by rw [hd]; decide)] at hr2
      have HR2 := Lib.hid hr2
      clear hr2 hd HR1
      go_wp2_with fail
      refine (find_any H hok s hs).mono ?_
      rintro e w3 ⟨rfl, hfi⟩
      rcases hfi with ⟨hfi, rfl⟩ | ⟨i, f, x, hfi, hf, hx, rfl⟩
      · have hr3 := HR2.out
        rw [hfi] at hr3
        (try dsimp only at hr3)
        have HR3 := Lib.hid hr3
        clear hr3 hfi HR2
        go_wp2_with fail
        go_ret2
        rw [HR3.out]
        exact ⟨none, 0, 0, rfl, World.ownsRow_nil _ _ _ _, Up.refl _⟩
      · have hr3 := HR2.out
        rw [hfi] at hr3
        (try dsimp only at hr3)
        rw [fileOf_eq hx] at hr3
        have HR3 := Lib.hid hr3
        have hF := H.each i f x hf hx
        have hxl := (hok.fb x (List.mem_of_getElem? hx)).1
        have HFI := Lib.hid hfi
        have HFF := Lib.hid hf
        have HX := Lib.hid hx
        clear hr3 hfi HR2 hf hx
        go_wp2_with fail
        refine (find_any H hok s hs).mono ?_
        rintro e w4 ⟨rfl, hfi⟩
        rcases hfi with ⟨hfi, rfl⟩ | ⟨i2, f2, x2, hfi, hf2, hx2, rfl⟩
        · rw [HFI.out] at hfi; cases hfi
        · rw [HFI.out] at hfi
          injection hfi with hfi
          subst hfi
          rw [HFF.out] at hf2
          injection hf2 with hf2
          subst hf2
          have c0 : w2.cell? ⟨f.g, 0, none⟩ = some (.slice f.A x.b.length f.c) := blk_cell hF.blk 0
          have hnil := World.ownsRow_nil w2 w2.heap.size 5 1
          clear hx2
          go_wp2_with (at_builtin; refine wpList_append_rd _ bytesT (news := bvs x.b) hnil hF.own.rd (bvs_one _) (by omega) (by omega) (Nat.le_refl _) rfl rfl rfl rfl ?_; intro v3 w6 ho6 hg6 hat6; obtain ⟨F2, fc2, rfl⟩ := own_form ho6)
          go_ret2
          rw [HR3.out]
          refine ⟨_, _, _, rfl, ?_, ?_⟩
          · unfold OwnB; simpa using ho6
          · exact ⟨hg6.os, hg6.tape, hg6.output, hg6.size, fun k hk => hg6.block k hk (by simp [Value.ownBlock])⟩
set_option maxRecDepth 100000 in
set_option maxHeartbeats 1600000 in
theorem dappend0_any {B : Nat} {h : Hp} {d : Dk} {w : World} (H : DiskAt B h d w) (hok : DkOk d) (hcl : d.calls ≤ 1000000000) (s : List UInt8) (hs : s.length ≤ 9223372036854775807) (A : Option Addr) (n c : Nat) (bs : List UInt8) (hr : Rd w w.heap.size 1 A n (bvs bs)) (hn : n ≤ 1099511627776) (hnf : 0 < n → ∀ k, inA A k → ¬ foot h k) :
    Calls Try.prog 18 #[.pointer (some ⟨h.g, 0, none⟩), .string (tx s), .slice A n c] w fun e w' => ∃ h', e = .returned (.int .i64 ((appendD d s bs).2 : Int)) ∧ DiskAt B h' (appendD d s bs).1 w' ∧ DkTo h w h' w' := by
  have hb : Rd (w.alloc (.cells #[.string (tx s)] 9)) (w.alloc (.cells #[.string (tx s)] 9)).heap.size 1 (some ⟨w.heap.size, 0, none⟩) 1 (svs [s]) := Rd.box w (.string (tx s)) 9
  have H0 := H.up ((Up.refl w).alloc (.cells #[.string (tx s)] 9))
  have D0 : DkTo h w h (w.alloc (.cells #[.string (tx s)] 9)) := DkTo.up ((Up.refl w).alloc (.cells #[.string (tx s)] 9))
  have hcr : appendD d s bs = appendD d s bs := rfl
  conv at hcr => rhs; unfold appendD
  have HCR := Lib.hid hcr
  have hok1 := callN_ok (L := [s]) hok
  have hsame := callN_same [s] d
  have HSM := Lib.hid hsame
  have hnl : bs.length = n := hr.blen.symm
  have HNL := Lib.hid hnl
  clear hcr hsame hnl
  go_enter Try.func18, Try.ntmps18
  go_wp2_with fail
  refine (call_any H0 hok hcl [s] (some ⟨w.heap.size, 0, none⟩) 1 1 hb (fun x hx => by rw [List.mem_singleton] at hx; subst hx; exact hs) (by omega)).mono ?_
  rintro e w1 ⟨rfl, H1, D1⟩
  have D01 := D0.trans D1
  have hr1 := hr.keepsX0 (Nat.le_refl _) (fun h0 a ha => hnf h0 a.block ⟨a, ha, rfl⟩) D01.kept
  clear H0 D0 D1 hb hr
  generalize callN [s] d = r at *
  obtain ⟨d1, ec⟩ := r
  (try dsimp only at *)
  by_cases he : ec ≠ 0
  · have heb : ((ec : Int) != 0) = true := by rw [bne_iff_ne]; omega
    have hcr2 := HCR.out
    rw [if_pos he] at hcr2
    have HC2 := Lib.hid hcr2
    clear hcr2 he
    go_wp2_with fail
    go_ret
    rw [HC2.out]
    exact ⟨h, rfl, H1, D01⟩
  · have heb : ((ec : Int) != 0) = false := by rw [bne_eq_false_iff_eq]; omega
    have hcr2 := HCR.out
    rw [if_neg he] at hcr2
    obtain ⟨e1, e2, e3, e4, e5, e6, e7, e8⟩ := HSM.out
    have hud : usedD d = usedD d1 := by unfold usedD; rw [e1, e2]
    rw [← findI_same e2, hud, ← e5] at hcr2
    have HC2 := Lib.hid hcr2
    clear hcr2 he HCR e2 e3 e4 e5 hud
    have HE1 := Lib.hid e1
    clear e1
    go_wp2_with fail
    refine (find_any H1 hok1 s hs).mono ?_
    rintro e w2 ⟨rfl, hfi⟩
    rcases hfi with ⟨hfi, rfl⟩ | ⟨i, f, x, hfi, hf, hx, rfl⟩
    · have hcr3 := HC2.out
      rw [hfi] at hcr3
      (try dsimp only at hcr3)
      have HC3 := Lib.hid hcr3
      clear hcr3 hfi HC2
      go_wp2_with fail
      go_ret
      rw [HC3.out]
      exact ⟨h, rfl, H1, D01⟩
    · have hcr3 := HC2.out
      rw [hfi] at hcr3
      (try dsimp only at hcr3)
      have hF := H1.each i f x hf hx
      have c0 : w1.cell? ⟨f.g, 0, none⟩ = some (.slice f.A x.b.length f.c) := blk_cell hF.blk 0
      have hxl := (hok1.fb x (List.mem_of_getElem? hx)).1
      have hxe : fileOf d i = x := fileOf_eq (by rw [← HE1.out]; exact hx)
      rw [hxe, HNL.out] at hcr3
      have HFF := Lib.hid hf
      have HX := Lib.hid hx
      by_cases hlong : 250000 < n ∨ 250000 < x.b.length + n
      · rw [if_pos hlong] at hcr3
        have HC3 := Lib.hid hcr3
        clear hcr3 hfi HC2 hf hx hxe
        by_cases hl1 : 250000 < n
        · have l1 : (250000 : Int) < (n : Int) := by omega
          go_wp2_with fail
          go_ret
          rw [HC3.out]
          exact ⟨h, rfl, H1, D01⟩
        · have l1 : ¬ (250000 : Int) < (n : Int) := by omega
          have l2 : (250000 : Int) - (n : Int) < (x.b.length : Int) := by omega
          go_wp2_with fail
          go_ret
          rw [HC3.out]
          exact ⟨h, rfl, H1, D01⟩
      · rw [if_neg hlong] at hcr3
        have hn2 : n ≤ 250000 := by omega
        have l1 : ¬ (250000 : Int) < (n : Int) := by omega
        have l2 : ¬ (250000 : Int) - (n : Int) < (x.b.length : Int) := by omega
        have HC3 := Lib.hid hcr3
        clear hcr3 hfi HC2 hf hx hxe hlong
        go_upto_region 9 with fail
        have hq := hok1.q
        have hS : ∀ W, Up w1 W → Up w1 W ∧ W.cell? ⟨h.g, 0, none⟩ = some (.int .i64 (d1.quota : Int)) := fun W hW => ⟨hW, blk_cell (H1.up hW).hd 0⟩
        have hus := fun W (hW : Up w1 W) => used_any (H1.up hW) hok1
        have hul : usedD d1 ≤ 250000000000 := by
          obtain ⟨es, hes, -, -⟩ := H1.names.entries strKey
          unfold usedD
          rw [hes]
          have h9 := usedS_le d1.files (fun _ => false) (fun f hf => (hok1.fb f hf).1) es
          have h8 := hok1.sn
          rw [hes, Maps.size_eq] at h8
          show usedS _ _ _ ≤ _
          omega
        have v1 : IntKind.i64.wrap ((d1.quota : Int) - (n : Int)) = (d1.quota : Int) - (n : Int) := IntWalk.i64_in _ (by omega)
        apply Rg.region_up _ (by kernel_rfl) (by kernel_rfl) hS
        · intro QN hQN
          (apply Rg.RK.ok; (· intro vs w1 hS; go_simp; with_reducible rfl); (· rfl); simp only [Act.put, List.setIfInBounds_toArray, List.set_cons_zero, List.set_cons_succ, Nat.reduceAdd])
          apply Rg.RK.call (.int .i64 (usedD d1 : Int)) []
          · rfl
          · intro vs w1 hK hS _ K hKK
            go_simp
            refine (hus _ hS.1).mono ?_
            rintro e w2 ⟨rfl, hu2⟩
            exact hKK.out _ hu2
          simp only [Act.put, List.setIfInBounds_toArray, List.set_cons_zero, List.set_cons_succ, Nat.reduceAdd]
          iterate 9 (apply Rg.RK.ok; (· intro vs w1 hS; go_simp; with_reducible rfl); (· rfl); simp only [Act.put, List.setIfInBounds_toArray, List.set_cons_zero, List.set_cons_succ, Nat.reduceAdd])
          apply Rg.RK.fin []
          intro vs w2 hK hS9 hf
          refine hQN.out _ _ ?_
          clear hQN
          have hu2 := keeps_up hK
          have H2 := H1.up hu2
          have D2 := D01.trans (DkTo.up (h := h) hu2)
          have hr2 := hr1.up hu2
          clear hK hS9 hf hus hS c0 H1 D01 hr1 hF
          by_cases hfull : d1.quota < usedD d1 + n
          · have l3 : (d1.quota : Int) - (n : Int) < (usedD d1 : Int) := by omega
            have hcr4 := HC3.out
            rw [if_pos hfull] at hcr4
            have HC4 := Lib.hid hcr4
            clear hcr4 HC3 hfull
            go_wp2_with fail
            go_ret
            rw [HC4.out]
            exact ⟨h, rfl, H2, D2⟩
          · have l3 : ¬ (d1.quota : Int) - (n : Int) < (usedD d1 : Int) := by omega
            have hcr4 := HC3.out
            rw [if_neg hfull] at hcr4
            have HC4 := Lib.hid hcr4
            have hF := H2.each i f x HFF.out HX.out
            have c0 : w2.cell? ⟨f.g, 0, none⟩ = some (.slice f.A x.b.length f.c) := blk_cell hF.blk 0
            have hbB : B ≤ w2.heap.size := by have := H2.lt (.inl rfl); omega
            have hfo : w2.ownsRow B 5 1 (.slice f.A x.b.length f.c) x.b.length (bvs x.b) := hF.own
            clear hcr4 HC3 hfull
            go_wp2_with (at_builtin; refine wpList_append_rd _ bytesT (news := bvs bs) hfo hr2 (bvs_one _) (by omega) (by omega) hbB rfl rfl rfl rfl ?_; intro v3 w6 ho6 hg6 hat6; obtain ⟨F2, fc2, rfl⟩ := own_form ho6; have y0 : w6.cell? ⟨f.g, 0, none⟩ = some (.slice f.A x.b.length f.c) := blk_cell (((keepsRow hfo hg6).block f.g (Array.getElem?_eq_some_iff.1 hF.blk).1 (fun hk => by have h1 := kd_row hfo hk; rw [kd_cells hF.blk] at h1; exact absurd h1 (by decide))).trans hF.blk) 0; have z0 := blk_free (((keepsRow hfo hg6).block f.g (Array.getElem?_eq_some_iff.1 hF.blk).1 (fun hk => by have h1 := kd_row hfo hk; rw [kd_cells hF.blk] at h1; exact absurd h1 (by decide))).trans hF.blk) 0)
            go_ret
            have hkr := keepsRow hfo hg6
            have hb6 : w6.heap[f.g]? = some (.cells #[.slice f.A x.b.length f.c, .int .i64 (x.last : Int)] 78 (0, 0)) := (hkr.block f.g (Array.getElem?_eq_some_iff.1 hF.blk).1 (fun hk => by
              have h1 := kd_row hfo hk
              rw [kd_cells hF.blk] at h1
              exact absurd h1 (by decide))).trans hF.blk
            have hset := setc_heap w6 f.g 0 (.slice F2 (x.b.length + n) fc2) _ _ hb6
            have hown := own_keepsX ho6 (setc_keeps w6 w6 f.g 0 (.slice F2 (x.b.length + n) fc2) (Rg.Keeps.refl _ _)) (fun k hk e => by
              have h1 := kd_row ho6 hk
              rw [e, kd_cells hb6] at h1
              exact absurd h1 (by decide))
            have hlen : (x.b ++ bs).length = x.b.length + n := by rw [List.length_append, HNL.out]
            obtain ⟨H3, D3⟩ := H2.setFile (x' := ⟨x.b ++ bs, x.last⟩) (A' := F2) (c' := fc2) HFF.out HX.out (by rw [hset, hlen]; rfl) (by unfold OwnB; rw [hlen, bvs_append]; exact hown) (setc_or hkr f.g 0 _) (fun k hk => at_inA hat6 k hk)
            have D4 := D2.trans D3
            rw [HC4.out]
            rw [HE1.out] at H3
            first | exact ⟨_, rfl, H3, D4⟩ | exact ⟨rfl, _, H3, D4⟩
        · kernel_rfl
theorem dappend_any {B : Nat} {h : Hp} {d : Dk} {w : World} (H : DiskAt B h d w) (hok : DkOk d) (hcl : d.calls ≤ 1000000000) (s : List UInt8) (hs : s.length ≤ 9223372036854775807) (A : Option Addr) (n c : Nat) (bs : List UInt8) (hr : Rd w w.heap.size 1 A n (bvs bs)) (hn : n ≤ 1099511627776) (hnf : ∀ k, inA A k → ¬ foot h k) :
    Calls Try.prog 18 #[.pointer (some ⟨h.g, 0, none⟩), .string (tx s), .slice A n c] w fun e w' => ∃ h', e = .returned (.int .i64 ((appendD d s bs).2 : Int)) ∧ DiskAt B h' (appendD d s bs).1 w' ∧ DkTo h w h' w' := dappend0_any H hok hcl s hs A n c bs hr hn (fun _ => hnf)
end Go.Proofs.Ytebhhfmekmpnkaa

/-
  The walks of the disk's New, of maps.Clone, of a turn's do, of SyncDir.
-/
namespace Go.Proofs.Ytebhhfmekmpnkaa
open Go.RowKit Go.Maps
set_option linter.unusedVariables false
set_option linter.unusedSimpArgs false

def newD (q : Int) : Dk := ⟨q.toNat, [], .map [], .map [], [], 0, false, 0, 0⟩
theorem newD_ok {q : Int} (h : q ≤ 9223372036854775807) : DkOk (newD q) :=
  ⟨⟨Maps.tidy_empty, fun kl hk => by simp [newD, Maps.has] at hk⟩, ⟨Maps.tidy_empty, fun kl hk => by simp [newD, Maps.has] at hk⟩, fun t ht => (by cases ht), by simp [newD], by simp [newD], by simp [newD, Maps.size], by simp [newD, Maps.size], fun f hf => (by cases hf), by simp [newD], by simp [newD], by simp [newD]; omega⟩
/-- the head and where the maps lie have turned -/
theorem DiskAt.relink {B : Nat} {h : Hp} {d : Dk} {w w' : World} (H : DiskAt B h d w) {nb' lb' n1 n2 : Nat} {D1 D2 : Mp} (d' : Dk) (hd : w'.heap[h.g]? = some (.cells (dcs d' { h with nb := nb', lb := lb' }) 71 (0, 0))) (hK : Rg.Keeps (fun k => k = h.g) w w')
    (e1 : d'.files = d.files) (e2 : d'.names = D1) (e3 : d'.lasted = D2) (e4 : d'.turns = d.turns)
    (m1 : w'.ownsMap Try.prog 9 (plainElem Try.prog 3) nb' n1 D1) (m2 : w'.ownsMap Try.prog 9 (plainElem Try.prog 3) lb' n2 D2) (hne : nb' ≠ lb') (hb1 : B ≤ nb') (hb2 : B ≤ lb') {m0 : Nat} (hf1 : foot h nb' ∨ m0 ≤ nb') (hf2 : foot h lb' ∨ m0 ≤ lb') :
    DiskAt B { h with nb := nb', lb := lb' } d' w' ∧ Rg.Keeps (foot h) w w' ∧ ∀ k, foot { h with nb := nb', lb := lb' } k → foot h k ∨ m0 ≤ k := by
  have hx : ∀ k, k = h.g → kd w k = some (some 71) := fun k hk => by subst hk; exact kd_cells H.hd
  have hf := H.fkeep hK (fun k hk => by rw [hx k hk]; exact ⟨by decide, by decide, by decide⟩)
  have ht := H.tkeep hK (fun k hk => by rw [hx k hk]; decide)
  refine ⟨⟨hd, H.base, by rw [e1]; exact hf.1, by rw [e1]; exact H.flen, by rw [e1]; exact hf.2, H.apart, by rw [e2]; exact map_tight m1, by rw [e3]; exact map_tight m2, hne, ⟨hb1, hb2⟩, by rw [e4]; exact ht⟩, Keeps.weak hK (fun k hk => .inl hk), fun k hk => ?_⟩
  rcases hk with hk | hk | hk | hk | hk | hk
  · exact .inl (.inl hk)
  · have hk' : k = nb' := hk
    subst hk'; exact hf1
  · have hk' : k = lb' := hk
    subst hk'; exact hf2
  · exact .inl (.inr (.inr (.inr (.inl hk))))
  · exact .inl (.inr (.inr (.inr (.inr (.inl hk)))))
  · exact .inl (.inr (.inr (.inr (.inr (.inr hk)))))
set_option maxRecDepth 100000 in
theorem dnew_any (q : Int) (w : World) : Calls Try.prog 12 #[.int .i64 q] w fun e w' => ∃ h, e = .returned (.pointer (some ⟨h.g, 0, none⟩)) ∧ DiskAt w.heap.size h (newD q) w' ∧ Up w w' ∧ ∀ k, foot h k → w.heap.size ≤ k := by
  obtain ⟨m, hm⟩ : ∃ m : Int, m = max q 0 := ⟨_, rfl⟩
  have hm2 : m = (q.toNat : Int) := by omega
  have core : ∃ h : Hp, h.g = w.heap.size + 1 + 1 ∧ DiskAt w.heap.size h (newD q) (((w.alloc (.map #[] 0)).alloc (.map #[] 0)).alloc (.cells #[.int .i64 m, .slice none 0 0, .map (some w.heap.size), .map (some (w.heap.size + 1)), .slice none 0 0, .int .i64 0, .bool false, .int .i64 0, .int .i64 0] 71)) ∧ Up w (((w.alloc (.map #[] 0)).alloc (.map #[] 0)).alloc (.cells #[.int .i64 m, .slice none 0 0, .map (some w.heap.size), .map (some (w.heap.size + 1)), .slice none 0 0, .int .i64 0, .bool false, .int .i64 0, .int .i64 0] 71)) ∧ ∀ k, foot h k → w.heap.size ≤ k := by
    refine ⟨⟨w.heap.size + 1 + 1, none, 0, [], w.heap.size, w.heap.size + 1, none, 0⟩, rfl, ⟨?_, by show _ ≤ w.heap.size + 1 + 1; omega, World.ownsRow_nil _ _ _ _, rfl, fun i f x hf => (by simp at hf), fun i j f f' _ hf => (by simp at hf), ?_, ?_, by show w.heap.size ≠ w.heap.size + 1; omega, ⟨Nat.le_refl _, Nat.le_succ _⟩, World.ownsRow_nil _ _ _ _⟩, (((Up.refl w).alloc _).alloc _).alloc _, fun k hk => ?_⟩
    · have h := heap_alloc_new ((w.alloc (.map #[] 0)).alloc (.map #[] 0)) (.cells #[.int .i64 m, .slice none 0 0, .map (some w.heap.size), .map (some (w.heap.size + 1)), .slice none 0 0, .int .i64 0, .bool false, .int .i64 0, .int .i64 0] 71)
      rw [World.size_alloc, World.size_alloc] at h
      rw [hm2] at h ⊢
      exact h
    · exact ((World.ownsMap_made w _ _ _).alloc _).alloc _
    · have h := (World.ownsMap_made (H := Unit) (w.alloc (.map #[] 0)) Try.prog 9 (plainElem Try.prog 3)).alloc (.cells #[.int .i64 m, .slice none 0 0, .map (some w.heap.size), .map (some (w.heap.size + 1)), .slice none 0 0, .int .i64 0, .bool false, .int .i64 0, .int .i64 0] 71)
      rw [World.size_alloc] at h
      exact h
    · rcases hk with rfl | rfl | rfl | ⟨a, ha, _⟩ | ⟨a, ha, _⟩ | ⟨f, hf, _⟩
      · show _ ≤ w.heap.size + 1 + 1; omega
      · exact Nat.le_refl _
      · exact Nat.le_succ _
      · cases ha
      · cases ha
      · cases hf
  have HC := Lib.hid core
  have HM := Lib.hid hm
  clear core hm hm2
  have hmm := @run_makeMap Try.prog
  by_cases hq : q < 0
  · have hm0 : m = 0 := by have := HM.out; omega
    subst hm0
    have hmx : max q 0 = 0 := by omega
    clear HM
    go_enter Try.func12, Try.ntmps12
    go_wp2_with fail
    go_ret
    obtain ⟨h, hg, H⟩ := HC.out
    exact ⟨h, by rw [hg]; rfl, H⟩
  · have hm0 : m = q := by have := HM.out; omega
    subst hm0
    have hq2 : 0 ≤ m := by omega
    have hmx : max m 0 = m := by omega
    clear HM
    go_enter Try.func12, Try.ntmps12
    go_wp2_with fail
    go_ret
    obtain ⟨h, hg, H⟩ := HC.out
    exact ⟨h, by rw [hg]; rfl, H⟩
set_option maxRecDepth 100000 in
theorem mclone_any (b n : Nat) (D : Mp) (w : World) (hown : w.ownsMap Try.prog 9 (plainElem Try.prog 3) b n D) :
    Calls Try.prog 38 #[.map (some b)] w fun e w' => e = .returned (.map (some w.heap.size)) ∧ w'.ownsMap Try.prog 9 (plainElem Try.prog 3) w.heap.size n D ∧ Up w w' := by
  have hlt := hown.lt
  obtain ⟨es, clock, hb, FF, hs, hD⟩ := hown
  have hq := fun w => run_eql_map_nil_sl (P := Try.prog) w 62 _ _ (some b) Try.underlying62
  have fin : w.alloc (.map es clock) = w.alloc (.map es clock) ∧ (w.alloc (.map es clock)).ownsMap Try.prog 9 (plainElem Try.prog 3) w.heap.size n D ∧ Up w (w.alloc (.map es clock)) :=
    ⟨rfl, ⟨es, clock, (MapKept.heap_alloc w _).1, FF, hs, hD⟩, (Up.refl w).alloc _⟩
  have HF := Lib.hid fin
  clear fin FF hs hD
  go_enter Try.func38, Try.ntmps38
  go_wp2
  rw [run_callFunc_extern Try.func65 (by kernel_rfl) (by kernel_rfl) (by kernel_rfl) (e := Extern.MapsClone.clone) (by kernel_rfl), run_maps_clone_sl w 62 hb]
  simp only [Result.andThen]
  rw [Oper.upon_value]
  go_wp2
  rw [run_typeAssert_map_sl _ 62 20 _ _ _ Try.underlying62]
  simp only [Result.andThen]
  rw [Oper.upon_value]
  go_wp2
  go_ret
  exact ⟨rfl, HF.out.2⟩

/-- a turn, done to names -/
def doM (t : Tn) (D : Mp) : Mp :=
  if t.kind = 1 then D.put (nk t.a) (fiv t.file)
  else if t.kind = 2 then (if Maps.has D (nk t.a) = true then (D.put (nk t.b) (fiv (mget D t.a))).del (nk t.a) else D)
  else if t.kind = 3 then D.del (nk t.a) else D
theorem mget_lt {D : Mp} {n : Nat} (h : MOk D n) {s : List UInt8} (hh : Maps.has D (nk s) = true) : mget D s < n := by
  obtain ⟨i, hi, hat⟩ := h.2 _ hh
  rw [mget_of hat]; exact hi
theorem doM_ok {D : Mp} {n : Nat} (h : MOk D n) (t : Tn) (ht : t.kind = 1 → t.file < n) : MOk (doM t D) n := by
  unfold doM
  split
  · rename_i h1; exact h.put (ht h1) _
  · split
    · split
      · rename_i hh; exact (h.put (mget_lt h hh) _).del _
      · exact h
    · split
      · exact h.del _
      · exact h
theorem doM_size {D : Mp} {n : Nat} (h : MOk D n) (t : Tn) : Maps.size (doM t D) ≤ Maps.size D + 1 := by
  have hput : ∀ s i, Maps.size (D.put (nk s) (fiv i)) ≤ Maps.size D + 1 := fun s i => by
    rw [Maps.size_put h.1]; split <;> omega
  unfold doM
  split
  · exact hput _ _
  · split
    · split
      · rename_i hh
        have h1 := Maps.size_del (k := nk t.a) (h.put (mget_lt h hh) t.b).1
        have h2 := hput t.b (mget D t.a)
        split at h1 <;> omega
      · omega
    · split
      · have h1 := Maps.size_del (k := nk t.a) h.1
        split at h1 <;> omega
      · omega
set_option maxRecDepth 100000 in
set_option maxHeartbeats 1600000 in
theorem do_any (t : Tn) (b n m : Nat) (D : Mp) (w : World) (hown : w.ownsMap Try.prog 9 (plainElem Try.prog 3) b n D) (hn : n ≤ 4611686018427387903) (hM : MOk D m) (hm : m ≤ 1000000) (htf : t.kind = 1 → t.file ≤ 1000000) (ha : t.a.length ≤ 9223372036854775807) (hb : t.b.length ≤ 9223372036854775807) :
    Calls Try.prog 43 #[.agg #[.int .i64 (t.kind : Int), .int .i64 (t.file : Int), .string (tx t.a), .string (tx t.b)], .map (some b)] w
      fun e w' => e = .returned (.tuple #[]) ∧ (∃ n', w'.ownsMap Try.prog 9 (plainElem Try.prog 3) b n' (doM t D)) ∧ Rg.Keeps (fun k => k = b) w w' := by
  obtain ⟨kind, file, ta, tb⟩ := t
  (try dsimp only at *)
  have hka := key_str ta ha
  have hkb := key_str tb hb
  have HKA := Lib.hid hka
  have HKB := Lib.hid hkb
  have hup : Up w (w.alloc (.cells #[.int .i64 (kind : Int), .int .i64 (file : Int), .string (tx ta), .string (tx tb)] 76)) := (Up.refl w).alloc _
  have hblk := heap_alloc_new w (.cells #[.int .i64 (kind : Int), .int .i64 (file : Int), .string (tx ta), .string (tx tb)] 76)
  have c0 := blk_cell hblk 0
  have c1 := blk_cell hblk 1
  have c2 := blk_cell hblk 2
  have c3 := blk_cell hblk 3
  have hown1 := hown.alloc (.cells #[.int .i64 (kind : Int), .int .i64 (file : Int), .string (tx ta), .string (tx tb)] 76)
  have hbl := hown.lt
  clear hka hkb
  by_cases k1 : kind = 1
  · have b1 : ((kind : Int) == 1) = true := by rw [beq_iff_eq]; omega
    have hfl := htf k1
    have hd : doM ⟨kind, file, ta, tb⟩ D = D.put (nk ta) (fiv file) := by unfold doM; rw [if_pos k1]
    have HD := Lib.hid hd
    clear hd k1 htf
    go_enter Try.func43, Try.ntmps43
    go_wp2_with (at_mapUpdate; refine wpList_mapUpdate_in _ rfl _ _ _ 62 rfl 9 3 strKey Try.underlying62 (plainElem Try.prog 3) b n D rfl hown1 (by unfold maxLen; omega) _ _ (nk ta) rfl rfl HKA.out _ [] (plainElem_int Try.underlying3 (WalkArith.wf_i64 (by omega))) ?_; intro w3 hm3 hturn3)
    refine bodyPost_end (results_none rfl _ _ _) rfl ⟨rfl, by rw [HD.out]; exact ⟨_, hm3⟩, Keeps.trans2 (Rg.Keeps.of_up hup) (keepsMap hturn3.grown)⟩
  · have b1 : ((kind : Int) == 1) = false := by rw [beq_eq_false_iff_ne]; omega
    by_cases k2 : kind = 2
    · have b2 : ((kind : Int) == 2) = true := by rw [beq_iff_eq]; omega
      cases hh : Maps.has D (nk ta) with
      | false =>
        have hd : doM ⟨kind, file, ta, tb⟩ D = D := by unfold doM; rw [if_neg k1, if_pos k2, hh]; rfl
        have HD := Lib.hid hd
        have HH := Lib.hid hh
        clear hd k1 k2 htf hh
        go_enter Try.func43, Try.ntmps43
        go_wp2_with (at_lookup; refine wpList_lookup_own_ok_int _ rfl _ _ 62 rfl 9 3 .i64 strKey Try.underlying62 Try.underlying3 (zeroInt _) b _ D rfl hown1 _ _ rfl HKA.out ?_; intro c hat hwc; rw [HH.out])
        refine bodyPost_end (results_none rfl _ _ _) rfl ⟨rfl, by rw [HD.out]; exact ⟨_, hown1⟩, Rg.Keeps.of_up hup⟩
      | true =>
        obtain ⟨i, hi, hat0⟩ := hM.2 _ hh
        have hd : doM ⟨kind, file, ta, tb⟩ D = (D.put (nk tb) (fiv i)).del (nk ta) := by unfold doM; rw [if_neg k1, if_pos k2, if_pos hh, mget_of hat0]
        have HD := Lib.hid hd
        have HH := Lib.hid hh
        have HA := Lib.hid hat0
        clear hd k1 k2 htf hh hat0
        go_enter Try.func43, Try.ntmps43
        go_wp2_with (first
          | (at_lookup; refine wpList_lookup_own_ok_int _ rfl _ _ 62 rfl 9 3 .i64 strKey Try.underlying62 Try.underlying3 (zeroInt _) b _ D rfl hown1 _ _ rfl HKA.out ?_; intro c hat hwc; rw [HH.out]; have hci : c = (i : Int) := (by have h9 := HA.out (.lit (.int .i64 0)); rw [hat] at h9; unfold fiv at h9; injection h9 with h9; injection h9); rw [hci]; clear hci hat hwc)
          | (at_mapUpdate; refine wpList_mapUpdate_in _ rfl _ _ _ 62 rfl 9 3 strKey Try.underlying62 (plainElem Try.prog 3) b n D rfl hown1 (by unfold maxLen; omega) _ _ (nk tb) rfl rfl HKB.out _ [] (plainElem_int Try.underlying3 (WalkArith.wf_i64 (by omega))) ?_; intro w3 hm3 hturn3; have c2b := ((World.cell?_of_block (a := ⟨w.heap.size, 2, none⟩) (hturn3.grown.block w.heap.size (by rw [World.size_alloc]; omega) (by simp; omega))).trans c2))
          | (at_delete; refine wpList_delete_own _ rfl _ _ 62 9 rfl 3 strKey Try.underlying62 _ b _ _ rfl (by assumption) _ _ rfl HKA.out ?_; intro w4 hm4 hturn4))
        refine bodyPost_end (results_none rfl _ _ _) rfl ⟨rfl, by rw [HD.out]; exact ⟨_, hm4⟩, Keeps.trans2 (Rg.Keeps.of_up hup) (keepsMap (hturn3.trans hturn4).grown)⟩
    · have b2 : ((kind : Int) == 2) = false := by rw [beq_eq_false_iff_ne]; omega
      by_cases k3 : kind = 3
      · have b3 : ((kind : Int) == 3) = true := by rw [beq_iff_eq]; omega
        have hd : doM ⟨kind, file, ta, tb⟩ D = D.del (nk ta) := by unfold doM; rw [if_neg k1, if_neg k2, if_pos k3]
        have HD := Lib.hid hd
        clear hd k1 k2 k3 htf
        go_enter Try.func43, Try.ntmps43
        go_wp2_with (at_delete; refine wpList_delete_own _ rfl _ _ 62 9 rfl 3 strKey Try.underlying62 _ b _ _ rfl hown1 _ _ rfl HKA.out ?_; intro w4 hm4 hturn4)
        refine bodyPost_end (results_none rfl _ _ _) rfl ⟨rfl, by rw [HD.out]; exact ⟨_, hm4⟩, Keeps.trans2 (Rg.Keeps.of_up hup) (keepsMap hturn4.grown)⟩
      · have b3 : ((kind : Int) == 3) = false := by rw [beq_eq_false_iff_ne]; omega
        have hd : doM ⟨kind, file, ta, tb⟩ D = D := by unfold doM; rw [if_neg k1, if_neg k2, if_neg k3]
        have HD := Lib.hid hd
        clear hd k1 k2 k3 htf
        go_enter Try.func43, Try.ntmps43
        go_wp2_with fail
        refine bodyPost_end (results_none rfl _ _ _) rfl ⟨rfl, by rw [HD.out]; exact ⟨_, hown1⟩, Rg.Keeps.of_up hup⟩

def syncDirD (d : Dk) : Dk × Nat :=
  if (callD d).2 ≠ 0 then ((callD d).1, (callD d).2)
  else ({ (callD d).1 with lasted := d.names, turns := [] }, 0)
theorem callN_nil (d : Dk) : callN [] d = callD d := by unfold callN; simp
theorem syncDirD_ok {d : Dk} (h : DkOk d) : DkOk (syncDirD d).1 := by
  have hc := callN_ok (L := []) h
  obtain ⟨h1, h2, -⟩ := callN_same [] d
  rw [callN_nil] at hc h1 h2
  unfold syncDirD
  split
  · exact hc
  · exact ⟨hc.nm, by rw [← h2]; exact hc.nm, fun t ht => (by cases ht), hc.nf, Nat.zero_le _, hc.sn, by rw [← h2]; exact hc.sn, hc.fb, hc.s, hc.f, hc.q⟩
set_option maxRecDepth 100000 in
set_option maxHeartbeats 1600000 in
theorem syncDir_any {B : Nat} {h : Hp} {d : Dk} {w : World} (H : DiskAt B h d w) (hok : DkOk d) (hcl : d.calls ≤ 1000000000) :
    Calls Try.prog 14 #[.pointer (some ⟨h.g, 0, none⟩)] w fun e w' => ∃ h', e = .returned (.int .i64 ((syncDirD d).2 : Int)) ∧ DiskAt B h' (syncDirD d).1 w' ∧ DkTo h w h' w' := by
  have hcr : syncDirD d = syncDirD d := rfl
  conv at hcr => rhs; unfold syncDirD
  have HCR := Lib.hid hcr
  have hok1 := callN_ok (L := []) hok
  have hsame := callN_same [] d
  rw [callN_nil] at hsame hok1
  have HSM := Lib.hid hsame
  clear hcr hsame
  go_enter Try.func14, Try.ntmps14
  go_wp2_with fail
  refine (call_any H hok hcl [] none 0 0 Rd.empty (fun x hx => by cases hx) (by omega)).mono ?_
  rintro e w1 ⟨rfl, H1, D1⟩
  rw [callN_nil] at H1 ⊢
  generalize callD d = r at *
  obtain ⟨d1, ec⟩ := r
  (try dsimp only at *)
  by_cases he : ec ≠ 0
  · have heb : ((ec : Int) != 0) = true := by rw [bne_iff_ne]; omega
    have hcr2 := HCR.out
    rw [if_pos he] at hcr2
    have HC2 := Lib.hid hcr2
    clear hcr2 he
    go_wp2_with fail
    go_ret
    rw [HC2.out]
    exact ⟨h, rfl, H1, D1⟩
  · have heb : ((ec : Int) != 0) = false := by rw [bne_eq_false_iff_eq]; omega
    have hcr2 := HCR.out
    rw [if_neg he] at hcr2
    have HC2 := Lib.hid hcr2
    have c2 : w1.cell? ⟨h.g, 2, none⟩ = some (.map (some h.nb)) := blk_cell H1.hd 2
    clear hcr2 he HCR
    go_wp2_with fail
    clear c2
    refine (mclone_any h.nb _ d1.names w1 H1.names).mono ?_
    rintro e w2 ⟨rfl, hm2, hu2⟩
    have H2 := H1.up hu2
    have c3 : w2.cell? ⟨h.g, 3, none⟩ = some (.map (some h.lb)) := blk_cell H2.hd 3
    have z3 := blk_free H2.hd 3
    have hg3 := setc_heap w2 h.g 3 (.map (some w1.heap.size)) _ _ H2.hd
    have hK3 : Rg.Keeps (fun k => k = h.g) w2 (w2.setCell ⟨h.g, 3, none⟩ (.map (some w1.heap.size))) := setc_keeps _ _ _ _ _ (Rg.Keeps.refl _ _)
    have hnb := (H1.lt (k := h.nb) (.inr (.inl rfl)))
    have hgl := (H1.lt (k := h.g) (.inl rfl))
    obtain ⟨H3, K3, F3⟩ := H2.relink (nb' := h.nb) (lb' := w1.heap.size) (D1 := d1.names) (D2 := d1.names) { d1 with lasted := d1.names } hg3 hK3 rfl rfl rfl rfl (map_keepsX H2.names hK3 (fun e9 => by
      have h1 := kd_map H2.names
      rw [e9, kd_cells H2.hd] at h1
      cases h1)) (map_keepsX hm2 hK3 (fun e9 => by omega)) (by omega) hnb.1 (by omega) (m0 := w1.heap.size) (.inl (.inr (.inl rfl))) (.inr (Nat.le_refl _))
    have D3 : DkTo h w1 { h with nb := h.nb, lb := w1.heap.size } (w2.setCell ⟨h.g, 3, none⟩ (.map (some w1.heap.size))) := ⟨rfl, Keeps.trans2 (Rg.Keeps.of_up hu2) K3, F3⟩
    obtain ⟨H4, D4⟩ := H3.setTurns (ta' := none) (tc' := 0) [] (World.ownsRow_nil _ _ _ _) (Rg.Keeps.refl _ _) (fun k hk => by obtain ⟨a, ha, _⟩ := hk; cases ha)
    have D5 := D1.trans (D3.trans D4)
    have y4 : (w2.setCell ⟨h.g, 3, none⟩ (.map (some w1.heap.size))).cell? ⟨h.g, 4, none⟩ = some (.slice h.ta d1.turns.length h.tc) := blk_cell H3.hd 4
    have z4 := blk_free H3.hd 4
    have HH4 := Lib.hid H4
    have HD5 := Lib.hid D5
    clear hg3 hK3 H3 K3 F3 D3 H4 D4 D5 hm2 hu2 H2
    go_wp2_with fail
    go_ret
    obtain ⟨e1, e2, -⟩ := HSM.out
    rw [HC2.out, ← e2]
    have H4 := HH4.out
    first | exact ⟨_, rfl, H4, HD5.out⟩ | exact ⟨rfl, _, H4, HD5.out⟩
end Go.Proofs.Ytebhhfmekmpnkaa

/-
  The walks of the disk's Remove and Rename.
-/
namespace Go.Proofs.Ytebhhfmekmpnkaa
open Go.RowKit Go.Maps
set_option linter.unusedVariables false
set_option linter.unusedSimpArgs false

def removeD (d : Dk) (s : List UInt8) : Dk × Nat :=
  if (callN [s] d).2 ≠ 0 then ((callN [s] d).1, (callN [s] d).2)
  else if Maps.has d.names (nk s) = false then ((callN [s] d).1, 11)
  else ({ (callN [s] d).1 with names := doM ⟨3, 0, s, []⟩ d.names, turns := d.turns ++ [⟨3, 0, s, []⟩] }, 0)
def renameD (d : Dk) (a b : List UInt8) : Dk × Nat :=
  if (callN [a, b] d).2 ≠ 0 then ((callN [a, b] d).1, (callN [a, b] d).2)
  else if Maps.has d.names (nk a) = false then ((callN [a, b] d).1, 11)
  else if a = b then ((callN [a, b] d).1, 0)
  else ({ (callN [a, b] d).1 with names := doM ⟨2, 0, a, b⟩ d.names, turns := d.turns ++ [⟨2, 0, a, b⟩] }, 0)
theorem turned_ok {d : Dk} (h : DkOk d) (t : Tn) (ht : t.kind ≠ 1) (hn : d.turns.length < 1000000) (hs : Maps.size d.names < 1000000) : DkOk { d with names := doM t d.names, turns := d.turns ++ [t] } := by
  refine ⟨doM_ok h.nm t (fun e => absurd e ht), h.la, fun x hx => ?_, h.nf, by simp; omega, by have := doM_size h.nm t; show Maps.size (doM t d.names) ≤ _; omega, h.sl, h.fb, h.s, h.f, h.q⟩
  rcases List.mem_append.1 hx with hx | hx
  · exact h.tn x hx
  · rw [List.mem_singleton] at hx
    subst hx
    exact .inr ht
theorem removeD_ok {d : Dk} (h : DkOk d) (s : List UInt8) (hn : d.turns.length < 1000000) (hs : Maps.size d.names < 1000000) : DkOk (removeD d s).1 := by
  have hc := callN_ok (L := [s]) h
  obtain ⟨h1, h2, h3, h4, -⟩ := callN_same [s] d
  unfold removeD
  split
  · exact hc
  · split
    · exact hc
    · have h9 := turned_ok hc ⟨3, 0, s, []⟩ (show (3 : Nat) ≠ 1 by decide) (by rw [h4]; exact hn) (by rw [h2]; exact hs)
      rw [h2, h4] at h9
      exact h9
theorem renameD_ok {d : Dk} (h : DkOk d) (a b : List UInt8) (hn : d.turns.length < 1000000) (hs : Maps.size d.names < 1000000) : DkOk (renameD d a b).1 := by
  have hc := callN_ok (L := [a, b]) h
  obtain ⟨h1, h2, h3, h4, -⟩ := callN_same [a, b] d
  unfold renameD
  split
  · exact hc
  · split
    · exact hc
    · split
      · exact hc
      · have h9 := turned_ok hc ⟨2, 0, a, b⟩ (show (2 : Nat) ≠ 1 by decide) (by rw [h4]; exact hn) (by rw [h2]; exact hs)
        rw [h2, h4] at h9
        exact h9
set_option maxRecDepth 100000 in
set_option maxHeartbeats 1600000 in
theorem remove_any {B : Nat} {h : Hp} {d : Dk} {w : World} (H : DiskAt B h d w) (hok : DkOk d) (hcl : d.calls ≤ 1000000000) (hnt : d.turns.length < 1000000) (s : List UInt8) (hs : s.length ≤ 9223372036854775807) :
    Calls Try.prog 26 #[.pointer (some ⟨h.g, 0, none⟩), .string (tx s)] w fun e w' => ∃ h', e = .returned (.int .i64 ((removeD d s).2 : Int)) ∧ DiskAt B h' (removeD d s).1 w' ∧ DkTo h w h' w' := by
  have hb : Rd (w.alloc (.cells #[.string (tx s)] 9)) (w.alloc (.cells #[.string (tx s)] 9)).heap.size 1 (some ⟨w.heap.size, 0, none⟩) 1 (svs [s]) := Rd.box w (.string (tx s)) 9
  have H0 := H.up ((Up.refl w).alloc (.cells #[.string (tx s)] 9))
  have D0 : DkTo h w h (w.alloc (.cells #[.string (tx s)] 9)) := DkTo.up ((Up.refl w).alloc (.cells #[.string (tx s)] 9))
  have hcr : removeD d s = removeD d s := rfl
  conv at hcr => rhs; unfold removeD
  have HCR := Lib.hid hcr
  have hok1 := callN_ok (L := [s]) hok
  have hsame := callN_same [s] d
  have HSM := Lib.hid hsame
  clear hcr hsame
  go_enter Try.func26, Try.ntmps26
  go_wp2_with fail
  refine (call_any H0 hok hcl [s] (some ⟨w.heap.size, 0, none⟩) 1 1 hb (fun x hx => by rw [List.mem_singleton] at hx; subst hx; exact hs) (by omega)).mono ?_
  rintro e w1 ⟨rfl, H1, D1⟩
  have D01 := D0.trans D1
  clear H0 D0 D1 hb
  generalize callN [s] d = r at *
  obtain ⟨d1, ec⟩ := r
  (try dsimp only at *)
  by_cases he : ec ≠ 0
  · have heb : ((ec : Int) != 0) = true := by rw [bne_iff_ne]; omega
    have hcr2 := HCR.out
    rw [if_pos he] at hcr2
    have HC2 := Lib.hid hcr2
    clear hcr2 he
    go_wp2_with fail
    go_ret
    rw [HC2.out]
    exact ⟨h, rfl, H1, D01⟩
  · have heb : ((ec : Int) != 0) = false := by rw [bne_eq_false_iff_eq]; omega
    have hcr2 := HCR.out
    rw [if_neg he] at hcr2
    have HC2 := Lib.hid hcr2
    clear hcr2 he HCR
    obtain ⟨e1, e2, e3, e4, e5, e6, e7, e8⟩ := HSM.out
    go_wp2_with fail
    refine (find_any H1 hok1 s hs).mono ?_
    rintro e w2 ⟨rfl, hfi⟩
    rcases hfi with ⟨hfi, rfl⟩ | ⟨i, f, x, hfi, hf, hx, rfl⟩
    · have hh : Maps.has d.names (nk s) = false := by
        unfold findI at hfi
        rw [e2] at hfi
        split at hfi
        · cases hfi
        · rename_i h9; simpa using h9
      have hcr3 := HC2.out
      rw [if_pos hh] at hcr3
      have HC3 := Lib.hid hcr3
      clear hcr3 hfi hh e1 e2 e3 e4 e5 HC2
      go_wp2_with fail
      go_ret
      rw [HC3.out]
      exact ⟨h, rfl, H1, D01⟩
    · have hh : Maps.has d.names (nk s) = true := by
        unfold findI at hfi
        rw [e2] at hfi
        split at hfi
        · assumption
        · cases hfi
      have hcr3 := HC2.out
      rw [if_neg (by rw [hh]; decide)] at hcr3
      rw [← e2, ← e4] at hcr3
      have hnt1 : d1.turns.length < 1000000 := by rw [e4]; exact hnt
      have HC3 := Lib.hid hcr3
      have HNT := Lib.hid hnt1
      clear hcr3 hfi hh hf hx e1 e2 e3 e4 e5 HC2 HSM hnt1
      have hua : Up w1 (w1.alloc (.cells #[.int .i64 3, .int .i64 0, .string (tx s), Value.string { data := #[] }] 76)) := (Up.refl w1).alloc _
      have hblk := heap_alloc_new w1 (.cells #[.int .i64 3, .int .i64 0, .string (tx s), Value.string { data := #[] }] 76)
      have H2 := H1.up hua
      have D2 := D01.trans (DkTo.up (h := h) hua)
      have hgb : ¬ foot h w1.heap.size := fun hk => Nat.lt_irrefl _ (H1.lt hk).2
      go_upto_region 7 with fail
      generalize w1.alloc (.cells #[.int .i64 3, .int .i64 0, .string (tx s), Value.string { data := #[] }] 76) = W2 at *
      generalize w1.heap.size = g6 at *
      clear H1 D01 hua
      have b0 : W2.cell? ⟨g6, 0, none⟩ = some (.int .i64 3) := blk_cell hblk 0
      have b1 : W2.cell? ⟨g6, 1, none⟩ = some (.int .i64 0) := blk_cell hblk 1
      have b2 : W2.cell? ⟨g6, 2, none⟩ = some (.string (tx s)) := blk_cell hblk 2
      have b3 : W2.cell? ⟨g6, 3, none⟩ = some (Value.string { data := #[] }) := blk_cell hblk 3
      have c2 : W2.cell? ⟨h.g, 2, none⟩ = some (.map (some h.nb)) := blk_cell H2.hd 2
      have H2d := H2.up (Up.drew (Up.refl W2))
      have D2d := D2.trans (DkTo.up (h := h) (Up.drew (Up.refl W2)))
      have hblkd : W2.drew.heap[g6]? = some (.cells #[.int .i64 3, .int .i64 0, .string (tx s), Value.string { data := #[] }] 76 (0, 0)) := hblk
      have HDO : Hid (Calls Try.prog 43 #[.agg #[.int .i64 3, .int .i64 0, .string (tx s), Value.string { data := #[] }], .map (some h.nb)] W2.drew fun e w' => e = .returned (.tuple #[]) ∧ (∃ n', w'.ownsMap Try.prog 9 (plainElem Try.prog 3) h.nb n' (doM ⟨3, 0, s, []⟩ d1.names)) ∧ Rg.Keeps (fun k => k = h.nb) W2.drew w') := do_any ⟨3, 0, s, []⟩ h.nb _ _ d1.names W2.drew H2d.names (by have := hok1.sn; omega) hok1.nm hok1.nf (fun e => by cases e) (hs) (by simp)
      clear H2 D2 hblk
      go_still_tail 5, (by kernel_rfl)
      go_wp2_with fail
      refine HDO.out.mono ?_
      rintro e w3 ⟨rfl, ⟨n3, hm3⟩, hK3⟩
      obtain ⟨H3, D3⟩ := H2d.setNames (D' := doM ⟨3, 0, s, []⟩ d1.names) hK3 hm3
      have D23 := D2d.trans D3
      have hgb3 : w3.heap[g6]? = some (.cells #[.int .i64 3, .int .i64 0, .string (tx s), Value.string { data := #[] }] 76 (0, 0)) := (hK3.block g6 (Array.getElem?_eq_some_iff.1 hblkd).1 (fun e9 => hgb (.inr (.inl e9)))).trans hblkd
      have hgl3 : g6 < w3.heap.size := (Array.getElem?_eq_some_iff.1 hgb3).1
      have hgx : ¬ (g6 = h.g ∨ inA h.ta g6) := fun hx => hgb (hx.elim (fun e9 => .inl e9) (fun e9 => .inr (.inr (.inr (.inr (.inl e9))))))
      clear HDO D2d D3 hm3 hK3 hblkd b0 b1 b2 b3 c2
      obtain ⟨d3, hd3⟩ : ∃ d3 : Dk, d3 = { d1 with names := doM ⟨3, 0, s, []⟩ d1.names } := ⟨_, rfl⟩
      rw [← hd3] at H3
      have f4 : d3.turns.length ≤ 1000000 := by rw [hd3]; exact hok1.nt
      have HD3 := Lib.hid hd3
      clear hd3 H2d
      have hxo : ∀ g, (g = h.g ∨ inA h.ta g) → g < w3.heap.size := by
        rintro g (rfl | hg)
        · exact (H3.lt (.inl rfl)).2
        · exact (inA_own H3.turns hg).2
      have hS : ∀ W, Rg.Keeps (fun g => g = h.g ∨ inA h.ta g) w3.drew W → Rg.Keeps (fun g => g = h.g ∨ inA h.ta g) w3.drew W ∧ W.cell? ⟨g6, 0, none⟩ = some (.int .i64 3) ∧ W.cell? ⟨g6, 1, none⟩ = some (.int .i64 0) ∧ W.cell? ⟨g6, 2, none⟩ = some (.string (tx s)) ∧ W.cell? ⟨g6, 3, none⟩ = some (Value.string { data := #[] }) := fun W hK => by
        have hb : W.heap[g6]? = some (.cells #[.int .i64 3, .int .i64 0, .string (tx s), Value.string { data := #[] }] 76 (0, 0)) := (hK.block g6 hgl3 hgx).trans hgb3
        exact ⟨hK, blk_cell hb 0, blk_cell hb 1, blk_cell hb 2, blk_cell hb 3⟩
      have hbB : B ≤ w3.heap.size := by have := H3.lt (.inl rfl); omega
      go_upto_region 8 with fail
      obtain ⟨tt, htt⟩ : ∃ tt : Tn, tt = ⟨3, 0, s, []⟩ := ⟨_, rfl⟩
      have hcs : Tn.cs tt = [.int .i64 3, .int .i64 0, .string (tx s), Value.string { data := #[] }] := by rw [htt]; rfl
      have HCS := Lib.hid hcs
      have HTT := Lib.hid htt
      clear htt hcs
      apply Rg.region_own 11 _ (fun g => g = h.g ∨ inA h.ta g) (fun W => W.heap[h.g]? = some (.cells (dcs d3 h) 71 (0, 0)) ∧ W.ownsRow B 76 4 (.slice h.ta d3.turns.length h.tc) d3.turns.length (tcs d3.turns)) rfl (by kernel_rfl) (by kernel_rfl) hxo ⟨H3.hd, H3.turns⟩
        (fun v1 v2 hF hs => ⟨(hs.block h.g (Array.getElem?_eq_some_iff.1 hF.1).1 (.inr (.inl rfl))).trans hF.1, row_sta (Y := fun g => (g < w3.heap.size ∧ ¬ (g = h.g ∨ inA h.ta g)) ∨ (g = h.g ∨ inA h.ta g)) hF.2 ⟨hs.size, fun g hg hy => hs.block g hg (hy.elim id (fun ho => .inr (.inr (ob_inA ho))))⟩⟩) hS
      · intro QN hQN
        iterate 4 (apply Rg.RK.ok; (· intro vs w1 hS; go_simp; with_reducible rfl); (· rfl); simp only [Act.put, List.setIfInBounds_toArray, List.set_cons_zero, List.set_cons_succ, Nat.reduceAdd])
        apply Rg.RK.okU [11]
        · intro vs w9 hS9 hf
          obtain ⟨⟨hh, -⟩, -⟩ := hf
          have c4 : w9.cell? ⟨h.g, 4, none⟩ = some (.slice h.ta d3.turns.length h.tc) := blk_cell hh 4
          clear hh hS9
          go_simp
          with_reducible rfl
        · rfl
        simp only [Act.put, List.setIfInBounds_toArray, List.set_cons_zero, List.set_cons_succ, Nat.reduceAdd]
        iterate 1 (apply Rg.RK.ok; (· intro vs w1 hS; go_simp; with_reducible rfl); (· rfl); simp only [Act.put, List.setIfInBounds_toArray, List.set_cons_zero, List.set_cons_succ, Nat.reduceAdd])
        have hpc : ∀ y ∈ Tn.cs tt, y.oneCell' = true := fun y hy => by
          simp only [Tn.cs, List.mem_cons, List.not_mem_nil, or_false] at hy
          rcases hy with rfl | rfl | rfl | rfl <;> rfl
        apply Rg.RK.opn (fun v W1 => W1.ownsRow w3.heap.size 76 4 v 1 (Tn.cs tt)) Rg.ob [] []
        · exact fun v W1 W2 h hs => row_sta h hs
        · rfl
        · intro vs w9 hK hS9 _ K hKK
          go_simp
          refine hKK.out _ _ ?_ (Rg.Keeps.of_up ((Up.refl _).alloc _)) (by rintro g rfl; exact ⟨by simp, .inl (Nat.le_refl _)⟩)
          rw [HCS.out]
          exact row_new w9 _ _ hK.size rfl (by omega)
        simp only [Act.put, List.setIfInBounds_toArray, List.set_cons_zero, List.set_cons_succ, Nat.reduceAdd]
        apply Rg.RK.opn (fun v W => W.heap[h.g]? = some (.cells (dcs d3 h) 71 (0, 0)) ∧ W.ownsRow B 76 4 v (d3.turns.length + 1) (tcs d3.turns ++ Tn.cs tt) ∧ ∀ k, Rg.ob v k → inA h.ta k ∨ w3.heap.size ≤ k) (fun v g => g = h.g ∨ Rg.ob v g) [11, 6] [11]
        · rintro v v1 v2 ⟨f1, f2, f3⟩ hs
          exact ⟨(hs.block h.g (Array.getElem?_eq_some_iff.1 f1).1 (.inr (.inl rfl))).trans f1, row_sta (Y := fun g => (g < w3.drew.heap.size ∧ ¬ (g = h.g ∨ inA h.ta g)) ∨ (g = h.g ∨ Rg.ob v g)) f2 ⟨hs.size, fun g hg hy => hs.block g hg (hy.elim id (fun ho => .inr (.inr ho)))⟩, f3⟩
        · rfl
        · intro vs w9 hK hS9 hf K hKK
          obtain ⟨⟨hh, hrow⟩, h12, -⟩ := hf
          have h12' : w9.ownsRow w3.heap.size 76 4 (vs 6) 1 (Tn.cs tt) := h12
          obtain ⟨A12, c12, hv12⟩ := own_form h12'
          rw [hv12] at h12'
          (try dsimp only at hKK ⊢)
          rw [hv12] at hKK ⊢
          refine wp_append_rd _ _ _ turnsT rfl rfl rfl hrow (Rd.own h12') hpc (by omega) (by omega) (Nat.le_trans hbB hK.size) fun v' w5 ho' hg' hat' => ?_
          have hKr := keepsRow hrow hg'
          refine hKK.out _ _ ⟨?_, ho', fun k hk => ?_⟩ (Keeps.weak hKr fun y hy => ⟨11, List.mem_singleton.2 rfl, .inr hy⟩) (fun y hy => ?_)
          · refine (hKr.block h.g (Array.getElem?_eq_some_iff.1 hh).1 (fun hx => ?_)).trans hh
            have h1 := kd_row hrow hx
            rw [kd_cells hh] at h1
            exact absurd h1 (by decide)
          · obtain ⟨A', c', rfl⟩ := own_form ho'
            rcases at_inA hat' k (ob_inA hk) with h9 | h9
            · exact .inl h9
            · exact .inr (Nat.le_trans hK.size h9)
          · rcases hy with rfl | hy
            · exact ⟨Nat.lt_of_lt_of_le (Array.getElem?_eq_some_iff.1 hh).1 hKr.size, .inr ⟨11, List.mem_singleton.2 rfl, .inl rfl⟩⟩
            · obtain ⟨A', c', rfl⟩ := own_form ho'
              refine ⟨(inA_own ho' (ob_inA hy)).2, ?_⟩
              rcases at_inA hat' y (ob_inA hy) with h9 | h9
              · exact .inr ⟨11, List.mem_singleton.2 rfl, .inr h9⟩
              · exact .inl h9
        simp only [Act.put, List.setIfInBounds_toArray, List.set_cons_zero, List.set_cons_succ, Nat.reduceAdd]
        iterate 2 (apply Rg.RK.ok; (· intro vs w1 hS; go_simp; with_reducible rfl); (· rfl); simp only [Act.put, List.setIfInBounds_toArray, List.set_cons_zero, List.set_cons_succ, Nat.reduceAdd])
        apply Rg.RK.opD (fun vs W => ∃ T2 tc2, vs 7 = .slice T2 (d3.turns.length + 1) tc2 ∧ W.heap[h.g]? = some (.cells (dcs { d3 with turns := d3.turns ++ [tt] } { h with ta := T2, tc := tc2 }) 71 (0, 0)) ∧ W.ownsRow B 76 4 (.slice T2 (d3.turns.length + 1) tc2) (d3.turns.length + 1) (tcs d3.turns ++ Tn.cs tt) ∧ ∀ k, inA T2 k → inA h.ta k ∨ w3.heap.size ≤ k) (fun vs g => g = h.g ∨ Rg.ob (vs 7) g) [7] [7] [7] (fun vs vs' h => by rw [h 7 (by simp)]; exact ⟨rfl, rfl⟩)
        · rintro vs v1 v2 ⟨T2, tc2, f0, f1, f2, f3⟩ hs
          exact ⟨T2, tc2, f0, (hs.block h.g (Array.getElem?_eq_some_iff.1 f1).1 (.inr (.inl rfl))).trans f1, row_sta (Y := fun g => (g < w3.drew.heap.size ∧ ¬ (g = h.g ∨ inA h.ta g)) ∨ (g = h.g ∨ Rg.ob (vs 7) g)) f2 ⟨hs.size, fun g hg hy => hs.block g hg (hy.elim id (fun ho => .inr (.inr (by rw [f0]; exact ho))))⟩, f3⟩
        · rfl
        · intro vs w9 hK hS9 hf K hKK
          obtain ⟨h13, -⟩ := hf
          obtain ⟨hh, hrow, hat⟩ := h13
          have hrow' : w9.ownsRow B 76 4 (vs 7) (d3.turns.length + 1) (tcs d3.turns ++ Tn.cs tt) := hrow
          obtain ⟨T2, tc2, hv13⟩ := own_form hrow'
          have t4 : w9.cell? ⟨h.g, 4, none⟩ = some (.slice h.ta d3.turns.length h.tc) := blk_cell hh 4
          have s4 := blk_free hh 4
          have hset := setc_heap w9 h.g 4 (.slice T2 (d3.turns.length + 1) tc2) _ _ hh
          have hK9 : Rg.Keeps (fun k => k = h.g) w9 (w9.setCell ⟨h.g, 4, none⟩ (.slice T2 (d3.turns.length + 1) tc2)) := setc_keeps _ _ _ _ _ (Rg.Keeps.refl _ _)
          rw [hv13] at hrow'
          have hat2 : ∀ k, inA T2 k → inA h.ta k ∨ w3.heap.size ≤ k := fun k hk => hat k (by
            show Rg.ob (vs 7) k
            rw [hv13]
            obtain ⟨a, rfl, e⟩ := hk
            exact e)
          have hrow2 := own_keepsX hrow' hK9 (fun k hk e => by
            have h1 := kd_row hrow' hk
            rw [e, kd_cells hh] at h1
            exact absurd h1 (by decide))
          (try dsimp only at hKK ⊢)
          rw [hv13] at hKK ⊢
          have HV := Lib.hid hv13
          have HH := Lib.hid hh
          clear hv13 hat hrow hh hS9
          go_simp
          refine hKK.out undef _ ⟨T2, tc2, ?_, ?_, hrow2, hat2⟩ (Keeps.weak hK9 fun y hy => ⟨7, List.mem_singleton.2 rfl, .inl hy⟩) (fun y hy => ?_)
          · rw [Rg.upd_ne _ _ (by decide)]; exact HV.out
          · rw [hset]
            simp [dcs]
          · have hy' : y = h.g ∨ Rg.ob (vs 7) y := by simpa only [Rg.upd_ne _ _ (show 7 ≠ 10 by decide)] using hy
            rcases hy' with rfl | hy'
            · exact ⟨Nat.lt_of_lt_of_le (Array.getElem?_eq_some_iff.1 HH.out).1 hK9.size, .inr ⟨7, List.mem_singleton.2 rfl, .inl rfl⟩⟩
            · rw [HV.out] at hy'
              refine ⟨(inA_own hrow2 (ob_inA hy')).2, .inr ⟨7, List.mem_singleton.2 rfl, .inr ?_⟩⟩
              show Rg.ob (vs 7) y
              rw [HV.out]; exact hy'
        simp only [Act.put, List.setIfInBounds_toArray, List.set_cons_zero, List.set_cons_succ, Nat.reduceAdd]
        apply Rg.RK.fin [10]
        intro vs w9 hK hS9 hf
        obtain ⟨h16, -⟩ := hf
        obtain ⟨T2, tc2, hv13, hh, hrow, hat⟩ := h16
        refine hQN.out _ _ ?_
        clear hQN hS9
        (try dsimp only)
        rw [hv13]
        have H3d := H3.up (Up.drew (Up.refl w3))
        obtain ⟨H4, K4, F4⟩ := H3d.setTurnsF (d3.turns ++ [tt]) (m0 := w3.heap.size) hh (by rw [List.length_append]; unfold tcs at hrow ⊢; rw [List.flatMap_append]; simpa using hrow) hK (Nat.le_refl _) hat
        have D4 : DkTo h w { h with ta := T2, tc := tc2 } w9 := D23.trans ⟨rfl, ⟨K4.os, K4.tape, K4.output, K4.size, K4.block⟩, F4⟩
        clear hv13 hh hrow hat hK K4 F4 H3d H3 D23 hxo hS hbB hpc
        go_wp2_with fail
        go_ret
        rw [HC3.out]
        rw [HD3.out, HTT.out] at H4
        first | exact ⟨_, rfl, H4, D4⟩ | exact ⟨rfl, _, H4, D4⟩
      · kernel_rfl
set_option maxRecDepth 100000 in
set_option maxHeartbeats 1600000 in
theorem rename_any {B : Nat} {h : Hp} {d : Dk} {w : World} (H : DiskAt B h d w) (hok : DkOk d) (hcl : d.calls ≤ 1000000000) (hnt : d.turns.length < 1000000) (a b : List UInt8) (ha : a.length ≤ 9223372036854775807) (hb0 : b.length ≤ 9223372036854775807) :
    Calls Try.prog 27 #[.pointer (some ⟨h.g, 0, none⟩), .string (tx a), .string (tx b)] w fun e w' => ∃ h', e = .returned (.int .i64 ((renameD d a b).2 : Int)) ∧ DiskAt B h' (renameD d a b).1 w' ∧ DkTo h w h' w' := by
  have hb : Rd (w.alloc (.cells #[.string (tx a), .string (tx b)] 9)) (w.alloc (.cells #[.string (tx a), .string (tx b)] 9)).heap.size 1 (some ⟨w.heap.size, 0, none⟩) 2 (svs [a, b]) := Rd.made w #[.string (tx a), .string (tx b)] 9 rfl
  have H0 := H.up ((Up.refl w).alloc (.cells #[.string (tx a), .string (tx b)] 9))
  have D0 : DkTo h w h (w.alloc (.cells #[.string (tx a), .string (tx b)] 9)) := DkTo.up ((Up.refl w).alloc (.cells #[.string (tx a), .string (tx b)] 9))
  have hcr : renameD d a b = renameD d a b := rfl
  conv at hcr => rhs; unfold renameD
  have HCR := Lib.hid hcr
  have hok1 := callN_ok (L := [a, b]) hok
  have hsame := callN_same [a, b] d
  have HSM := Lib.hid hsame
  clear hcr hsame
  go_enter Try.func27, Try.ntmps27
  go_wp2_with fail
  refine (call_any H0 hok hcl [a, b] (some ⟨w.heap.size, 0, none⟩) 2 2 hb (fun x hx => by simp only [List.mem_cons, List.not_mem_nil, or_false] at hx; rcases hx with rfl | rfl <;> assumption) (by omega)).mono ?_
  rintro e w1 ⟨rfl, H1, D1⟩
  have D01 := D0.trans D1
  clear H0 D0 D1 hb
  generalize callN [a, b] d = r at *
  obtain ⟨d1, ec⟩ := r
  (try dsimp only at *)
  by_cases he : ec ≠ 0
  · have heb : ((ec : Int) != 0) = true := by rw [bne_iff_ne]; omega
    have hcr2 := HCR.out
    rw [if_pos he] at hcr2
    have HC2 := Lib.hid hcr2
    clear hcr2 he
    go_wp2_with fail
    go_ret
    rw [HC2.out]
    exact ⟨h, rfl, H1, D01⟩
  · have heb : ((ec : Int) != 0) = false := by rw [bne_eq_false_iff_eq]; omega
    have hcr2 := HCR.out
    rw [if_neg he] at hcr2
    have HC2 := Lib.hid hcr2
    clear hcr2 he HCR
    obtain ⟨e1, e2, e3, e4, e5, e6, e7, e8⟩ := HSM.out
    go_wp2_with fail
    refine (find_any H1 hok1 a ha).mono ?_
    rintro e w2 ⟨rfl, hfi⟩
    rcases hfi with ⟨hfi, rfl⟩ | ⟨i, f, x, hfi, hf, hx, rfl⟩
    · have hh : Maps.has d.names (nk a) = false := by
        unfold findI at hfi
        rw [e2] at hfi
        split at hfi
        · cases hfi
        · rename_i h9; simpa using h9
      have hcr3 := HC2.out
      rw [if_pos hh] at hcr3
      have HC3 := Lib.hid hcr3
      clear hcr3 hfi hh e1 e2 e3 e4 e5 HC2
      go_wp2_with fail
      go_ret
      rw [HC3.out]
      exact ⟨h, rfl, H1, D01⟩
    · have hh : Maps.has d.names (nk a) = true := by
        unfold findI at hfi
        rw [e2] at hfi
        split at hfi
        · assumption
        · cases hfi
      have hcr3 := HC2.out
      rw [if_neg (by rw [hh]; decide)] at hcr3
      by_cases hab : a = b
      · rw [if_pos hab] at hcr3
        have HC3 := Lib.hid hcr3
        have hsame : ((tx a).toList == (tx b).toList) = true := tx_beq hab
        clear hcr3 hfi hh hf hx e1 e2 e3 e4 e5 HC2 HSM hab
        go_wp2_with fail
        go_ret
        rw [HC3.out]
        exact ⟨h, rfl, H1, D01⟩
      rw [if_neg hab, ← e2, ← e4] at hcr3
      have hsame : ((tx a).toList == (tx b).toList) = false := tx_bne hab
      have hnt1 : d1.turns.length < 1000000 := by rw [e4]; exact hnt
      have HC3 := Lib.hid hcr3
      have HNT := Lib.hid hnt1
      clear hcr3 hfi hh hf hx e1 e2 e3 e4 e5 HC2 HSM hnt1 hab
      have hua : Up w1 (w1.alloc (.cells #[.int .i64 2, .int .i64 0, .string (tx a), Value.string (tx b)] 76)) := (Up.refl w1).alloc _
      have hblk := heap_alloc_new w1 (.cells #[.int .i64 2, .int .i64 0, .string (tx a), Value.string (tx b)] 76)
      have H2 := H1.up hua
      have D2 := D01.trans (DkTo.up (h := h) hua)
      have hgb : ¬ foot h w1.heap.size := fun hk => Nat.lt_irrefl _ (H1.lt hk).2
      go_upto_region 9 with fail
      generalize w1.alloc (.cells #[.int .i64 2, .int .i64 0, .string (tx a), Value.string (tx b)] 76) = W2 at *
      generalize w1.heap.size = g6 at *
      clear H1 D01 hua
      have b0 : W2.cell? ⟨g6, 0, none⟩ = some (.int .i64 2) := blk_cell hblk 0
      have b1 : W2.cell? ⟨g6, 1, none⟩ = some (.int .i64 0) := blk_cell hblk 1
      have b2 : W2.cell? ⟨g6, 2, none⟩ = some (.string (tx a)) := blk_cell hblk 2
      have b3 : W2.cell? ⟨g6, 3, none⟩ = some (Value.string (tx b)) := blk_cell hblk 3
      have c2 : W2.cell? ⟨h.g, 2, none⟩ = some (.map (some h.nb)) := blk_cell H2.hd 2
      have H2d := H2.up (Up.drew (Up.refl W2))
      have D2d := D2.trans (DkTo.up (h := h) (Up.drew (Up.refl W2)))
      have hblkd : W2.drew.heap[g6]? = some (.cells #[.int .i64 2, .int .i64 0, .string (tx a), Value.string (tx b)] 76 (0, 0)) := hblk
      have HDO : Hid (Calls Try.prog 43 #[.agg #[.int .i64 2, .int .i64 0, .string (tx a), Value.string (tx b)], .map (some h.nb)] W2.drew fun e w' => e = .returned (.tuple #[]) ∧ (∃ n', w'.ownsMap Try.prog 9 (plainElem Try.prog 3) h.nb n' (doM ⟨2, 0, a, b⟩ d1.names)) ∧ Rg.Keeps (fun k => k = h.nb) W2.drew w') := do_any ⟨2, 0, a, b⟩ h.nb _ _ d1.names W2.drew H2d.names (by have := hok1.sn; omega) hok1.nm hok1.nf (fun e => by cases e) (ha) (hb0)
      clear H2 D2 hblk
      go_still_tail 5, (by kernel_rfl)
      go_wp2_with fail
      refine HDO.out.mono ?_
      rintro e w3 ⟨rfl, ⟨n3, hm3⟩, hK3⟩
      obtain ⟨H3, D3⟩ := H2d.setNames (D' := doM ⟨2, 0, a, b⟩ d1.names) hK3 hm3
      have D23 := D2d.trans D3
      have hgb3 : w3.heap[g6]? = some (.cells #[.int .i64 2, .int .i64 0, .string (tx a), Value.string (tx b)] 76 (0, 0)) := (hK3.block g6 (Array.getElem?_eq_some_iff.1 hblkd).1 (fun e9 => hgb (.inr (.inl e9)))).trans hblkd
      have hgl3 : g6 < w3.heap.size := (Array.getElem?_eq_some_iff.1 hgb3).1
      have hgx : ¬ (g6 = h.g ∨ inA h.ta g6) := fun hx => hgb (hx.elim (fun e9 => .inl e9) (fun e9 => .inr (.inr (.inr (.inr (.inl e9))))))
      clear HDO D2d D3 hm3 hK3 hblkd b0 b1 b2 b3 c2
      obtain ⟨d3, hd3⟩ : ∃ d3 : Dk, d3 = { d1 with names := doM ⟨2, 0, a, b⟩ d1.names } := ⟨_, rfl⟩
      rw [← hd3] at H3
      have f4 : d3.turns.length ≤ 1000000 := by rw [hd3]; exact hok1.nt
      have HD3 := Lib.hid hd3
      clear hd3 H2d
      have hxo : ∀ g, (g = h.g ∨ inA h.ta g) → g < w3.heap.size := by
        rintro g (rfl | hg)
        · exact (H3.lt (.inl rfl)).2
        · exact (inA_own H3.turns hg).2
      have hS : ∀ W, Rg.Keeps (fun g => g = h.g ∨ inA h.ta g) w3.drew W → Rg.Keeps (fun g => g = h.g ∨ inA h.ta g) w3.drew W ∧ W.cell? ⟨g6, 0, none⟩ = some (.int .i64 2) ∧ W.cell? ⟨g6, 1, none⟩ = some (.int .i64 0) ∧ W.cell? ⟨g6, 2, none⟩ = some (.string (tx a)) ∧ W.cell? ⟨g6, 3, none⟩ = some (Value.string (tx b)) := fun W hK => by
        have hb : W.heap[g6]? = some (.cells #[.int .i64 2, .int .i64 0, .string (tx a), Value.string (tx b)] 76 (0, 0)) := (hK.block g6 hgl3 hgx).trans hgb3
        exact ⟨hK, blk_cell hb 0, blk_cell hb 1, blk_cell hb 2, blk_cell hb 3⟩
      have hbB : B ≤ w3.heap.size := by have := H3.lt (.inl rfl); omega
      go_upto_region 10 with fail
      obtain ⟨tt, htt⟩ : ∃ tt : Tn, tt = ⟨2, 0, a, b⟩ := ⟨_, rfl⟩
      have hcs : Tn.cs tt = [.int .i64 2, .int .i64 0, .string (tx a), Value.string (tx b)] := by rw [htt]; rfl
      have HCS := Lib.hid hcs
      have HTT := Lib.hid htt
      clear htt hcs
      apply Rg.region_own 11 _ (fun g => g = h.g ∨ inA h.ta g) (fun W => W.heap[h.g]? = some (.cells (dcs d3 h) 71 (0, 0)) ∧ W.ownsRow B 76 4 (.slice h.ta d3.turns.length h.tc) d3.turns.length (tcs d3.turns)) rfl (by kernel_rfl) (by kernel_rfl) hxo ⟨H3.hd, H3.turns⟩
        (fun v1 v2 hF hs => ⟨(hs.block h.g (Array.getElem?_eq_some_iff.1 hF.1).1 (.inr (.inl rfl))).trans hF.1, row_sta (Y := fun g => (g < w3.heap.size ∧ ¬ (g = h.g ∨ inA h.ta g)) ∨ (g = h.g ∨ inA h.ta g)) hF.2 ⟨hs.size, fun g hg hy => hs.block g hg (hy.elim id (fun ho => .inr (.inr (ob_inA ho))))⟩⟩) hS
      · intro QN hQN
        iterate 4 (apply Rg.RK.ok; (· intro vs w1 hS; go_simp; with_reducible rfl); (· rfl); simp only [Act.put, List.setIfInBounds_toArray, List.set_cons_zero, List.set_cons_succ, Nat.reduceAdd])
        apply Rg.RK.okU [11]
        · intro vs w9 hS9 hf
          obtain ⟨⟨hh, -⟩, -⟩ := hf
          have c4 : w9.cell? ⟨h.g, 4, none⟩ = some (.slice h.ta d3.turns.length h.tc) := blk_cell hh 4
          clear hh hS9
          go_simp
          with_reducible rfl
        · rfl
        simp only [Act.put, List.setIfInBounds_toArray, List.set_cons_zero, List.set_cons_succ, Nat.reduceAdd]
        iterate 1 (apply Rg.RK.ok; (· intro vs w1 hS; go_simp; with_reducible rfl); (· rfl); simp only [Act.put, List.setIfInBounds_toArray, List.set_cons_zero, List.set_cons_succ, Nat.reduceAdd])
        have hpc : ∀ y ∈ Tn.cs tt, y.oneCell' = true := fun y hy => by
          simp only [Tn.cs, List.mem_cons, List.not_mem_nil, or_false] at hy
          rcases hy with rfl | rfl | rfl | rfl <;> rfl
        apply Rg.RK.opn (fun v W1 => W1.ownsRow w3.heap.size 76 4 v 1 (Tn.cs tt)) Rg.ob [] []
        · exact fun v W1 W2 h hs => row_sta h hs
        · rfl
        · intro vs w9 hK hS9 _ K hKK
          go_simp
          refine hKK.out _ _ ?_ (Rg.Keeps.of_up ((Up.refl _).alloc _)) (by rintro g rfl; exact ⟨by simp, .inl (Nat.le_refl _)⟩)
          rw [HCS.out]
          exact row_new w9 _ _ hK.size rfl (by omega)
        simp only [Act.put, List.setIfInBounds_toArray, List.set_cons_zero, List.set_cons_succ, Nat.reduceAdd]
        apply Rg.RK.opn (fun v W => W.heap[h.g]? = some (.cells (dcs d3 h) 71 (0, 0)) ∧ W.ownsRow B 76 4 v (d3.turns.length + 1) (tcs d3.turns ++ Tn.cs tt) ∧ ∀ k, Rg.ob v k → inA h.ta k ∨ w3.heap.size ≤ k) (fun v g => g = h.g ∨ Rg.ob v g) [11, 6] [11]
        · rintro v v1 v2 ⟨f1, f2, f3⟩ hs
          exact ⟨(hs.block h.g (Array.getElem?_eq_some_iff.1 f1).1 (.inr (.inl rfl))).trans f1, row_sta (Y := fun g => (g < w3.drew.heap.size ∧ ¬ (g = h.g ∨ inA h.ta g)) ∨ (g = h.g ∨ Rg.ob v g)) f2 ⟨hs.size, fun g hg hy => hs.block g hg (hy.elim id (fun ho => .inr (.inr ho)))⟩, f3⟩
        · rfl
        · intro vs w9 hK hS9 hf K hKK
          obtain ⟨⟨hh, hrow⟩, h12, -⟩ := hf
          have h12' : w9.ownsRow w3.heap.size 76 4 (vs 6) 1 (Tn.cs tt) := h12
          obtain ⟨A12, c12, hv12⟩ := own_form h12'
          rw [hv12] at h12'
          (try dsimp only at hKK ⊢)
          rw [hv12] at hKK ⊢
          refine wp_append_rd _ _ _ turnsT rfl rfl rfl hrow (Rd.own h12') hpc (by omega) (by omega) (Nat.le_trans hbB hK.size) fun v' w5 ho' hg' hat' => ?_
          have hKr := keepsRow hrow hg'
          refine hKK.out _ _ ⟨?_, ho', fun k hk => ?_⟩ (Keeps.weak hKr fun y hy => ⟨11, List.mem_singleton.2 rfl, .inr hy⟩) (fun y hy => ?_)
          · refine (hKr.block h.g (Array.getElem?_eq_some_iff.1 hh).1 (fun hx => ?_)).trans hh
            have h1 := kd_row hrow hx
            rw [kd_cells hh] at h1
            exact absurd h1 (by decide)
          · obtain ⟨A', c', rfl⟩ := own_form ho'
            rcases at_inA hat' k (ob_inA hk) with h9 | h9
            · exact .inl h9
            · exact .inr (Nat.le_trans hK.size h9)
          · rcases hy with rfl | hy
            · exact ⟨Nat.lt_of_lt_of_le (Array.getElem?_eq_some_iff.1 hh).1 hKr.size, .inr ⟨11, List.mem_singleton.2 rfl, .inl rfl⟩⟩
            · obtain ⟨A', c', rfl⟩ := own_form ho'
              refine ⟨(inA_own ho' (ob_inA hy)).2, ?_⟩
              rcases at_inA hat' y (ob_inA hy) with h9 | h9
              · exact .inr ⟨11, List.mem_singleton.2 rfl, .inr h9⟩
              · exact .inl h9
        simp only [Act.put, List.setIfInBounds_toArray, List.set_cons_zero, List.set_cons_succ, Nat.reduceAdd]
        iterate 2 (apply Rg.RK.ok; (· intro vs w1 hS; go_simp; with_reducible rfl); (· rfl); simp only [Act.put, List.setIfInBounds_toArray, List.set_cons_zero, List.set_cons_succ, Nat.reduceAdd])
        apply Rg.RK.opD (fun vs W => ∃ T2 tc2, vs 7 = .slice T2 (d3.turns.length + 1) tc2 ∧ W.heap[h.g]? = some (.cells (dcs { d3 with turns := d3.turns ++ [tt] } { h with ta := T2, tc := tc2 }) 71 (0, 0)) ∧ W.ownsRow B 76 4 (.slice T2 (d3.turns.length + 1) tc2) (d3.turns.length + 1) (tcs d3.turns ++ Tn.cs tt) ∧ ∀ k, inA T2 k → inA h.ta k ∨ w3.heap.size ≤ k) (fun vs g => g = h.g ∨ Rg.ob (vs 7) g) [7] [7] [7] (fun vs vs' h => by rw [h 7 (by simp)]; exact ⟨rfl, rfl⟩)
        · rintro vs v1 v2 ⟨T2, tc2, f0, f1, f2, f3⟩ hs
          exact ⟨T2, tc2, f0, (hs.block h.g (Array.getElem?_eq_some_iff.1 f1).1 (.inr (.inl rfl))).trans f1, row_sta (Y := fun g => (g < w3.drew.heap.size ∧ ¬ (g = h.g ∨ inA h.ta g)) ∨ (g = h.g ∨ Rg.ob (vs 7) g)) f2 ⟨hs.size, fun g hg hy => hs.block g hg (hy.elim id (fun ho => .inr (.inr (by rw [f0]; exact ho))))⟩, f3⟩
        · rfl
        · intro vs w9 hK hS9 hf K hKK
          obtain ⟨h13, -⟩ := hf
          obtain ⟨hh, hrow, hat⟩ := h13
          have hrow' : w9.ownsRow B 76 4 (vs 7) (d3.turns.length + 1) (tcs d3.turns ++ Tn.cs tt) := hrow
          obtain ⟨T2, tc2, hv13⟩ := own_form hrow'
          have t4 : w9.cell? ⟨h.g, 4, none⟩ = some (.slice h.ta d3.turns.length h.tc) := blk_cell hh 4
          have s4 := blk_free hh 4
          have hset := setc_heap w9 h.g 4 (.slice T2 (d3.turns.length + 1) tc2) _ _ hh
          have hK9 : Rg.Keeps (fun k => k = h.g) w9 (w9.setCell ⟨h.g, 4, none⟩ (.slice T2 (d3.turns.length + 1) tc2)) := setc_keeps _ _ _ _ _ (Rg.Keeps.refl _ _)
          rw [hv13] at hrow'
          have hat2 : ∀ k, inA T2 k → inA h.ta k ∨ w3.heap.size ≤ k := fun k hk => hat k (by
            show Rg.ob (vs 7) k
            rw [hv13]
            obtain ⟨a, rfl, e⟩ := hk
            exact e)
          have hrow2 := own_keepsX hrow' hK9 (fun k hk e => by
            have h1 := kd_row hrow' hk
            rw [e, kd_cells hh] at h1
            exact absurd h1 (by decide))
          (try dsimp only at hKK ⊢)
          rw [hv13] at hKK ⊢
          have HV := Lib.hid hv13
          have HH := Lib.hid hh
          clear hv13 hat hrow hh hS9
          go_simp
          refine hKK.out undef _ ⟨T2, tc2, ?_, ?_, hrow2, hat2⟩ (Keeps.weak hK9 fun y hy => ⟨7, List.mem_singleton.2 rfl, .inl hy⟩) (fun y hy => ?_)
          · rw [Rg.upd_ne _ _ (by decide)]; exact HV.out
          · rw [hset]
            simp [dcs]
          · have hy' : y = h.g ∨ Rg.ob (vs 7) y := by simpa only [Rg.upd_ne _ _ (show 7 ≠ 10 by decide)] using hy
            rcases hy' with rfl | hy'
            · exact ⟨Nat.lt_of_lt_of_le (Array.getElem?_eq_some_iff.1 HH.out).1 hK9.size, .inr ⟨7, List.mem_singleton.2 rfl, .inl rfl⟩⟩
            · rw [HV.out] at hy'
              refine ⟨(inA_own hrow2 (ob_inA hy')).2, .inr ⟨7, List.mem_singleton.2 rfl, .inr ?_⟩⟩
              show Rg.ob (vs 7) y
              rw [HV.out]; exact hy'
        simp only [Act.put, List.setIfInBounds_toArray, List.set_cons_zero, List.set_cons_succ, Nat.reduceAdd]
        apply Rg.RK.fin [10]
        intro vs w9 hK hS9 hf
        obtain ⟨h16, -⟩ := hf
        obtain ⟨T2, tc2, hv13, hh, hrow, hat⟩ := h16
        refine hQN.out _ _ ?_
        clear hQN hS9
        (try dsimp only)
        rw [hv13]
        have H3d := H3.up (Up.drew (Up.refl w3))
        obtain ⟨H4, K4, F4⟩ := H3d.setTurnsF (d3.turns ++ [tt]) (m0 := w3.heap.size) hh (by rw [List.length_append]; unfold tcs at hrow ⊢; rw [List.flatMap_append]; simpa using hrow) hK (Nat.le_refl _) hat
        have D4 : DkTo h w { h with ta := T2, tc := tc2 } w9 := D23.trans ⟨rfl, ⟨K4.os, K4.tape, K4.output, K4.size, K4.block⟩, F4⟩
        clear hv13 hh hrow hat hK K4 F4 H3d H3 D23 hxo hS hbB hpc
        go_wp2_with fail
        go_ret
        rw [HC3.out]
        rw [HD3.out, HTT.out] at H4
        first | exact ⟨_, rfl, H4, D4⟩ | exact ⟨rfl, _, H4, D4⟩
      · kernel_rfl
end Go.Proofs.Ytebhhfmekmpnkaa

/-
  The walks of the disk's led, and of what it calls.
-/
namespace Go.Proofs.Ytebhhfmekmpnkaa
open Go.RowKit Go.Maps
set_option linter.unusedVariables false
set_option linter.unusedSimpArgs false

theorem tcs_at (l : List Tn) {k : Nat} {t : Tn} (h : l[k]? = some t) (i : Nat) (hi : i < 4) : (tcs l)[k * 4 + i]? = t.cs[i]? := by
  induction l generalizing k with
  | nil => simp at h
  | cons q qs ih =>
    have hc : tcs (q :: qs) = q.cs ++ tcs qs := rfl
    have hl : q.cs.length = 4 := rfl
    rw [hc]
    cases k with
    | zero =>
      simp at h; subst h
      rw [List.getElem?_append_left (by omega), Nat.zero_mul, Nat.zero_add]
    | succ k =>
      simp at h
      rw [List.getElem?_append_right (by omega), hl, show (k + 1) * 4 + i - 4 = k * 4 + i by omega]
      exact ih h
theorem Rd.turn_at {w : World} {B n : Nat} {A : Option Addr} {l : List Tn} (h : Rd w B 4 A n (tcs l)) {k : Nat} (hk : k < n) (hl : n = l.length) : ∃ b o t, A = some ⟨b, o, none⟩ ∧ b < B ∧ l[k]? = some t ∧ w.cell? ⟨b, o + k * 4, none⟩ = some (.int .i64 (t.kind : Int)) ∧ w.cell? ⟨b, o + k * 4 + 1, none⟩ = some (.int .i64 (t.file : Int)) ∧ w.cell? ⟨b, o + k * 4 + 2, none⟩ = some (.string (tx t.a)) ∧ w.cell? ⟨b, o + k * 4 + 3, none⟩ = some (.string (tx t.b)) := by
  obtain ⟨b, o, rfl, hb, hc⟩ := h.2 (by omega)
  have ht : l[k]? = some l[k] := List.getElem?_eq_getElem (by omega)
  have hcc := fun i (hi : i < 4) u (hu : (l[k]'(by omega)).cs[i]? = some u) => hc (k * 4 + i) u ((tcs_at l ht i hi).trans hu)
  exact ⟨b, o, l[k], rfl, hb, ht, hcc 0 (by omega) _ rfl, hcc 1 (by omega) _ rfl, hcc 2 (by omega) _ rfl, hcc 3 (by omega) _ rfl⟩
theorem tcs_len (l : List Tn) : (tcs l).length = l.length * 4 := by
  induction l with
  | nil => rfl
  | cons q qs ih =>
    have hc : tcs (q :: qs) = q.cs ++ tcs qs := rfl
    rw [hc, List.length_append, ih, List.length_cons]
    show 4 + _ = _
    omega
theorem Rd.tlen {w : World} {B n : Nat} {A : Option Addr} {l : List Tn} (h : Rd w B 4 A n (tcs l)) : n = l.length := by have := h.1; rw [tcs_len] at this; omega
set_option maxRecDepth 100000 in
theorem ixT_any (g : Nat) (lb : Array Value) (p : Tn → Bool) (A : Option Addr) (n c : Nat) (l : List Tn) (w : World) (hr : Rd w w.heap.size 4 A n (tcs l)) (hn : n ≤ 1000000000)
    (eg : ∀ args w, (callFunc g args).run Try.prog w = .ok (.enter g args) w)
    (hp : ∀ (W : World) (x : Tn), Up w W → Calls Try.prog g (#[.agg #[.int .i64 (x.kind : Int), .int .i64 (x.file : Int), .string (tx x.a), .string (tx x.b)]] ++ lb) W fun e w' => e = .returned (.bool (p x)) ∧ Up W w') :
    Calls Try.prog 77 #[.slice A n c, .func (.func g) #[] lb] w fun e w' => ∃ z : Int, e = .returned (.int .i64 z) ∧ decide (0 ≤ z) = l.any p ∧ Up w w' := by
  have HL := Lib.hid hr.tlen
  have HP := Lib.hid hp
  clear hp
  go_enter Try.func77, Try.ntmps77
  go_wp2_with fail
  go_loopw [8] (fun i wr => ∃ k : Nat, i = .int .i64 (k : Int) ∧ k ≤ n ∧ Hid ((l.take k).any p = false) ∧ Up w wr) (fun i _ => n - (intOf i).toNat)
  case atStart => exact ⟨0, rfl, by omega, rfl, Up.refl _⟩
  case round =>
    obtain ⟨k, rfl, hk, hall, hu⟩ := hrel
    by_cases hlt : k < n
    · have hkl : k < l.length := by have := HL.out; omega
      obtain ⟨b, o, x, rfl, hb, hx, c0, c1, c2, c3⟩ := (hr.up hu).turn_at hlt HL.out
      have hsn : (l.take (k + 1)).any p = ((l.take k).any p || p x) := by rw [List.take_add_one, List.any_append, hx]; simp
      have hin : p x = true → l.any p = true := fun h9 => List.any_eq_true.2 ⟨x, List.mem_of_getElem? hx, h9⟩
      have HSN := Lib.hid hsn
      have HIN := Lib.hid hin
      clear hx hsn hin
      have hcall := HP.out wr x hu
      have hlti : (k : Int) < (n : Int) := by omega
      go_wp2_with fail
      refine hcall.mono ?_
      rintro e w2 ⟨rfl, hu2⟩
      obtain ⟨q, hq⟩ : ∃ q, q = p x := ⟨_, rfl⟩
      rw [← hq]
      have HQ := Lib.hid hq
      clear hq c0 c1 c2 c3 hcall
      cases q
      · go_wp2_with fail
        go_roundw
        case rel =>
          refine ⟨k + 1, by go_num, by omega, ?_, hu.trans hu2⟩
          show _ = _
          rw [HSN.out, hall.out, ← HQ.out]; rfl
        case measure => simp [intOf]; omega
      · go_wp2_with fail
        go_ret
        refine ⟨_, rfl, ?_, hu.trans hu2⟩
        rw [HIN.out HQ.out.symm, decide_eq_true_iff]
        omega
    · have hlti : ¬ (k : Int) < (n : Int) := by omega
      go_wp2_with fail
      go_ret
      refine ⟨_, rfl, ?_, hu⟩
      have h9 := hall.out
      rw [List.take_of_length_le (by have := HL.out; omega)] at h9
      rw [h9]; decide
set_option maxRecDepth 100000 in
theorem conT_any (g : Nat) (lb : Array Value) (p : Tn → Bool) (A : Option Addr) (n c : Nat) (l : List Tn) (w : World) (hr : Rd w w.heap.size 4 A n (tcs l)) (hn : n ≤ 1000000000)
    (eg : ∀ args w, (callFunc g args).run Try.prog w = .ok (.enter g args) w)
    (hp : ∀ (W : World) (x : Tn), Up w W → Calls Try.prog g (#[.agg #[.int .i64 (x.kind : Int), .int .i64 (x.file : Int), .string (tx x.a), .string (tx x.b)]] ++ lb) W fun e w' => e = .returned (.bool (p x)) ∧ Up W w') :
    Calls Try.prog 68 #[.slice A n c, .func (.func g) #[] lb] w fun e w' => e = .returned (.bool (l.any p)) ∧ Up w w' := by
  have HC := Lib.hid (ixT_any g lb p A n c l w hr hn eg hp)
  clear hp
  go_enter Try.func68, Try.ntmps68
  go_wp2_with fail
  refine HC.out.mono ?_
  rintro e w1 ⟨z, rfl, hz, hu⟩
  have HZ := Lib.hid hz
  clear hz
  go_wp2_with fail
  go_ret
  rw [← HZ.out]
  exact ⟨rfl, hu⟩
def madeT (i : Nat) (t : Tn) : Bool := decide (t.kind = 1) && decide (t.file = i)
set_option maxRecDepth 100000 in
theorem led2_any (gi i : Nat) (t : Tn) (w : World) (hg : gi < w.heap.size) (hc : w.cell? ⟨gi, 0, none⟩ = some (.int .i64 (i : Int))) :
    Calls Try.prog 69 #[.agg #[.int .i64 (t.kind : Int), .int .i64 (t.file : Int), .string (tx t.a), .string (tx t.b)], .pointer (some ⟨gi, 0, none⟩)] w fun e w' => e = .returned (.bool (madeT i t)) ∧ Up w w' := by
  have h0 : Up w (w.alloc (.cells #[.int .i64 (t.kind : Int), .int .i64 (t.file : Int), .string (tx t.a), .string (tx t.b)] 76)) := (Up.refl w).alloc _
  have hblk := heap_alloc_new w (.cells #[.int .i64 (t.kind : Int), .int .i64 (t.file : Int), .string (tx t.a), .string (tx t.b)] 76)
  have c0 := blk_cell hblk 0
  have c1 := blk_cell hblk 1
  have hc2 := (h0.cell (p := ⟨gi, 0, none⟩) hg).trans hc
  by_cases k1 : t.kind = 1
  · have b1 : ((t.kind : Int) == 1) = true := by rw [beq_iff_eq]; omega
    by_cases k2 : t.file = i
    · have b2 : ((t.file : Int) == (i : Int)) = true := by rw [beq_iff_eq]; omega
      have hm : madeT i t = true := by unfold madeT; rw [decide_eq_true k1, decide_eq_true k2]; rfl
      have HM := Lib.hid hm
      clear hm k1 k2
      go_enter Try.func69, Try.ntmps69
      go_wp2_with fail
      go_ret
      rw [HM.out]
      exact ⟨rfl, h0⟩
    · have b2 : ((t.file : Int) == (i : Int)) = false := by rw [beq_eq_false_iff_ne]; omega
      have hm : madeT i t = false := by unfold madeT; rw [decide_eq_false k2]; simp
      have HM := Lib.hid hm
      clear hm k1 k2
      go_enter Try.func69, Try.ntmps69
      go_wp2_with fail
      go_ret
      rw [HM.out]
      exact ⟨rfl, h0⟩
  · have b1 : ((t.kind : Int) == 1) = false := by rw [beq_eq_false_iff_ne]; omega
    have hm : madeT i t = false := by unfold madeT; rw [decide_eq_false k1]; simp
    have HM := Lib.hid hm
    clear hm k1
    go_enter Try.func69, Try.ntmps69
    go_wp2_with fail
    go_ret
    rw [HM.out]
    exact ⟨rfl, h0⟩
def valIn (D : Mp) (i : Nat) : Bool := match D with | .map es => es.any (fun p => decide (fidx p.2 = i)) | _ => false
set_option maxRecDepth 100000 in
set_option maxHeartbeats 800000 in
theorem led1_any (b n m gi i : Nat) (D : Mp) (w : World) (hown : w.ownsMap Try.prog 9 (plainElem Try.prog 3) b n D) (hM : MOk D m) (hg : gi < w.heap.size) (hc : w.cell? ⟨gi, 0, none⟩ = some (.int .i64 (i : Int))) :
    Calls Try.prog 67 #[.map (some b), .pointer (some ⟨gi, 0, none⟩)] w fun e w' => e = .returned (.bool (valIn D i)) ∧ Up w w' := by
  obtain ⟨es, hes, hpw, hkl⟩ := hown.entries strKey
  have hnm := hM.2
  have hud : valIn D i = es.any (fun p => decide (fidx p.2 = i)) := by rw [hes]; rfl
  have HES := Lib.hid hes
  have HUD := Lib.hid hud
  have HNM := Lib.hid hnm
  clear hes hud hnm
  go_enter Try.func67, Try.ntmps67
  go_wp2_with (at_range; refine wpList_range_own _ rfl _ 62 rfl 9 3 strKey Try.underlying62 (plainElem Try.prog 3) b _ D rfl hown ?_; intro w1 hrg1 hgr1 hsz1)
  go_frame
  have hup1 : Up w w1 := ⟨hgr1.os, hgr1.tape, hgr1.output, hgr1.size, fun k hk => hgr1.block k hk (by simp)⟩
  go_loopw [] (fun wr => ∃ (left : Lit → Bool) (cnt : Nat), wr.ranges Try.prog 9 (plainElem Try.prog 3) b w.heap.size n D left cnt ∧ Up w wr ∧ Hid (∀ kl, left kl = true → Maps.has D kl = true) ∧ Hid (∀ p ∈ es, left p.1 = false → fidx p.2 ≠ i)) (fun wr => wr.rangeLeft b w.heap.size)
  case atStart =>
    refine ⟨Maps.has D, _, hrg1, hup1, fun kl hk => hk, fun p hp hl => ?_⟩
    exfalso
    have h9 : Maps.has D p.1 = true := by
      rw [HES.out, Maps.has_eq, List.any_eq_true]
      exact ⟨p, hp, WideAt.sameKey_self (hkl p hp)⟩
    rw [h9] at hl
    cases hl
  case round =>
    obtain ⟨left, cnt, hrg, hup, hsub, hno⟩ := hrel
    clear hrg1 hgr1 hsz1 hup1
    have hle := hrg.left_eq
    have HLE := Lib.hid hle
    clear hle
    go_wp2_with (first
      | (at_next; refine wpList_next_ranges _ rfl _ rfl 9 strKey (plainElem Try.prog 3) Value.string (Value.int .i64) key_inv val_inv b w.heap.size _ D left cnt rfl hrg ?_ ?_)
      | go_in)
    · intro hc0 hl0
      have hv : valIn D i = false := by
        rw [HUD.out, List.any_eq_false]
        intro p hp
        rw [decide_eq_true_iff]
        exact hno.out p hp (hl0 p.1)
      have HV := Lib.hid hv
      clear hrg hv hc0 hl0
      go_wp2_with fail
      go_ret
      rw [HV.out]
      exact ⟨rfl, hup⟩
    · intro x cc2 kl y1 y2 w2 cnt2 hkx hlk hy hat hrg2 hlt hgr2 hsz2 hen
      obtain ⟨j, hj, hat0⟩ := HNM.out kl (hsub.out kl hlk)
      have hci : cc2 = (j : Int) := by
        obtain ⟨c', e1, e2, _⟩ := plainElem_int_inv Try.underlying3 hy
        injection e1 with _ e1
        subst e1
        injection e2 with e2 _
        have h9 := hat (fiv 0)
        rw [hat0 (fiv 0), e2] at h9
        unfold fiv at h9
        injection h9 with h9
        injection h9 with _ h9
        exact h9.symm
      subst hci
      have hup2 : Up w w2 := ⟨hgr2.os.trans hup.os, hgr2.tape.trans hup.tape, hgr2.output.trans hup.output, Nat.le_trans hup.size hgr2.size, fun k hk => (hgr2.block k (Nat.lt_of_lt_of_le hk hup.size) (by simp; omega)).trans (hup.block k hk)⟩
      have hc2 := (hup2.cell (p := ⟨gi, 0, none⟩) hg).trans hc
      have hes2 := HES.out
      obtain ⟨p, hp, hpk, hpa⟩ := atKey_mem (es := es) hpw (kl := kl) (by rw [← hes2]; exact hsub.out kl hlk)
      have hfp : fidx p.2 = j := by
        have h9 := hpa (fiv 0)
        rw [← hes2, hat0 (fiv 0)] at h9
        rw [← h9]
        rfl
      have HLT := Lib.hid hlt
      have HSUB : Hid (∀ z, (left z && !z.sameKey kl) = true → Maps.has D z = true) := fun z hz => hsub.out z (by
        rw [Bool.and_eq_true] at hz; exact hz.1)
      have HNO : j ≠ i → Hid (∀ q ∈ es, (left q.1 && !q.1.sameKey kl) = false → fidx q.2 ≠ i) := fun hji q hq hl => by
        by_cases hqk : q.1 = kl
        · have hqp : q = p := by
            have h8 := List.pairwise_iff_getElem.1 hpw
            obtain ⟨a, ha, rfl⟩ := List.getElem_of_mem hq
            obtain ⟨a2, ha2, rfl⟩ := List.getElem_of_mem hp
            rcases Nat.lt_trichotomy a a2 with h7 | h7 | h7
            · exact absurd (hqk.trans hpk.symm) (h8 a a2 ha ha2 h7)
            · subst h7; rfl
            · exact absurd (hpk.trans hqk.symm) (h8 a2 a ha2 ha h7)
          rw [hqp, hfp]; exact hji
        · rw [Maps.sameKey_ne hqk] at hl
          exact hno.out q hq (by simpa using hl)
      have HIN : j = i → Hid (valIn D i = true) := fun hji => by
        show _ = _
        rw [HUD.out, List.any_eq_true]
        exact ⟨p, hp, by rw [decide_eq_true_iff, hfp]; exact hji⟩
      clear hlt hfp hp hpk hpa hes2 hat hat0 hy hkx hlk hrg hsz2 hgr2
      by_cases hji : j = i
      · have hb : ((j : Int) == (i : Int)) = true := by rw [beq_iff_eq]; omega
        have HV := HIN hji
        clear HIN HNO hji
        go_wp2_with fail
        go_ret
        rw [HV.out]
        exact ⟨rfl, hup2⟩
      · have hb : ((j : Int) == (i : Int)) = false := by rw [beq_eq_false_iff_ne]; omega
        have HV := HNO hji
        clear HIN HNO hji
        go_wp2_with fail
        go_roundw
        case rel => exact ⟨fun z => left z && !z.sameKey kl, cnt2, hrg2, hup2, HSUB, HV⟩
        case measure =>
          rw [hrg2.left_eq, HLE.out]
          exact HLT.out
end Go.Proofs.Ytebhhfmekmpnkaa

/-
  The walk of the disk's led.
-/
namespace Go.Proofs.Ytebhhfmekmpnkaa
open Go.RowKit Go.Maps
set_option linter.unusedVariables false
set_option linter.unusedSimpArgs false

def nvd (l : List Nat) : List Value := l.map fun (k : Nat) => .int .i64 (k : Int)
theorem nvd_one (l : List Nat) : ∀ u ∈ nvd l, u.oneCell' = true := by
  intro u hu
  obtain ⟨k, _, rfl⟩ := List.mem_map.1 hu
  rfl
theorem nvd_len (l : List Nat) : (nvd l).length = l.length := by simp [nvd]
def ledB (d : Dk) (i : Nat) : Bool := d.turns.any (madeT i) || (valIn d.names i || valIn d.lasted i)
def ledT (d : Dk) (k : Nat) : List Nat := (List.range k).filter (ledB d)
def ledL (d : Dk) : List Nat := ledT d d.files.length
theorem ledT_succ (d : Dk) (k : Nat) : ledT d (k + 1) = if ledB d k = true then ledT d k ++ [k] else ledT d k := by
  unfold ledT
  rw [List.range_succ, List.filter_append]
  split
  · rename_i h; simp [h]
  · rename_i h; simp [h]
theorem ledT_len (d : Dk) (k : Nat) : (ledT d k).length ≤ k := by
  have := List.length_filter_le (ledB d) (List.range k)
  rw [List.length_range] at this
  exact this
theorem intsTd : SlT Try.prog 22 3 1 8 := SlT.mk' Try.underlying22 (z := .int .i64 0) (by kernel_rfl) rfl (by decide)
set_option maxRecDepth 100000 in
set_option maxHeartbeats 1600000 in
theorem led_any {B : Nat} {h : Hp} {d : Dk} {w : World} (H : DiskAt B h d w) (hok : DkOk d) :
    Calls Try.prog 42 #[.pointer (some ⟨h.g, 0, none⟩)] w fun e w' => ∃ R rn rc, e = .returned (.slice R rn rc) ∧ w'.ownsRow w.heap.size 3 1 (.slice R rn rc) rn (nvd (ledL d)) ∧ Up w w' := by
  obtain ⟨n, hn⟩ : ∃ n, n = d.files.length := ⟨_, rfl⟩
  have hn1 : n ≤ 1000000 := by rw [hn]; exact hok.nf
  have hnt : d.turns.length ≤ 1000000 := hok.nt
  have c1 : w.cell? ⟨h.g, 1, none⟩ = some (.slice h.fa n h.fc) := by rw [hn]; exact blk_cell H.hd 1
  have HN := Lib.hid hn
  have HLS := Lib.hid (ledT_succ d)
  have HLN := Lib.hid (ledT_len d)
  clear hn
  go_enter Try.func42, Try.ntmps42
  go_wp2_with fail
  clear c1
  go_loopw [3, 12] (fun ov iv wr => ∃ (k : Nat) (R : Option Addr) (rn rc : Nat), iv = .int .i64 (k : Int) ∧ ov = .slice R rn rc ∧ k ≤ n ∧ rn ≤ k ∧ wr.ownsRow w.heap.size 3 1 (.slice R rn rc) rn (nvd (ledT d k)) ∧ Up w wr) (fun _ iv _ => n - (intOf iv).toNat)
  case atStart => exact ⟨0, none, 0, 0, rfl, rfl, by omega, by omega, World.ownsRow_nil _ _ _ _, Up.refl _⟩
  case round =>
    obtain ⟨k, R, rn, rc, rfl, rfl, hk, hrk, hrow, hup⟩ := hrel
    by_cases hlt : k < n
    · have hlti : (k : Int) < (n : Int) := by omega
      have hua : Up wr (wr.alloc (.cells #[.int .i64 (k : Int)] 3)) := (Up.refl wr).alloc _
      have hca : (wr.alloc (.cells #[.int .i64 (k : Int)] 3)).cell? ⟨wr.heap.size, 0, none⟩ = some (.int .i64 (k : Int)) := blk_cell (heap_alloc_new wr (.cells #[.int .i64 (k : Int)] 3)) 0
      have hga : wr.heap.size < (wr.alloc (.cells #[.int .i64 (k : Int)] 3)).heap.size := by rw [World.size_alloc]; omega
      have hupa := hup.trans hua
      have Ha := H.up hupa
      have hrowa := own_up hrow hua
      have c4 : (wr.alloc (.cells #[.int .i64 (k : Int)] 3)).cell? ⟨h.g, 4, none⟩ = some (.slice h.ta d.turns.length h.tc) := blk_cell Ha.hd 4
      have hconT := conT_any 69 #[.pointer (some ⟨wr.heap.size, 0, none⟩)] (madeT k) h.ta d.turns.length h.tc d.turns (wr.alloc (.cells #[.int .i64 (k : Int)] 3)) (Rd.own Ha.turns) (by omega) (fun _ _ => rfl) (fun W x hW => led2_any wr.heap.size k x W (Nat.lt_of_lt_of_le hga hW.size) ((hW.cell (p := ⟨wr.heap.size, 0, none⟩) hga).trans hca))
      have HCT := Lib.hid hconT
      clear hconT hua hup hrow
      have hlb : ledB d k = (d.turns.any (madeT k) || (valIn d.names k || valIn d.lasted k)) := rfl
      have HLB := Lib.hid hlb
      clear hlb
      go_upto_region 5 with fail
      generalize hgi : wr.heap.size = gi at *
      generalize hwa : wr.alloc (.cells #[.int .i64 (k : Int)] 3) = wa at *
      clear hwa
      go_wp2_with fail
      refine HCT.out.mono ?_
      rintro e wb ⟨rfl, hub⟩
      clear HCT c4
      have Hb := Ha.up hub
      have hupb := hupa.trans hub
      have hrowb := own_up hrowa hub
      have hcb := (hub.cell (p := ⟨gi, 0, none⟩) hga).trans hca
      have hgb : gi < wb.heap.size := Nat.lt_of_lt_of_le hga hub.size
      have c2 : wb.cell? ⟨h.g, 2, none⟩ = some (.map (some h.nb)) := blk_cell Hb.hd 2
      have c3 : wb.cell? ⟨h.g, 3, none⟩ = some (.map (some h.lb)) := blk_cell Hb.hd 3
      have hwb : w.heap.size ≤ wb.heap.size := hupb.size
      clear Ha hrowa hca hga hub hupa
      generalize d.turns.any (madeT k) = m1 at *
      cases m1 with
      | true =>
        have hlt2 : ledB d k = true := by rw [HLB.out]; rfl
        have HL2 := Lib.hid hlt2
        clear hlt2
        have hbx : Rd ((wb).alloc (.cells #[.int .i64 (k : Int)] 3)) ((wb).alloc (.cells #[.int .i64 (k : Int)] 3)).heap.size 1 (some ⟨(wb).heap.size, 0, none⟩) 1 (nvd [k]) := Rd.box (wb) (.int .i64 (k : Int)) 3
        have hrx := own_up hrowb ((Up.refl wb).alloc (.cells #[.int .i64 (k : Int)] 3))
        have hux := (hupb).trans ((Up.refl wb).alloc (.cells #[.int .i64 (k : Int)] 3))
        have hszx : w.heap.size ≤ ((wb).alloc (.cells #[.int .i64 (k : Int)] 3)).heap.size := hux.size
        go_wp2_with (at_builtin; refine wpList_append_rd _ intsTd (news := nvd [k]) hrx hbx (nvd_one _) (by omega) (by omega) hszx rfl rfl rfl rfl ?_; intro v3 w6 ho6 hg6 hat6; obtain ⟨F2, fc2, rfl⟩ := own_form ho6)
        go_roundw
        case rel =>
          refine ⟨k + 1, F2, rn + 1, fc2, by go_num, rfl, by omega, by omega, ?_, hux.grown hg6 (fun g hg => (hrx.lt g hg).1)⟩
          rw [HLS.out, if_pos HL2.out]
          unfold nvd at ho6 ⊢
          rw [List.map_append]
          exact ho6
        case measure => simp [intOf]; omega
      | false =>
        have hc1 := led1_any h.nb _ d.files.length gi k d.names wb Hb.names hok.nm hgb hcb
        have HC1 := Lib.hid hc1
        clear hc1
        go_wp2_with fail
        refine HC1.out.mono ?_
        rintro e wc ⟨rfl, huc⟩
        clear HC1 c2 c3
        have Hc := Hb.up huc
        have hupc := hupb.trans huc
        have hrowc := own_up hrowb huc
        have hcc := (huc.cell (p := ⟨gi, 0, none⟩) hgb).trans hcb
        have hgc : gi < wc.heap.size := Nat.lt_of_lt_of_le hgb huc.size
        have c3 : wc.cell? ⟨h.g, 3, none⟩ = some (.map (some h.lb)) := blk_cell Hc.hd 3
        have hwc : w.heap.size ≤ wc.heap.size := hupc.size
        clear Hb hrowb hcb hgb huc hupb hwb
        generalize valIn d.names k = m2 at *
        cases m2 with
        | true =>
          have hlt2 : ledB d k = true := by rw [HLB.out]; rfl
          have HL2 := Lib.hid hlt2
          clear hlt2
          have hbx : Rd ((wc).alloc (.cells #[.int .i64 (k : Int)] 3)) ((wc).alloc (.cells #[.int .i64 (k : Int)] 3)).heap.size 1 (some ⟨(wc).heap.size, 0, none⟩) 1 (nvd [k]) := Rd.box (wc) (.int .i64 (k : Int)) 3
          have hrx := own_up hrowc ((Up.refl wc).alloc (.cells #[.int .i64 (k : Int)] 3))
          have hux := (hupc).trans ((Up.refl wc).alloc (.cells #[.int .i64 (k : Int)] 3))
          have hszx : w.heap.size ≤ ((wc).alloc (.cells #[.int .i64 (k : Int)] 3)).heap.size := hux.size
          go_wp2_with (at_builtin; refine wpList_append_rd _ intsTd (news := nvd [k]) hrx hbx (nvd_one _) (by omega) (by omega) hszx rfl rfl rfl rfl ?_; intro v3 w6 ho6 hg6 hat6; obtain ⟨F2, fc2, rfl⟩ := own_form ho6)
          go_roundw
          case rel =>
            refine ⟨k + 1, F2, rn + 1, fc2, by go_num, rfl, by omega, by omega, ?_, hux.grown hg6 (fun g hg => (hrx.lt g hg).1)⟩
            rw [HLS.out, if_pos HL2.out]
            unfold nvd at ho6 ⊢
            rw [List.map_append]
            exact ho6
          case measure => simp [intOf]; omega
        | false =>
          have hc1 := led1_any h.lb _ d.files.length gi k d.lasted wc Hc.lasted hok.la hgc hcc
          have HC1 := Lib.hid hc1
          clear hc1
          go_wp2_with fail
          refine HC1.out.mono ?_
          rintro e we ⟨rfl, hue⟩
          clear HC1 c3
          have hupe := hupc.trans hue
          have hrowe := own_up hrowc hue
          have hce := (hue.cell (p := ⟨gi, 0, none⟩) hgc).trans hcc
          have hwe : w.heap.size ≤ we.heap.size := hupe.size
          clear Hc hrowc hcc hgc hue hupc hwc
          generalize valIn d.lasted k = m3 at *
          cases m3 with
          | true =>
            have hlt2 : ledB d k = true := by rw [HLB.out]; rfl
            have HL2 := Lib.hid hlt2
            clear hlt2
            have hbx : Rd ((we).alloc (.cells #[.int .i64 (k : Int)] 3)) ((we).alloc (.cells #[.int .i64 (k : Int)] 3)).heap.size 1 (some ⟨(we).heap.size, 0, none⟩) 1 (nvd [k]) := Rd.box (we) (.int .i64 (k : Int)) 3
            have hrx := own_up hrowe ((Up.refl we).alloc (.cells #[.int .i64 (k : Int)] 3))
            have hux := (hupe).trans ((Up.refl we).alloc (.cells #[.int .i64 (k : Int)] 3))
            have hszx : w.heap.size ≤ ((we).alloc (.cells #[.int .i64 (k : Int)] 3)).heap.size := hux.size
            go_wp2_with (at_builtin; refine wpList_append_rd _ intsTd (news := nvd [k]) hrx hbx (nvd_one _) (by omega) (by omega) hszx rfl rfl rfl rfl ?_; intro v3 w6 ho6 hg6 hat6; obtain ⟨F2, fc2, rfl⟩ := own_form ho6)
            go_roundw
            case rel =>
              refine ⟨k + 1, F2, rn + 1, fc2, by go_num, rfl, by omega, by omega, ?_, hux.grown hg6 (fun g hg => (hrx.lt g hg).1)⟩
              rw [HLS.out, if_pos HL2.out]
              unfold nvd at ho6 ⊢
              rw [List.map_append]
              exact ho6
            case measure => simp [intOf]; omega
          | false =>
            have hlt2 : ¬ ledB d k = true := by rw [HLB.out]; decide
            have HL2 := Lib.hid hlt2
            clear hlt2
            go_wp2_with fail
            go_roundw
            case rel =>
              refine ⟨k + 1, R, rn, rc, by go_num, rfl, by omega, by omega, ?_, hupe⟩
              rw [HLS.out, if_neg HL2.out]
              exact hrowe
            case measure => simp [intOf]; omega
    · have hlti : ¬ (k : Int) < (n : Int) := by omega
      have hkn : k = n := by omega
      have HK := Lib.hid hkn
      clear hkn
      go_wp2_with fail
      go_ret
      refine ⟨R, rn, rc, rfl, ?_, hup⟩
      unfold ledL
      rw [← HN.out, ← HK.out]
      exact hrow
end Go.Proofs.Ytebhhfmekmpnkaa

/-
  Crash: the plain state, what is kept, and the closure that takes it.
-/
namespace Go.Proofs.Ytebhhfmekmpnkaa
open Go.RowKit Go.Maps
set_option linter.unusedVariables false
set_option linter.unusedSimpArgs false

def izs (l : List Int) : List Value := l.map fun x => .int .i64 x
def keepRest (x : Fi) : Nat := x.b.length - x.last
def crash1 (x : Fi) (v : Int) : Fi := ⟨x.b.take (x.last + (v % ((keepRest x : Int) + 1)).toNat), x.last + (v % ((keepRest x : Int) + 1)).toNat⟩
def crashF : List Nat → List Fi → List Int → List Fi × List Int
  | [], fs, keep => (fs, keep)
  | i :: r, fs, keep => if keepRest (fs.getD i ⟨[], 0⟩) = 0 then crashF r fs keep else crashF r (fs.set i (crash1 (fs.getD i ⟨[], 0⟩) (keep.headD (keepRest (fs.getD i ⟨[], 0⟩) : Int)))) keep.tail
def evI (v : Int) : Bool := bits .and .i64 v 1 == 0
def crashT : List Tn → Mp → List Int → Mp × List Int
  | [], D, keep => (D, keep)
  | t :: r, D, keep => crashT r (if evI (keep.headD 0) = true then doM t D else D) keep.tail
def crashD (d : Dk) (keep : List Int) : Dk :=
  { d with
    files := (crashF (ledL d) d.files keep).1
    names := (crashT d.turns d.lasted (crashF (ledL d) d.files keep).2).1
    lasted := (crashT d.turns d.lasted (crashF (ledL d) d.files keep).2).1
    turns := []
    dead := false
    stop := 0
    fail := 0 }
theorem crash1_ok {x : Fi} (v : Int) (h : x.b.length ≤ 250000 ∧ x.last ≤ x.b.length) : (crash1 x v).b.length ≤ 250000 ∧ (crash1 x v).last = (crash1 x v).b.length ∧ x.last + (v % ((keepRest x : Int) + 1)).toNat ≤ x.b.length := by
  have h1 : 0 ≤ v % ((keepRest x : Int) + 1) := Int.emod_nonneg _ (by omega)
  have h2 : v % ((keepRest x : Int) + 1) < (keepRest x : Int) + 1 := Int.emod_lt_of_pos _ (by omega)
  unfold keepRest at *
  unfold crash1 keepRest
  simp only [List.length_take]
  omega
theorem izs_one (l : List Int) : ∀ u ∈ izs l, u.oneCell' = true := by
  intro u hu
  obtain ⟨k, _, rfl⟩ := List.mem_map.1 hu
  rfl
theorem Rd.ilenZ {w : World} {B n : Nat} {A : Option Addr} {l : List Int} (h : Rd w B 1 A n (izs l)) : n = l.length := by have := h.1; simp [izs] at this; omega
theorem elem_z : Try.prog.elem 22 = 3 := by kernel_rfl
theorem cut_from_z (W : World) (A : Option Addr) (n c : Nat) (h1 : 1 ≤ n) :
    (Instr.slice 22 (.slice A n c) (some (.int .i64 1)) none none).run Try.prog W = .ok (.slice (cutA A c 1 1) (n - 1) (c - 1)) W := by
  rw [run_slice_l W 22 A n c (by rw [elem_z]; exact Try.underlying22) .i64 1 (by omega) (by omega), elem_z]
  have hs : ∀ w : World, (sizeOf 3).run Try.prog w = .ok 1 w := fun w => by
    obtain ⟨_, ⟨i, z, hi, _, hs, _⟩, _⟩ := intsTd
    simp [sizeOf, typeInfo, hi, hs]
  rw [hs]
  simp [sliced, cutA]
/-- what is kept, in the captured variable -/
structure KeepAt (gk : Nat) (l : List Int) (A : Option Addr) (n c : Nat) (w : World) : Prop where
  blk : w.heap[gk]? = some (.cells #[.slice A n c] 22 (0, 0))
  rd : Rd w w.heap.size 1 A n (izs l)
  nc : n ≤ c
  ne : 0 < n → ∀ a, A = some a → a.block ≠ gk
theorem KeepAt.keepsX {gk : Nat} {l : List Int} {A : Option Addr} {n c : Nat} {w w' : World} {X : Nat → Prop} (h : KeepAt gk l A n c w) (hK : Rg.Keeps X w w') (h1 : ¬ X gk) (h2 : 0 < n → ∀ a, A = some a → ¬ X a.block) : KeepAt gk l A n c w' :=
  ⟨(hK.block _ (Array.getElem?_eq_some_iff.1 h.blk).1 h1).trans h.blk, h.rd.keepsX0 (Nat.le_refl _) h2 hK, h.nc, h.ne⟩
theorem KeepAt.up {gk : Nat} {l : List Int} {A : Option Addr} {n c : Nat} {w w' : World} (h : KeepAt gk l A n c w) (hu : Up w w') : KeepAt gk l A n c w' :=
  ⟨(hu.block _ (Array.getElem?_eq_some_iff.1 h.blk).1).trans h.blk, h.rd.up hu, h.nc, h.ne⟩
set_option maxRecDepth 100000 in
theorem next_any {gk : Nat} {l : List Int} {A : Option Addr} {n c : Nat} {w : World} (H : KeepAt gk l A n c w) (hn : n ≤ 9223372036854775807) (dv : Int) :
    Calls Try.prog 41 #[.int .i64 dv, .pointer (some ⟨gk, 0, none⟩)] w fun e w' => ∃ A' n' c', e = .returned (.int .i64 (l.headD dv)) ∧ KeepAt gk l.tail A' n' c' w' ∧ n' ≤ n ∧ (∀ a', A' = some a' → ∃ a, A = some a ∧ a.block = a'.block) ∧ Rg.Keeps (fun k => k = gk) w w' := by
  have hc := blk_cell H.blk 0
  replace hc : w.cell? ⟨gk, 0, none⟩ = some (.slice A n c) := hc
  have hz := blk_free H.blk 0
  have hl := H.rd.ilenZ
  cases l with
  | nil =>
    have hn0 : n = 0 := by simpa using hl
    subst hn0
    clear hl
    go_enter Try.func41, Try.ntmps41
    go_wp2_with fail
    go_ret
    exact ⟨A, 0, c, rfl, H, Nat.le_refl _, fun a' ha' => ⟨a', ha', rfl⟩, Rg.Keeps.refl _ _⟩
  | cons x r =>
    have hn1 : 1 ≤ n := by rw [hl]; simp
    obtain ⟨b, o, rfl, hb, hcell⟩ := H.rd.2 (by omega)
    have hc0 := hcell 0 (.int .i64 x) rfl
    rw [Nat.add_zero] at hc0
    clear hcell
    have i1 : (0 : Int) < (n : Int) := by omega
    have hne0 : ((n : Int) == 0) = false := by rw [beq_eq_false_iff_ne]; omega
    have CUT := fun W => cut_from_z W (some ⟨b, o, none⟩) n c hn1
    have hgk : b ≠ gk := H.ne (by omega) _ rfl
    have hfr := H.rd.from_ (k := 1) (cap := c) hn1 H.nc
    have hset := setc_heap w gk 0 (.slice (cutA (some ⟨b, o, none⟩) c 1 1) (n - 1) (c - 1)) _ _ H.blk
    have hK : Rg.Keeps (fun k => k = gk) w (w.setCell ⟨gk, 0, none⟩ (.slice (cutA (some ⟨b, o, none⟩) c 1 1) (n - 1) (c - 1))) := setc_keeps _ _ _ _ _ (Rg.Keeps.refl _ _)
    have hblkA : ∀ a', cutA (some ⟨b, o, none⟩) c 1 1 = some a' → a'.block = b := fun a' ha' => by
      unfold cutA at ha'
      split at ha'
      · injection ha' with ha'; subst ha'; rfl
      · simp only [Option.map_some, Option.some.injEq] at ha'
        subst ha'
        unfold Addr.add
        split <;> rfl
    have core : KeepAt gk r (cutA (some ⟨b, o, none⟩) c 1 1) (n - 1) (c - 1) (w.setCell ⟨gk, 0, none⟩ (.slice (cutA (some ⟨b, o, none⟩) c 1 1) (n - 1) (c - 1))) := by
      refine ⟨hset, ?_, by have := H.nc; omega, fun _ a' ha' => by rw [hblkA a' ha']; exact hgk⟩
      refine Rd.keepsX (w := w) ?_ (Nat.le_refl _) (fun a' ha' e => hgk (by rw [← hblkA a' ha']; exact e)) hK
      have h9 := hfr
      rw [Nat.mul_one] at h9
      exact h9
    have HC := Lib.hid core
    have HK := Lib.hid hK
    have HA := Lib.hid hblkA
    clear hset hfr core hK hl hblkA
    go_enter Try.func41, Try.ntmps41
    go_wp2_with fail
    go_ret
    exact ⟨_, _, _, rfl, HC.out, Nat.sub_le _ _, fun a' ha' => ⟨⟨b, o, none⟩, rfl, (HA.out a' ha').symm⟩, HK.out⟩
end Go.Proofs.Ytebhhfmekmpnkaa

/-
  The walk of the disk's Crash: the files.
-/
namespace Go.Proofs.Ytebhhfmekmpnkaa
open Go.RowKit Go.Maps
set_option linter.unusedVariables false
set_option linter.unusedSimpArgs false

theorem own_take {w : World} {base n c m : Nat} {e : TypeId} {A : Option Addr} {l : List UInt8} (h : w.ownsRow base e 1 (.slice A n c) n (bvs l)) (hm : m ≤ n) : w.ownsRow base e 1 (.slice A m c) m (bvs (l.take m)) := by
  have hl : l.length = n := by have := h.1; simp [bvs] at this; omega
  rcases h.2 with ⟨hv, hn⟩ | ⟨g, cap, cur, hv, hb, hh, hnc, hcm, hcs, htake⟩
  · subst hn
    have hm0 : m = 0 := by omega
    subst hm0
    refine ⟨by simp [bvs], .inl ⟨hv, rfl⟩⟩
  · injection hv with e1 e2 e3
    subst e3
    refine ⟨by simp [bvs, hl]; omega, .inr ⟨g, c, cur, by rw [e1], hb, hh, by omega, hcm, hcs, ?_⟩⟩
    have h9 : bvs (l.take m) = (bvs l).take m := by simp [bvs, List.map_take]
    rw [h9, ← htake, List.take_take]
    congr 1
    omega
theorem cut_to_u (W : World) (A : Option Addr) (n c m : Nat) (h1 : m ≤ c) :
    (Instr.slice 31 (.slice A n c) none (some (.int .i64 (m : Int))) none).run Try.prog W = .ok (.slice A m c) W := by
  rw [run_slice_h W 31 A n c (by rw [elem_b]; exact Try.underlying31) .i64 (m : Int) (by omega) (by omega), elem_b, sizeOf_b]
  have e4 : ∀ a : Addr, a.add 0 = a := fun a => by unfold Addr.add; simp
  cases A <;> simp [sliced, e4]
/-- what stands of the disk, of what is kept and of memory, in the first loop -/
structure CrI (B : Nat) (h : Hp) (d : Dk) (w : World) (gk : Nat) (P : Prop) (A0 : Option Addr) (R : Option Addr) (rn rc : Nat) (fs : List Fi) (keep : List Int) (A : Option Addr) (n c : Nat) (W : World) : Prop where
  H : DiskAt B h { d with files := fs } W
  ok : DkOk { d with files := fs }
  len : fs.length = d.files.length
  K : KeepAt gk keep A n c W
  n1 : n ≤ 9223372036854775807
  rg : ∀ x ∈ keep, -9223372036854775808 ≤ x ∧ x ≤ 9223372036854775807
  pn : 0 < n → P
  sub : ∀ a', A = some a' → ∃ a, A0 = some a ∧ a.block = a'.block
  row : W.ownsRow (w.heap.size + 1) 3 1 (.slice R rn rc) rn (nvd (ledL d))
  kp : Rg.Keeps (foot h) w W
section
variable {P : Prop} {B : Nat} {h : Hp} {d : Dk} {w : World} {gk : Nat} {A0 R A : Option Addr} {rn rc n c : Nat} {fs : List Fi} {keep : List Int} {W W' : World}
theorem CrI.up (I : CrI B h d w gk P A0 R rn rc fs keep A n c W) (hu : Up W W') : CrI B h d w gk P A0 R rn rc fs keep A n c W' :=
  ⟨I.H.up hu, I.ok, I.len, I.K.up hu, I.n1, I.rg, I.pn, I.sub, own_up I.row hu, Keeps.trans2 I.kp (Rg.Keeps.of_up hu)⟩
/-- the closure has taken a number -/
theorem CrI.next (I : CrI B h d w gk P A0 R rn rc fs keep A n c W) {A' : Option Addr} {n' c' : Nat} (hgk : gk = w.heap.size) (hfl : ∀ k, foot h k → k < w.heap.size) (K' : KeepAt gk keep.tail A' n' c' W') (hn : n' ≤ n) (hs : ∀ a', A' = some a' → ∃ a, A = some a ∧ a.block = a'.block) (hK : Rg.Keeps (fun k => k = gk) W W') :
    CrI B h d w gk P A0 R rn rc fs keep.tail A' n' c' W' :=
  ⟨I.H.keepsX hK (fun k hk e => by have := hfl k hk; omega), I.ok, I.len, K', Nat.le_trans hn I.n1, fun x hx => I.rg x (List.mem_of_mem_tail hx), fun h0 => I.pn (by omega), fun a' ha' => by
    obtain ⟨a, ha, e⟩ := hs a' ha'
    obtain ⟨a2, ha2, e2⟩ := I.sub a ha
    exact ⟨a2, ha2, e2.trans e⟩, own_keepsX I.row hK (fun k hk e => by have := (inA_own I.row hk).1; omega), ⟨hK.os.trans I.kp.os, hK.tape.trans I.kp.tape, hK.output.trans I.kp.output, Nat.le_trans I.kp.size hK.size, fun k hk hx => (hK.block k (Nat.lt_of_lt_of_le hk I.kp.size) (by omega)).trans (I.kp.block k hk hx)⟩⟩
/-- one file has turned -/
theorem CrI.file (I : CrI B h d w gk P A0 R rn rc fs keep A n c W) (hgk : gk = w.heap.size) (hfl : ∀ k, foot h k → k < w.heap.size) (hA0 : P → ∀ a, A0 = some a → ¬ foot h a.block) {i : Nat} {f : Fl} {x : Fi} {v : Int} (hf : h.fl[i]? = some f) (hx : fs[i]? = some x) (hb : W'.heap[f.g]? = some (.cells #[.slice f.A (crash1 x v).b.length f.c, .int .i64 ((crash1 x v).last : Int)] 78 (0, 0))) (hK : Rg.Keeps (fun k => k = f.g) W W') :
    CrI B h d w gk P A0 R rn rc (fs.set i (crash1 x v)) keep A n c W' := by
  have hF := I.H.each i f x hf hx
  have hxok := I.ok.fb x (List.mem_of_getElem? hx)
  obtain ⟨q1, q2, q3⟩ := crash1_ok v hxok
  have hfg : foot h f.g := .inr (.inr (.inr (.inr (.inr ⟨f, List.mem_of_getElem? hf, .inl rfl⟩))))
  have hgkf : gk ≠ f.g := by have := hfl _ hfg; omega
  have hown : OwnB W' B f.A (crash1 x v).b.length f.c (crash1 x v).b := by
    refine own_keepsX ?_ hK (fun k hk e => ?_)
    · have h9 := own_take (m := (crash1 x v).b.length) hF.own (by unfold crash1; simp only [List.length_take]; omega)
      have h8 : x.b.take (crash1 x v).b.length = (crash1 x v).b := by
        unfold crash1
        simp only [List.length_take]
        rw [Nat.min_eq_left q3]
      rw [h8] at h9
      exact h9
    · have h1 := kd_row hF.own hk
      rw [e, kd_cells hF.blk] at h1
      exact absurd h1 (by decide)
  obtain ⟨H3, D3⟩ := I.H.setFile (x' := crash1 x v) (A' := f.A) (c' := f.c) hf hx hb hown (Keeps.weak hK (fun k hk => .inl hk)) (fun k hk => .inl hk)
  have hset : h.fl.set i ⟨f.g, f.A, f.c⟩ = h.fl := by
    obtain ⟨hi, e⟩ := List.getElem?_eq_some_iff.1 hf
    have : (⟨f.g, f.A, f.c⟩ : Fl) = h.fl[i] := by rw [e]
    rw [this]
    exact List.set_getElem_self _
  rw [hset] at H3
  refine ⟨H3, setFile_ok I.ok i _ ⟨q1, Nat.le_of_eq q2⟩, by rw [List.length_set]; exact I.len, I.K.keepsX hK hgkf (fun h0 a ha e => ?_), I.n1, I.rg, I.pn, I.sub, own_keepsX I.row hK (fun k hk e => by have := (inA_own I.row hk).1; have := hfl _ hfg; omega), Keeps.trans2 I.kp (Keeps.weak hK (fun k hk => by subst hk; exact hfg))⟩
  obtain ⟨a2, ha2, e2⟩ := I.sub a ha
  exact hA0 (I.pn h0) a2 ha2 (by rw [e2, e]; exact hfg)
end
/-- what stands in the second loop -/
structure CrT (B : Nat) (h : Hp) (d : Dk) (w : World) (gk : Nat) (P : Prop) (A0 : Option Addr) (fs : List Fi) (j : Nat) (D : Mp) (keep : List Int) (A : Option Addr) (n c : Nat) (W : World) : Prop where
  H : DiskAt B h { d with files := fs, lasted := D } W
  M : MOk D d.files.length
  sz : Maps.size D ≤ Maps.size d.lasted + j
  K : KeepAt gk keep A n c W
  n1 : n ≤ 9223372036854775807
  pn : 0 < n → P
  sub : ∀ a', A = some a' → ∃ a, A0 = some a ∧ a.block = a'.block
  kp : Rg.Keeps (foot h) w W
section
variable {P : Prop} {B : Nat} {h : Hp} {d : Dk} {w : World} {gk j : Nat} {D : Mp} {A0 A : Option Addr} {n c : Nat} {fs : List Fi} {keep : List Int} {W W' : World}
theorem CrT.up (I : CrT B h d w gk P A0 fs j D keep A n c W) (hu : Up W W') : CrT B h d w gk P A0 fs j D keep A n c W' :=
  ⟨I.H.up hu, I.M, I.sz, I.K.up hu, I.n1, I.pn, I.sub, Keeps.trans2 I.kp (Rg.Keeps.of_up hu)⟩
theorem CrT.more (I : CrT B h d w gk P A0 fs j D keep A n c W) : CrT B h d w gk P A0 fs (j + 1) D keep A n c W := ⟨I.H, I.M, by have := I.sz; omega, I.K, I.n1, I.pn, I.sub, I.kp⟩
theorem CrT.next (I : CrT B h d w gk P A0 fs j D keep A n c W) {A' : Option Addr} {n' c' : Nat} (hgk : gk = w.heap.size) (hfl : ∀ k, foot h k → k < w.heap.size) (K' : KeepAt gk keep.tail A' n' c' W') (hn : n' ≤ n) (hs : ∀ a', A' = some a' → ∃ a, A = some a ∧ a.block = a'.block) (hK : Rg.Keeps (fun k => k = gk) W W') :
    CrT B h d w gk P A0 fs j D keep.tail A' n' c' W' :=
  ⟨I.H.keepsX hK (fun k hk e => by have := hfl k hk; omega), I.M, I.sz, K', Nat.le_trans hn I.n1, fun h0 => I.pn (by omega), fun a' ha' => by
    obtain ⟨a, ha, e⟩ := hs a' ha'
    obtain ⟨a2, ha2, e2⟩ := I.sub a ha
    exact ⟨a2, ha2, e2.trans e⟩, ⟨hK.os.trans I.kp.os, hK.tape.trans I.kp.tape, hK.output.trans I.kp.output, Nat.le_trans I.kp.size hK.size, fun k hk hx => (hK.block k (Nat.lt_of_lt_of_le hk I.kp.size) (by omega)).trans (I.kp.block k hk hx)⟩⟩
/-- the names that last have turned -/
theorem CrT.las (I : CrT B h d w gk P A0 fs j D keep A n c W) (hgk : gk = w.heap.size) (hfl : ∀ k, foot h k → k < w.heap.size) (hA0 : P → ∀ a, A0 = some a → ¬ foot h a.block) (t : Tn) (ht : t.kind = 1 → t.file < d.files.length) {n' : Nat} (hm : W'.ownsMap Try.prog 9 (plainElem Try.prog 3) h.lb n' (doM t D)) (hK : Rg.Keeps (fun k => k = h.lb) W W') :
    CrT B h d w gk P A0 fs (j + 1) (doM t D) keep A n c W' := by
  have hlb : foot h h.lb := .inr (.inr (.inl rfl))
  have hgl : gk ≠ h.lb := by have := hfl _ hlb; omega
  obtain ⟨H2, -⟩ := I.H.setLasted (D' := doM t D) hK hm
  refine ⟨H2, doM_ok I.M t ht, by have := doM_size I.M t; have := I.sz; omega, I.K.keepsX hK hgl (fun h0 a ha e => ?_), I.n1, I.pn, I.sub, Keeps.trans2 I.kp (Keeps.weak hK (fun k hk => by subst hk; exact hlb))⟩
  obtain ⟨a2, ha2, e2⟩ := I.sub a ha
  exact hA0 (I.pn h0) a2 ha2 (by rw [e2, e]; exact hlb)
/-- the end of a Crash -/
theorem DiskAt.crashEnd (H : DiskAt B h d W) {lb' n2 : Nat} {D2 : Mp} (d' : Dk) (hd : W'.heap[h.g]? = some (.cells (dcs d' { h with nb := h.lb, lb := lb', ta := none, tc := 0 }) 71 (0, 0))) (hK : Rg.Keeps (fun k => k = h.g) W W')
    (e1 : d'.files = d.files) (e2 : d'.names = d.lasted) (e3 : d'.lasted = D2) (e4 : d'.turns = []) (m2 : W'.ownsMap Try.prog 9 (plainElem Try.prog 3) lb' n2 D2) (hl : W.heap.size ≤ lb') :
    DiskAt B { h with nb := h.lb, lb := lb', ta := none, tc := 0 } d' W' ∧ DkTo h W { h with nb := h.lb, lb := lb', ta := none, tc := 0 } W' := by
  have hx : ∀ k, k = h.g → kd W k = some (some 71) := fun k hk => by subst hk; exact kd_cells H.hd
  have hf := H.fkeep hK (fun k hk => by rw [hx k hk]; exact ⟨by decide, by decide, by decide⟩)
  have hm := H.mkeep hK (fun k hk => by rw [hx k hk]; simp)
  have hlb := H.lt (k := h.lb) (.inr (.inr (.inl rfl)))
  have hgb := H.lt (k := h.g) (.inl rfl)
  refine ⟨⟨hd, H.base, by rw [e1]; exact hf.1, by rw [e1]; exact H.flen, by rw [e1]; exact hf.2, H.apart, by rw [e2]; exact hm.2, by rw [e3]; exact map_tight m2, ?_, ⟨H.nbase.2, ?_⟩, by rw [e4]; exact World.ownsRow_nil _ _ _ _⟩, rfl, Keeps.weak hK (fun k hk => .inl hk), fun k hk => ?_⟩
  · show h.lb ≠ lb'
    omega
  · show B ≤ lb'
    omega
  · rcases hk with hk | hk | hk | hk | ⟨a, ha, _⟩ | hk
    · exact .inl (.inl hk)
    · exact .inl (.inr (.inr (.inl hk)))
    · have hk' : k = lb' := hk
      subst hk'
      exact .inr hl
    · exact .inl (.inr (.inr (.inr (.inl hk))))
    · cases ha
    · exact .inl (.inr (.inr (.inr (.inr (.inr hk)))))
end
end Go.Proofs.Ytebhhfmekmpnkaa

/-
  The walk of the disk's Crash.
-/
namespace Go.Proofs.Ytebhhfmekmpnkaa
open Go.RowKit Go.Maps
set_option linter.unusedVariables false
set_option linter.unusedSimpArgs false

theorem ledT_lt {d : Dk} {i k : Nat} (h : i ∈ ledT d k) : i < k := by
  unfold ledT at h
  have := (List.mem_filter.1 h).1
  rwa [List.mem_range] at this
/-- Go's remainder, made not less than nought -/
theorem tmod_fix (v m : Int) (hm : 0 < m) : (0 ≤ v.tmod m → v.tmod m = v % m) ∧ (v.tmod m < 0 → v.tmod m + m = v % m) ∧ -m < v.tmod m ∧ v.tmod m < m := by
  have h1 := Int.emod_nonneg v (show m ≠ 0 by omega)
  have h2 := Int.emod_lt_of_pos v hm
  have h3 := Int.emod_add_mul_ediv v m
  have h4 := Int.tmod_add_mul_tdiv v m
  have h5 : v.tmod m < m := Int.tmod_lt_of_pos v hm
  have h6 : -m < v.tmod m := by
    have := Int.tmod_lt_of_pos (-v) hm
    rw [Int.neg_tmod] at this
    omega
  have h7 : v.tmod m - v % m = m * (v / m - v.tdiv m) := by rw [Int.mul_sub]; omega
  have h8 : v.tmod m - v % m < m := by omega
  have h9 : -(2 * m) < v.tmod m - v % m := by omega
  generalize v / m - v.tdiv m = q at h7
  have hq1 : q < 1 := by
    by_cases hq : q < 1
    · exact hq
    · have : m * 1 ≤ m * q := Int.mul_le_mul_of_nonneg_left (by omega) (by omega)
      omega
  have hq2 : -2 < q := by
    by_cases hq : -2 < q
    · exact hq
    · have : m * q ≤ m * (-2) := Int.mul_le_mul_of_nonneg_left (by omega) (by omega)
      omega
  have hq : q = 0 ∨ q = -1 := by omega
  refine ⟨fun h => ?_, fun h => ?_, h6, h5⟩
  · rcases hq with rfl | rfl <;> omega
  · rcases hq with rfl | rfl <;> omega
set_option maxRecDepth 100000 in
set_option maxHeartbeats 4000000 in
theorem crash_any {B : Nat} {h : Hp} {d : Dk} {w : World} (H : DiskAt B h d w) (hok : DkOk d) (A0 : Option Addr) (n0 c0 : Nat) (keep : List Int) (hr : Rd w w.heap.size 1 A0 n0 (izs keep)) (hnc : n0 ≤ c0) (hn0 : n0 ≤ 9223372036854775807) (hrg : ∀ x ∈ keep, -9223372036854775808 ≤ x ∧ x ≤ 9223372036854775807) (hA0 : 0 < n0 → ∀ a, A0 = some a → ¬ foot h a.block) (hA1 : 0 < n0 → ∀ a, A0 = some a → a.block < w.heap.size)
    (hta : ∀ t ∈ d.turns, t.a.length ≤ 9223372036854775807 ∧ t.b.length ≤ 9223372036854775807) :
    Calls Try.prog 21 #[.pointer (some ⟨h.g, 0, none⟩), .slice A0 n0 c0] w fun e w' => ∃ h', e = .returned (.tuple #[]) ∧ DiskAt B h' (crashD d keep) w' ∧ DkTo h w h' w' := by
  have hu0 : Up w (w.alloc (.cells #[.slice A0 n0 c0] 22)) := (Up.refl w).alloc _
  have H0 := H.up hu0
  have K0 : KeepAt w.heap.size keep A0 n0 c0 (w.alloc (.cells #[.slice A0 n0 c0] 22)) := ⟨heap_alloc_new w _, hr.up hu0, hnc, fun h0 a ha => by have := hA1 h0 a ha; omega⟩
  have hsz0 : (w.alloc (.cells #[.slice A0 n0 c0] 22)).heap.size = w.heap.size + 1 := World.size_alloc _ _
  have hfl : ∀ k, foot h k → k < w.heap.size := fun k hk => (H.lt hk).2
  have HFL := Lib.hid hfl
  have HRG := Lib.hid hrg
  have HA0 := Lib.hid hA0
  have HTA := Lib.hid hta
  have HSZ := Lib.hid hsz0
  clear hfl hrg hA0 hA1 hta hr hnc hsz0
  go_enter Try.func21, Try.ntmps21
  go_wp2_with fail
  refine (led_any H0 hok).mono ?_
  rintro e w1 ⟨R, rn, rc, rfl, hrow, hu1⟩
  rw [HSZ.out] at hrow
  have I1 : CrI B h d w w.heap.size (0 < n0) A0 R rn rc d.files keep A0 n0 c0 w1 := ⟨H0.up hu1, hok, rfl, K0.up hu1, hn0, HRG.out, fun h0 => h0, fun a' ha' => ⟨a', ha', rfl⟩, hrow, Rg.Keeps.of_up (hu0.trans hu1)⟩
  have hrl : rn = (ledL d).length := by have := hrow.1; rw [nvd_len] at this; omega
  have hrn : rn ≤ 1000000 := by
    have h1 := ledT_len d d.files.length
    have h2 := hok.nf
    have h3 : (ledL d).length ≤ d.files.length := h1
    omega
  have HRL := Lib.hid hrl
  clear hrl hrow hu1 hu0 H0 K0
  generalize hgkE : w.heap.size = gk at I1 ⊢
  have HGK := Lib.hid hgkE
  clear hgkE
  go_wp2_with fail
  go_loopw [16] (fun iv wr => ∃ (j : Nat) (fs : List Fi) (kp : List Int) (A : Option Addr) (n c : Nat), iv = .int .i64 (j : Int) ∧ j ≤ rn ∧ CrI B h d w gk (0 < n0) A0 R rn rc fs kp A n c wr ∧ Hid (crashF ((ledL d).drop j) fs kp = crashF (ledL d) d.files keep)) (fun iv _ => rn - (intOf iv).toNat)
  case atStart => exact ⟨0, d.files, keep, A0, n0, c0, rfl, Nat.zero_le _, I1, rfl⟩
  case round =>
    obtain ⟨j, fs, kp, A, n, c, rfl, hj, I, hcf⟩ := hrel
    clear I1
    by_cases hlt : j < rn
    · have hlti : (j : Int) < (rn : Int) := by omega
      have hjl : j < (ledL d).length := by have := HRL.out; omega
      obtain ⟨i, hi⟩ : ∃ i, (ledL d)[j]? = some i := ⟨_, List.getElem?_eq_getElem hjl⟩
      have hil : i < fs.length := by
        have h1 := ledT_lt (List.mem_of_getElem? hi)
        rw [I.len]; exact h1
      have hdrop : (ledL d).drop j = i :: (ledL d).drop (j + 1) := by
        rw [List.drop_eq_getElem_cons hjl]
        rw [List.getElem?_eq_getElem hjl] at hi
        injection hi with hi
        rw [hi]
      obtain ⟨gR, hgR, -, -⟩ := own_some I.row (by omega)
      subst hgR
      obtain ⟨bR, oR, eR, -, hcR⟩ := (Rd.own I.row).2 (by omega)
      injection eR with eR
      injection eR with eR1 eR2
      subst eR1; subst eR2
      have cR := hcR j (.int .i64 (i : Int)) (by rw [nvd, List.getElem?_map, hi]; rfl)
      rw [Nat.zero_add] at cR
      obtain ⟨b, f, x, hfa, hf, hx, cF, hF⟩ := file_cell I.H hil
      replace hx : fs[i]? = some x := hx
      have c1 : wr.cell? ⟨h.g, 1, none⟩ = some (.slice (some ⟨b, 0, none⟩) fs.length h.fc) := by have := blk_cell I.H.hd 1; rw [← hfa]; exact this
      have ii : (i : Int) < (fs.length : Int) := by omega
      have hfi := I.ok.fb x (List.mem_of_getElem? hx)
      have d0 : ∀ W, Up wr W → W.cell? ⟨f.g, 0, none⟩ = some (.slice f.A x.b.length f.c) := fun W hW => (hW.cell (p := ⟨f.g, 0, none⟩) (Array.getElem?_eq_some_iff.1 hF.blk).1).trans (blk_cell hF.blk 0)
      have d1 : ∀ W, Up wr W → W.cell? ⟨f.g, 1, none⟩ = some (.int .i64 (x.last : Int)) := fun W hW => (hW.cell (p := ⟨f.g, 1, none⟩) (Array.getElem?_eq_some_iff.1 hF.blk).1).trans (blk_cell hF.blk 1)
      have hS : ∀ W, Up wr W → Up wr W ∧ W.cell? ⟨f.g, 0, none⟩ = some (.slice f.A x.b.length f.c) ∧ W.cell? ⟨f.g, 1, none⟩ = some (.int .i64 (x.last : Int)) := fun W hW => ⟨hW, d0 W hW, d1 W hW⟩
      obtain ⟨N, hN⟩ : ∃ N : Nat, N = keepRest x := ⟨_, rfl⟩
      have hN1 : (x.b.length : Int) - (x.last : Int) = (N : Int) := by rw [hN]; unfold keepRest; omega
      have hNb : N ≤ 250000 := by rw [hN]; unfold keepRest; omega
      have hstep : crashF ((ledL d).drop j) fs kp = if N = 0 then crashF ((ledL d).drop (j + 1)) fs kp else crashF ((ledL d).drop (j + 1)) (fs.set i (crash1 x (kp.headD (N : Int)))) kp.tail := by
        rw [hdrop]
        have hg : fs.getD i ⟨[], 0⟩ = x := by rw [List.getD_eq_getElem?_getD, hx]; rfl
        conv => lhs; unfold crashF
        rw [hg, hN]
      have HST := Lib.hid hstep
      have HN := Lib.hid hN
      have HFF := Lib.hid hf
      have HX := Lib.hid hx
      have HNI := Lib.hid hN1
      clear hstep hN hf hx hcR hdrop hi hfa d0 d1 hN1
      go_upto_region 6 with fail
      have hN1 := HNI.out
      have hwN : IntKind.i64.wrap (N : Int) = (N : Int) := IntWalk.i64_in _ (by omega)
      clear c1 cR cF
      apply Rg.region_up _ (by kernel_rfl) (by kernel_rfl) hS
      · intro QN hQN
        iterate 11 (apply Rg.RK.ok; (· intro vs w1 hS; go_simp; with_reducible rfl); (· rfl); simp only [Act.put, List.setIfInBounds_toArray, List.set_cons_zero, List.set_cons_succ, Nat.reduceAdd])
        apply Rg.RK.fin []
        intro vs w2 hK hS9 hf
        refine hQN.out _ _ ?_
        clear hQN
        have hu2 := keeps_up hK
        have I2 := I.up hu2
        clear hK hS9 hf hS I hF hN1 hwN
        by_cases hN0 : N = 0
        · have hb0 : ((N : Int) == 0) = true := by rw [beq_iff_eq]; omega
          have hst := HST.out
          rw [if_pos hN0] at hst
          have HS2 : Hid (crashF ((ledL d).drop (j + 1)) fs kp = crashF (ledL d) d.files keep) := hst.symm.trans hcf.out
          clear hst HST hN0 hcf
          go_wp2_with fail
          go_roundw
          case rel => exact ⟨j + 1, fs, kp, A, n, c, by go_num, by omega, I2, HS2⟩
          case measure => simp [intOf]; omega
        · have hb0 : ((N : Int) == 0) = false := by rw [beq_eq_false_iff_ne]; omega
          have hst := HST.out
          rw [if_neg hN0] at hst
          have HS2 : Hid (crashF ((ledL d).drop (j + 1)) (fs.set i (crash1 x (kp.headD (N : Int)))) kp.tail = crashF (ledL d) d.files keep) := hst.symm.trans hcf.out
          clear hst HST hcf
          go_wp2_with fail
          refine (next_any I2.K I2.n1 (N : Int)).mono ?_
          rintro e w3 ⟨A3, n3, c3, rfl, K3, hn3, hs3, hK3⟩
          have I3 := I2.next HGK.out.symm HFL.out K3 hn3 hs3 hK3
          have hvr : -9223372036854775808 ≤ kp.headD (N : Int) ∧ kp.headD (N : Int) ≤ 9223372036854775807 := by
            cases kp with
            | nil => show _ ≤ (N : Int) ∧ (N : Int) ≤ _; omega
            | cons y r => exact I2.rg y (List.mem_cons_self ..)
          have hkn : Hid (crash1 x (kp.headD (N : Int)) = ⟨x.b.take (x.last + ((kp.headD (N : Int)) % ((N : Int) + 1)).toNat), x.last + ((kp.headD (N : Int)) % ((N : Int) + 1)).toNat⟩) := by
            show _ = _
            unfold crash1
            rw [← HN.out]
          clear hs3 hK3 K3 hn3 I2
          generalize kp.headD (N : Int) = v at *
          obtain ⟨tf1, tf2, tf3, tf4⟩ := tmod_fix v ((N : Int) + 1) (by omega)
          have he1 := Int.emod_nonneg v (show (N : Int) + 1 ≠ 0 by omega)
          have he2 := Int.emod_lt_of_pos v (show (0 : Int) < (N : Int) + 1 by omega)
          obtain ⟨K, hK⟩ : ∃ K : Nat, v % ((N : Int) + 1) = (K : Int) := ⟨(v % ((N : Int) + 1)).toNat, by omega⟩
          rw [hK] at tf1 tf2 he1 he2
          have hkn2 := hkn.out
          rw [hK, Int.toNat_natCast] at hkn2
          have HKN := Lib.hid hkn2
          clear hkn2 hkn hK
          have hN1z : ¬ ((N : Int) + 1 = 0) := by omega
          obtain ⟨q, hq⟩ : ∃ q : Int, q = v.tmod ((N : Int) + 1) := ⟨_, rfl⟩
          rw [← hq] at tf1 tf2 tf3 tf4
          have hq2 : v.tmod ((N : Int) + 1) = q := hq.symm
          clear hq
          have hF := I3.H.each i f x HFF.out HX.out
          have hxl := (I3.ok.fb x (List.mem_of_getElem? HX.out))
          have hKN : K ≤ N := by omega
          have hNx : N = x.b.length - x.last := by have := HN.out; unfold keepRest at this; exact this
          have hML : x.last + K ≤ x.b.length := by omega
          have hcap : x.b.length ≤ f.c := own_cap hF.own
          have HNX := Lib.hid hNx
          clear hNx
          obtain ⟨M, hM⟩ : ∃ M : Nat, M = x.last + K := ⟨_, rfl⟩
          rw [← hM] at HKN hML
          have hM1 : (x.last : Int) + (K : Int) = (M : Int) := by omega
          have hwM : IntKind.i64.wrap (M : Int) = (M : Int) := IntWalk.i64_in _ (by omega)
          have HM := Lib.hid hM
          clear hM
          have CUT := fun W => cut_to_u W f.A x.b.length f.c M (by omega)
          by_cases hq0 : q < 0
          · have hqK : q + ((N : Int) + 1) = (K : Int) := tf2 hq0
            clear tf1 tf2
            go_upto_region 11 with fail
            have hS2 : ∀ W, Rg.Keeps (fun k => k = f.g) w3.drew W → Rg.Keeps (fun k => k = f.g) w3.drew W := fun W hW => hW
            apply Rg.region_own 15 _ (fun g => g = f.g) (fun W => W.heap[f.g]? = some (.cells #[.slice f.A x.b.length f.c, .int .i64 (x.last : Int)] 78 (0, 0))) rfl (by kernel_rfl) (by kernel_rfl) (by rintro g rfl; exact (Array.getElem?_eq_some_iff.1 hF.blk).1) hF.blk (fun v1 v2 h1 hs => (hs.block f.g (Array.getElem?_eq_some_iff.1 h1).1 (.inr rfl)).trans h1) hS2
            · intro QN hQN
              iterate 4 (apply Rg.RK.ok; (· intro vs w1 hS; go_simp; with_reducible rfl); (· rfl); simp only [Act.put, List.setIfInBounds_toArray, List.set_cons_zero, List.set_cons_succ, Nat.reduceAdd])
              apply Rg.RK.okU [15]
              · intro vs w9 hS9 hf
                obtain ⟨hh, -⟩ := hf
                have d0 : w9.cell? ⟨f.g, 0, none⟩ = some (.slice f.A x.b.length f.c) := blk_cell hh 0
                clear hh hS9
                go_simp
                with_reducible rfl
              · rfl
              simp only [Act.put, List.setIfInBounds_toArray, List.set_cons_zero, List.set_cons_succ, Nat.reduceAdd]
              iterate 3 (apply Rg.RK.ok; (· intro vs w1 hS; go_simp; with_reducible rfl); (· rfl); simp only [Act.put, List.setIfInBounds_toArray, List.set_cons_zero, List.set_cons_succ, Nat.reduceAdd])
              apply Rg.RK.okU [15]
              · intro vs w9 hS9 hf
                obtain ⟨hh, -⟩ := hf
                have d1 : w9.cell? ⟨f.g, 1, none⟩ = some (.int .i64 (x.last : Int)) := blk_cell hh 1
                clear hh hS9
                go_simp
                with_reducible rfl
              · rfl
              simp only [Act.put, List.setIfInBounds_toArray, List.set_cons_zero, List.set_cons_succ, Nat.reduceAdd]
              iterate 2 (apply Rg.RK.ok; (· intro vs w1 hS; go_simp; with_reducible rfl); (· rfl); simp only [Act.put, List.setIfInBounds_toArray, List.set_cons_zero, List.set_cons_succ, Nat.reduceAdd])
              iterate 3 (apply Rg.RK.ok; (· intro vs w1 hS; go_simp; with_reducible rfl); (· rfl); simp only [Act.put, List.setIfInBounds_toArray, List.set_cons_zero, List.set_cons_succ, Nat.reduceAdd])
              apply Rg.RK.opD (fun vs W => W.heap[f.g]? = some (.cells #[.slice f.A M f.c, .int .i64 (x.last : Int)] 78 (0, 0))) (fun _ g => g = f.g) [15] [15] [] (fun vs vs' h => ⟨rfl, rfl⟩)
              · exact fun vs v1 v2 h1 hs => (hs.block f.g (Array.getElem?_eq_some_iff.1 h1).1 (.inr rfl)).trans h1
              · rfl
              · intro vs w9 hK hS9 hf Kk hKK
                obtain ⟨hh, -⟩ := hf
                have hh2 : w9.heap[f.g]? = some (.cells #[.slice f.A x.b.length f.c, .int .i64 (x.last : Int)] 78 (0, 0)) := hh
                have t0 : w9.cell? ⟨f.g, 0, none⟩ = some (.slice f.A x.b.length f.c) := blk_cell hh2 0
                have s0 := blk_free hh2 0
                have hset := setc_heap w9 f.g 0 (.slice f.A M f.c) _ _ hh2
                have hK9 : Rg.Keeps (fun k => k = f.g) w9 (w9.setCell ⟨f.g, 0, none⟩ (.slice f.A M f.c)) := setc_keeps _ _ _ _ _ (Rg.Keeps.refl _ _)
                have HH := Lib.hid hh2
                clear hh hh2
                go_simp
                refine hKK.out undef _ hset (Keeps.weak hK9 fun y hy => ⟨15, List.mem_singleton.2 rfl, hy⟩) (fun y hy => ?_)
                have hy2 : y = f.g := hy
                subst hy2
                exact ⟨Nat.lt_of_lt_of_le (Array.getElem?_eq_some_iff.1 HH.out).1 hK9.size, .inr ⟨15, List.mem_singleton.2 rfl, rfl⟩⟩
              simp only [Act.put, List.setIfInBounds_toArray, List.set_cons_zero, List.set_cons_succ, Nat.reduceAdd]
              apply Rg.RK.fin [14]
              intro vs w5 hK hS9 hf
              obtain ⟨h14, -⟩ := hf
              refine hQN.out _ _ ?_
              clear hQN hS9
              have h14' : w5.heap[f.g]? = some (.cells #[.slice f.A M f.c, .int .i64 (x.last : Int)] 78 (0, 0)) := h14
              have d0 : w5.cell? ⟨f.g, 0, none⟩ = some (.slice f.A M f.c) := blk_cell h14' 0
              have d1 : w5.cell? ⟨f.g, 1, none⟩ = some (.int .i64 (x.last : Int)) := blk_cell h14' 1
              have z1 := blk_free h14' 1
              have hset := setc_heap w5 f.g 1 (.int .i64 (M : Int)) _ _ h14'
              have hKK : Rg.Keeps (fun k => k = f.g) w3 (w5.setCell ⟨f.g, 1, none⟩ (.int .i64 (M : Int))) := setc_keeps _ _ _ _ _ ⟨hK.os, hK.tape, hK.output, hK.size, hK.block⟩
              have hcl : (crash1 x v).b.length = M := by rw [HKN.out]; simp only [List.length_take]; omega
              have hcm : (crash1 x v).last = M := by rw [HKN.out]
              have I5 := I3.file HGK.out.symm HFL.out HA0.out (v := v) HFF.out HX.out (by rw [hset, hcl, hcm]; rfl) hKK
              have HI5 := Lib.hid I5
              clear hset hKK hcl hcm I5 hK h14 h14' hF I3 hS2 CUT
              go_wp2_with fail
              go_roundw
              case rel => exact ⟨j + 1, fs.set i (crash1 x v), kp.tail, A3, n3, c3, by go_num, by omega, HI5.out, HS2⟩
              case measure => simp [intOf]; omega
            · kernel_rfl
          · have hqK : q = (K : Int) := tf1 (by omega)
            clear tf1 tf2
            subst hqK
            go_upto_region 11 with fail
            have hS2 : ∀ W, Rg.Keeps (fun k => k = f.g) w3.drew W → Rg.Keeps (fun k => k = f.g) w3.drew W := fun W hW => hW
            apply Rg.region_own 15 _ (fun g => g = f.g) (fun W => W.heap[f.g]? = some (.cells #[.slice f.A x.b.length f.c, .int .i64 (x.last : Int)] 78 (0, 0))) rfl (by kernel_rfl) (by kernel_rfl) (by rintro g rfl; exact (Array.getElem?_eq_some_iff.1 hF.blk).1) hF.blk (fun v1 v2 h1 hs => (hs.block f.g (Array.getElem?_eq_some_iff.1 h1).1 (.inr rfl)).trans h1) hS2
            · intro QN hQN
              iterate 4 (apply Rg.RK.ok; (· intro vs w1 hS; go_simp; with_reducible rfl); (· rfl); simp only [Act.put, List.setIfInBounds_toArray, List.set_cons_zero, List.set_cons_succ, Nat.reduceAdd])
              apply Rg.RK.okU [15]
              · intro vs w9 hS9 hf
                obtain ⟨hh, -⟩ := hf
                have d0 : w9.cell? ⟨f.g, 0, none⟩ = some (.slice f.A x.b.length f.c) := blk_cell hh 0
                clear hh hS9
                go_simp
                with_reducible rfl
              · rfl
              simp only [Act.put, List.setIfInBounds_toArray, List.set_cons_zero, List.set_cons_succ, Nat.reduceAdd]
              iterate 3 (apply Rg.RK.ok; (· intro vs w1 hS; go_simp; with_reducible rfl); (· rfl); simp only [Act.put, List.setIfInBounds_toArray, List.set_cons_zero, List.set_cons_succ, Nat.reduceAdd])
              apply Rg.RK.okU [15]
              · intro vs w9 hS9 hf
                obtain ⟨hh, -⟩ := hf
                have d1 : w9.cell? ⟨f.g, 1, none⟩ = some (.int .i64 (x.last : Int)) := blk_cell hh 1
                clear hh hS9
                go_simp
                with_reducible rfl
              · rfl
              simp only [Act.put, List.setIfInBounds_toArray, List.set_cons_zero, List.set_cons_succ, Nat.reduceAdd]
              iterate 2 (apply Rg.RK.ok; (· intro vs w1 hS; go_simp; with_reducible rfl); (· rfl); simp only [Act.put, List.setIfInBounds_toArray, List.set_cons_zero, List.set_cons_succ, Nat.reduceAdd])
              iterate 3 (apply Rg.RK.ok; (· intro vs w1 hS; go_simp; with_reducible rfl); (· rfl); simp only [Act.put, List.setIfInBounds_toArray, List.set_cons_zero, List.set_cons_succ, Nat.reduceAdd])
              apply Rg.RK.opD (fun vs W => W.heap[f.g]? = some (.cells #[.slice f.A M f.c, .int .i64 (x.last : Int)] 78 (0, 0))) (fun _ g => g = f.g) [15] [15] [] (fun vs vs' h => ⟨rfl, rfl⟩)
              · exact fun vs v1 v2 h1 hs => (hs.block f.g (Array.getElem?_eq_some_iff.1 h1).1 (.inr rfl)).trans h1
              · rfl
              · intro vs w9 hK hS9 hf Kk hKK
                obtain ⟨hh, -⟩ := hf
                have hh2 : w9.heap[f.g]? = some (.cells #[.slice f.A x.b.length f.c, .int .i64 (x.last : Int)] 78 (0, 0)) := hh
                have t0 : w9.cell? ⟨f.g, 0, none⟩ = some (.slice f.A x.b.length f.c) := blk_cell hh2 0
                have s0 := blk_free hh2 0
                have hset := setc_heap w9 f.g 0 (.slice f.A M f.c) _ _ hh2
                have hK9 : Rg.Keeps (fun k => k = f.g) w9 (w9.setCell ⟨f.g, 0, none⟩ (.slice f.A M f.c)) := setc_keeps _ _ _ _ _ (Rg.Keeps.refl _ _)
                have HH := Lib.hid hh2
                clear hh hh2
                go_simp
                refine hKK.out undef _ hset (Keeps.weak hK9 fun y hy => ⟨15, List.mem_singleton.2 rfl, hy⟩) (fun y hy => ?_)
                have hy2 : y = f.g := hy
                subst hy2
                exact ⟨Nat.lt_of_lt_of_le (Array.getElem?_eq_some_iff.1 HH.out).1 hK9.size, .inr ⟨15, List.mem_singleton.2 rfl, rfl⟩⟩
              simp only [Act.put, List.setIfInBounds_toArray, List.set_cons_zero, List.set_cons_succ, Nat.reduceAdd]
              apply Rg.RK.fin [14]
              intro vs w5 hK hS9 hf
              obtain ⟨h14, -⟩ := hf
              refine hQN.out _ _ ?_
              clear hQN hS9
              have h14' : w5.heap[f.g]? = some (.cells #[.slice f.A M f.c, .int .i64 (x.last : Int)] 78 (0, 0)) := h14
              have d0 : w5.cell? ⟨f.g, 0, none⟩ = some (.slice f.A M f.c) := blk_cell h14' 0
              have d1 : w5.cell? ⟨f.g, 1, none⟩ = some (.int .i64 (x.last : Int)) := blk_cell h14' 1
              have z1 := blk_free h14' 1
              have hset := setc_heap w5 f.g 1 (.int .i64 (M : Int)) _ _ h14'
              have hKK : Rg.Keeps (fun k => k = f.g) w3 (w5.setCell ⟨f.g, 1, none⟩ (.int .i64 (M : Int))) := setc_keeps _ _ _ _ _ ⟨hK.os, hK.tape, hK.output, hK.size, hK.block⟩
              have hcl : (crash1 x v).b.length = M := by rw [HKN.out]; simp only [List.length_take]; omega
              have hcm : (crash1 x v).last = M := by rw [HKN.out]
              have I5 := I3.file HGK.out.symm HFL.out HA0.out (v := v) HFF.out HX.out (by rw [hset, hcl, hcm]; rfl) hKK
              have HI5 := Lib.hid I5
              clear hset hKK hcl hcm I5 hK h14 h14' hF I3 hS2 CUT
              go_wp2_with fail
              go_roundw
              case rel => exact ⟨j + 1, fs.set i (crash1 x v), kp.tail, A3, n3, c3, by go_num, by omega, HI5.out, HS2⟩
              case measure => simp [intOf]; omega
            · kernel_rfl
      · kernel_rfl
    · have hlti : ¬ (j : Int) < (rn : Int) := by omega
      have hdone : crashF (ledL d) d.files keep = (fs, kp) := by
        have h9 := hcf.out
        rw [List.drop_of_length_le (by have := HRL.out; omega)] at h9
        rw [← h9]
        rfl
      have HDONE := Lib.hid hdone
      clear hdone hcf
      obtain ⟨tn, htn⟩ : ∃ tn, tn = d.turns.length := ⟨_, rfl⟩
      obtain ⟨TA, hTA⟩ : ∃ TA, TA = h.ta := ⟨_, rfl⟩
      have c4 : wr.cell? ⟨h.g, 4, none⟩ = some (.slice TA tn h.tc) := by rw [htn, hTA]; exact blk_cell I.H.hd 4
      have htn1 : tn ≤ 1000000 := by rw [htn]; exact hok.nt
      have T1 : CrT B h d w gk (0 < n0) A0 fs 0 d.lasted kp A n c wr := ⟨I.H, hok.la, Nat.le_refl _, I.K, I.n1, I.pn, I.sub, I.kp⟩
      have HFLEN := Lib.hid I.len
      have HOK2 := Lib.hid I.ok
      have HTN := Lib.hid htn
      have HTAA := Lib.hid hTA
      clear htn hTA I
      go_wp2_with fail
      clear c4
      go_loopw [79] (fun iv wr => ∃ (j : Nat) (D : Mp) (kq : List Int) (A : Option Addr) (n c : Nat), iv = .int .i64 (j : Int) ∧ j ≤ tn ∧ CrT B h d w gk (0 < n0) A0 fs j D kq A n c wr ∧ Hid (crashT (d.turns.drop j) D kq = crashT d.turns d.lasted kp)) (fun iv _ => tn - (intOf iv).toNat)
      case atStart => exact ⟨0, d.lasted, kp, A, n, c, rfl, Nat.zero_le _, T1, rfl⟩
      case round =>
        obtain ⟨j2, D, kq, A, n, c, rfl, hj2, I, hct⟩ := hrel
        clear T1
        have hwsz : w.heap.size ≤ wr.heap.size := I.kp.size
        by_cases hlt2 : j2 < tn
        · have hlti2 : (j2 : Int) < (tn : Int) := by omega
          have hjl : j2 < d.turns.length := by have := HTN.out; omega
          have hrt : Rd wr wr.heap.size 4 h.ta d.turns.length (tcs d.turns) := Rd.own I.H.turns
          rw [← HTAA.out, ← HTN.out] at hrt
          obtain ⟨b, o, t, rfl, hb, ht, q0, q1, q2, q3⟩ := hrt.turn_at hlt2 HTN.out
          have hdrop : d.turns.drop j2 = t :: d.turns.drop (j2 + 1) := by
            rw [List.drop_eq_getElem_cons hjl]
            rw [List.getElem?_eq_getElem hjl] at ht
            injection ht with ht
            rw [ht]
          have hstep : crashT (d.turns.drop j2) D kq = crashT (d.turns.drop (j2 + 1)) (if evI (kq.headD 0) = true then doM t D else D) kq.tail := by
            rw [hdrop]
            rfl
          have HST := Lib.hid hstep
          have HTM := Lib.hid (List.mem_of_getElem? ht)
          clear hstep hdrop ht hrt
          go_upto_region 17 with fail
          clear q0 q1 q2 q3
          have hua : Up wr (wr.alloc (.cells #[.int .i64 (t.kind : Int), .int .i64 (t.file : Int), .string (tx t.a), .string (tx t.b)] 76)) := (Up.refl wr).alloc _
          have hbt := heap_alloc_new wr (.cells #[.int .i64 (t.kind : Int), .int .i64 (t.file : Int), .string (tx t.a), .string (tx t.b)] 76)
          have Ia := I.up hua
          have hgt : gk < wr.heap.size := (Array.getElem?_eq_some_iff.1 I.K.blk).1
          clear I hua
          generalize wr.alloc (.cells #[.int .i64 (t.kind : Int), .int .i64 (t.file : Int), .string (tx t.a), .string (tx t.b)] 76) = wa at *
          generalize wr.heap.size = gt at *
          go_wp2_with fail
          refine (next_any Ia.K Ia.n1 0).mono ?_
          rintro e w3 ⟨A3, n3, c3, rfl, K3, hn3, hs3, hK3⟩
          have I3 := Ia.next HGK.out.symm HFL.out K3 hn3 hs3 hK3
          have hb3 := (hK3.block gt (Array.getElem?_eq_some_iff.1 hbt).1 (by omega)).trans hbt
          have HTF : t.kind = 1 → t.file < d.files.length := fun h1 => (hok.tn t HTM.out).elim id (fun h2 => absurd h1 h2)
          have htl := HTA.out t HTM.out
          have hsl := hok.sl
          have hszD := I3.sz
          have hnf := hok.nf
          have HTFF := Lib.hid HTF
          clear hbt hs3 hK3 K3 hn3 Ia HTF
          generalize kq.headD 0 = vv at *
          have hst := HST.out
          cases hev : evI vv with
          | true =>
            have hb1 : (bits .and .i64 vv 1 == 0) = true := hev
            rw [hev, if_pos rfl] at hst
            have HS2 : Hid (crashT (d.turns.drop (j2 + 1)) (doM t D) kq.tail = crashT d.turns d.lasted kp) := hst.symm.trans hct.out
            clear hst HST hct hev
            go_upto_region 18 with fail
            clear hb1
            have q0 := blk_cell hb3 0
            have q1 := blk_cell hb3 1
            have q2 := blk_cell hb3 2
            have q3 := blk_cell hb3 3
            have cl : w3.cell? ⟨h.g, 3, none⟩ = some (.map (some h.lb)) := blk_cell I3.H.hd 3
            have I4 := I3.up (Up.drew (Up.refl w3))
            go_still_tail 5, (by kernel_rfl)
            change wpList _ _ _ _ _ w3.drew
            generalize w3.drew = w4 at *
            clear q0 q1 q2 q3 cl I3 hb3
            go_wp2_with fail
            refine (do_any t h.lb (Maps.size D) d.files.length D w4 I4.H.lasted (by omega) I4.M hnf (fun h1 => by have := HTFF.out h1; omega) htl.1 htl.2).mono ?_
            rintro e w5 ⟨rfl, ⟨n', hm⟩, hK5⟩
            have I5 := I4.las HGK.out.symm HFL.out HA0.out t HTFF.out hm hK5
            clear I4 hm hK5
            go_wp2_with fail
            go_roundw
            case rel => exact ⟨j2 + 1, doM t D, kq.tail, A3, n3, c3, by go_num, by omega, I5, HS2⟩
            case measure => simp [intOf]; omega
          | false =>
            have hb1 : (bits .and .i64 vv 1 == 0) = false := hev
            rw [hev, if_neg (by decide)] at hst
            have HS2 : Hid (crashT (d.turns.drop (j2 + 1)) D kq.tail = crashT d.turns d.lasted kp) := hst.symm.trans hct.out
            clear hst HST hct hev hb3
            go_wp2_with fail
            go_roundw
            case rel => exact ⟨j2 + 1, D, kq.tail, A3, n3, c3, by go_num, by omega, I3.more, HS2⟩
            case measure => simp [intOf]; omega
        · have hlti2 : ¬ (j2 : Int) < (tn : Int) := by omega
          have hdone2 : (crashT d.turns d.lasted kp).1 = D := by
            have h9 := hct.out
            rw [List.drop_of_length_le (by have := HTN.out; omega)] at h9
            rw [← h9]
            rfl
          have HD2 := Lib.hid hdone2
          clear hdone2 hct
          have hd0 : wr.heap[h.g]? = some (.cells (dcs { d with files := fs, lasted := D } h) 71 (0, 0)) := I.H.hd
          have cl : wr.cell? ⟨h.g, 3, none⟩ = some (.map (some h.lb)) := blk_cell hd0 3
          have c2 : wr.cell? ⟨h.g, 2, none⟩ = some (.map (some h.nb)) := blk_cell hd0 2
          have z2 := blk_free hd0 2
          have hdA := setc_heap wr h.g 2 (.map (some h.lb)) _ _ hd0
          have y2 : (wr.setCell ⟨h.g, 2, none⟩ (.map (some h.lb))).cell? ⟨h.g, 2, none⟩ = some (.map (some h.lb)) := by rw [blk_cell hdA 2]; simp [dcs]
          have hKA : Rg.Keeps (fun k => k = h.g) wr (wr.setCell ⟨h.g, 2, none⟩ (.map (some h.lb))) := setc_keeps _ _ _ _ _ (Rg.Keeps.refl _ _)
          have hmA := map_keepsX I.H.lasted hKA (fun e9 => by
            have h1 := kd_map I.H.lasted
            rw [e9, kd_cells I.H.hd] at h1
            cases h1)
          go_wp2_with fail
          refine (mclone_any h.lb _ D _ hmA).mono ?_
          rintro e w5 ⟨rfl, hm5, hu5⟩
          have hszA : (wr.setCell ⟨h.g, 2, none⟩ (.map (some h.lb))).heap.size = wr.heap.size := by simp [World.setCell]
          rw [hszA] at hm5 ⊢
          have hd5 := (hu5.block _ (Array.getElem?_eq_some_iff.1 hdA).1).trans hdA
          have e2 := blk_cell hd5 2
          have e3 : w5.cell? ⟨h.g, 3, none⟩ = some (.map (some h.lb)) := blk_cell hd5 3
          have s3 := blk_free hd5 3
          have e4 : w5.cell? ⟨h.g, 4, none⟩ = some (.slice h.ta d.turns.length h.tc) := blk_cell hd5 4
          have s4 := blk_free hd5 4
          have e6 : w5.cell? ⟨h.g, 6, none⟩ = some (.bool d.dead) := blk_cell hd5 6
          have s6 := blk_free hd5 6
          have e7 : w5.cell? ⟨h.g, 7, none⟩ = some (.int .i64 (d.stop : Int)) := blk_cell hd5 7
          have s7 := blk_free hd5 7
          have e8 : w5.cell? ⟨h.g, 8, none⟩ = some (.int .i64 (d.fail : Int)) := blk_cell hd5 8
          have s8 := blk_free hd5 8
          have hset := setc_heap _ h.g 8 (.int .i64 0) _ _ (setc_heap _ h.g 7 (.int .i64 0) _ _ (setc_heap _ h.g 6 (.bool false) _ _ (setc_heap _ h.g 4 (.slice none 0 0) _ _ (setc_heap w5 h.g 3 (.map (some wr.heap.size)) _ _ hd5))))
          have hK5 : Rg.Keeps (fun k => k = h.g) w5 (((((w5.setCell ⟨h.g, 3, none⟩ (.map (some wr.heap.size))).setCell ⟨h.g, 4, none⟩ (.slice none 0 0)).setCell ⟨h.g, 6, none⟩ (.bool false)).setCell ⟨h.g, 7, none⟩ (.int .i64 0)).setCell ⟨h.g, 8, none⟩ (.int .i64 0)) := setc_keeps _ _ _ _ _ (setc_keeps _ _ _ _ _ (setc_keeps _ _ _ _ _ (setc_keeps _ _ _ _ _ (setc_keeps _ _ _ _ _ (Rg.Keeps.refl _ _)))))
          have hgl := (I.H.lt (k := h.g) (.inl rfl)).2
          have hKr : Rg.Keeps (fun k => k = h.g) wr (((((w5.setCell ⟨h.g, 3, none⟩ (.map (some wr.heap.size))).setCell ⟨h.g, 4, none⟩ (.slice none 0 0)).setCell ⟨h.g, 6, none⟩ (.bool false)).setCell ⟨h.g, 7, none⟩ (.int .i64 0)).setCell ⟨h.g, 8, none⟩ (.int .i64 0)) := Keeps.trans2 hKA (Keeps.trans2 (Rg.Keeps.of_up hu5) hK5)
          have hmZ := map_keepsX hm5 hK5 (fun e9 => by omega)
          obtain ⟨HZ, DZ⟩ := I.H.crashEnd (crashD d keep) (lb' := wr.heap.size) (by
            rw [hset]
            simp [dcs, crashD, HDONE.out, HFLEN.out]) hKr (by show (crashF _ _ _).1 = fs; rw [HDONE.out]) (by show (crashT _ _ (crashF _ _ _).2).1 = D; rw [HDONE.out]; exact HD2.out) (by show (crashT _ _ (crashF _ _ _).2).1 = D; rw [HDONE.out]; exact HD2.out) rfl hmZ (Nat.le_refl _)
          have DZ2 : DkTo h w { h with nb := h.lb, lb := wr.heap.size, ta := none, tc := 0 } _ := ⟨rfl, Keeps.trans2 I.kp DZ.kept, fun k hk => (DZ.foot k hk).imp id (fun h9 => Nat.le_trans I.kp.size h9)⟩
          have HZZ := Lib.hid HZ
          have DZZ := Lib.hid DZ2
          clear hset hK5 hKr hmZ HZ DZ DZ2 hu5 hm5 hKA hmA hdA hd5 y2 z2 c2 cl hd0 hszA e2
          go_wp2_with fail
          exact bodyPost_end (results_none rfl _ _ _) rfl ⟨_, rfl, HZZ.out, DZZ.out⟩
end Go.Proofs.Ytebhhfmekmpnkaa

/-
  The disk: plain laws; awake.
-/
namespace Go.Proofs.Ytebhhfmekmpnkaa
open Go.RowKit Go.Maps
set_option linter.unusedVariables false
set_option linter.unusedSimpArgs false

theorem crashF_ok : ∀ (l : List Nat) (fs : List Fi) (keep : List Int), (∀ f ∈ fs, f.b.length ≤ 250000 ∧ f.last ≤ f.b.length) → (∀ f ∈ (crashF l fs keep).1, f.b.length ≤ 250000 ∧ f.last ≤ f.b.length) ∧ (crashF l fs keep).1.length = fs.length
  | [], fs, keep, h => ⟨h, rfl⟩
  | i :: r, fs, keep, h => by
    unfold crashF
    split
    · exact crashF_ok r fs keep h
    · have hg : (fs.getD i ⟨[], 0⟩).b.length ≤ 250000 ∧ (fs.getD i ⟨[], 0⟩).last ≤ (fs.getD i ⟨[], 0⟩).b.length := by
        rw [List.getD_eq_getElem?_getD]
        cases hx : fs[i]? with
        | none => exact ⟨Nat.zero_le _, Nat.le_refl _⟩
        | some x => exact h x (List.mem_of_getElem? hx)
      have hc := crash1_ok (keep.headD (keepRest (fs.getD i ⟨[], 0⟩) : Int)) hg
      have h2 := crashF_ok r (fs.set i (crash1 (fs.getD i ⟨[], 0⟩) (keep.headD (keepRest (fs.getD i ⟨[], 0⟩) : Int)))) keep.tail (fun f hf => by
        rcases List.mem_or_eq_of_mem_set hf with hf | rfl
        · exact h f hf
        · exact ⟨hc.1, Nat.le_of_eq hc.2.1⟩)
      exact ⟨h2.1, by rw [h2.2, List.length_set]⟩
theorem crashT_ok {n : Nat} : ∀ (l : List Tn) (D : Mp) (keep : List Int), MOk D n → (∀ t ∈ l, t.kind = 1 → t.file < n) → MOk (crashT l D keep).1 n ∧ Maps.size (crashT l D keep).1 ≤ Maps.size D + l.length
  | [], D, keep, h, _ => ⟨h, Nat.le_refl _⟩
  | t :: r, D, keep, h, ht => by
    unfold crashT
    split
    · have h2 := crashT_ok r (doM t D) keep.tail (doM_ok h t (ht t (List.mem_cons_self ..))) (fun q hq => ht q (List.mem_cons_of_mem _ hq))
      have h3 := doM_size h t
      exact ⟨h2.1, by rw [List.length_cons]; omega⟩
    · have h2 := crashT_ok r D keep.tail h (fun q hq => ht q (List.mem_cons_of_mem _ hq))
      exact ⟨h2.1, by rw [List.length_cons]; omega⟩
theorem crashD_ok {d : Dk} (h : DkOk d) (keep : List Int) (hs : Maps.size d.lasted + d.turns.length ≤ 1000000) : DkOk (crashD d keep) := by
  have h1 := crashF_ok (ledL d) d.files keep h.fb
  have h2 := crashT_ok (n := d.files.length) d.turns d.lasted (crashF (ledL d) d.files keep).2 h.la (fun t ht hk => (h.tn t ht).elim id (fun h9 => absurd hk h9))
  have hl : (crashD d keep).files.length = d.files.length := h1.2
  exact ⟨by rw [hl]; exact h2.1, by rw [hl]; exact h2.1, fun t ht => (by cases ht), by rw [hl]; exact h.nf, Nat.zero_le _, by show Maps.size (crashT _ _ _).1 ≤ _; omega, by show Maps.size (crashT _ _ _).1 ≤ _; omega, h1.1, Nat.zero_le _, Nat.zero_le _, h.q⟩
/-- what an operation leaves of what lies apart from the disk -/
theorem dk_rd {h h' : Hp} {w w' : World} (D : DkTo h w h' w') {B sz n : Nat} {A : Option Addr} {xs : List Value} (hr : Rd w B sz A n xs) (hB : B ≤ w.heap.size) (hne : ∀ a, A = some a → ¬ foot h a.block) : Rd w' w'.heap.size sz A n xs := hr.keepsX hB hne D.kept
theorem dk_cell {h h' : Hp} {w w' : World} (D : DkTo h w h' w') {g o : Nat} {u : Value} (hl : g < w.heap.size) (hc : w.cell? ⟨g, o, none⟩ = some u) (hne : ¬ foot h g) : w'.cell? ⟨g, o, none⟩ = some u :=
  (World.cell?_of_block (D.kept.block g hl hne)).trans hc
/-- []byte of a constant text -/
theorem bytes_const (w : World) (C : Array Value) (l : List UInt8) (n : Nat) (hC : C.toList = bvs l) (hn : l.length = n) :
    (convert 31 31 (.slice (some ⟨w.heap.size, 0, none⟩) n n)).run Try.prog (w.alloc (.cells C 5)) = .ok (.slice (some ⟨w.heap.size, 0, none⟩) n n) (w.alloc (.cells C 5 (n, n + 1))) ∧
    Rd (w.alloc (.cells C 5 (n, n + 1))) (w.alloc (.cells C 5 (n, n + 1))).heap.size 1 (some ⟨w.heap.size, 0, none⟩) n (bvs l) ∧ Up w (w.alloc (.cells C 5 (n, n + 1))) := by
  have hs : C.size = n := by rw [← hn, ← Array.length_toList, hC]; simp [bvs]
  subst hs
  refine ⟨Lib.run_convert_bytes_const w _ _ C _ _ bytesT.ut Try.underlying5, ⟨by simp [bvs, hn], fun _ => ⟨w.heap.size, 0, rfl, by rw [World.size_alloc]; omega, fun j u hj => ?_⟩⟩, (Up.refl w).alloc _⟩
  rw [cell_of_row _ w.heap.size (0 + j) C _ _ (heap_alloc_new w (.cells C 5 (C.size, C.size + 1))), Nat.zero_add, ← hj, ← hC]
  simp
set_option maxRecDepth 100000 in
set_option maxHeartbeats 1600000 in
theorem awake4_any (w : World) : Calls Try.prog 23 #[] w fun e w' => e = .returned (.bool true) ∧ Up w w' := by
  obtain ⟨da, hda⟩ : ∃ d, d = newD 1000 := ⟨_, rfl⟩
  obtain ⟨db, hdb⟩ : ∃ d, d = (createD da [97]).1 := ⟨_, rfl⟩
  obtain ⟨dc, hdc⟩ : ∃ d, d = (appendD db [97] [120, 121, 122]).1 := ⟨_, rfl⟩
  obtain ⟨dd, hdd⟩ : ∃ d, d = (syncDirD dc).1 := ⟨_, rfl⟩
  obtain ⟨de, hde⟩ : ∃ d, d = crashD dd [2] := ⟨_, rfl⟩
  have oka : DkOk da := by rw [hda]; exact newD_ok (by omega)
  have na : da.files.length = 0 ∧ da.turns.length = 0 ∧ da.calls = 0 := by rw [hda]; exact ⟨rfl, rfl, rfl⟩
  have okb : DkOk db := by rw [hdb]; exact createD_ok oka [97] (by omega) (by omega)
  have nb : db.calls = 1 := by rw [hdb, hda]; rfl
  have okc : DkOk dc := by rw [hdc]; exact appendD_ok okb _ _
  have nc : dc.calls = 2 := by rw [hdc, hdb, hda]; rfl
  have okd : DkOk dd := by rw [hdd]; exact syncDirD_ok okc
  have nd : Maps.size dd.lasted + dd.turns.length ≤ 1000000 ∧ dd.turns = [] := by rw [hdd, hdc, hdb, hda]; exact ⟨by decide, rfl⟩
  have oke : DkOk de := by rw [hde]; exact crashD_ok okd _ nd.1
  have e1 : (createD da [97]).2 = 0 := by rw [hda]; rfl
  have e2 : (appendD db [97] [120, 121, 122]).2 = 0 := by rw [hdb, hda]; rfl
  have e3 : (syncDirD dc).2 = 0 := by rw [hdc, hdb, hda]; rfl
  have e4 : readD de [97] = ([120, 121], 0) := by rw [hde, hdd, hdc, hdb, hda]; rfl
  have e5 : de.calls = 3 := by rw [hde, hdd, hdc, hdb, hda]; rfl
  have hbeq : ((tx [120, 121]).toList == [120, 121]) = true := by rw [tx_toList]; rfl
  have HDA := Lib.hid hda
  have E1 := Lib.hid e1
  have HDB := Lib.hid hdb
  have E2 := Lib.hid e2
  have HDC := Lib.hid hdc
  have E3 := Lib.hid e3
  have HDD := Lib.hid hdd
  have E4 := Lib.hid e4
  have HDE := Lib.hid hde
  have E5 := Lib.hid e5
  have NA := Lib.hid na
  have NB := Lib.hid nb
  have NC := Lib.hid nc
  have ND := Lib.hid nd
  clear hda hdb hdc hdd hde e1 e2 e3 e4 e5 na nb nc nd
  go_enter Try.func23, Try.ntmps23
  go_wp2_with fail
  refine (dnew_any 1000 w).mono ?_
  rintro e w1 ⟨h1, rfl, H1, hu1, hf1⟩
  rw [← HDA.out] at H1
  go_wp2_with fail
  refine (create_any H1 oka (by have := NA.out; omega) (by have := NA.out; omega) (by have := NA.out; omega) [97] (by decide)).mono ?_
  rintro e w2 ⟨h2, rfl, H2, D2⟩
  rw [E1.out]
  rw [← HDB.out] at H2
  have hu2 := D2.below H1 (Nat.le_refl _) hu1
  obtain ⟨hconv, hra, hua⟩ := bytes_const w2 #[.int .u8 120, .int .u8 121, .int .u8 122] [120, 121, 122] 3 rfl rfl
  have H2a := H2.up hua
  have hca := dappend_any H2a okb (by have := NB.out; omega) [97] (by decide) (some ⟨w2.heap.size, 0, none⟩) 3 3 [120, 121, 122] hra (by omega) (fun k hk hf => by
    obtain ⟨a, ha, e⟩ := hk
    injection ha with ha
    subst ha
    have := (H2.lt hf).2
    simp at e
    omega)
  rw [D2.g] at hca
  have HCA := Lib.hid hca
  clear hca hra
  go_wp2_with fail
  clear hconv
  refine HCA.out.mono ?_
  rintro e w3 ⟨h3, rfl, H3, D3⟩
  rw [E2.out]
  rw [← HDC.out] at H3
  have hu3 := D3.below H2a (Nat.le_refl _) (hu2.trans hua)
  have hg3 : h3.g = h1.g := D3.g.trans D2.g
  have hcb := syncDir_any H3 okc (by have := NC.out; omega)
  rw [hg3] at hcb
  have HCB := Lib.hid hcb
  have HG3 := Lib.hid hg3
  clear HCA hcb H2a H1 H2 hg3
  go_wp2_with fail
  refine HCB.out.mono ?_
  rintro e w4 ⟨h4, rfl, H4, D4⟩
  rw [E3.out]
  rw [← HDD.out] at H4
  have hu4 := D4.below H3 (Nat.le_refl _) hu3
  have hub : Up w4 (w4.alloc (.cells #[.int .i64 2] 3)) := (Up.refl w4).alloc _
  have hrb : Rd (w4.alloc (.cells #[.int .i64 2] 3)) (w4.alloc (.cells #[.int .i64 2] 3)).heap.size 1 (some ⟨w4.heap.size, 0, none⟩) 1 (izs [2]) := Rd.box w4 (.int .i64 2) 3
  have H4b := H4.up hub
  have hg4 : h4.g = h1.g := D4.g.trans HG3.out
  have hcc := crash_any H4b okd (some ⟨w4.heap.size, 0, none⟩) 1 1 [2] hrb (by omega) (by omega) (fun x hx => by rw [List.mem_singleton] at hx; subst hx; omega) (fun _ a ha hf => by
    injection ha with ha
    subst ha
    exact Nat.lt_irrefl _ (H4.lt hf).2) (fun _ a ha => by
    injection ha with ha
    subst ha
    rw [World.size_alloc]
    exact Nat.lt_succ_self _) (fun t ht => by rw [ND.out.2] at ht; cases ht)
  rw [hg4] at hcc
  have HCC := Lib.hid hcc
  have HG4 := Lib.hid hg4
  clear HCB hcc hrb H3 D2 D3 hg4 HG3 hua hu1 hu2 hu3
  go_wp2_with fail
  refine HCC.out.mono ?_
  rintro e w5 ⟨h5, rfl, H5, D5⟩
  rw [← HDE.out] at H5
  have hu5 := D5.below H4b (Nat.le_refl _) (hu4.trans hub)
  have hg5 : h5.g = h1.g := D5.g.trans HG4.out
  have hcd := dread_any H5 oke [97] (by decide)
  rw [hg5, E4.out] at hcd
  have HCD := Lib.hid hcd
  have HG5 := Lib.hid hg5
  clear HCC hcd H4 H4b D4 D5 hg5 HG4 hub hu4
  go_wp2_with fail
  refine HCD.out.mono ?_
  rintro e w6 ⟨R, rn, rc, rfl, hown6, hu6⟩
  have H6 := H5.up hu6
  have hu6' := hu5.trans hu6
  have hcv : (convert 31 9 (.slice R rn rc)).run Try.prog w6 = .ok (.string (tx [120, 121])) w6 := run_str rc hown6.rd
  have hce := calls_any H6
  rw [HG5.out, E5.out] at hce
  have HCE := Lib.hid hce
  clear hce H5 H6 HCD hown6 hu6 hu5
  go_wp2_with fail
  refine HCE.out.mono ?_
  rintro e w7 ⟨rfl, rfl⟩
  go_wp2_with fail
  go_ret
  exact ⟨rfl, hu6'⟩
end Go.Proofs.Ytebhhfmekmpnkaa
