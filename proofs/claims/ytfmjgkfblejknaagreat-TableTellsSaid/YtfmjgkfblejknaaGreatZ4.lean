/-
  Texts of this claim, joined: Crc, FrameLaw3, FrameW11, Conv, FrameW12, DkB2, RwO, Fold, LogB, LogA, LogW2, Apart, BlkW7, BegC, MsgW1, MsgW2, OpenI.
-/
import Derived.Lib.ConvBytes
import Derived.Deep.Cut
import Derived.Deep.CutRange
import Derived.Test.YtfmjgkfblejknaaGreatZ3
/-
  Sums of texts: what turned bits do to them. Up to three of them are found in any text of less than 2^28 bytes.
-/
namespace Go.Proofs.YtfmjgkfblejknaaGreat
open Go.RowKit
set_option linter.unusedVariables false
set_option linter.unusedSimpArgs false

theorem crcN_add : ∀ (a b n : Nat), crcN (a + b) n = crcN b (crcN a n)
  | 0, b, n => by rw [Nat.zero_add]; rfl
  | a + 1, b, n => by rw [Nat.add_right_comm]; exact crcN_add a b (crcS n)
theorem xor_swap (a b c : Nat) : a ^^^ b ^^^ c = a ^^^ c ^^^ b := by rw [Nat.xor_assoc, Nat.xor_comm b c, ← Nat.xor_assoc]
theorem xor_half (a b : Nat) : (a ^^^ b) / 2 = a / 2 ^^^ b / 2 := Nat.xor_div_two
theorem xor_odd (a b : Nat) : (a ^^^ b) % 2 = (a % 2 + b % 2) % 2 := by
  have h := Nat.xor_mod_two_eq_one (a := a) (b := b)
  have h1 := Nat.mod_two_eq_zero_or_one (a ^^^ b)
  have h2 := Nat.mod_two_eq_zero_or_one a
  have h3 := Nat.mod_two_eq_zero_or_one b
  rcases h1 with h1 | h1 <;> rcases h2 with h2 | h2 <;> rcases h3 with h3 | h3 <;> simp [h1, h2, h3] at h ⊢
theorem crcS_xor (a b : Nat) : crcS (a ^^^ b) = crcS a ^^^ crcS b := by
  have h2 := Nat.mod_two_eq_zero_or_one a
  have h3 := Nat.mod_two_eq_zero_or_one b
  unfold crcS
  rw [xor_odd, xor_half]
  rcases h2 with h2 | h2 <;> rcases h3 with h3 | h3 <;> simp only [h2, h3] <;> simp
  · rw [Nat.xor_assoc]
  · rw [xor_swap]
  · rw [Nat.xor_assoc, Nat.xor_comm (2197175160) (b / 2 ^^^ 2197175160), Nat.xor_assoc, Nat.xor_self, Nat.xor_zero]
theorem crcN_xor : ∀ (k a b : Nat), crcN k (a ^^^ b) = crcN k a ^^^ crcN k b
  | 0, _, _ => rfl
  | k + 1, a, b => by show crcN k (crcS (a ^^^ b)) = _; rw [crcS_xor, crcN_xor k]; rfl
theorem xor_zero_eq {a b : Nat} (h : a ^^^ b = 0) : a = b := by
  have h2 : (a ^^^ b) ^^^ b = 0 ^^^ b := by rw [h]
  rwa [Nat.xor_assoc, Nat.xor_self, Nat.xor_zero, Nat.zero_xor] at h2
theorem crcS_zero {a : Nat} (ha : a < 4294967296) (h : crcS a = 0) : a = 0 := by
  unfold crcS at h
  split at h
  · have := xor_zero_eq h; omega
  · omega
theorem crcN_zero : ∀ (k : Nat) {a : Nat}, a < 4294967296 → crcN k a = 0 → a = 0
  | 0, _, _, h => h
  | k + 1, _, ha, h => crcS_zero ha (crcN_zero k (crcS_lt ha) h)
theorem xor_lt32 {a b : Nat} (ha : a < 4294967296) (hb : b < 4294967296) : a ^^^ b < 4294967296 := by
  have h2 : a ^^^ b < 2 ^ 32 := Nat.xor_lt_two_pow (by omega) (by omega)
  omega
theorem crcN_inj (k : Nat) {a b : Nat} (ha : a < 4294967296) (hb : b < 4294967296) (h : crcN k a = crcN k b) : a = b :=
  xor_zero_eq (crcN_zero k (xor_lt32 ha hb) (by rw [crcN_xor, h, Nat.xor_self]))

/-- how many of the first k bits are set: odd or not -/
def par : Nat → Nat → Bool
  | 0, _ => false
  | k + 1, n => (n % 2 == 1) ^^ par k (n / 2)
theorem par_xor : ∀ (k a b : Nat), par k (a ^^^ b) = (par k a ^^ par k b)
  | 0, _, _ => rfl
  | k + 1, a, b => by
    unfold par
    rw [xor_odd, xor_half, par_xor k]
    have h2 := Nat.mod_two_eq_zero_or_one a
    have h3 := Nat.mod_two_eq_zero_or_one b
    rcases h2 with h2 | h2 <;> rcases h3 with h3 | h3 <;> simp [h2, h3]
theorem par_zero : ∀ k, par k 0 = false
  | 0 => rfl
  | k + 1 => by unfold par; simp [par_zero k]
theorem par_more : ∀ (k n : Nat), n < 2 ^ k → par (k + 1) n = par k n
  | 0, n, h => by
    have : n = 0 := by simpa using h
    subst this; rfl
  | k + 1, n, h => by
    conv => lhs; unfold par
    conv => rhs; unfold par
    rw [par_more k (n / 2) (by rw [Nat.pow_succ] at h; omega)]
theorem par_crcS {n : Nat} (h : n < 4294967296) : par 32 (crcS n) = par 32 n := by
  have e : par 32 n = ((n % 2 == 1) ^^ par 31 (n / 2)) := rfl
  have e2 := par_more 31 (n / 2) (by omega)
  rw [e, ← e2]
  unfold crcS
  split
  · rename_i h1
    rw [par_xor, h1, show par 32 2197175160 = true by decide]
    cases par 32 (n / 2) <;> rfl
  · rename_i h1
    rw [show (n % 2 == 1) = false by simp; omega]
    simp
theorem par_crcN : ∀ (k : Nat) {n : Nat}, n < 4294967296 → par 32 (crcN k n) = par 32 n
  | 0, _, _ => rfl
  | k + 1, _, h => (par_crcN k (crcS_lt h)).trans (par_crcS h)

/-- a sum that goes on from two registers together -/
theorem addC_lin (l : List UInt8) : ∀ (u v : Nat), addC (u ^^^ v) l = addC u l ^^^ crcN (8 * l.length) v := by
  induction l with
  | nil => intro u v; rfl
  | cons b l ih =>
    intro u v
    show addC (crcB (u ^^^ v) b) l = addC (crcB u b) l ^^^ _
    have e : crcB (u ^^^ v) b = crcB u b ^^^ crcN 8 v := by
      unfold crcB
      rw [xor_swap, crcN_xor]
    rw [e, ih, List.length_cons, show 8 * (l.length + 1) = 8 + 8 * l.length by omega, crcN_add]
theorem addC_set (m : UInt8) : ∀ (l : List UInt8) (n i : Nat), i < l.length → addC n (l.set i (l.getD i 0 ^^^ m)) = addC n l ^^^ crcN (8 * (l.length - i)) m.toNat
  | b :: l, n, 0, _ => by
    show addC (crcB n (b ^^^ m)) l = addC (crcB n b) l ^^^ _
    have e : crcB n (b ^^^ m) = crcB n b ^^^ crcN 8 m.toNat := by
      unfold crcB
      rw [UInt8.toNat_xor, ← Nat.xor_assoc, crcN_xor]
    rw [e, addC_lin, List.length_cons, show 8 * (l.length + 1 - 0) = 8 + 8 * l.length by omega, crcN_add]
  | b :: l, n, i + 1, h => by
    have h2 : i < l.length := by simpa using h
    show addC (crcB n b) (l.set i (l.getD i 0 ^^^ m)) = addC (crcB n b) l ^^^ _
    rw [addC_set m l _ i h2, List.length_cons, show l.length + 1 - (i + 1) = l.length - i by omega]

/-- one bit turned -/
def flipB (l : List UInt8) (p : Nat) : List UInt8 := l.set (p / 8) (l.getD (p / 8) 0 ^^^ UInt8.ofNat (2 ^ (p % 8)))
theorem flipB_len (l : List UInt8) (p : Nat) : (flipB l p).length = l.length := by unfold flipB; rw [List.length_set]
def flipsB (l : List UInt8) (ps : List Nat) : List UInt8 := ps.foldl flipB l
theorem flipsB_len : ∀ (ps : List Nat) (l : List UInt8), (flipsB l ps).length = l.length
  | [], _ => rfl
  | p :: ps, l => (flipsB_len ps (flipB l p)).trans (flipB_len l p)
theorem pow_bits : ∀ t, t < 8 → crcN t (2 ^ t) = 1 ∧ (UInt8.ofNat (2 ^ t)).toNat = 2 ^ t := by decide
theorem addC_flip {l : List UInt8} {p : Nat} (n : Nat) (h : p < 8 * l.length) : addC n (flipB l p) = addC n l ^^^ crcN (8 * l.length - p) 1 := by
  unfold flipB
  rw [addC_set _ _ _ _ (by omega)]
  obtain ⟨h1, h2⟩ := pow_bits (p % 8) (by omega)
  rw [h2, show 8 * (l.length - p / 8) = p % 8 + (8 * l.length - p) by omega, crcN_add, h1]
theorem flipB_flipB {l : List UInt8} {p : Nat} (h : p < 8 * l.length) : flipB (flipB l p) p = l := by
  have h8 : p / 8 < l.length := by omega
  unfold flipB
  have e : (l.set (p / 8) (l.getD (p / 8) 0 ^^^ UInt8.ofNat (2 ^ (p % 8)))).getD (p / 8) 0 = l.getD (p / 8) 0 ^^^ UInt8.ofNat (2 ^ (p % 8)) := by
    simp [List.getD, h8]
  rw [e, List.set_set, UInt8.xor_assoc, UInt8.xor_self, UInt8.xor_zero]
  simp [List.getD, h8]

-- the order of the step

/-- a linear step of 32 bits by its columns -/
def appC : List Nat → Nat → Nat
  | [], _ => 0
  | c :: cs, n => if n % 2 = 1 then c ^^^ appC cs (n / 2) else appC cs (n / 2)
theorem appC_eq (g : Nat → Nat) (g0 : g 0 = 0) (gx : ∀ a b, g (a ^^^ b) = g a ^^^ g b) : ∀ (k i n : Nat), n < 2 ^ k → appC ((List.range' i k).map fun j => g (2 ^ j)) n = g (n * 2 ^ i)
  | 0, i, n, h => by
    have : n = 0 := by simpa using h
    subst this
    rw [Nat.zero_mul, g0]; rfl
  | k + 1, i, n, h => by
    rw [List.range'_succ, List.map_cons]
    have hlt : n / 2 < 2 ^ k := by rw [Nat.pow_succ] at h; omega
    have ih := appC_eq g g0 gx k (i + 1) (n / 2) hlt
    unfold appC
    rw [ih]
    have e2 : n / 2 * 2 ^ (i + 1) = 2 * (n / 2) * 2 ^ i := by rw [Nat.pow_succ]; rw [Nat.mul_comm (2 ^ i) 2, ← Nat.mul_assoc, Nat.mul_comm (n / 2) 2]
    split
    · rename_i h1
      rw [← gx]
      congr 1
      rw [e2]
      have h3 : n * 2 ^ i = 2 * (n / 2) * 2 ^ i + 2 ^ i := by
        have : n = 2 * (n / 2) + 1 := by omega
        conv => lhs; rw [this]
        rw [Nat.add_mul, Nat.one_mul]
      rw [h3]
      apply Nat.eq_of_testBit_eq
      intro j
      rw [show 2 * (n / 2) * 2 ^ i + 2 ^ i = (2 * (n / 2) + 1) * 2 ^ i by rw [Nat.add_mul, Nat.one_mul], Nat.testBit_xor, Nat.testBit_mul_two_pow, Nat.testBit_mul_two_pow, Nat.testBit_two_pow]
      by_cases hj : i ≤ j
      · obtain ⟨q, rfl⟩ : ∃ q, j = i + q := ⟨j - i, by omega⟩
        rw [show i + q - i = q by omega]
        cases q with
        | zero => simp
        | succ q =>
          simp [Nat.testBit_succ]
          rw [show (2 * (n / 2) + 1) / 2 = n / 2 by omega]
      · simp [hj]
        intro h; omega
    · rename_i h1
      rw [e2, show 2 * (n / 2) = n by omega]
def colsC : Nat → List Nat
  | 0 => (List.range' 0 32).map fun j => crcS (2 ^ j)
  | k + 1 => (colsC k).map (appC (colsC k))
theorem crcN_0 (k : Nat) : crcN k 0 = 0 := by
  have h := crcN_xor k 0 0
  rw [Nat.xor_self, Nat.xor_self] at h
  exact h
theorem colsC_eq : ∀ k, colsC k = (List.range' 0 32).map fun j => crcN (2 ^ k) (2 ^ j)
  | 0 => rfl
  | k + 1 => by
    show (colsC k).map (appC (colsC k)) = _
    rw [colsC_eq k, List.map_map]
    apply List.map_congr_left
    intro j hj
    show appC _ (crcN (2 ^ k) (2 ^ j)) = _
    have hj2 : j < 32 := by simp [List.mem_range'] at hj; omega
    have hlt : 2 ^ j < 4294967296 := Nat.pow_lt_pow_right (by omega) hj2
    have h := appC_eq (fun x => crcN (2 ^ k) x) (crcN_0 _) (crcN_xor _) 32 0 (crcN (2 ^ k) (2 ^ j)) (crcN_lt _ hlt)
    rw [h]
    show crcN (2 ^ k) (crcN (2 ^ k) (2 ^ j) * 2 ^ 0) = crcN (2 ^ (k + 1)) (2 ^ j)
    rw [Nat.pow_zero, Nat.mul_one, ← crcN_add, Nat.pow_succ, Nat.mul_two]
/-- the columns, step by step, each list made once -/
def stepC : Nat → List Nat → List Nat
  | 0, l => l
  | k + 1, l => stepC k (l.map (appC l))
theorem stepC_eq : ∀ k j, stepC k (colsC j) = colsC (j + k)
  | 0, _ => rfl
  | k + 1, j => by
    show stepC k (colsC (j + 1)) = _
    rw [stepC_eq k (j + 1), Nat.add_right_comm, Nat.add_assoc]
def colK0 : List Nat := [2197175160, 1, 2, 4, 8, 16, 32, 64, 128, 256, 512, 1024, 2048, 4096, 8192, 16384, 32768, 65536, 131072, 262144, 524288, 1048576, 2097152, 4194304, 8388608, 16777216, 33554432, 67108864, 134217728, 268435456, 536870912, 1073741824]
def colK1 : List Nat := [1098587580, 2197175160, 1, 2, 4, 8, 16, 32, 64, 128, 256, 512, 1024, 2048, 4096, 8192, 16384, 32768, 65536, 131072, 262144, 524288, 1048576, 2097152, 4194304, 8388608, 16777216, 33554432, 67108864, 134217728, 268435456, 536870912]
def colK2 : List Nat := [274646895, 549293790, 1098587580, 2197175160, 1, 2, 4, 8, 16, 32, 64, 128, 256, 512, 1024, 2048, 4096, 8192, 16384, 32768, 65536, 131072, 262144, 524288, 1048576, 2097152, 4194304, 8388608, 16777216, 33554432, 67108864, 134217728]
def colK3 : List Nat := [4067132163, 3778769143, 3348797215, 2329499855, 274646895, 549293790, 1098587580, 2197175160, 1, 2, 4, 8, 16, 32, 64, 128, 256, 512, 1024, 2048, 4096, 8192, 16384, 32768, 65536, 131072, 262144, 524288, 1048576, 2097152, 4194304, 8388608]
def colK4 : List Nat := [329422967, 658845934, 1317691868, 2635383736, 1069937025, 2139874050, 4279748100, 4223924985, 4067132163, 3778769143, 3348797215, 2329499855, 274646895, 549293790, 1098587580, 2197175160, 1, 2, 4, 8, 16, 32, 64, 128, 256, 512, 1024, 2048, 4096, 8192, 16384, 32768]
def colK5 : List Nat := [3712330424, 3211207553, 2065838579, 4131677158, 3915690301, 3609531531, 2879807463, 1386268991, 2772537982, 1332695565, 2665391130, 944848581, 1889697162, 3779394324, 3345318105, 2334619459, 329422967, 658845934, 1317691868, 2635383736, 1069937025, 2139874050, 4279748100, 4223924985, 4067132163, 3778769143, 3348797215, 2329499855, 274646895, 549293790, 1098587580, 2197175160]
def colK6 : List Nat := [1228700967, 2457401934, 555582061, 1111164122, 2222328244, 218129817, 436259634, 872519268, 1745038536, 3490077072, 2782971345, 1311636819, 2623273638, 1029407677, 2058815354, 4117630708, 4012927769, 3683426499, 3002414967, 1611012127, 3222024254, 2247366285, 235166699, 470333398, 940666796, 1881333592, 3762667184, 3311864721, 2401395155, 464041303, 928082606, 1856165212]
def colK7 : List Nat := [4060876286, 3790892301, 3322195179, 2313498407, 371599551, 743199102, 1486398204, 2972796408, 1737424129, 3474848258, 2614592245, 843281179, 1686562358, 3373124716, 2549607977, 704883363, 1409766726, 2819533452, 1441866729, 2883733458, 1378416981, 2756833962, 1297060773, 2594121546, 819083365, 1638166730, 3276333460, 2206053849, 51846467, 103692934, 207385868, 414771736]
def colK8 : List Nat := [1034342603, 2068685206, 4137370412, 3906662569, 3562641315, 2908707255, 1599260063, 3198520126, 2024235149, 4048470298, 3883005125, 3406798715, 2482194439, 571139839, 1142279678, 2284559356, 364593417, 729186834, 1458373668, 2916747336, 1582851681, 3165703362, 2089676661, 4179353322, 4158376741, 3931889851, 3512448903, 2807765503, 1264207119, 2528414238, 679830221, 1359660442]
def colK9 : List Nat := [1947135746, 3894271492, 3587689209, 2923684611, 1500229879, 3000459758, 1614984493, 3229968986, 2229707333, 203502203, 407004406, 814008812, 1628017624, 3256035248, 2177513873, 108529107, 217058214, 434116428, 868232856, 1736465712, 3472931424, 2616001073, 842429075, 1684858150, 3369716300, 2489311849, 760459811, 1520919622, 3041839244, 1869735913, 3739471826, 3089885525]
def colK10 : List Nat := [1771228834, 3542457668, 2745650297, 1117974019, 2235948038, 258461437, 516922874, 1033845748, 2067691496, 4135382992, 3910510929, 3620152403, 2858565207, 1361578591, 2723157182, 1095524237, 2191048474, 14485701, 28971402, 57942804, 115885608, 231771216, 463542432, 927084864, 1854169728, 3708339456, 3221093617, 2048364307, 4096728614, 3987884733, 3733513099, 3103633895]
def colK11 : List Nat := [3702618788, 3163456441, 2096198019, 4192396038, 4129927421, 3921614603, 3599915239, 2831730495, 1417541775, 2835083550, 1411093709, 2822187418, 1434592709, 2869185418, 1407508965, 2815017930, 1249898853, 2499797706, 739488613, 1478977226, 2957954452, 1701965273, 3403930546, 2418786709, 633075163, 1266150326, 2532300652, 674486313, 1348972626, 2697945252, 1148368825, 2296737650]
def colK12 : List Nat := [3178201592, 2134078721, 4268157442, 4179731189, 4155454235, 3937538247, 3498596223, 2768033807, 1276495599, 2552991198, 901475661, 1802951322, 3605902644, 2822184089, 1434603459, 2869206918, 1407535613, 2815071226, 1249464581, 2498929162, 738800357, 1477600714, 2955201428, 1705370073, 3410740146, 2474373525, 589010395, 1178020790, 2356041580, 489740329, 979480658, 1958961316]
def colK13 : List Nat := [4264641112, 4186894913, 4143026803, 3893318167, 3589460703, 2919879503, 1509937263, 3019874526, 1645426509, 3290853018, 2376117189, 514662779, 1029325558, 2058651116, 4117302232, 4013842753, 3683693683, 2999787031, 1618365151, 3236730302, 2218089869, 226938347, 453876694, 907753388, 1815506776, 3631013552, 3040201617, 1871176147, 3742352294, 3153326525, 1913361803, 3826723606]
def colK14 : List Nat := [4149242244, 3947668985, 3547675907, 2735082743, 1138781983, 2277563966, 174967437, 349934874, 699869748, 1399739496, 2799478992, 1213540177, 2427080354, 616098741, 1232197482, 2464394964, 539700057, 1079400114, 2158800228, 78982201, 157964402, 315928804, 631857608, 1263715216, 2527430432, 682064049, 1364128098, 2728256196, 1087878009, 2175756018, 112376597, 224753194]
def colK15 : List Nat := [3265640030, 2158434893, 77742699, 155485398, 310970796, 621941592, 1243883184, 2487766368, 763161649, 1526323298, 3052646596, 1846220665, 3692441330, 3183487765, 2121015515, 4242031030, 4233950621, 4250246603, 4282862951, 4217564223, 4079595151, 3820956655, 3264356655, 2160604335, 75243439, 150486878, 300973756, 601947512, 1203895024, 2407790048, 451648817, 903297634]
def colK16 : List Nat := [3762348204, 3312301993, 2402752931, 461522359, 923044718, 1846089436, 3692178872, 3184012673, 2122067443, 4244134886, 4229742909, 4258657419, 4266106855, 4184033599, 4146783375, 3954819055, 3533637935, 2698142895, 1145618351, 2291236702, 349079629, 698159258, 1396318516, 2792637032, 1225060897, 2450121794, 570408565, 1140817130, 2281634260, 168920409, 337840818, 675681636]
def colK17 : List Nat := [3351957165, 2323245995, 287285671, 574571342, 1149142684, 2298285368, 337013889, 674027778, 1348055556, 2696111112, 1149943521, 2299887042, 398888309, 797776618, 1595553236, 3191106472, 2038735265, 4077470530, 3825135733, 3255932443, 2177850055, 108184447, 216368894, 432737788, 865475576, 1730951152, 3461902304, 2572986673, 928326803, 1856653606, 3713307212, 3208991337]
def colK18 : List Nat := [83680447, 167360894, 334721788, 669443576, 1338887152, 2677774304, 987453745, 1974907490, 3949814980, 3543580537, 2743142403, 1122920183, 2245840366, 240512301, 481024602, 962049204, 1924098408, 3848196816, 3478246225, 2605699155, 863229527, 1726459054, 3452918108, 2658321481, 956956259, 1913912518, 3827825036, 3450045929, 2662038819, 951749815, 1903499630, 3806999260]
def colK19 : List Nat := [1806683169, 3613366338, 2874361461, 1397422619, 2794845238, 1221041821, 2442083642, 653397125, 1306794250, 2613588500, 846992089, 1693984178, 3387968356, 2517426233, 703968899, 1407937798, 2815875596, 1245823721, 2491647442, 753630549, 1507261098, 3014522196, 1656200281, 3312400562, 2402420629, 461928923, 923857846, 1847715692, 3695431384, 3177966401, 2134614131, 4269228262]
def colK20 : List Nat := [335823302, 671646604, 1343293208, 2686586416, 1168665233, 2337330466, 323869877, 647739754, 1295479508, 2590959016, 825343393, 1650686786, 3301373572, 2355207161, 489636099, 979272198, 1958544396, 3917088792, 3608700609, 2883369843, 1381302295, 2762604590, 1287157421, 2574314842, 923642949, 1847285898, 3694571796, 3179353305, 2129551171, 4259102342, 4266986493, 4182139147]
def colK21 : List Nat := [1746360842, 3492721684, 2779848409, 1317948227, 2635896454, 1070947325, 2141894650, 4283789300, 4215712025, 4083229891, 3811458935, 3283093535, 2190239439, 16038767, 32077534, 64155068, 128310136, 256620272, 513240544, 1026481088, 2052962176, 4105924352, 3969558769, 3705218835, 3160291543, 2102396767, 4204793534, 4037831565, 3837043179, 3431281959, 2632326335, 1008750479]
def colK22 : List Nat := [3791599207, 3323075135, 2311602831, 377287663, 754575326, 1509150652, 3018301304, 1646479361, 3292958722, 2371966709, 523164443, 1046328886, 2092657772, 4185315544, 4144088897, 3958372467, 3526592023, 2710272735, 1190822735, 2381645470, 503741389, 1007482778, 2014965556, 4029931112, 3851143713, 3472614067, 2551952279, 903549407, 1807098814, 3614197628, 2872375305, 1401259747]
def colK23 : List Nat := [2339516652, 319297321, 638594642, 1277189284, 2554378568, 896336993, 1792673986, 3585347972, 2927908345, 1491393795, 2982787590, 1719599869, 3439199738, 2618326277, 1036815611, 2073631222, 4147262444, 3951563049, 3539752099, 2685722551, 1170590111, 2341180222, 318460045, 636920090, 1273840180, 2547680360, 710508065, 1421016130, 2842032260, 1462208505, 2924417010, 1500670229]
def colK24 : List Nat := [1444372256, 2888744512, 1571883633, 3143767266, 1932025653, 3864051306, 3377269285, 2541118139, 721466247, 1442932494, 2885864988, 1575611081, 3151222162, 1917574613, 3835149226, 3435332005, 2624222651, 1027120519, 2054241038, 4108482076, 3962084041, 3720168291, 3197562935, 2025952927, 4051905854, 3874106509, 3359125483, 2510039335, 785654975, 1571309950, 3142619900, 1934447369]
def colK25 : List Nat := [3114523856, 1990971217, 3981942434, 3745729461, 3144343963, 1933161927, 3866323854, 3372917229, 2549691691, 706616487, 1413232974, 2826465948, 1427936201, 2855872402, 1369323989, 2738647978, 1133810085, 2267620170, 197013605, 394027210, 788054420, 1576108840, 3152217680, 1915386449, 3830772898, 3443892149, 2674346395, 992142791, 1984285582, 3968571164, 3707459785, 3155871587]
def colK26 : List Nat := [3710744734, 3216410573, 2055305579, 4110611158, 4025062237, 3661582411, 2979190375, 1724504639, 3449009278, 2664111629, 947538667, 1895077334, 3790154668, 3325960617, 2307929507, 382475703, 764951406, 1529902812, 3059805624, 1764601217, 3529202434, 2707079413, 1197078299, 2394156598, 411806365, 823612730, 1647225460, 3294450920, 2371280673, 524404915, 1048809830, 2097619660]
def colK27 : List Nat := [1141075018, 2282150036, 367118297, 734236594, 1468473188, 2936946376, 1542458209, 3084916418, 1781291893, 3562583786, 2908560165, 1599488187, 3198976374, 2025157661, 4050315322, 3879315077, 3416210427, 2463236359, 541619455, 1083238910, 2166477820, 128962825, 257925650, 515851300, 1031702600, 2063405200, 4126810400, 3994563761, 3655081875, 3058977239, 1766122847, 3532245694]
def colK28 : List Nat := [1175610749, 2351221498, 497410821, 994821642, 1989643284, 3979286568, 3753002657, 3129539507, 1895661975, 3791323950, 3323621549, 2312673195, 375216551, 750433102, 1500866204, 3001732408, 1614408833, 3228817666, 2232141045, 268173083, 536346166, 1072692332, 2145384664, 4290769328, 4203976081, 4039859667, 3833253207, 3441028191, 2682236495, 978528879, 1957057758, 3914115516]
def colK29 : List Nat := [1481463145, 2962926290, 1691951957, 3383903914, 2525559717, 687702459, 1375404918, 2750809836, 1107327785, 2214655570, 233675349, 467350698, 934701396, 1869402792, 3738805584, 3093249105, 1968311891, 3936623782, 3500429245, 2762271115, 1285924327, 2571848654, 930799981, 1861599962, 3723199924, 3191569817, 2040171971, 4080343942, 3817226749, 3269522699, 2150472935, 95899455]
def colK30 : List Nat := [3905762274, 3564507445, 2902480027, 1609359303, 3218718606, 2053048813, 4106097626, 3968880965, 3704411259, 3161841159, 2097662719, 4195325438, 4059258125, 3859467499, 3388600103, 2518657215, 701704079, 1403408158, 2806816316, 1265977993, 2531955986, 674847957, 1349695914, 2699391828, 1143378009, 2286756018, 360069013, 720138026, 1440276052, 2880552104, 1385107361, 2770214722]
def colK31 : List Nat := [2197175160, 1, 2, 4, 8, 16, 32, 64, 128, 256, 512, 1024, 2048, 4096, 8192, 16384, 32768, 65536, 131072, 262144, 524288, 1048576, 2097152, 4194304, 8388608, 16777216, 33554432, 67108864, 134217728, 268435456, 536870912, 1073741824]
theorem colK0_eq : colsC 0 = colK0 := by decide
theorem colK1_eq : colsC 1 = colK1 := by
  show (colsC 0).map (appC (colsC 0)) = _
  rw [colK0_eq]
  kernel_rfl
theorem colK2_eq : colsC 2 = colK2 := by
  show (colsC 1).map (appC (colsC 1)) = _
  rw [colK1_eq]
  kernel_rfl
theorem colK3_eq : colsC 3 = colK3 := by
  show (colsC 2).map (appC (colsC 2)) = _
  rw [colK2_eq]
  kernel_rfl
theorem colK4_eq : colsC 4 = colK4 := by
  show (colsC 3).map (appC (colsC 3)) = _
  rw [colK3_eq]
  kernel_rfl
theorem colK5_eq : colsC 5 = colK5 := by
  show (colsC 4).map (appC (colsC 4)) = _
  rw [colK4_eq]
  kernel_rfl
theorem colK6_eq : colsC 6 = colK6 := by
  show (colsC 5).map (appC (colsC 5)) = _
  rw [colK5_eq]
  kernel_rfl
theorem colK7_eq : colsC 7 = colK7 := by
  show (colsC 6).map (appC (colsC 6)) = _
  rw [colK6_eq]
  kernel_rfl
theorem colK8_eq : colsC 8 = colK8 := by
  show (colsC 7).map (appC (colsC 7)) = _
  rw [colK7_eq]
  kernel_rfl
theorem colK9_eq : colsC 9 = colK9 := by
  show (colsC 8).map (appC (colsC 8)) = _
  rw [colK8_eq]
  kernel_rfl
theorem colK10_eq : colsC 10 = colK10 := by
  show (colsC 9).map (appC (colsC 9)) = _
  rw [colK9_eq]
  kernel_rfl
theorem colK11_eq : colsC 11 = colK11 := by
  show (colsC 10).map (appC (colsC 10)) = _
  rw [colK10_eq]
  kernel_rfl
theorem colK12_eq : colsC 12 = colK12 := by
  show (colsC 11).map (appC (colsC 11)) = _
  rw [colK11_eq]
  kernel_rfl
theorem colK13_eq : colsC 13 = colK13 := by
  show (colsC 12).map (appC (colsC 12)) = _
  rw [colK12_eq]
  kernel_rfl
theorem colK14_eq : colsC 14 = colK14 := by
  show (colsC 13).map (appC (colsC 13)) = _
  rw [colK13_eq]
  kernel_rfl
theorem colK15_eq : colsC 15 = colK15 := by
  show (colsC 14).map (appC (colsC 14)) = _
  rw [colK14_eq]
  kernel_rfl
theorem colK16_eq : colsC 16 = colK16 := by
  show (colsC 15).map (appC (colsC 15)) = _
  rw [colK15_eq]
  kernel_rfl
theorem colK17_eq : colsC 17 = colK17 := by
  show (colsC 16).map (appC (colsC 16)) = _
  rw [colK16_eq]
  kernel_rfl
theorem colK18_eq : colsC 18 = colK18 := by
  show (colsC 17).map (appC (colsC 17)) = _
  rw [colK17_eq]
  kernel_rfl
theorem colK19_eq : colsC 19 = colK19 := by
  show (colsC 18).map (appC (colsC 18)) = _
  rw [colK18_eq]
  kernel_rfl
theorem colK20_eq : colsC 20 = colK20 := by
  show (colsC 19).map (appC (colsC 19)) = _
  rw [colK19_eq]
  kernel_rfl
theorem colK21_eq : colsC 21 = colK21 := by
  show (colsC 20).map (appC (colsC 20)) = _
  rw [colK20_eq]
  kernel_rfl
theorem colK22_eq : colsC 22 = colK22 := by
  show (colsC 21).map (appC (colsC 21)) = _
  rw [colK21_eq]
  kernel_rfl
theorem colK23_eq : colsC 23 = colK23 := by
  show (colsC 22).map (appC (colsC 22)) = _
  rw [colK22_eq]
  kernel_rfl
theorem colK24_eq : colsC 24 = colK24 := by
  show (colsC 23).map (appC (colsC 23)) = _
  rw [colK23_eq]
  kernel_rfl
theorem colK25_eq : colsC 25 = colK25 := by
  show (colsC 24).map (appC (colsC 24)) = _
  rw [colK24_eq]
  kernel_rfl
theorem colK26_eq : colsC 26 = colK26 := by
  show (colsC 25).map (appC (colsC 25)) = _
  rw [colK25_eq]
  kernel_rfl
theorem colK27_eq : colsC 27 = colK27 := by
  show (colsC 26).map (appC (colsC 26)) = _
  rw [colK26_eq]
  kernel_rfl
theorem colK28_eq : colsC 28 = colK28 := by
  show (colsC 27).map (appC (colsC 27)) = _
  rw [colK27_eq]
  kernel_rfl
theorem colK29_eq : colsC 29 = colK29 := by
  show (colsC 28).map (appC (colsC 28)) = _
  rw [colK28_eq]
  kernel_rfl
theorem colK30_eq : colsC 30 = colK30 := by
  show (colsC 29).map (appC (colsC 29)) = _
  rw [colK29_eq]
  kernel_rfl
theorem colK31_eq : colsC 31 = colK31 := by
  show (colsC 30).map (appC (colsC 30)) = _
  rw [colK30_eq]
  kernel_rfl
theorem crcN_big : crcN (2 ^ 31) 1 = crcN 1 1 := by
  have h : (colsC 31).getD 0 0 = 2197175160 := by rw [colK31_eq]; rfl
  have e : ∀ f : Nat → Nat, ((List.range' 0 32).map f).getD 0 0 = f 0 := fun f => rfl
  rw [colsC_eq, e] at h
  rw [show crcN 1 1 = 2197175160 by decide]
  rw [Nat.pow_zero] at h
  exact h
theorem crcN_per : crcN 2147483647 1 = 1 := by
  have h := crcN_big
  rw [show 2 ^ 31 = 2147483647 + 1 by decide, crcN_add] at h
  exact crcN_inj 1 (crcN_lt _ (by decide)) (by decide) h

/-- no number of a row of 2 ^ k divides the great prime -/
def noDiv : Nat → Nat → Bool
  | 0, lo => 2147483647 % lo != 0
  | k + 1, lo => noDiv k lo && noDiv k (lo + 2 ^ k)
theorem noDiv_at : ∀ (k lo : Nat), noDiv k lo = true → ∀ t, lo ≤ t → t < lo + 2 ^ k → 2147483647 % t ≠ 0
  | 0, lo, h, t, h1, h2 => by
    have : t = lo := by rw [Nat.pow_zero] at h2; omega
    subst this
    simpa [noDiv] using h
  | k + 1, lo, h, t, h1, h2 => by
    unfold noDiv at h
    rw [Bool.and_eq_true] at h
    rw [Nat.pow_succ] at h2
    by_cases ht : t < lo + 2 ^ k
    · exact noDiv_at k lo h.1 t h1 ht
    · exact noDiv_at k (lo + 2 ^ k) h.2 t (by omega) (by omega)
theorem prime_M {g h : Nat} (e : 2147483647 = g * h) (hg : 1 < g) : h ≤ 1 := by
  have key : ∀ t, 2 ≤ t → t < 2 + 2 ^ 16 → 2147483647 % t ≠ 0 := noDiv_at 16 2 (by kernel_rfl)
  rcases Nat.lt_or_ge 1 h with h1 | h1
  · rcases Nat.lt_or_ge g 65538 with h2 | h2
    · exact absurd (by rw [e]; exact Nat.mul_mod_right g h) (key g hg (by omega))
    · rcases Nat.lt_or_ge h 65538 with h3 | h3
      · exact absurd (by rw [e]; exact Nat.mul_mod_left g h) (key h h1 (by omega))
      · have := Nat.mul_le_mul h2 h3
        omega
  · exact h1
theorem crcN_mul {d : Nat} (hd : crcN d 1 = 1) : ∀ q, crcN (d * q) 1 = 1
  | 0 => rfl
  | q + 1 => by rw [Nat.mul_succ, crcN_add, crcN_mul hd q, hd]
theorem crcN_gcd (a b : Nat) : crcN a 1 = 1 → crcN b 1 = 1 → crcN (Nat.gcd a b) 1 = 1 := by
  induction a, b using Nat.gcd.induction with
  | H0 n => intro _ h; rwa [Nat.gcd_zero_left]
  | H1 m n hm ih =>
    intro h1 h2
    rw [Nat.gcd_rec]
    refine ih ?_ h1
    have e : crcN (m * (n / m) + n % m) 1 = 1 := by rw [Nat.div_add_mod]; exact h2
    rw [crcN_add, crcN_mul h1] at e
    exact e
/-- two bits that are less than 2 ^ 31 - 1 places apart are told from each other -/
theorem crcN_order {d : Nat} (h0 : 0 < d) (h1 : d < 2147483647) : crcN d 1 ≠ 1 := by
  intro h
  have hg := crcN_gcd d 2147483647 h crcN_per
  obtain ⟨q, hq⟩ := Nat.gcd_dvd_right d 2147483647
  have hle := Nat.le_of_dvd h0 (Nat.gcd_dvd_left d 2147483647)
  generalize Nat.gcd d 2147483647 = g at *
  rcases Nat.lt_or_ge 1 g with h2 | h2
  · have := prime_M hq h2
    have h3 : q = 0 ∨ q = 1 := by omega
    rcases h3 with rfl | rfl <;> omega
  · have h3 : g = 0 ∨ g = 1 := by omega
    rcases h3 with rfl | rfl
    · omega
    · exact absurd hg (by decide)

-- what was sealed, turned
theorem crcN_hi : ∀ (m : Nat), crcN 8 (256 * m) = m := by
  intro m
  have h2 : ∀ x, crcS (2 * x) = x := by
    intro x; unfold crcS; rw [if_neg (by omega)]; omega
  rw [show 256 * m = 2 * (2 * (2 * (2 * (2 * (2 * (2 * (2 * m))))))) by omega]
  simp only [crcN, h2]
theorem lo_hi (c : Nat) : c = c % 256 ^^^ 256 * (c / 256) := by
  apply Nat.eq_of_testBit_eq
  intro j
  rw [Nat.testBit_xor, show (256 : Nat) = 2 ^ 8 by decide, Nat.testBit_mod_two_pow, Nat.testBit_two_pow_mul, Nat.testBit_div_two_pow]
  by_cases hj : j < 8
  · simp [hj, show ¬ 8 ≤ j by omega]
  · simp [hj, show 8 ≤ j by omega, show j - 8 + 8 = j by omega]
theorem crcN_byte (n c : Nat) : crcN 8 (n ^^^ c) = crcB n (UInt8.ofNat c) ^^^ c / 256 := by
  unfold crcB
  rw [UInt8.toNat_ofNat', show (2 : Nat) ^ 8 = 256 by decide]
  conv => lhs; rw [lo_hi c]
  rw [← Nat.xor_assoc, crcN_xor, crcN_hi]
theorem addC_sumB (r c : Nat) (hc : c < 4294967296) : addC r (sumB c) = crcN 32 (r ^^^ c) := by
  rw [show (32 : Nat) = 8 + (8 + (8 + 8)) by decide, crcN_add, crcN_byte, crcN_add, crcN_byte, crcN_add, crcN_byte, crcN_byte]
  rw [show c / 256 / 256 = c / 65536 by omega, show c / 65536 / 256 = c / 16777216 by omega, show c / 16777216 / 256 = 0 by omega, Nat.xor_zero]
  rfl
theorem xor_not {r : Nat} (h : r < 4294967296) : r ^^^ (4294967295 - r) = 4294967295 := by
  apply Nat.eq_of_testBit_eq
  intro j
  rw [Nat.testBit_xor, show 4294967295 - r = 2 ^ 32 - (r + 1) by omega, Nat.testBit_two_pow_sub_succ (by omega), show (4294967295 : Nat) = 2 ^ 32 - 1 by decide, Nat.testBit_two_pow_sub_one]
  by_cases hj : j < 32
  · simp [hj]
  · have : r.testBit j = false := Nat.testBit_lt_two_pow (Nat.lt_of_lt_of_le (show r < 2 ^ 32 by omega) (Nat.pow_le_pow_right (by omega) (by omega)))
    simp [hj, this]
theorem open_sum {l : List UInt8} (h : openE l = 0) : addC 4294967295 l = crcN 32 4294967295 := by
  unfold openE at h
  split at h
  · omega
  · split at h
    · rename_i h4 hs
      have hr := addC_lt (l.take (l.length - 4)) (n := 4294967295) (by decide)
      rw [← hs]
      unfold sealB
      rw [addC_append, addC_sumB _ _ (sumC_lt _)]
      unfold sumC
      rw [xor_not hr]
    · omega

def xorsC (T : Nat) (ps : List Nat) : Nat := ps.foldr (fun p x => crcN (T - p) 1 ^^^ x) 0
theorem addC_flips (n : Nat) : ∀ (ps : List Nat) (l : List UInt8), (∀ p ∈ ps, p < 8 * l.length) → addC n (flipsB l ps) = addC n l ^^^ xorsC (8 * l.length) ps
  | [], l, _ => by show _ = _ ^^^ 0; rw [Nat.xor_zero]; rfl
  | p :: ps, l, h => by
    show addC n (flipsB (flipB l p) ps) = _
    have hp := h p List.mem_cons_self
    rw [addC_flips n ps (flipB l p) (fun q hq => by rw [flipB_len]; exact h q (List.mem_cons_of_mem _ hq)), addC_flip n hp, flipB_len]
    show _ = addC n l ^^^ (crcN (8 * l.length - p) 1 ^^^ xorsC (8 * l.length) ps)
    rw [Nat.xor_assoc]
theorem par_one (k : Nat) : par 32 (crcN k 1) = true := by rw [par_crcN k (by decide)]; decide
theorem crcN_one_lt (k : Nat) : crcN k 1 < 4294967296 := crcN_lt k (by decide)
theorem crcN_two {T p q : Nat} (hp : p < T) (hq : q < T) (hT : T ≤ 2147483647) (h : crcN (T - p) 1 = crcN (T - q) 1) : p = q := by
  have key : ∀ a b : Nat, a < b → b < T → crcN (T - a) 1 = crcN (T - b) 1 → False := by
    intro a b hab hb h
    rw [show T - a = (b - a) + (T - b) by omega, crcN_add] at h
    exact crcN_order (show 0 < b - a by omega) (by omega) (crcN_inj _ (crcN_one_lt _) (by decide) h)
  rcases Nat.lt_trichotomy p q with h1 | h1 | h1
  · exact (key p q h1 hq h).elim
  · exact h1
  · exact (key q p h1 hp h.symm).elim
/-- up to three bits that are turned in what is sealed are found -/
theorem open_flips {l : List UInt8} {ps : List Nat} (h : openE l = 0) (h3 : ps.length ≤ 3) (hb : ∀ p ∈ ps, p < 8 * l.length) (hM : 8 * l.length ≤ 2147483647) (h' : openE (flipsB l ps) = 0) : flipsB l ps = l := by
  have e := addC_flips 4294967295 ps l hb
  rw [open_sum h', open_sum h] at e
  have hx : xorsC (8 * l.length) ps = 0 := by
    have : crcN 32 4294967295 ^^^ crcN 32 4294967295 = crcN 32 4294967295 ^^^ (crcN 32 4294967295 ^^^ xorsC (8 * l.length) ps) := by rw [← e]
    rw [← Nat.xor_assoc, Nat.xor_self, Nat.zero_xor] at this
    exact this.symm
  match ps, h3, hb, hx with
  | [], _, _, _ => rfl
  | [p], _, hb, hx => exact absurd (congrArg (par 32) hx) (by show ¬ par 32 (_ ^^^ 0) = _; rw [Nat.xor_zero, par_one, par_zero]; decide)
  | [p, q], _, hb, hx =>
    have hx2 : crcN (8 * l.length - p) 1 ^^^ (crcN (8 * l.length - q) 1 ^^^ 0) = 0 := hx
    rw [Nat.xor_zero] at hx2
    have hp := hb p List.mem_cons_self
    have hpq := crcN_two hp (hb q (List.mem_cons_of_mem _ List.mem_cons_self)) hM (xor_zero_eq hx2)
    subst hpq
    exact flipB_flipB hp
  | [p, q, r], _, hb, hx => exact absurd (congrArg (par 32) hx) (by show ¬ par 32 (_ ^^^ (_ ^^^ (_ ^^^ 0))) = _; rw [Nat.xor_zero, par_xor, par_xor, par_one, par_one, par_one, par_zero]; decide)
  | _ :: _ :: _ :: _ :: _, h3, _, _ => exact absurd h3 (by simp)

-- flips in rows of parts
theorem flipB_left {a b : List UInt8} {p : Nat} (h : p < 8 * a.length) : flipB (a ++ b) p = flipB a p ++ b := by
  have h8 : p / 8 < a.length := by omega
  unfold flipB
  rw [List.set_append_left _ _ h8]
  simp [List.getD, List.getElem?_append_left h8]
theorem flipB_right {a b : List UInt8} {p : Nat} (h : 8 * a.length ≤ p) : flipB (a ++ b) p = a ++ flipB b (p - 8 * a.length) := by
  have h8 : a.length ≤ p / 8 := by omega
  unfold flipB
  rw [List.set_append_right _ _ h8, show (p - 8 * a.length) / 8 = p / 8 - a.length by omega, show (p - 8 * a.length) % 8 = p % 8 by omega]
  simp [List.getD, List.getElem?_append_right h8]
/-- the flips that fall into a row's first T bits, and the others -/
theorem flips_split : ∀ (ps : List Nat) (a b : List UInt8), (∀ p ∈ ps, p < 8 * (a.length + b.length)) → ∃ p1 p2 : List Nat, flipsB (a ++ b) ps = flipsB a p1 ++ flipsB b p2 ∧ p1.length ≤ ps.length ∧ p2.length ≤ ps.length ∧ (∀ p ∈ p1, p < 8 * a.length) ∧ (∀ p ∈ p2, p < 8 * b.length)
  | [], a, b, _ => ⟨[], [], rfl, Nat.le_refl _, Nat.le_refl _, fun _ h => by simp at h, fun _ h => by simp at h⟩
  | p :: ps, a, b, h => by
    have hp := h p List.mem_cons_self
    have hr := fun q hq => h q (List.mem_cons_of_mem p hq)
    by_cases h1 : p < 8 * a.length
    · obtain ⟨p1, p2, e, l1, l2, b1, b2⟩ := flips_split ps (flipB a p) b (by rw [flipB_len]; exact hr)
      rw [flipB_len] at b1
      refine ⟨p :: p1, p2, ?_, by simp; omega, by simp; omega, ?_, b2⟩
      · show flipsB (flipB (a ++ b) p) ps = flipsB (flipB a p) p1 ++ _
        rw [flipB_left h1, e]
      · intro q hq
        rcases List.mem_cons.1 hq with rfl | hq
        · exact h1
        · exact b1 q hq
    · obtain ⟨p1, p2, e, l1, l2, b1, b2⟩ := flips_split ps a (flipB b (p - 8 * a.length)) (by rw [flipB_len]; exact hr)
      rw [flipB_len] at b2
      refine ⟨p1, (p - 8 * a.length) :: p2, ?_, by simp; omega, by simp; omega, b1, ?_⟩
      · show flipsB (flipB (a ++ b) p) ps = _ ++ flipsB (flipB b (p - 8 * a.length)) p2
        rw [flipB_right (by omega), e]
      · intro q hq
        rcases List.mem_cons.1 hq with rfl | hq
        · omega
        · exact b2 q hq
end Go.Proofs.YtfmjgkfblejknaaGreat

/-
  Frames with bits turned: the plain law.
-/
namespace Go.Proofs.YtfmjgkfblejknaaGreat
open Go.RowKit
set_option linter.unusedVariables false
set_option linter.unusedSimpArgs false

theorem flipB_mid {pre F post : List UInt8} {p : Nat} (h : p < 8 * F.length) : flipB (pre ++ (F ++ post)) (8 * pre.length + p) = pre ++ (flipB F p ++ post) := by
  rw [flipB_right (by omega), show 8 * pre.length + p - 8 * pre.length = p by omega, flipB_left h]
theorem flips_mid : ∀ (ps : List Nat) (pre F post : List UInt8), (∀ p ∈ ps, p < 8 * F.length) → flipsB (pre ++ (F ++ post)) (ps.map (8 * pre.length + ·)) = pre ++ (flipsB F ps ++ post)
  | [], _, _, _, _ => rfl
  | p :: ps, pre, F, post, h => by
    show flipsB (flipB (pre ++ (F ++ post)) (8 * pre.length + p)) _ = _
    rw [flipB_mid (h p List.mem_cons_self), flips_mid ps pre (flipB F p) post (fun q hq => by rw [flipB_len]; exact h q (List.mem_cons_of_mem _ hq))]
    rfl
theorem headN_head (k : Int) (n : Nat) (hn : n ≤ 60000) (x : List UInt8) : headN (sealB (headB k n) ++ x) = n := by
  have g : ∀ j, j < 4 → (sealB (headB k n) ++ x).getD j 0 = (headB k n).getD j 0 := by
    intro j hj
    unfold sealB
    simp only [List.getD_eq_getElem?_getD]
    rw [List.append_assoc, List.getElem?_append_left (by simpa [headB] using hj)]
  unfold headN
  rw [g 1 (by omega), g 2 (by omega), g 3 (by omega)]
  have e1 : (n / 65536) % 256 * 65536 + (n / 256) % 256 * 256 + n % 256 = n := by omega
  simpa [headB, List.getD] using e1
theorem takeR_bad1 {r : List UInt8} (h : openE (r.take 8) ≠ 0) : (takeR r).1 ≠ 0 := by
  unfold takeR
  split
  · decide
  · exact h
theorem takeR_bad2 {r : List UInt8} (h : openE ((r.drop 8).take (headN r + 4)) ≠ 0) : (takeR r).1 ≠ 0 := by
  unfold takeR
  split
  · decide
  · split
    · assumption
    · split
      · decide
      · split
        · decide
        · exact h
/-- a frame with up to three bits turned is told as it was, or refused -/
theorem frame_flips (k : Int) (l post : List UInt8) (hl : l.length ≤ 60000) {ps : List Nat} (h3 : ps.length ≤ 3) (hb : ∀ p ∈ ps, p < 8 * (frameB k l).length) :
    flipsB (frameB k l) ps = frameB k l ∨ (takeR (flipsB (frameB k l) ps ++ post)).1 ≠ 0 := by
  have hH : (sealB (headB k l.length)).length = 8 := by rw [sealB_len]; rfl
  have hB := sealB_len l
  have hf : frameB k l = sealB (headB k l.length) ++ sealB l := rfl
  rw [frameB_len] at hb
  obtain ⟨p1, p2, e, l1, l2, b1, b2⟩ := flips_split ps (sealB (headB k l.length)) (sealB l) (fun p hp => by have := hb p hp; omega)
  rw [hf, e]
  have fl1 := flipsB_len p1 (sealB (headB k l.length))
  have fl2 := flipsB_len p2 (sealB l)
  by_cases o1 : openE (flipsB (sealB (headB k l.length)) p1) = 0
  · have e1 := open_flips (openE_seal _) (by omega) b1 (by omega) o1
    rw [e1]
    by_cases o2 : openE (flipsB (sealB l) p2) = 0
    · left
      rw [open_flips (openE_seal _) (by omega) b2 (by omega) o2]
    · right
      apply takeR_bad2
      rw [List.append_assoc, headN_head k _ hl]
      have e3 : (sealB (headB k l.length) ++ (flipsB (sealB l) p2 ++ post)).drop 8 = flipsB (sealB l) p2 ++ post := by rw [← hH, List.drop_left]
      have e4 : (flipsB (sealB l) p2 ++ post).take (l.length + 4) = flipsB (sealB l) p2 := by rw [← hB, ← fl2, List.take_left]
      rw [e3, e4]
      exact o2
  · right
    apply takeR_bad1
    have e3 : (flipsB (sealB (headB k l.length)) p1 ++ flipsB (sealB l) p2 ++ post).take 8 = flipsB (sealB (headB k l.length)) p1 := by
      rw [List.append_assoc, show (8 : Nat) = (flipsB (sealB (headB k l.length)) p1).length by rw [fl1, hH], List.take_left]
    rw [e3]
    exact o1
/-- rows of frames, of which one has up to three bits turned -/
theorem split_flips (L : List (List UInt8)) (hL : ∀ x ∈ L, x.length ≤ 60000) {m : Nat} (hm : m < L.length) {ps : List Nat} (h3 : ps.length ≤ 3) (hb : ∀ p ∈ ps, p < 8 * (endAt L (m + 1) - endAt L m)) :
    (flipsB (frsB 0 L) (ps.map (8 * endAt L m + ·)) = frsB 0 L ∧ splitL (flipsB (frsB 0 L) (ps.map (8 * endAt L m + ·))) = (kindsL 0 L.length, L, endAt L L.length, 0)) ∨
    (flipsB (frsB 0 L) (ps.map (8 * endAt L m + ·)) ≠ frsB 0 L ∧ ∃ e, e ≠ 0 ∧ splitL (flipsB (frsB 0 L) (ps.map (8 * endAt L m + ·))) = (kindsL 0 m, L.take m, endAt L m, e)) := by
  have hsplit : frsB 0 L = frsB 0 (L.take m) ++ (frameB (kindOf m : Int) L[m] ++ frsB (m + 1) (L.drop (m + 1))) := by
    conv => lhs; rw [← List.take_append_drop m L]
    rw [frsB_append, List.length_take, Nat.min_eq_left (by omega), Nat.zero_add, List.drop_eq_getElem_cons hm, frsB]
  have hend : (frsB 0 (L.take m)).length = endAt L m := rfl
  have hlen := frameB_len (kindOf m : Int) L[m]
  have hb2 : ∀ p ∈ ps, p < 8 * (frameB (kindOf m : Int) L[m]).length := by
    intro p hp
    have := hb p hp
    rw [endAt_snoc L hm] at this
    omega
  have hmid := flips_mid ps (frsB 0 (L.take m)) (frameB (kindOf m : Int) L[m]) (frsB (m + 1) (L.drop (m + 1))) hb2
  rw [← hsplit, hend] at hmid
  rcases frame_flips (kindOf m : Int) L[m] (frsB (m + 1) (L.drop (m + 1))) (hL _ (List.getElem_mem hm)) h3 hb2 with he | he
  · left
    rw [he, ← hsplit] at hmid
    rw [hmid]
    refine ⟨rfl, ?_⟩
    have hfull : (frsB 0 L).length = endAt L L.length := by unfold endAt; rw [List.take_length]
    have h := split_cut L L.length (endAt L L.length) hL (Nat.le_refl _) (Nat.le_refl _) (fun h => absurd h (by omega)) (Nat.le_refl _)
    rw [← hfull, List.take_length, List.take_length, if_pos rfl] at h
    rw [h, hfull]
  · right
    have hfl := flipsB_len ps (frameB (kindOf m : Int) L[m])
    generalize flipsB (frameB (kindOf m : Int) L[m]) ps = F at *
    generalize frsB (m + 1) (L.drop (m + 1)) = post at *
    rw [hmid]
    have hsp : splitL (frsB 0 (L.take m) ++ (F ++ post)) = (kindsL 0 m, L.take m, endAt L m, (takeR (F ++ post)).1) := by
      have hlm : (L.take m).length = m := by rw [List.length_take]; omega
      have hmm : m ≤ (frsB 0 (L.take m)).length := by
        have : ∀ n, n ≤ L.length → n ≤ endAt L n := by
          intro n
          induction n with
          | zero => intro _; omega
          | succ m ih => intro hm; have := ih (by omega); rw [endAt_snoc L (show m < L.length by omega)]; omega
        exact this m (by omega)
      have hgo := splitG_frs (frsB 0 (L.take m) ++ (F ++ post)) (L.take m) 0 ((frsB 0 (L.take m) ++ (F ++ post)).length + 1 - m) [] (F ++ post) [] [] rfl (fun x hx => hL x (List.mem_of_mem_take hx))
      have hle : (frsB 0 (L.take m) ++ (F ++ post)).length = endAt L m + F.length + post.length := by rw [List.length_append, List.length_append, hend]; omega
      rw [hend] at hmm
      rw [hlm, List.length_nil, Nat.zero_add, List.nil_append, List.nil_append, hend, hle, show endAt L m + F.length + post.length + 1 - m + m = endAt L m + F.length + post.length + 1 by omega] at hgo
      unfold splitL
      rw [hle, hgo]
      obtain ⟨f, hf⟩ : ∃ f, endAt L m + F.length + post.length + 1 - m = f + 1 := ⟨endAt L m + F.length + post.length - m, by omega⟩
      rw [hf]
      unfold splitG
      have hd : (frsB 0 (L.take m) ++ (F ++ post)).drop (endAt L m) = F ++ post := by rw [← hend, List.drop_left]
      rw [if_pos (by rw [hle]; omega), hd, if_neg he]
    refine ⟨fun h => he ?_, _, he, hsp⟩
    rw [h] at hsp
    have hfull : (frsB 0 L).length = endAt L L.length := by unfold endAt; rw [List.take_length]
    have h := split_cut L L.length (endAt L L.length) hL (Nat.le_refl _) (Nat.le_refl _) (fun h => absurd h (by omega)) (Nat.le_refl _)
    rw [← hfull, List.take_length, List.take_length, if_pos rfl, hsp] at h
    exact congrArg (fun x => x.2.2.2) h
end Go.Proofs.YtfmjgkfblejknaaGreat

/-
  The walk of clepsydraref1.Split.
-/
namespace Go.Proofs.YtfmjgkfblejknaaGreat
open Go.RowKit
set_option linter.unusedVariables false
set_option linter.unusedSimpArgs false

end Go.Proofs.YtfmjgkfblejknaaGreat

/-
  []byte(s): a new slice that holds a text's bytes.
-/
namespace Go.Proofs.YtfmjgkfblejknaaGreat
open Go.RowKit
set_option linter.unusedVariables false
set_option linter.unusedSimpArgs false

theorem conv_b (w : World) (l : List UInt8) : ∃ c w', (convert 9 22 (.string (tx l))).run Tryz.prog w = .ok (.slice (some ⟨w.heap.size, 0, none⟩) l.length c) w' ∧ l.length ≤ c ∧
    Rd w' w'.heap.size 1 (some ⟨w.heap.size, 0, none⟩) l.length (bvs l) ∧ Up w w' ∧ (∀ j, j < l.length → w'.frozen? ⟨w.heap.size, j, none⟩ = false) ∧ w.heap.size < w'.heap.size := by
  have hrun := Lib.run_convert_string_bytes (P := Tryz.prog) w 9 22 5 (tx l) Tryz.underlying9 bytesT.ut Tryz.underlying5
  rw [tx_size] at hrun
  refine ⟨_, _, hrun, grownCap_ge w _ 0 _, ⟨by rw [bvs_length, Nat.mul_one], fun _ => ⟨w.heap.size, 0, rfl, by rw [Lib.bytesWorld_size]; omega, fun j u hu => ?_⟩⟩, ⟨rfl, rfl, rfl, by rw [Lib.bytesWorld_size]; omega, fun k hk => Lib.bytesWorld_at_old w _ _ k hk⟩, fun j hj => ?_, by rw [Lib.bytesWorld_size]; omega⟩
  · rw [Nat.zero_add]
    have hj := (List.getElem?_eq_some_iff.1 hu).1
    rw [bvs_length] at hj
    rw [Lib.bytesWorld_cell w _ _ j (by rw [tx_size]; exact hj), tx_list, ← hu]
    simp [bvs, bv, hj, List.getD]
  · have hge := grownCap_ge w l.length 0 5
    unfold World.frozen?
    rw [Lib.bytesWorld_at_new]
    have hs : j < (Lib.bytesCells w 5 (tx l)).size := by
      unfold Lib.bytesCells
      simp [tx_size]; omega
    simp
    omega
end Go.Proofs.YtfmjgkfblejknaaGreat

/-
  []byte(s) whose bytes are written: the new block itself.
-/
namespace Go.Proofs.YtfmjgkfblejknaaGreat
open Go.RowKit
set_option linter.unusedVariables false
set_option linter.unusedSimpArgs false

/-- the block g begins with these bytes; none of them is shut -/
def Beg (g : Nat) (l : List UInt8) (w : World) : Prop := ∃ (cs : Array Value) (t : TypeId) (fz : Nat × Nat), w.heap[g]? = some (.cells cs t fz) ∧ l.length ≤ cs.size ∧ l.length ≤ fz.1 ∧ ∀ j, j < l.length → cs[j]? = some (bv (l.getD j 0))
theorem Beg.sta {g : Nat} {l : List UInt8} {w w' : World} {Y : Nat → Prop} (h : Beg g l w) (hs : Rg.Sta Y w w') (hy : Y g) : Beg g l w' := by
  obtain ⟨cs, t, fz, hh, h2, h3⟩ := h
  exact ⟨cs, t, fz, (hs.block g (Array.getElem?_eq_some_iff.1 hh).1 hy).trans hh, h2, h3⟩
theorem Beg.up {g : Nat} {l : List UInt8} {w w' : World} (h : Beg g l w) (hu : Up w w') : Beg g l w' := by
  obtain ⟨cs, t, fz, hh, h2, h3⟩ := h
  exact ⟨cs, t, fz, (hu.block g (Array.getElem?_eq_some_iff.1 hh).1).trans hh, h2, h3⟩
theorem Beg.cell {g : Nat} {l : List UInt8} {w : World} (h : Beg g l w) {j : Nat} (hj : j < l.length) : w.cell? ⟨g, j, none⟩ = some (bv (l.getD j 0)) := by
  obtain ⟨cs, t, fz, hh, h2, h4, h3⟩ := h
  rw [cell_of_row w g j cs t fz hh, h3 j hj]
theorem Beg.free {g : Nat} {l : List UInt8} {w : World} (h : Beg g l w) {j : Nat} (hj : j < l.length) : w.frozen? ⟨g, j, none⟩ = false := by
  obtain ⟨cs, t, fz, hh, h2, h4, h3⟩ := h
  simp [World.frozen?, hh]
  omega
theorem Beg.lt {g : Nat} {l : List UInt8} {w : World} (h : Beg g l w) : g < w.heap.size := by
  obtain ⟨cs, t, fz, hh, h2, h3⟩ := h
  exact (Array.getElem?_eq_some_iff.1 hh).1
theorem Beg.rd {g : Nat} {l : List UInt8} {w : World} (h : Beg g l w) : Rd w w.heap.size 1 (some ⟨g, 0, none⟩) l.length (bvs l) := by
  refine ⟨by rw [bvs_length, Nat.mul_one], fun _ => ⟨g, 0, rfl, h.lt, fun j u hu => ?_⟩⟩
  have hj := (List.getElem?_eq_some_iff.1 hu).1
  rw [bvs_length] at hj
  rw [Nat.zero_add, h.cell hj, ← hu]
  simp [bvs, bv, hj, List.getD]
theorem Beg.set {g : Nat} {l : List UInt8} {w : World} (h : Beg g l w) {j : Nat} (hj : j < l.length) (x : UInt8) : Beg g (l.set j x) (w.setCell ⟨g, j, none⟩ (bv x)) := by
  obtain ⟨cs, t, fz, hh, h2, h4, h3⟩ := h
  refine ⟨cs.setIfInBounds j (bv x), t, fz, by simp [World.setCell, Array.getElem?_modify, hh], by simp; exact h2, by simp; exact h4, fun i hi => ?_⟩
  rw [List.length_set] at hi
  by_cases hij : j = i
  · subst hij
    rw [Array.getElem?_setIfInBounds_self_of_lt (by omega)]
    simp [List.getD, hj]
  · rw [Array.getElem?_setIfInBounds_ne hij, h3 i hi]
    simp [List.getD, List.getElem?_set_ne hij]
theorem conv_beg (w : World) (l : List UInt8) : ∃ c w', (convert 9 22 (.string (tx l))).run Tryz.prog w = .ok (.slice (some ⟨w.heap.size, 0, none⟩) l.length c) w' ∧ l.length ≤ c ∧
    Beg w.heap.size l w' ∧ Up w w' := by
  have hrun := Lib.run_convert_string_bytes (P := Tryz.prog) w 9 22 5 (tx l) Tryz.underlying9 bytesT.ut Tryz.underlying5
  rw [tx_size] at hrun
  refine ⟨_, _, hrun, grownCap_ge w _ 0 _, ?_, ⟨rfl, rfl, rfl, by rw [Lib.bytesWorld_size]; omega, fun k hk => Lib.bytesWorld_at_old w _ _ k hk⟩⟩
  have hge := grownCap_ge w l.length 0 5
  have hs : l.length ≤ (Lib.bytesCells w 5 (tx l)).size := by
    unfold Lib.bytesCells
    simp [tx_size]
  refine ⟨_, _, _, Lib.bytesWorld_at_new w _ _, hs, hs, fun j hj => ?_⟩
  have hc := Lib.bytesWorld_cell w 5 (tx l) j (by rw [tx_size]; exact hj)
  rw [tx_list] at hc
  rw [cell_of_row _ _ _ _ _ _ (Lib.bytesWorld_at_new w _ _)] at hc
  exact hc
end Go.Proofs.YtfmjgkfblejknaaGreat

/-
  What a slice reads as, behind a change of blocks that it does not lie in.
-/
namespace Go.Proofs.YtfmjgkfblejknaaGreat
open Go.RowKit
set_option linter.unusedVariables false
theorem Rd.keepsX {w w' : World} {B sz n : Nat} {A : Option Addr} {xs : List Value} {X : Nat → Prop} (h : Rd w B sz A n xs) (hB : B ≤ w.heap.size) (hne : ∀ a, A = some a → ¬ X a.block) (hK : Rg.Keeps X w w') : Rd w' w'.heap.size sz A n xs := by
  refine ⟨h.1, fun hn => ?_⟩
  obtain ⟨b, o, rfl, hb, hc⟩ := h.2 hn
  refine ⟨b, o, rfl, Nat.lt_of_lt_of_le (Nat.lt_of_lt_of_le hb hB) hK.size, fun j u hu => ?_⟩
  exact (World.cell?_of_block (hK.block b (Nat.lt_of_lt_of_le hb hB) (hne _ rfl))).trans (hc j u hu)
theorem Rd.keepsX0 {w w' : World} {B sz n : Nat} {A : Option Addr} {xs : List Value} {X : Nat → Prop} (h : Rd w B sz A n xs) (hB : B ≤ w.heap.size) (hne : 0 < n → ∀ a, A = some a → ¬ X a.block) (hK : Rg.Keeps X w w') : Rd w' w'.heap.size sz A n xs := by
  refine ⟨h.1, fun hn => ?_⟩
  exact (h.keepsX hB (hne hn) hK).2 hn
end Go.Proofs.YtfmjgkfblejknaaGreat

/-
  Rows of items that are rows of the call's own.
-/
namespace Go.Proofs.YtfmjgkfblejknaaGreat
open Go.RowKit
set_option linter.unusedVariables false
set_option linter.unusedSimpArgs false

/-- each of the rows is a row of its own -/
def RwOwn (w : World) (base : Nat) (rs : List Rw) : Prop := ∀ r ∈ rs, OwnI w base r.A r.n r.c r.l
theorem RwOwn.nil (w : World) (base : Nat) : RwOwn w base [] := fun r hr => by cases hr
theorem RwOwn.ok {w : World} {base : Nat} {rs : List Rw} (h : RwOwn w base rs) : RwOk w rs := fun r hr => ⟨Rd.own (h r hr), own_cap (h r hr)⟩
theorem RwOwn.snoc {w : World} {base : Nat} {rs : List Rw} (h : RwOwn w base rs) {A : Option Addr} {n c : Nat} {l : List It} (hr : OwnI w base A n c l) : RwOwn w base (rs ++ [⟨A, n, c, l⟩]) := fun r hr' => by
  rcases List.mem_append.1 hr' with h1 | h1
  · exact h r h1
  · simp at h1; subst h1; exact hr
theorem RwOwn.up {w w' : World} {base : Nat} {rs : List Rw} (h : RwOwn w base rs) (hu : Up w w') : RwOwn w' base rs := fun r hr => own_up (h r hr) hu
theorem RwOwn.base {w : World} {base base' : Nat} {rs : List Rw} (h : RwOwn w base rs) (hb : base' ≤ base) : RwOwn w base' rs := fun r hr => own_base (h r hr) hb
theorem rwv_len (rs : List Rw) : (rwv rs).length = rs.length := by simp [rwv]
theorem rwl_len (rs : List Rw) : (rwl rs).length = rs.length := by simp [rwl]
theorem rwv_snoc (rs : List Rw) (r : Rw) : rwv (rs ++ [r]) = rwv rs ++ [r.v] := by simp [rwv]
theorem rwl_snoc (rs : List Rw) (r : Rw) : rwl (rs ++ [r]) = rwl rs ++ [r.l] := by simp [rwl]
theorem rwv_one (rs : List Rw) : ∀ u ∈ rwv rs, u.oneCell' = true := fun u hu => by
  obtain ⟨r, _, rfl⟩ := List.mem_map.1 hu
  rfl
theorem Rd.rlen {w : World} {B n : Nat} {A : Option Addr} {rs : List Rw} (h : Rd w B 1 A n (rwv rs)) : n = rs.length := by have := h.1; rw [rwv_len, Nat.mul_one] at this; exact this.symm
/-- the value of row k -/
theorem Rd.row_at {w : World} {B n : Nat} {A : Option Addr} {rs : List Rw} (h : Rd w B 1 A n (rwv rs)) {k : Nat} (hk : k < n) : ∃ b o r, A = some ⟨b, o, none⟩ ∧ b < B ∧ rs[k]? = some r ∧ w.cell? ⟨b, o + k, none⟩ = some (.slice r.A r.n r.c) := by
  obtain ⟨b, o, rfl, hb, hc⟩ := h.2 (by omega)
  have hl := h.rlen
  have hk2 : k < rs.length := by omega
  exact ⟨b, o, rs[k], rfl, hb, List.getElem?_eq_getElem hk2, hc k _ (by simp [rwv, hk2, Rw.v])⟩
end Go.Proofs.YtfmjgkfblejknaaGreat

/-
  Frames one behind the other, folded: as Split has them, and one by one. Plain laws.
-/
namespace Go.Proofs.YtfmjgkfblejknaaGreat
open Go.RowKit
set_option linter.unusedVariables false
set_option linter.unusedSimpArgs false

section
variable {σ : Type} (step : σ → Nat → List UInt8 → Option σ)
/-- one by one: a torn frame ends it, any other error is none -/
def seqF (l : List UInt8) : Nat → Nat → σ → Option (σ × Nat)
  | 0, k, s => some (s, k)
  | f + 1, k, s => if k < l.length then
      (if (takeR (l.drop k)).1 = 0 then (match step s (takeR (l.drop k)).2.1 (takeR (l.drop k)).2.2.1 with | none => none | some s' => seqF l f (k + (takeR (l.drop k)).2.2.2) s')
       else if (takeR (l.drop k)).1 = 4 then some (s, k) else none)
    else some (s, k)
def foldF : σ → List Nat → List (List UInt8) → Option σ
  | s, k :: ks, b :: bs => match step s k b with | none => none | some s' => foldF s' ks bs
  | s, _, _ => some s
theorem splitG_acc (l : List UInt8) : ∀ (f k : Nat) (ks : List Nat) (bs : List (List UInt8)), splitG l f k ks bs = (ks ++ (splitG l f k [] []).1, bs ++ (splitG l f k [] []).2.1, (splitG l f k [] []).2.2.1, (splitG l f k [] []).2.2.2)
  | 0, k, ks, bs => by simp [splitG]
  | f + 1, k, ks, bs => by
    unfold splitG
    by_cases h1 : k < l.length
    · rw [if_pos h1, if_pos h1]
      by_cases h2 : (takeR (l.drop k)).1 = 0
      · rw [if_pos h2, if_pos h2, splitG_acc l f _ (ks ++ _) (bs ++ _), splitG_acc l f _ ([] ++ _) ([] ++ _)]
        simp
      · rw [if_neg h2, if_neg h2]; simp
    · rw [if_neg h1, if_neg h1]; simp
theorem seq_split (l : List UInt8) : ∀ (f k : Nat) (s : σ), seqF step l f k s = (if (splitG l f k [] []).2.2.2 = 0 ∨ (splitG l f k [] []).2.2.2 = 4 then (foldF step s (splitG l f k [] []).1 (splitG l f k [] []).2.1).map (fun x => (x, (splitG l f k [] []).2.2.1)) else none)
  | 0, k, s => by simp [seqF, splitG, foldF]
  | f + 1, k, s => by
    unfold seqF splitG
    by_cases h1 : k < l.length
    · simp only [if_pos h1]
      by_cases h2 : (takeR (l.drop k)).1 = 0
      · simp only [if_pos h2]
        rw [splitG_acc l f]
        simp only [List.nil_append, List.singleton_append, foldF]
        cases hs : step s (takeR (l.drop k)).2.1 (takeR (l.drop k)).2.2.1 with
        | none => simp
        | some s' => simp only []; exact seq_split l f _ s'
      · simp only [if_neg h2]
        by_cases h3 : (takeR (l.drop k)).1 = 4
        · rw [if_pos h3, if_pos (.inr h3)]; simp [foldF]
        · rw [if_neg h3, if_neg (by omega)]
    · simp only [if_neg h1]
      simp [foldF]
theorem foldF_append : ∀ (ks ks' : List Nat) (bs bs' : List (List UInt8)) (s : σ), ks.length = bs.length → foldF step s (ks ++ ks') (bs ++ bs') = (foldF step s ks bs).bind fun s' => foldF step s' ks' bs'
  | [], ks', [], bs', s, _ => rfl
  | k :: ks, ks', b :: bs, bs', s, h => by
    simp only [List.cons_append, foldF]
    cases step s k b with
    | none => rfl
    | some s' => exact foldF_append ks ks' bs bs' s' (by simpa using h)
theorem foldF_snoc {ks : List Nat} {bs : List (List UInt8)} {k : Nat} {b : List UInt8} {s s' : σ} (h : ks.length = bs.length) (hs : foldF step s ks bs = some s') : foldF step s (ks ++ [k]) (bs ++ [b]) = step s' k b := by
  rw [foldF_append step ks [k] bs [b] s h, hs]
  simp only [Option.bind_some, foldF]
  cases step s' k b <;> rfl
/-- what has failed stays so -/
theorem foldF_take_none {ks : List Nat} {bs : List (List UInt8)} {s : σ} (j : Nat) (h : ks.length = bs.length) (hn : foldF step s (ks.take j) (bs.take j) = none) : foldF step s ks bs = none := by
  have h2 := foldF_append step (ks.take j) (ks.drop j) (bs.take j) (bs.drop j) s (by simp [h])
  rw [List.take_append_drop, List.take_append_drop] at h2
  rw [h2, hn]; rfl
/-- the fold over what stands whole behind what was put before -/
theorem takeR_bd {r : List UInt8} (h : (takeR r).1 = 0) : 0 < (takeR r).2.2.2 := by have := (takeR_ok h).1; omega
theorem seqF_more (l : List UInt8) : ∀ (f f' k : Nat) (s : σ), l.length - k < f → l.length - k < f' → seqF step l f k s = seqF step l f' k s
  | 0, _, k, s, h, _ => absurd h (Nat.not_lt_zero _)
  | _ + 1, 0, k, s, _, h => absurd h (Nat.not_lt_zero _)
  | f + 1, f' + 1, k, s, h, h' => by
    unfold seqF
    by_cases h1 : k < l.length
    · rw [if_pos h1, if_pos h1]
      by_cases h2 : (takeR (l.drop k)).1 = 0
      · rw [if_pos h2, if_pos h2]
        have hb := takeR_bd h2
        cases step s (takeR (l.drop k)).2.1 (takeR (l.drop k)).2.2.1 with
        | none => rfl
        | some s' => exact seqF_more l f f' _ s' (by omega) (by omega)
      · rw [if_neg h2, if_neg h2]
    · rw [if_neg h1, if_neg h1]
end
theorem takeR_bl (r : List UInt8) : (takeR r).2.2.1.length ≤ r.length := by
  unfold takeR
  repeat' split
  all_goals first | exact Nat.zero_le _ | (simp only [List.length_take, List.length_drop]; omega)
theorem splitG_body (l : List UInt8) : ∀ (f k : Nat), ∀ b ∈ (splitG l f k [] []).2.1, b.length ≤ l.length
  | 0, k, b, hb => by simp [splitG] at hb
  | f + 1, k, b, hb => by
    unfold splitG at hb
    by_cases h1 : k < l.length
    · rw [if_pos h1] at hb
      by_cases h2 : (takeR (l.drop k)).1 = 0
      · rw [if_pos h2, splitG_acc l f] at hb
        simp only [List.nil_append, List.singleton_append, List.mem_cons] at hb
        rcases hb with e | hb
        · rw [e]
          have := takeR_bl (l.drop k)
          rw [List.length_drop] at this
          omega
        · exact splitG_body l f _ b hb
      · rw [if_neg h2] at hb; simp at hb
    · rw [if_neg h1] at hb; simp at hb
theorem splitL_body (l : List UInt8) : ∀ b ∈ (splitL l).2.1, b.length ≤ l.length := splitG_body l _ _
theorem splitG_lens (l : List UInt8) : ∀ (f k : Nat), (splitG l f k [] []).1.length = (splitG l f k [] []).2.1.length ∧ (splitG l f k [] []).1.length ≤ f
  | 0, k => by simp [splitG]
  | f + 1, k => by
    unfold splitG
    by_cases h1 : k < l.length
    · rw [if_pos h1]
      by_cases h2 : (takeR (l.drop k)).1 = 0
      · rw [if_pos h2, splitG_acc l f]
        have ih := splitG_lens l f (k + (takeR (l.drop k)).2.2.2)
        simp only [List.nil_append, List.singleton_append, List.length_cons]
        omega
      · rw [if_neg h2]; simp
    · rw [if_neg h1]; simp
theorem splitL_lens (l : List UInt8) : (splitL l).1.length = (splitL l).2.1.length ∧ (splitL l).1.length ≤ l.length + 1 := splitG_lens l _ _
end Go.Proofs.YtfmjgkfblejknaaGreat

/-
  Batches: plain words.
-/
namespace Go.Proofs.YtfmjgkfblejknaaGreat
open Go.RowKit
set_option linter.unusedVariables false
set_option linter.unusedSimpArgs false

/-- a batch's error -/
def batE (l : List It) : Nat := if l.length = 0 then 1 else if bytesE l ≠ 0 then bytesE l else if 60000 < (itemsB l).length then 2 else 0
def batB (l : List It) : List UInt8 := if batE l = 0 then frameB 1 (itemsB l) else []
theorem batE_ok {l : List It} (h : batE l = 0) : 0 < l.length ∧ bytesE l = 0 ∧ (itemsB l).length ≤ 60000 ∧ l.length ≤ 2000 ∧ l.all okB = true := by
  unfold batE at h
  split at h
  · cases h
  · split at h
    · omega
    · split at h
      · cases h
      · rename_i h1 h2 h3
        have h4 : bytesE l = 0 := by omega
        refine ⟨by omega, h4, by omega, ?_⟩
        unfold bytesE at h4
        split at h4
        · cases h4
        · split at h4
          · exact ⟨by omega, by assumption⟩
          · cases h4
theorem itemsB_two (l : List It) (h : l.length ≤ 2000) : (itemsB l).length ≤ 64010 := by
  have h1 := numB_ten (n := l.length) (by omega)
  have h2 : ∀ q : List It, (q.flatMap itB).length ≤ 32 * q.length := fun q => by
    induction q with
    | nil => simp
    | cons i q ih => have := itB_len i; simp only [List.flatMap_cons, List.length_append, List.length_cons]; omega
  have h3 := h2 l
  unfold itemsB
  rw [List.length_append]
  omega
theorem bytesE_le {l : List It} (h : bytesE l = 0) : l.length ≤ 2000 := by
  unfold bytesE at h
  split at h
  · cases h
  · omega
end Go.Proofs.YtfmjgkfblejknaaGreat

/-
  Logs of batches: plain laws.
-/
namespace Go.Proofs.YtfmjgkfblejknaaGreat
open Go.RowKit
set_option linter.unusedVariables false
set_option linter.unusedSimpArgs false

section
variable {σ : Type} (step : σ → Nat → List UInt8 → Option σ)
theorem seqF_stepG (l : List UInt8) {f k : Nat} {s : σ} (h : k < l.length) : seqF step l (f + 1) k s = (if (takeR (l.drop k)).1 = 0 then (match step s (takeR (l.drop k)).2.1 (takeR (l.drop k)).2.2.1 with | none => none | some s' => seqF step l f (k + (takeR (l.drop k)).2.2.2) s')
       else if (takeR (l.drop k)).1 = 4 then some (s, k) else none) := by
  conv => lhs; unfold seqF
  rw [if_pos h]
  all_goals rfl
theorem seqF_stepB (l : List UInt8) {f k : Nat} {s : σ} (h : k < l.length) : seqF step l (f + 1) k s = (if (takeR (l.drop k)).1 = 0 then (step s (takeR (l.drop k)).2.1 (takeR (l.drop k)).2.2.1).bind fun s' => seqF step l f (k + (takeR (l.drop k)).2.2.2) s'
       else if (takeR (l.drop k)).1 = 4 then some (s, k) else none) := by
  rw [seqF_stepG step l h]
  cases step s (takeR (l.drop k)).2.1 (takeR (l.drop k)).2.2.1 <;> rfl
theorem seqF_stopG (l : List UInt8) {f k : Nat} {s : σ} (h : l.length ≤ k) : seqF step l f k s = some (s, k) := by
  cases f with
  | zero => rfl
  | succ f => unfold seqF; rw [if_neg (by omega)]
end
/-- a log with one frame more -/
def stepL (s : List (List It)) (k : Nat) (b : List UInt8) : Option (List (List It)) :=
  if k = 1 ∧ (readL b).1 = 0 ∧ 0 < (readL b).2.length then some (s ++ [(readL b).2]) else none
/-- what Replay tells -/
def replL (l : List UInt8) : Option (List (List It) × Nat) := seqF stepL l (l.length + 1) 0 []
theorem repl_split (l : List UInt8) : replL l = if (splitL l).2.2.2 ≠ 0 ∧ (splitL l).2.2.2 ≠ 4 then none else (foldF stepL [] (splitL l).1 (splitL l).2.1).map fun s => (s, (splitL l).2.2.1) := by
  unfold replL
  rw [seq_split]
  have hs : splitG l (l.length + 1) 0 [] [] = splitL l := rfl
  rw [hs]
  by_cases h : (splitL l).2.2.2 = 0 ∨ (splitL l).2.2.2 = 4
  · rw [if_pos h, if_neg (by omega)]
  · rw [if_neg h, if_pos (by omega)]
theorem itsL_len3 : ∀ (k : Nat) (acc : List It) (l : List UInt8), (itsL k acc l).2.1.length ≤ acc.length + k
  | 0, acc, l => by simp [itsL]
  | k + 1, acc, l => by
    unfold itsL; split
    · have := itsL_len3 k (acc ++ [(oneL l).2.1]) (oneL l).2.2
      rw [List.length_append, List.length_singleton] at this; omega
    · simp
theorem readL_len3 (l : List UInt8) : (readL l).2.length ≤ 2000 := by
  unfold readL
  split
  · simp
  · split
    · simp
    · split
      · simp
      · split
        · have := itsL_len3 (takeL l).1 [] (l.drop (takeL l).2.1)
          simp only [List.length_nil] at this ⊢; omega
        · simp
section
variable {σ : Type} (step : σ → Nat → List UInt8 → Option σ)
/-- what each step keeps holds of what the fold comes to -/
theorem seqF_inv (l : List UInt8) (P : σ → Nat → Prop) (hP : ∀ s s' k kd b d, P s k → step s kd b = some s' → 12 ≤ d → P s' (k + d)) :
    ∀ (f k : Nat) (s : σ), P s k → ∀ r, seqF step l f k s = some r → P r.1 r.2 ∧ (k ≤ l.length → r.2 ≤ l.length)
  | 0, k, s, h, r, e => by
    injection e with e
    subst e
    exact ⟨h, id⟩
  | f + 1, k, s, h, r, e => by
    by_cases hk : k < l.length
    · rw [seqF_stepB step l hk] at e
      by_cases h0 : (takeR (l.drop k)).1 = 0
      · rw [if_pos h0] at e
        obtain ⟨h1, h2, -⟩ := takeR_ok h0
        rw [List.length_drop] at h2
        cases hs : step s (takeR (l.drop k)).2.1 (takeR (l.drop k)).2.2.1 with
        | none => rw [hs] at e; cases e
        | some s' =>
          rw [hs] at e
          have ih := seqF_inv l P hP f _ s' (hP _ _ _ _ _ _ h hs h1) r e
          exact ⟨ih.1, fun _ => ih.2 (by omega)⟩
      · rw [if_neg h0] at e
        by_cases h4 : (takeR (l.drop k)).1 = 4
        · rw [if_pos h4] at e
          injection e with e
          subst e
          exact ⟨h, id⟩
        · rw [if_neg h4] at e; cases e
    · rw [seqF_stopG step l (by omega)] at e
      injection e with e
      subst e
      exact ⟨h, id⟩
end
/-- what Replay tells is not long -/
theorem replL_bd {l : List UInt8} {r : List (List It) × Nat} (h : replL l = some r) : r.1.length ≤ r.2 ∧ r.2 ≤ l.length ∧ ∀ q ∈ r.1, q.length ≤ 2000 := by
  have h1 := seqF_inv stepL l (fun s k => s.length ≤ k ∧ ∀ q ∈ s, q.length ≤ 2000) (fun s s' k kd b d hs he hd => by
    unfold stepL at he
    split at he
    · injection he with he
      subst he
      refine ⟨by rw [List.length_append, List.length_singleton]; omega, fun q hq => ?_⟩
      rcases List.mem_append.1 hq with hq | hq
      · exact hs.2 q hq
      · rw [List.mem_singleton] at hq
        subst hq
        exact readL_len3 b
    · cases he) (l.length + 1) 0 [] ⟨Nat.le_refl _, fun q hq => by cases hq⟩ r h
  exact ⟨h1.1.1, h1.2 (Nat.zero_le _), h1.1.2⟩
/-- the log of batches -/
def logB (g : List (List It)) : List UInt8 := g.flatMap batB
def goodL (l : List (List It)) : List (List It) := l.filter fun q => batE q == 0
def endL (g : List (List It)) (n : Nat) : Nat := (logB (g.take n)).length
theorem goodL_ok {l : List (List It)} : ∀ q ∈ goodL l, batE q = 0 := fun q hq => by
  have := (List.mem_filter.1 hq).2
  simpa using this
theorem batB_frame {q : List It} (h : batE q = 0) : batB q = frameB ((1 : Nat) : Int) (itemsB q) ∧ (itemsB q).length ≤ 60000 := by
  obtain ⟨-, -, h3, -, -⟩ := batE_ok h
  unfold batB
  rw [if_pos h]
  exact ⟨rfl, h3⟩
theorem batB_len {q : List It} (h : batE q = 0) : 12 ≤ (batB q).length ∧ (batB q).length ≤ 60012 := by
  obtain ⟨h1, h2⟩ := batB_frame h
  rw [h1, frameB_len]; omega
theorem logB_append (a b : List (List It)) : logB (a ++ b) = logB a ++ logB b := by simp [logB]
theorem logB_cons (q : List It) (g : List (List It)) : logB (q :: g) = batB q ++ logB g := by simp [logB]
theorem logB_one (q : List It) : logB [q] = batB q := by simp [logB]
theorem logB_len (g : List (List It)) (h : ∀ q ∈ g, batE q = 0) : 12 * g.length ≤ (logB g).length ∧ (logB g).length ≤ 60012 * g.length := by
  induction g with
  | nil => simp [logB]
  | cons q g ih =>
    have h1 := ih (fun x hx => h x (List.mem_cons_of_mem _ hx))
    have h2 := batB_len (h q (List.mem_cons_self ..))
    have e : logB (q :: g) = batB q ++ logB g := by simp [logB]
    rw [e, List.length_append, List.length_cons]
    omega
theorem stepL_bat (s : List (List It)) {q : List It} (h : batE q = 0) : stepL s 1 (itemsB q) = some (s ++ [q]) := by
  obtain ⟨h1, h2, -, -, -⟩ := batE_ok h
  have h3 := readL_row [] h2
  rw [List.append_nil] at h3
  have h3 : readL (itemsB q) = (0, q) := h3
  unfold stepL
  rw [h3, if_pos ⟨rfl, rfl, h1⟩]
/-- whole batches are gone over -/
theorem seq_logs : ∀ (g : List (List It)) (pre T : List UInt8) (f : Nat) (s : List (List It)), (∀ q ∈ g, batE q = 0) →
    seqF stepL (pre ++ (logB g ++ T)) (f + g.length) pre.length s = seqF stepL (pre ++ (logB g ++ T)) f (pre ++ logB g).length (s ++ g)
  | [], pre, T, f, s, _ => by simp [logB]
  | q :: g, pre, T, f, s, h => by
    have hq := h q (List.mem_cons_self ..)
    obtain ⟨hb, hl⟩ := batB_frame hq
    have e : pre ++ (logB (q :: g) ++ T) = (pre ++ batB q) ++ (logB g ++ T) := by simp [logB]
    have ih := seq_logs g (pre ++ batB q) T f (s ++ [q]) (fun x hx => h x (List.mem_cons_of_mem _ hx))
    have hlen := batB_len hq
    have hd : ((pre ++ batB q) ++ (logB g ++ T)).drop pre.length = frameB ((1 : Nat) : Int) (itemsB q) ++ (logB g ++ T) := by
      rw [List.append_assoc, List.drop_left, hb]
    have ht := takeR_frame 1 (itemsB q) (logB g ++ T) (by omega) (by omega) hl
    rw [e, List.length_cons, show f + (g.length + 1) = (f + g.length) + 1 by omega, seqF_stepG stepL _ (by rw [List.length_append, List.length_append]; omega), hd, ht]
    simp only [if_true, stepL_bat s hq]
    have hpl : pre.length + ((itemsB q).length + 12) = (pre ++ batB q).length := by rw [List.length_append, hb, frameB_len]
    rw [hpl, ih]
    have e1 : pre ++ logB (q :: g) = pre ++ batB q ++ logB g := by simp [logB]
    have e2 : s ++ [q] ++ g = s ++ (q :: g) := by simp
    rw [e1, e2]
theorem replL_more (l : List UInt8) {f : Nat} (h : l.length < f) : replL l = seqF stepL l f 0 [] := seqF_more stepL l _ _ 0 [] (by omega) (by omega)
theorem repl_logs (g : List (List It)) (T : List UInt8) (h : ∀ q ∈ g, batE q = 0) : replL (logB g ++ T) = seqF stepL (logB g ++ T) (T.length + 1) (logB g).length g := by
  have h1 := logB_len g h
  have h2 := seq_logs g [] T ((logB g ++ T).length + 1) [] h
  simp only [List.nil_append, List.length_nil] at h2
  rw [replL_more (logB g ++ T) (f := (logB g ++ T).length + 1 + g.length) (by omega), h2]
  exact seqF_more stepL _ _ _ _ _ (by rw [List.length_append]; omega) (by rw [List.length_append]; omega)
/-- a log tells its batches -/
theorem repl_all (g : List (List It)) (h : ∀ q ∈ g, batE q = 0) : replL (logB g) = some (g, (logB g).length) := by
  have h1 := repl_logs g [] h
  rw [List.append_nil] at h1
  rw [h1, seqF_stopG stepL _ (Nat.le_refl _)]
/-- what is torn behind whole batches ends it -/
theorem repl_torn (g : List (List It)) (T : List UInt8) (h : ∀ q ∈ g, batE q = 0) (hT : (takeR T).1 = 4) : replL (logB g ++ T) = some (g, (logB g).length) := by
  rw [repl_logs g T h]
  by_cases h0 : T.length = 0
  · have : T = [] := List.eq_nil_of_length_eq_zero h0
    subst this
    rw [seqF_stopG stepL _ (by simp)]
  · rw [seqF_stepG stepL _ (by rw [List.length_append]; omega), List.drop_left, hT, if_neg (by decide), if_pos rfl]
/-- what is spoilt behind whole batches spoils all -/
theorem repl_bad (g : List (List It)) (T : List UInt8) (h : ∀ q ∈ g, batE q = 0) (h0 : 0 < T.length) (hT : (takeR T).1 ≠ 0) (hT4 : (takeR T).1 ≠ 4) : replL (logB g ++ T) = none := by
  rw [repl_logs g T h, seqF_stepG stepL _ (by rw [List.length_append]; omega), List.drop_left, if_neg hT, if_neg hT4]
theorem endL_zero (g : List (List It)) : endL g 0 = 0 := by simp [endL, logB]
theorem endL_all (g : List (List It)) : endL g g.length = (logB g).length := by simp [endL]
theorem endL_snoc (g : List (List It)) {n : Nat} (h : n < g.length) : endL g (n + 1) = endL g n + (batB g[n]).length := by
  unfold endL
  rw [List.take_succ_eq_append_getElem h, logB_append, List.length_append, logB_one]
theorem logB_take (g : List (List It)) (n : Nat) : (logB g).take (endL g n) = logB (g.take n) ∧ (logB g).drop (endL g n) = logB (g.drop n) := by
  have e : logB g = logB (g.take n) ++ logB (g.drop n) := by rw [← logB_append, List.take_append_drop]
  unfold endL
  constructor
  · conv => lhs; rw [e]
    rw [List.take_left]
  · conv => lhs; rw [e]
    rw [List.drop_left]
theorem endL_le (g : List (List It)) (n : Nat) : endL g n ≤ (logB g).length := by
  have e : logB g = logB (g.take n) ++ logB (g.drop n) := by rw [← logB_append, List.take_append_drop]
  rw [e, List.length_append]; unfold endL; omega
theorem endL_mono (g : List (List It)) (n : Nat) : endL g n ≤ endL g (n + 1) := by
  by_cases h : n < g.length
  · rw [endL_snoc g h]; omega
  · unfold endL; rw [List.take_of_length_le (by omega), List.take_of_length_le (by omega)]; exact Nat.le_refl _
/-- a log that is cut -/
theorem repl_cut (g : List (List It)) (n k : Nat) (h : ∀ q ∈ g, batE q = 0) (hn : n ≤ g.length) (h1 : endL g n ≤ k) (h2 : n < g.length → k < endL g (n + 1)) (hk : k ≤ (logB g).length) :
    replL ((logB g).take k) = some (g.take n, endL g n) := by
  have hg : ∀ q ∈ g.take n, batE q = 0 := fun q hq => h q (List.mem_of_mem_take hq)
  have e : (logB g).take k = logB (g.take n) ++ (logB (g.drop n)).take (k - endL g n) := by
    conv => lhs; rw [← List.take_append_drop n g, logB_append]
    rw [List.take_append, List.take_of_length_le h1]
    rfl
  rw [e]
  by_cases hnl : n < g.length
  · have h3 := h2 hnl
    rw [endL_snoc g hnl] at h3
    have hq := h g[n] (List.getElem_mem hnl)
    obtain ⟨hb, hl⟩ := batB_frame hq
    have e2 : logB (g.drop n) = batB g[n] ++ logB (g.drop (n + 1)) := by
      rw [List.drop_eq_getElem_cons hnl, logB_cons]
    rw [e2, List.take_append_of_le_length (by omega)]
    refine repl_torn _ _ hg ?_
    rw [hb] at h3 ⊢
    exact takeR_cut (by omega) (by omega) hl (by omega)
  · have hne : n = g.length := by omega
    subst hne
    rw [List.drop_length]
    have := repl_all (g.take g.length) hg
    simpa [logB, endL] using this
/-- a frame with up to three bits turned is as it was, or spoilt -/
theorem takeR_bad1' {r : List UInt8} (h8 : 8 ≤ r.length) (h : openE (r.take 8) ≠ 0) : (takeR r).1 ≠ 0 ∧ (takeR r).1 ≠ 4 := by
  unfold takeR
  rw [if_neg (by omega), if_pos h]
  refine ⟨h, ?_⟩
  show openE (r.take 8) ≠ 4
  unfold openE at h ⊢
  rw [List.length_take, if_neg (by omega)] at h ⊢
  split
  · decide
  · decide
theorem takeR_bad2' {r : List UInt8} (h8 : openE (r.take 8) = 0) (hl : headN r + 12 ≤ r.length) (hk : ¬ ((r.getD 0 0).toNat < 1 ∨ 100 < (r.getD 0 0).toNat ∨ 60000 < headN r)) (h : openE ((r.drop 8).take (headN r + 4)) ≠ 0) : (takeR r).1 ≠ 0 ∧ (takeR r).1 ≠ 4 := by
  unfold takeR
  rw [if_neg (by omega), if_neg (by omega), if_neg hk, if_neg (by omega), if_pos h]
  refine ⟨h, ?_⟩
  show openE ((r.drop 8).take (headN r + 4)) ≠ 4
  unfold openE at h ⊢
  rw [List.length_take, List.length_drop, if_neg (by omega)] at h ⊢
  split
  · decide
  · decide
theorem frame_flips' (k : Nat) (l post : List UInt8) (hk1 : 1 ≤ k) (hk2 : k ≤ 100) (hl : l.length ≤ 60000) {ps : List Nat} (h3 : ps.length ≤ 3) (hb : ∀ p ∈ ps, p < 8 * (frameB (k : Int) l).length) :
    flipsB (frameB (k : Int) l) ps = frameB (k : Int) l ∨ ((takeR (flipsB (frameB (k : Int) l) ps ++ post)).1 ≠ 0 ∧ (takeR (flipsB (frameB (k : Int) l) ps ++ post)).1 ≠ 4) := by
  have hH : (sealB (headB (k : Int) l.length)).length = 8 := by rw [sealB_len]; rfl
  have hB := sealB_len l
  have hf : frameB (k : Int) l = sealB (headB (k : Int) l.length) ++ sealB l := rfl
  rw [frameB_len] at hb
  obtain ⟨p1, p2, e, l1, l2, b1, b2⟩ := flips_split ps (sealB (headB (k : Int) l.length)) (sealB l) (fun p hp => by have := hb p hp; omega)
  rw [hf, e]
  have fl1 := flipsB_len p1 (sealB (headB (k : Int) l.length))
  have fl2 := flipsB_len p2 (sealB l)
  by_cases o1 : openE (flipsB (sealB (headB (k : Int) l.length)) p1) = 0
  · have e1 := open_flips (openE_seal _) (by omega) b1 (by omega) o1
    rw [e1]
    by_cases o2 : openE (flipsB (sealB l) p2) = 0
    · left
      rw [open_flips (openE_seal _) (by omega) b2 (by omega) o2]
    · right
      have hN := headN_head (k : Int) l.length hl (flipsB (sealB l) p2 ++ post)
      have e8 : (sealB (headB (k : Int) l.length) ++ (flipsB (sealB l) p2 ++ post)).take 8 = sealB (headB (k : Int) l.length) := by rw [← hH, List.take_left]
      have g0 : ((sealB (headB (k : Int) l.length) ++ (flipsB (sealB l) p2 ++ post)).getD 0 0).toNat = k := by
        have : (sealB (headB (k : Int) l.length) ++ (flipsB (sealB l) p2 ++ post)).getD 0 0 = byteOf (k : Int) := by
          unfold sealB headB
          simp
        rw [this]; exact byteOf_nat k (by omega)
      rw [List.append_assoc]
      apply takeR_bad2'
      · rw [e8, openE_seal]
      · rw [hN, List.length_append, List.length_append]; omega
      · rw [g0, hN]; omega
      · rw [hN]
        have e3 : (sealB (headB (k : Int) l.length) ++ (flipsB (sealB l) p2 ++ post)).drop 8 = flipsB (sealB l) p2 ++ post := by rw [← hH, List.drop_left]
        have e4 : (flipsB (sealB l) p2 ++ post).take (l.length + 4) = flipsB (sealB l) p2 := by rw [← hB, ← fl2, List.take_left]
        rw [e3, e4]
        exact o2
  · right
    apply takeR_bad1'
    · rw [List.length_append, List.length_append]; omega
    · have e3 : (flipsB (sealB (headB (k : Int) l.length)) p1 ++ flipsB (sealB l) p2 ++ post).take 8 = flipsB (sealB (headB (k : Int) l.length)) p1 := by
        rw [List.append_assoc, show (8 : Nat) = (flipsB (sealB (headB (k : Int) l.length)) p1).length by rw [fl1, hH], List.take_left]
      rw [e3]
      exact o1
/-- a log of which one batch has up to three bits turned -/
theorem repl_flips (g : List (List It)) (h : ∀ q ∈ g, batE q = 0) {m : Nat} (hm : m < g.length) {ps : List Nat} (h3 : ps.length ≤ 3) (hb : ∀ p ∈ ps, p < 8 * (endL g (m + 1) - endL g m)) :
    flipsB (logB g) (ps.map (8 * endL g m + ·)) = logB g ∨ replL (flipsB (logB g) (ps.map (8 * endL g m + ·))) = none := by
  have hsplit : logB g = logB (g.take m) ++ (batB g[m] ++ logB (g.drop (m + 1))) := by
    conv => lhs; rw [← List.take_append_drop m g, logB_append]
    rw [List.drop_eq_getElem_cons hm, logB_cons]
  have hq := h g[m] (List.getElem_mem hm)
  obtain ⟨hbf, hl⟩ := batB_frame hq
  have hb2 : ∀ p ∈ ps, p < 8 * (batB g[m]).length := by
    intro p hp
    have := hb p hp
    rw [endL_snoc g hm] at this
    omega
  have hend : (logB (g.take m)).length = endL g m := rfl
  have hmid := flips_mid ps (logB (g.take m)) (batB g[m]) (logB (g.drop (m + 1))) hb2
  rw [← hsplit, hend] at hmid
  have hfl := flipsB_len ps (batB g[m])
  rw [hbf] at hmid hb2 hfl
  rcases frame_flips' 1 (itemsB g[m]) (logB (g.drop (m + 1))) (by omega) (by omega) hl h3 hb2 with he | ⟨he, he4⟩
  · left
    rw [he, ← hbf, ← hsplit] at hmid
    exact hmid
  · right
    rw [hmid]
    refine repl_bad _ _ (fun q hq => h q (List.mem_of_mem_take hq)) ?_ he he4
    rw [List.length_append, hfl, frameB_len]; omega
end Go.Proofs.YtfmjgkfblejknaaGreat

/-
  The walks of log.Replay and of the document's Replay.
-/
namespace Go.Proofs.YtfmjgkfblejknaaGreat
open Go.RowKit
set_option linter.unusedVariables false
set_option linter.unusedSimpArgs false

theorem rowsIT : SlT Tryz.prog 50 23 1 24 := SlT.mk' Tryz.underlying50 (z := .slice none 0 0) (by kernel_rfl) rfl (by decide)
def OwnRI (w : World) (base : Nat) (A : Option Addr) (n c : Nat) (rs : List Rw) : Prop := w.ownsRow base 23 1 (.slice A n c) n (rwv rs)
theorem OwnRI.rd {w : World} {base n c : Nat} {A : Option Addr} {rs : List Rw} (h : OwnRI w base A n c rs) : Rd w w.heap.size 1 A n (rwv rs) := Rd.own h
theorem OwnRI.len {w : World} {base n c : Nat} {A : Option Addr} {rs : List Rw} (h : OwnRI w base A n c rs) : n = rs.length := (OwnRI.rd h).rlen
theorem OwnRI.up {w w' : World} {base n c : Nat} {A : Option Addr} {rs : List Rw} (h : OwnRI w base A n c rs) (hu : Up w w') : OwnRI w' base A n c rs := own_up h hu
theorem OwnRI.nil (w : World) (base : Nat) : OwnRI w base none 0 0 [] := World.ownsRow_nil _ _ _ _
theorem OwnRI.snoc {w : World} {base n c : Nat} {A : Option Addr} {rs : List Rw} {A1 : Option Addr} {n1 c1 : Nat} {l : List It} (h : w.ownsRow base 23 1 (.slice A n c) n (rwv rs ++ [.slice A1 n1 c1])) : OwnRI w base A n c (rs ++ [⟨A1, n1, c1, l⟩]) := by
  unfold OwnRI; rw [rwv_snoc]; exact h
/-- rows of the call's own: what a Replay tells -/
def ReplPost (r : Option (List (List It) × Nat)) (w : World) (e : Ending) (w' : World) : Prop :=
  match r with
  | none => e = .returned (.tuple #[.slice none 0 0, .int .i64 0, .int .i64 9]) ∧ Up w w'
  | some x => ∃ R m rc rs, e = .returned (.tuple #[.slice R m rc, .int .i64 (x.2 : Int), .int .i64 0]) ∧ OwnRI w' w.heap.size R m rc rs ∧ RwOwn w' w.heap.size rs ∧ rwl rs = x.1 ∧ Up w w'
theorem ReplPost.no {r : Option (List (List It) × Nat)} {w w' : World} (h : r = none) (hu : Up w w') : ReplPost r w (.returned (.tuple #[.slice none 0 0, .int .i64 0, .int .i64 9])) w' := by subst h; exact ⟨rfl, hu⟩
end Go.Proofs.YtfmjgkfblejknaaGreat

/-
  Rows of unlike types lie apart. No program is named here.
-/
namespace Go.Proofs.YtfmjgkfblejknaaGreat
open Go.RowKit
set_option linter.unusedVariables false

/-- a row lies as it lay where another one of another type has grown -/
theorem own_apart {w w' : World} {base base' : Nat} {e e' : TypeId} {sz sz' n n' : Nat} {v v' : Value} {xs xs' : List Value} (h : w.ownsRow base e sz v n xs) (h2 : w.ownsRow base' e' sz' v' n' xs') (hne : e ≠ e') (hg : w.grownBy w' v'.ownBlock) : w'.ownsRow base e sz v n xs := by
  refine ⟨h.1, ?_⟩
  rcases h.2 with h3 | ⟨g, cap, cur, hv, hb, hh, r⟩
  · exact .inl h3
  · refine .inr ⟨g, cap, cur, hv, hb, (hg.block g (Array.getElem?_eq_some_iff.1 hh).1 (fun e9 => ?_)).trans hh, r⟩
    rcases h2.2 with ⟨h4, _⟩ | ⟨g', cap', cur', h4, _, hh', _⟩
    · rw [h4] at e9; cases e9
    · rw [h4] at e9
      simp only [Value.ownBlock, Option.some.injEq] at e9
      subst e9
      rw [hh] at hh'
      injection hh' with hh'
      injection hh' with q1 q2
      exact hne q2
end Go.Proofs.YtfmjgkfblejknaaGreat

/-
  The walk of block.Find.
-/
namespace Go.Proofs.YtfmjgkfblejknaaGreat
open Go.RowKit
set_option linter.unusedVariables false
set_option linter.unusedSimpArgs false

/-- where the first stands that is not below x -/
def geI (x : It) : List It → Nat
  | [] => 0
  | y :: r => if lessB y x = true then geI x r + 1 else 0
theorem geI_step {x : It} : ∀ {l : List It} {k : Nat} (h : k < l.length), k ≤ geI x l → (lessB l[k] x = true → k + 1 ≤ geI x l) ∧ (lessB l[k] x = false → k = geI x l)
  | [], k, h, _ => absurd h (Nat.not_lt_zero _)
  | y :: r, 0, h, _ => by
    unfold geI
    simp only [List.getElem_cons_zero]
    exact ⟨fun h1 => by rw [if_pos h1]; omega, fun h1 => by rw [if_neg (by rw [h1]; simp)]⟩
  | y :: r, k + 1, h, hk => by
    unfold geI at hk ⊢
    by_cases hy : lessB y x = true
    · rw [if_pos hy] at hk ⊢
      have ih := geI_step (x := x) (l := r) (k := k) (by simpa using h) (by omega)
      simp only [List.getElem_cons_succ]
      exact ⟨fun h1 => by have := ih.1 h1; omega, fun h1 => by have := ih.2 h1; omega⟩
    · rw [if_neg hy] at hk; omega
/-- Find: is it there, and which -/
def findL (l : List It) (x : It) : Option It := l.find? fun y => sameB y x
theorem less_trans {a b c : It} (h1 : lessB a b = true) (h2 : lessB b c = true) : lessB a c = true := by
  rw [less_iff] at *; omega
theorem same_less {a b c : It} (h1 : sameB a b = true) : lessB c a = lessB c b := by
  rw [same_iff] at h1
  rw [Bool.eq_iff_iff, less_iff, less_iff]; omega
/-- behind a head each is greater -/
theorem riseR_all : ∀ {l : List It} {a : It}, riseR (a :: l) → ∀ y ∈ l, lessB a y = true
  | [], _, _, y, hy => by cases hy
  | b :: r, a, h, y, hy => by
    rcases List.mem_cons.1 hy with e | hy
    · rw [e]; exact h.1
    · exact less_trans h.1 (riseR_all h.2 y hy)
theorem find_ge : ∀ (l : List It) (x : It), riseR l → findL l x = (if h : geI x l < l.length then (if sameB l[geI x l] x then some l[geI x l] else none) else none)
  | [], x, _ => rfl
  | a :: r, x, h => by
    have ih := find_ge r x (riseR_tail h)
    by_cases hl : lessB a x = true
    · have hs : sameB a x = false := by
        rw [← Bool.not_eq_true, same_iff]; rw [less_iff] at hl; omega
      have e1 : geI x (a :: r) = geI x r + 1 := by rw [show geI x (a :: r) = if lessB a x = true then geI x r + 1 else 0 from rfl, if_pos hl]
      have e2 : findL (a :: r) x = findL r x := by unfold findL; rw [List.find?_cons, hs]
      rw [e2, ih]
      simp only [e1, List.length_cons, Nat.add_lt_add_iff_right, List.getElem_cons_succ]
    · have e1 : geI x (a :: r) = 0 := by rw [show geI x (a :: r) = if lessB a x = true then geI x r + 1 else 0 from rfl, if_neg hl]
      simp only [e1, List.length_cons, Nat.zero_lt_succ, dite_true, List.getElem_cons_zero]
      by_cases hs : sameB a x = true
      · rw [if_pos hs]; unfold findL; rw [List.find?_cons, hs]
      · rw [if_neg hs]
        unfold findL
        rw [List.find?_eq_none]
        intro y hy h1
        rcases List.mem_cons.1 hy with e | hy
        · rw [e] at h1; exact hs h1
        · have h2 := riseR_all h y hy
          rw [same_less h1] at h2
          exact hl h2
set_option maxRecDepth 100000 in
set_option maxHeartbeats 800000 in
theorem find1_any (y x : It) (g : Nat) (w : World) (hg : w.heap[g]? = some (.cells #[.int .i64 x.s.toInt, .int .i64 x.k.toInt, .int .u64 (x.t.toNat : Int), .int .u64 (x.v.toNat : Int), .int .i64 x.x.toInt] 37 (0, 0))) :
    Calls Tryz.prog 81 #[.agg #[.int .i64 y.s.toInt, .int .i64 y.k.toInt, .int .u64 (y.t.toNat : Int), .int .u64 (y.v.toNat : Int), .int .i64 y.x.toInt], .pointer (some ⟨g, 0, none⟩)] w fun e w' => e = .returned (.bool (!lessB y x)) ∧ Up w w' := by
  have hub := fun o => (Up.refl w).alloc o
  have k0 : ∀ o, (w.alloc o).cell? ⟨g, 0, none⟩ = some (.int .i64 x.s.toInt) := fun o => blk_cell (blk_up (hub o) hg) 0
  have k1 : ∀ o, (w.alloc o).cell? ⟨g, 1, none⟩ = some (.int .i64 x.k.toInt) := fun o => blk_cell (blk_up (hub o) hg) 1
  have k2 : ∀ o, (w.alloc o).cell? ⟨g, 2, none⟩ = some (.int .u64 (x.t.toNat : Int)) := fun o => blk_cell (blk_up (hub o) hg) 2
  have k3 : ∀ o, (w.alloc o).cell? ⟨g, 3, none⟩ = some (.int .u64 (x.v.toNat : Int)) := fun o => blk_cell (blk_up (hub o) hg) 3
  have k4 : ∀ o, (w.alloc o).cell? ⟨g, 4, none⟩ = some (.int .i64 x.x.toInt) := fun o => blk_cell (blk_up (hub o) hg) 4
  clear hub
  go_enter Tryz.func81, Tryz.ntmps81
  go_wp2_with fail
  refine (less_any y x _).mono ?_
  rintro e w2 ⟨rfl, hu2⟩
  go_wp2_with fail
  go_ret
  exact ⟨rfl, ((Up.refl w).alloc _).trans hu2⟩
def IdxPost (G n : Nat) (w : World) (e : Ending) (w' : World) : Prop := e = .returned (.int .i64 (if G < n then (G : Int) else -1)) ∧ Up w w'
set_option maxRecDepth 100000 in
set_option maxHeartbeats 1600000 in
theorem findex_any (A : Option Addr) (n c : Nat) (l : List It) (x : It) (g : Nat) (w : World) (hr : Rd w w.heap.size 5 A n (itcs l)) (hn : n ≤ 9223372036854775807) (hg : w.heap[g]? = some (.cells #[.int .i64 x.s.toInt, .int .i64 x.k.toInt, .int .u64 (x.t.toNat : Int), .int .u64 (x.v.toNat : Int), .int .i64 x.x.toInt] 37 (0, 0))) :
    Calls Tryz.prog 66 #[.slice A n c, .func (.func 81) #[] #[.pointer (some ⟨g, 0, none⟩)]] w (IdxPost (geI x l) n w) := by
  have HL := Lib.hid hr.ilen
  obtain ⟨G, hG⟩ : ∃ q, q = geI x l := ⟨_, rfl⟩
  rw [← hG]
  have HG := Lib.hid hG
  clear hG
  obtain ⟨wo, hwo⟩ : ∃ q, q = w := ⟨_, rfl⟩
  subst hwo
  go_enter Tryz.func66, Tryz.ntmps66
  go_wp2_with fail
  go_loopw [8] (fun i wr => ∃ k : Nat, i = .int .i64 (k : Int) ∧ k ≤ n ∧ k ≤ G ∧ Up wo wr) (fun i _ => n - (intOf i).toNat)
  case atStart => exact ⟨0, rfl, by omega, by omega, Up.refl _⟩
  case round =>
    obtain ⟨k, rfl, hk, hkG, hu⟩ := hrel
    by_cases hlt : k < n
    · obtain ⟨b, o, i, rfl, hb, hik, c0, c1, c2, c3, c4⟩ := (hr.stay (Nat.le_refl _) hu).item_at hlt
      have hkl : k < l.length := by have := HL.out; omega
      have hi : l[k] = i := by
        rw [List.getElem?_eq_getElem hkl] at hik
        injection hik
      have HI := Lib.hid hi
      have hgr := blk_up hu hg
      clear hik hi
      go_wp2_with fail
      refine (find1_any i x g wr hgr).mono ?_
      rintro e w2 ⟨rfl, hu2⟩
      clear c0 c1 c2 c3 c4
      obtain ⟨lb, hlb⟩ : ∃ q, q = lessB i x := ⟨_, rfl⟩
      rw [← hlb]
      have HLB := Lib.hid hlb
      clear hlb
      cases lb
      · have hz : Hid (k = G) := by
          show _ = _
          rw [HG.out]
          exact (geI_step hkl (by rw [← HG.out]; exact hkG)).2 (by rw [HI.out]; exact HLB.out.symm)
        go_wp2_with fail
        go_ret
        refine ⟨?_, hu.trans hu2⟩
        show Ending.returned (.int .i64 (k : Int)) = _
        rw [← hz.out, if_pos hlt]
      · have hz : k + 1 ≤ G := by
          rw [HG.out]
          exact (geI_step hkl (by rw [← HG.out]; exact hkG)).1 (by rw [HI.out]; exact HLB.out.symm)
        go_wp2_with fail
        go_roundw
        case rel => exact ⟨k + 1, by go_num, by omega, hz, hu.trans hu2⟩
        case measure => simp [intOf]; omega
    · go_wp2_with fail
      go_ret
      refine ⟨?_, hu⟩
      show Ending.returned (.int .i64 (-1)) = _
      rw [if_neg (by omega)]
theorem keepsUpG {w wq w2 : World} {gx : Nat} (hu : Up w wq) (hg : w.heap.size ≤ gx) (hK : Rg.Keeps (fun g => g = gx) wq w2) : Up w w2 :=
  ⟨hK.os.trans hu.os, hK.tape.trans hu.tape, hK.output.trans hu.output, Nat.le_trans hu.size hK.size, fun k hk => (hK.block k (Nat.lt_of_lt_of_le hk hu.size) (by show ¬ k = gx; omega)).trans (hu.block k hk)⟩
def FindPost (r : Option It) (w : World) (e : Ending) (w' : World) : Prop :=
  (∃ i : It, r = some i ∧ e = .returned (.tuple #[.agg #[.int .i64 i.s.toInt, .int .i64 i.k.toInt, .int .u64 (i.t.toNat : Int), .int .u64 (i.v.toNat : Int), .int .i64 i.x.toInt], .bool true]) ∧ Up w w') ∨
  (r = none ∧ e = .returned (.tuple #[.agg #[.int .i64 0, .int .i64 0, .int .u64 0, .int .u64 0, .int .i64 0], .bool false]) ∧ Up w w')
set_option maxRecDepth 100000 in
set_option maxHeartbeats 4000000 in
theorem find_any (A : Option Addr) (n c : Nat) (l : List It) (x : It) (w : World) (hr : Rd w w.heap.size 5 A n (itcs l)) (hn : n ≤ 1099511627776) (hrise : riseR l) :
    Calls Tryz.prog 55 #[.slice A n c, .agg #[.int .i64 x.s.toInt, .int .i64 x.k.toInt, .int .u64 (x.t.toNat : Int), .int .u64 (x.v.toNat : Int), .int .i64 x.x.toInt]] w (FindPost (findL l x) w) := by
  have hl := hr.ilen
  have hfg := find_ge l x hrise
  obtain ⟨G, hG⟩ : ∃ q, q = geI x l := ⟨_, rfl⟩
  have HFG : Hid (findL l x = (if h : G < l.length then (if sameB l[G] x then some l[G] else none) else none)) := by show _ = _; rw [hfg]; simp only [hG]
  obtain ⟨w2, hw2⟩ : ∃ w2, w2 = (w.alloc (.cells #[.int .i64 x.s.toInt, .int .i64 x.k.toInt, .int .u64 (x.t.toNat : Int), .int .u64 (x.v.toNat : Int), .int .i64 x.x.toInt] 37)).alloc (.cells #[.int .i64 0, .int .i64 0, .int .u64 0, .int .u64 0, .int .i64 0] 37) := ⟨_, rfl⟩
  have hup2 : Up w w2 := by rw [hw2]; exact ((Up.refl w).alloc _).alloc _
  have hx2 : w2.heap[w.heap.size]? = some (.cells #[.int .i64 x.s.toInt, .int .i64 x.k.toInt, .int .u64 (x.t.toNat : Int), .int .u64 (x.v.toNat : Int), .int .i64 x.x.toInt] 37 (0, 0)) := by
    rw [hw2, Below.heap_alloc _ _ _ (by simp)]; exact heap_alloc_new w _
  have hz2 : w2.heap[w.heap.size + 1]? = some (.cells #[.int .i64 0, .int .i64 0, .int .u64 0, .int .u64 0, .int .i64 0] 37 (0, 0)) := by
    rw [hw2]
    have h := heap_alloc_new (w.alloc (.cells #[.int .i64 x.s.toInt, .int .i64 x.k.toInt, .int .u64 (x.t.toNat : Int), .int .u64 (x.v.toNat : Int), .int .i64 x.x.toInt] 37)) (.cells #[.int .i64 0, .int .i64 0, .int .u64 0, .int .u64 0, .int .i64 0] 37)
    rwa [World.size_alloc] at h
  have hr2 := hr.up hup2
  have HW := Lib.hid hw2
  have HL := Lib.hid hl
  have HG := Lib.hid hG
  clear hw2 hr hfg hl hG
  go_enter Tryz.func55, Tryz.ntmps55
  go_wp2_with fail
  rw [← HW.out]
  clear HW
  have hgw : w.heap.size ≤ w.heap.size + 1 := Nat.le_succ _
  generalize hg2 : w.heap.size + 1 = g2 at hz2 hgw ⊢
  generalize w.heap.size = g1 at hx2 ⊢
  refine (findex_any A n c l x g1 w2 hr2 (by omega) hx2).mono ?_
  rintro e w3 ⟨rfl, hu3⟩
  rw [← HG.out]
  have hx3 := blk_up hu3 hx2
  have hz3 := blk_up hu3 hz2
  have hr3 := hr2.up hu3
  have hup3 := hup2.trans hu3
  clear hx2 hz2 hr2 hup2 hu3 HG
  by_cases hlt : G < n
  · rw [if_pos hlt]
    obtain ⟨b, o, y, rfl, hb, hy, c0, c1, c2, c3, c4⟩ := hr3.item_at hlt
    have hGl : G < l.length := by have := HL.out; omega
    have hly : l[G] = y := by
      rw [List.getElem?_eq_getElem hGl] at hy
      injection hy
    have hfd : findL l x = (if sameB y x then some y else none) := by rw [HFG.out, dif_pos hGl, hly]
    have HFD := Lib.hid hfd
    have hS : ∀ W, Up w3 W → Up w3 W ∧ (W.cell? ⟨b, o + G * 5, none⟩ = some (.int .i64 y.s.toInt) ∧ W.cell? ⟨b, o + G * 5 + 1, none⟩ = some (.int .i64 y.k.toInt) ∧ W.cell? ⟨b, o + G * 5 + 2, none⟩ = some (.int .u64 (y.t.toNat : Int)) ∧ W.cell? ⟨b, o + G * 5 + 3, none⟩ = some (.int .u64 (y.v.toNat : Int)) ∧ W.cell? ⟨b, o + G * 5 + 4, none⟩ = some (.int .i64 y.x.toInt)) ∧
        (W.cell? ⟨g1, 0, none⟩ = some (.int .i64 x.s.toInt) ∧ W.cell? ⟨g1, 1, none⟩ = some (.int .i64 x.k.toInt) ∧ W.cell? ⟨g1, 2, none⟩ = some (.int .u64 (x.t.toNat : Int)) ∧ W.cell? ⟨g1, 3, none⟩ = some (.int .u64 (x.v.toNat : Int)) ∧ W.cell? ⟨g1, 4, none⟩ = some (.int .i64 x.x.toInt)) := fun W h => by
      have h5 := blk_up h hx3
      exact ⟨h, ⟨(h.cell (p := ⟨b, o + G * 5, none⟩) hb).trans c0, (h.cell (p := ⟨b, o + G * 5 + 1, none⟩) hb).trans c1, (h.cell (p := ⟨b, o + G * 5 + 2, none⟩) hb).trans c2, (h.cell (p := ⟨b, o + G * 5 + 3, none⟩) hb).trans c3, (h.cell (p := ⟨b, o + G * 5 + 4, none⟩) hb).trans c4⟩, blk_cell h5 0, blk_cell h5 1, blk_cell h5 2, blk_cell h5 3, blk_cell h5 4⟩
    have HS := Lib.hid hS
    have d0 : decide ((G : Int) < 0) = false := by simp
    obtain ⟨sm, hsm⟩ : ∃ q, q = sameB y x := ⟨_, rfl⟩
    have hcs := fun W => same_any y x W
    rw [← hsm] at hcs HFD
    clear c0 c1 c2 c3 c4 hy hly hsm hfd HFG
    go_wp2_with fail
    apply Rg.region_up _ (by kernel_rfl) (by kernel_rfl) hS
    · intro QN hQN
      iterate 3 (apply Rg.RK.ok; (· intro vs w1 hS; go_simp; with_reducible rfl); (· rfl); simp only [Act.put, List.setIfInBounds_toArray, List.set_cons_zero, List.set_cons_succ, Nat.reduceAdd])
      iterate 5 (apply Rg.RK.gok (t := 12); (· intro vs w1 hS; go_simp; with_reducible rfl); (· rfl); (· intro vs; rfl); simp only [Act.put, List.setIfInBounds_toArray, List.set_cons_zero, List.set_cons_succ, Nat.reduceAdd])
      apply Rg.RK.gcall (t := 12) (.bool sm) []
      · rfl
      · intro vs; rfl
      · intro vs w1 hK hS _ K hKK
        go_simp
        refine (hcs w1).mono ?_
        rintro e w2 ⟨rfl, hu2⟩
        exact hKK.out _ hu2
      simp only [Act.put, List.setIfInBounds_toArray, List.set_cons_zero, List.set_cons_succ, Nat.reduceAdd]
      iterate 1 (apply Rg.RK.gok (t := 12); (· intro vs w1 hS; go_simp; with_reducible rfl); (· rfl); (· intro vs; rfl); simp only [Act.put, List.setIfInBounds_toArray, List.set_cons_zero, List.set_cons_succ, Nat.reduceAdd])
      iterate 1 (apply Rg.RK.ok; (· intro vs w1 hS; go_simp; with_reducible rfl); (· rfl); simp only [Act.put, List.setIfInBounds_toArray, List.set_cons_zero, List.set_cons_succ, Nat.reduceAdd])
      apply Rg.RK.fin []
      intro vs w1 hK hS _
      refine hQN.out _ _ ?_
      clear hQN
      have hu4 := keeps_up hK
      have hz4 := blk_up hu4 hz3
      obtain ⟨-, ⟨c0, c1, c2, c3, c4⟩, -⟩ := hS
      have hup4 := hup3.trans hu4
      clear hK hx3 hz3 hu4 hcs
      cases sm
      · go_wp2_with (first
          | (with_reducible show wpList _ _ _ (⟨none, .store 37 _ _, _, _, _, none⟩ :: _) _ _
             go_loud (refine wpList_store_it5 rfl _ _ rfl (g := g2) (z0 := .int .i64 0) (z1 := .int .i64 0) (z2 := .int .u64 0) (z3 := .int .u64 0) (z4 := .int .i64 0) (by kernel_rfl) (by kernel_rfl) hz4 (by simp [Value.oneCell']) ?_)
             intro w5 hgd hbut
             have hup5 := But.up hup4 hbut hgw
             clear hbut hz4
             have e0 := blk_cell hgd 0
             have e1 := blk_cell hgd 1
             have e2 := blk_cell hgd 2
             have e3 := blk_cell hgd 3
             have e4 := blk_cell hgd 4
             have f0 := blk_free hgd 0
             have f1 := blk_free hgd 1
             have f2 := blk_free hgd 2
             have f3 := blk_free hgd 3
             have f4 := blk_free hgd 4
             simp only [List.getElem?_toArray, List.getElem?_cons_zero, List.getElem?_cons_succ] at e0 e1 e2 e3 e4
             clear hgd))
        refine bodyPost_ret (v := .tuple #[.agg #[.int .i64 0, .int .i64 0, .int .u64 0, .int .u64 0, .int .i64 0], .bool false]) (by simp [results, Tryz.results55, go_sem, e0, e1, e2, e3, e4]) rfl ?_
        exact .inr ⟨HFD.out, rfl, hup5⟩
      · go_wp2_with (first
          | (with_reducible show wpList _ _ _ (⟨none, .store 37 _ _, _, _, _, none⟩ :: _) _ _
             go_loud (refine wpList_store_it5 rfl _ _ rfl (g := g2) (z0 := .int .i64 y.s.toInt) (z1 := .int .i64 y.k.toInt) (z2 := .int .u64 (y.t.toNat : Int)) (z3 := .int .u64 (y.v.toNat : Int)) (z4 := .int .i64 y.x.toInt) (by kernel_rfl) (by kernel_rfl) hz4 (by simp [Value.oneCell']) ?_)
             intro w5 hgd hbut
             have hup5 := But.up hup4 hbut hgw
             clear hbut hz4
             have e0 := blk_cell hgd 0
             have e1 := blk_cell hgd 1
             have e2 := blk_cell hgd 2
             have e3 := blk_cell hgd 3
             have e4 := blk_cell hgd 4
             have f0 := blk_free hgd 0
             have f1 := blk_free hgd 1
             have f2 := blk_free hgd 2
             have f3 := blk_free hgd 3
             have f4 := blk_free hgd 4
             simp only [List.getElem?_toArray, List.getElem?_cons_zero, List.getElem?_cons_succ] at e0 e1 e2 e3 e4
             clear hgd))
        refine bodyPost_ret (v := .tuple #[.agg #[.int .i64 y.s.toInt, .int .i64 y.k.toInt, .int .u64 (y.t.toNat : Int), .int .u64 (y.v.toNat : Int), .int .i64 y.x.toInt], .bool true]) (by simp [results, Tryz.results55, go_sem, e0, e1, e2, e3, e4]) rfl ?_
        exact .inl ⟨y, HFD.out, rfl, hup5⟩
    · kernel_rfl
  · rw [if_neg hlt]
    have hfd : findL l x = none := by rw [HFG.out, dif_neg (by have := HL.out; omega)]
    have HFD := Lib.hid hfd
    have d0 : decide ((-1 : Int) < 0) = true := rfl
    clear hfd HFG
    go_wp2_with fail
    apply Rg.region_up (fun W => Up w3 W) (by kernel_rfl) (by kernel_rfl) (fun _ h => h)
    · intro QN hQN
      iterate 3 (apply Rg.RK.ok; (· intro vs w1 hS; go_simp; with_reducible rfl); (· rfl); simp only [Act.put, List.setIfInBounds_toArray, List.set_cons_zero, List.set_cons_succ, Nat.reduceAdd])
      iterate 7 (apply Rg.RK.gno (t := 12) (y := true); (· rfl); (· intro vs; rfl); (· rfl); simp only [Act.put, List.setIfInBounds_toArray, List.set_cons_zero, List.set_cons_succ, Nat.reduceAdd])
      iterate 1 (apply Rg.RK.ok; (· intro vs w1 hS; go_simp; with_reducible rfl); (· rfl); simp only [Act.put, List.setIfInBounds_toArray, List.set_cons_zero, List.set_cons_succ, Nat.reduceAdd])
      apply Rg.RK.fin []
      intro vs w1 hK hS _
      refine hQN.out _ _ ?_
      clear hQN
      have hu4 := keeps_up hK
      have hz4 := blk_up hu4 hz3
      have hup4 := hup3.trans hu4
      clear hK hx3 hz3 hu4 hS
      go_wp2_with (first
        | (with_reducible show wpList _ _ _ (⟨none, .store 37 _ _, _, _, _, none⟩ :: _) _ _
           go_loud (refine wpList_store_it5 rfl _ _ rfl (g := g2) (z0 := .int .i64 0) (z1 := .int .i64 0) (z2 := .int .u64 0) (z3 := .int .u64 0) (z4 := .int .i64 0) (by kernel_rfl) (by kernel_rfl) hz4 (by simp [Value.oneCell']) ?_)
           intro w5 hgd hbut
           have hup5 := But.up hup4 hbut hgw
           clear hbut hz4
           have e0 := blk_cell hgd 0
           have e1 := blk_cell hgd 1
           have e2 := blk_cell hgd 2
           have e3 := blk_cell hgd 3
           have e4 := blk_cell hgd 4
           have f0 := blk_free hgd 0
           have f1 := blk_free hgd 1
           have f2 := blk_free hgd 2
           have f3 := blk_free hgd 3
           have f4 := blk_free hgd 4
           simp only [List.getElem?_toArray, List.getElem?_cons_zero, List.getElem?_cons_succ] at e0 e1 e2 e3 e4
           clear hgd))
      refine bodyPost_ret (v := .tuple #[.agg #[.int .i64 0, .int .i64 0, .int .u64 0, .int .u64 0, .int .i64 0], .bool false]) (by simp [results, Tryz.results55, go_sem, e0, e1, e2, e3, e4]) rfl ?_
      exact .inr ⟨HFD.out, rfl, hup5⟩
    · kernel_rfl
end Go.Proofs.YtfmjgkfblejknaaGreat

/-
  []byte(s) that is written and appended to: the new block with its spare places.
-/
namespace Go.Proofs.YtfmjgkfblejknaaGreat
open Go.RowKit
set_option linter.unusedVariables false
set_option linter.unusedSimpArgs false

def BegC (g : Nat) (l : List UInt8) (cap : Nat) (w : World) : Prop := ∃ (cs : Array Value) (fz : Nat × Nat), w.heap[g]? = some (.cells cs 5 fz) ∧ l.length ≤ cap ∧ cs.size = cap ∧ cap ≤ fz.1 ∧ ∀ j, j < l.length → cs[j]? = some (bv (l.getD j 0))
theorem BegC.beg {g cap : Nat} {l : List UInt8} {w : World} (h : BegC g l cap w) : Beg g l w := by
  obtain ⟨cs, fz, hh, h1, h2, h3, h4⟩ := h
  exact ⟨cs, _, fz, hh, by omega, by omega, h4⟩
theorem BegC.set {g cap : Nat} {l : List UInt8} {w : World} (h : BegC g l cap w) {j : Nat} (hj : j < l.length) (x : UInt8) : BegC g (l.set j x) cap (w.setCell ⟨g, j, none⟩ (bv x)) := by
  obtain ⟨cs, fz, hh, h1, h2, h3, h4⟩ := h
  refine ⟨cs.setIfInBounds j (bv x), fz, by simp [World.setCell, Array.getElem?_modify, hh], by simp; exact h1, by simp; exact h2, h3, fun i hi => ?_⟩
  rw [List.length_set] at hi
  by_cases hij : j = i
  · subst hij
    rw [Array.getElem?_setIfInBounds_self_of_lt (by omega)]
    simp [List.getD, hj]
  · rw [Array.getElem?_setIfInBounds_ne hij, h4 i hi]
    simp [List.getD, List.getElem?_set_ne hij]
set_option maxRecDepth 100000 in
theorem conv_begc (w : World) (l : List UInt8) : ∃ c w', (convert 9 22 (.string (tx l))).run Tryz.prog w = .ok (.slice (some ⟨w.heap.size, 0, none⟩) l.length c) w' ∧ l.length ≤ c ∧
    BegC w.heap.size l c w' ∧ Up w w' := by
  have hrun := Lib.run_convert_string_bytes (P := Tryz.prog) w 9 22 5 (tx l) Tryz.underlying9 bytesT.ut Tryz.underlying5
  rw [tx_size] at hrun
  have hge := grownCap_ge w l.length 0 5
  have hs : (Lib.bytesCells w 5 (tx l)).size = grownCap w l.length 0 5 := by
    unfold Lib.bytesCells
    have hd : (tx l).data.size = l.length := by rw [← tx_size]; rfl
    simp only [Array.size_append, Array.size_map, Array.size_replicate, tx_size, hd]
    omega
  refine ⟨_, _, hrun, hge, ?_, ⟨rfl, rfl, rfl, by rw [Lib.bytesWorld_size]; omega, fun k hk => Lib.bytesWorld_at_old w _ _ k hk⟩⟩
  refine ⟨_, _, Lib.bytesWorld_at_new w _ _, hge, hs, by rw [hs]; exact Nat.le_refl _, fun j hj => ?_⟩
  have hc := Lib.bytesWorld_cell w 5 (tx l) j (by rw [tx_size]; exact hj)
  rw [tx_list] at hc
  rw [cell_of_row _ _ _ _ _ _ (Lib.bytesWorld_at_new w _ _)] at hc
  exact hc
set_option maxRecDepth 100000 in
/-- append(c[:k], x...) -/
theorem run_append_begc (ty : TypeId) {w0 w : World} {g cap k m c B : Nat} {l news : List UInt8} {A : Option Addr} (hB : BegC g l cap w) (hk : k ≤ l.length) (hr : Rd w B 1 A m (bvs news)) (hb : k + m ≤ 140737488355328) (hg : w0.heap.size ≤ g) (hu : Up w0 w) :
    ∃ A' c' w', (Builtin.append_ #[22, 22] ty #[.slice (some ⟨g, 0, none⟩) k cap, .slice A m c]).run Tryz.prog w = .ok (.slice A' (k + m) c') w' ∧ Rd w' w'.heap.size 1 A' (k + m) (bvs (l.take k ++ news)) ∧ k + m ≤ c' ∧ Up w0 w' := by
  have hBg := hB.beg
  have hrd := hBg.rd.bto hk
  obtain ⟨ht, ⟨i, z, hi, hz, hsize, hby, hzs⟩, hsz⟩ := bytesT
  have hgl := hBg.lt
  have hnl : news.length = m := hr.blen.symm
  obtain ⟨cs, fz, hh, h1, h2, h3, h4⟩ := hB
  rcases A with _ | ad
  · have hm : m = 0 := by
      rcases Nat.eq_zero_or_pos m with h0 | h0
      · exact h0
      · obtain ⟨b, o, h, _⟩ := hr.2 h0
        cases h
    subst hm
    have hn : news = [] := List.eq_nil_of_length_eq_zero hnl
    subst hn
    refine ⟨some ⟨g, 0, none⟩, cap, w, ?_, by simpa using hrd, by omega, hu⟩
    have hkc : k ≤ cap := by omega
    simp [Builtin.append_, run_underlying ht, sizeOf, typeInfo, hi, Builtin.lenOf, Builtin.firstCells, hkc, storeCells]
  · have hcells : ∀ j u, (bvs news)[j]? = some u → w.cell? (ad.add j) = some u := by
      intro j u hj
      rcases Nat.eq_zero_or_pos m with h0 | h0
      · have hn : news = [] := List.eq_nil_of_length_eq_zero (by omega)
        subst hn
        simp [bvs] at hj
      · obtain ⟨b, o, h, _, hc⟩ := hr.2 h0
        injection h with h
        subst h
        have e : (⟨b, o, none⟩ : Addr).add j = ⟨b, o + j, none⟩ := by unfold Addr.add; split <;> simp_all
        rw [e]
        exact hc j u hj
    have hbl : (bvs news).length = m := by rw [bvs_length, hnl]
    by_cases hroom : k + m ≤ cap
    · have hfit : ∀ j, j < (bvs news).length → (w.cell? ⟨g, 0 + k * i.size + j, none⟩).isSome = true := by
        intro j hj
        rw [hsize, cell_of_row w g _ cs _ fz hh]
        simp; omega
      have hfr : ∀ j, j < (bvs news).length → w.frozen? ⟨g, 0 + k * i.size + j, none⟩ = false := by
        intro j hj
        rw [hsize]
        simp [World.frozen?, hh]
        omega
      have hrun := run_append_room_cells (P := Tryz.prog) w 22 ty 5 i ht hi g 0 k cap ad m c (bvs news) (by rw [hbl, hsize, Nat.mul_one]) hcells (bvs_one _) hroom hfit hfr
      have hbs := below_sets g hg (bvs news) (0 + k * i.size) w (Below.refl w0.heap.size w)
      refine ⟨_, _, _, hrun, ?_, hroom, Below.trans (show Below w0.heap.size w0 w from hu) hbs⟩
      rw [hsize, Nat.mul_one, Nat.zero_add] at *
      refine ⟨by rw [bvs_length, List.length_append, List.length_take, hnl]; omega, fun _ => ⟨g, 0, rfl, Nat.lt_of_lt_of_le hgl hbs.size, fun j u hj => ?_⟩⟩
      rw [Nat.zero_add]
      rw [bvs_append, List.getElem?_append] at hj
      have hl : (bvs (l.take k)).length = k := by rw [bvs_length, List.length_take]; omega
      rw [hl] at hj
      by_cases hjk : j < k
      · rw [if_pos hjk] at hj
        rw [World.cell?_setCells_out g (bvs news) k w ⟨g, j, none⟩ (fun _ _ => .inl (by simp only; omega))]
        have := (hrd.2 (by omega))
        obtain ⟨b, o, e, _, hc⟩ := this
        injection e with e
        injection e with e1 e2
        subst e1; subst e2
        have := hc j u hj
        rwa [Nat.zero_add] at this
      · rw [if_neg hjk] at hj
        have e2 : j = k + (j - k) := by omega
        rw [e2]
        obtain ⟨hjn, hjv⟩ := List.getElem?_eq_some_iff.1 hj
        rw [World.cell?_setCells_in g (bvs news) k w (fun i hi => by rw [cell_of_row w g _ cs _ fz hh]; simp; omega) _ hjn, ← hjv]
    · have holds : ∀ j u, (bvs (l.take k))[j]? = some u → w.cell? ((⟨g, 0, none⟩ : Addr).add j) = some u := by
        intro j u hj
        have hjl := (List.getElem?_eq_some_iff.1 hj).1
        rw [bvs_length, List.length_take] at hjl
        have e : (⟨g, 0, none⟩ : Addr).add j = ⟨g, 0 + j, none⟩ := by unfold Addr.add; split <;> simp_all
        rw [e]
        obtain ⟨b, o, e, _, hc⟩ := hrd.2 (by omega)
        injection e with e
        injection e with e1 e2
        subst e1; subst e2
        exact hc j u hj
      obtain ⟨v', w', hrun, ho, hg'⟩ := run_append_arg_grows (P := Tryz.prog) w 22 ty 5 i z 1 1 ht hi hz hsize hby hzs hsz ⟨g, 0, none⟩ k cap (bvs (l.take k)) (by rw [bvs_length, List.length_take]; omega) holds ad m c (bvs news) (by rw [hbl, Nat.mul_one]) hcells (by omega) (by simp only [maxLen]; omega) (by omega)
      obtain ⟨A', c', rfl, hrd'⟩ := Rd.from_ownsRow ho
      exact ⟨A', c', w', hrun, by rw [bvs_append]; exact hrd', own_cap ho, hu.grown hg' (fun k hk => by cases hk)⟩
set_option maxRecDepth 100000 in
theorem wpList_append_begc {ops : Array Oper} {rest : List Oper} {o : Oper} {a : Act} {Q : Exit → Act → World → Prop} {s x : Operand} {w0 w : World} {g cap k m c B : Nat} {l news : List UInt8} {A : Option Addr} (hB : BegC g l cap w) (hk : k ≤ l.length) (hr : Rd w B 1 A m (bvs news)) (hb : k + m ≤ 140737488355328) (hg : w0.heap.size ≤ g) (hu : Up w0 w)
    (hgd : o.guard = none) (ho : o.op = .call { callee := .builtin .append, args := #[s, x], argTypes := #[22, 22] })
    (hs : a.eval s = .slice (some ⟨g, 0, none⟩) k cap) (hx : a.eval x = .slice A m c)
    (h : ∀ A' c' w', Rd w' w'.heap.size 1 A' (k + m) (bvs (l.take k ++ news)) → k + m ≤ c' → Up w0 w' → wpList Tryz.prog ops Q rest (a.put o.dst (.slice A' (k + m) c')) w') : wpList Tryz.prog ops Q (o :: rest) a w := by
  refine wpList_plain hgd fun _ hK => ?_
  obtain ⟨A', c', w', hrun, h2, h3, h4⟩ := run_append_begc o.type (c := c) hB hk hr hb hg hu
  unfold Oper.wp execOp
  simp only [ho, resolve, invoke, builtin, Sem.run_bind, Sem.run_pure, Result.andThen_ok, List.map_toArray, List.map_cons, List.map_nil, hs, hx, hrun]
  exact hK _ _ (h A' c' w' h2 h3 h4)
end Go.Proofs.YtfmjgkfblejknaaGreat

/-
  The walks of msg.isNode, msg.withItems, msg.Ok, and of the document's MsgOk.
-/
namespace Go.Proofs.YtfmjgkfblejknaaGreat
open Go.RowKit
set_option linter.unusedVariables false
set_option linter.unusedSimpArgs false

def nodeB (n : Int) : Bool := decide (0 ≤ n ∧ n < 7)
def withB (k : Int) : Bool := decide (k = 1 ∨ k = 5 ∨ k = 7 ∨ k = 8)
def msgB (k f t : Int) (id n : Nat) (l : List It) : Bool := decide (1 ≤ k ∧ k ≤ 10 ∧ (0 ≤ f ∧ f < 7) ∧ (0 ≤ t ∧ t < 7) ∧ id ≤ 1099511627776 ∧ n ≤ 281474976710656 ∧ l.length ≤ 1500 ∧ (l.length = 0 ∨ withB k = true)) && l.all okB
end Go.Proofs.YtfmjgkfblejknaaGreat

/-
  The walks of slices.Equal at items, of the document's Equal at any two rows, of msg.Same and SameMsg.
-/
namespace Go.Proofs.YtfmjgkfblejknaaGreat
open Go.RowKit
set_option linter.unusedVariables false
set_option linter.unusedSimpArgs false

theorem it_ext {a b : It} (h1 : a.s.toInt = b.s.toInt) (h2 : a.k.toInt = b.k.toInt) (h3 : a.t.toNat = b.t.toNat) (h4 : a.v.toNat = b.v.toNat) (h5 : a.x.toInt = b.x.toInt) : a = b := by
  obtain ⟨a1, a2, a3, a4, a5⟩ := a
  obtain ⟨b1, b2, b3, b4, b5⟩ := b
  simp only [It.mk.injEq]
  exact ⟨Int64.toInt_inj.1 h1, Int64.toInt_inj.1 h2, UInt64.toNat_inj.1 h3, UInt64.toNat_inj.1 h4, Int64.toInt_inj.1 h5⟩
instance : DecidableEq It := fun a b => decidable_of_iff (a.s.toInt = b.s.toInt ∧ a.k.toInt = b.k.toInt ∧ a.t.toNat = b.t.toNat ∧ a.v.toNat = b.v.toNat ∧ a.x.toInt = b.x.toInt)
  ⟨fun ⟨h1, h2, h3, h4, h5⟩ => it_ext h1 h2 h3 h4 h5, fun h => by rw [h]; exact ⟨rfl, rfl, rfl, rfl, rfl⟩⟩
set_option maxRecDepth 100000 in
set_option maxHeartbeats 4000000 in
theorem requal_any (A : Option Addr) (n c : Nat) (l : List It) (A' : Option Addr) (n' c' : Nat) (l' : List It) (w : World)
    (hr : Rd w w.heap.size 5 A n (itcs l)) (hr' : Rd w w.heap.size 5 A' n' (itcs l')) (hn : n ≤ 1099511627776) (hn' : n' ≤ 1099511627776) :
    Calls Tryz.prog 14 #[.slice A n c, .slice A' n' c'] w fun e w' => e = .returned (.bool (decide (l = l'))) ∧ Up w w' := by
  have HL := Lib.hid hr.ilen
  have HL' := Lib.hid hr'.ilen
  by_cases k6 : n = n'
  · subst k6
    have hnn : ((n : Int) != (n : Int)) = false := by simp
    go_enter Tryz.func14, Tryz.ntmps14
    go_wp2_with fail
    go_loopw [5] (fun i wr => ∃ k : Nat, i = .int .i64 (k : Int) ∧ k ≤ n ∧ Hid (l.take k = l'.take k) ∧ Up w wr) (fun i _ => n - (intOf i).toNat)
    case atStart => exact ⟨0, rfl, by omega, rfl, Up.refl _⟩
    case round =>
      obtain ⟨k, rfl, hk, ht, hu⟩ := hrel
      by_cases hlt : k < n
      · obtain ⟨b, o, x, rfl, hb, hx, c0, c1, c2, c3, c4⟩ := (hr.up hu).item_at hlt
        obtain ⟨b', o', y, rfl, hb', hy, d0, d1, d2, d3, d4⟩ := (hr'.up hu).item_at hlt
        obtain ⟨x1, hx1⟩ : ∃ z, z = x.s.toInt := ⟨_, rfl⟩
        obtain ⟨x2, hx2⟩ : ∃ z, z = x.k.toInt := ⟨_, rfl⟩
        obtain ⟨x3, hx3⟩ : ∃ z : Int, z = (x.t.toNat : Int) := ⟨_, rfl⟩
        obtain ⟨x4, hx4⟩ : ∃ z : Int, z = (x.v.toNat : Int) := ⟨_, rfl⟩
        obtain ⟨x5, hx5⟩ : ∃ z, z = x.x.toInt := ⟨_, rfl⟩
        obtain ⟨y1, hy1⟩ : ∃ z, z = y.s.toInt := ⟨_, rfl⟩
        obtain ⟨y2, hy2⟩ : ∃ z, z = y.k.toInt := ⟨_, rfl⟩
        obtain ⟨y3, hy3⟩ : ∃ z : Int, z = (y.t.toNat : Int) := ⟨_, rfl⟩
        obtain ⟨y4, hy4⟩ : ∃ z : Int, z = (y.v.toNat : Int) := ⟨_, rfl⟩
        obtain ⟨y5, hy5⟩ : ∃ z, z = y.x.toInt := ⟨_, rfl⟩
        rw [← hx1] at c0
        rw [← hx2] at c1
        rw [← hx3] at c2
        rw [← hx4] at c3
        rw [← hx5] at c4
        rw [← hy1] at d0
        rw [← hy2] at d1
        rw [← hy3] at d2
        rw [← hy4] at d3
        rw [← hy5] at d4
        have X1 := Lib.hid hx1
        have X2 := Lib.hid hx2
        have X3 := Lib.hid hx3
        have X4 := Lib.hid hx4
        have X5 := Lib.hid hx5
        have Y1 := Lib.hid hy1
        have Y2 := Lib.hid hy2
        have Y3 := Lib.hid hy3
        have Y4 := Lib.hid hy4
        have Y5 := Lib.hid hy5
        clear hx1 hx2 hx3 hx4 hx5 hy1 hy2 hy3 hy4 hy5
        have hS : ∀ W, Up wr W → Up wr W ∧ (W.cell? ⟨b, o + k * 5, none⟩ = some (.int .i64 x1) ∧ W.cell? ⟨b, o + k * 5 + 1, none⟩ = some (.int .i64 x2) ∧ W.cell? ⟨b, o + k * 5 + 2, none⟩ = some (.int .u64 x3) ∧ W.cell? ⟨b, o + k * 5 + 3, none⟩ = some (.int .u64 x4) ∧ W.cell? ⟨b, o + k * 5 + 4, none⟩ = some (.int .i64 x5)) ∧
            (W.cell? ⟨b', o' + k * 5, none⟩ = some (.int .i64 y1) ∧ W.cell? ⟨b', o' + k * 5 + 1, none⟩ = some (.int .i64 y2) ∧ W.cell? ⟨b', o' + k * 5 + 2, none⟩ = some (.int .u64 y3) ∧ W.cell? ⟨b', o' + k * 5 + 3, none⟩ = some (.int .u64 y4) ∧ W.cell? ⟨b', o' + k * 5 + 4, none⟩ = some (.int .i64 y5)) := fun W h =>
          ⟨h, ⟨(h.cell (p := ⟨b, o + k * 5, none⟩) hb).trans c0, (h.cell (p := ⟨b, o + k * 5 + 1, none⟩) hb).trans c1, (h.cell (p := ⟨b, o + k * 5 + 2, none⟩) hb).trans c2, (h.cell (p := ⟨b, o + k * 5 + 3, none⟩) hb).trans c3, (h.cell (p := ⟨b, o + k * 5 + 4, none⟩) hb).trans c4⟩,
            (h.cell (p := ⟨b', o' + k * 5, none⟩) hb').trans d0, (h.cell (p := ⟨b', o' + k * 5 + 1, none⟩) hb').trans d1, (h.cell (p := ⟨b', o' + k * 5 + 2, none⟩) hb').trans d2, (h.cell (p := ⟨b', o' + k * 5 + 3, none⟩) hb').trans d3, (h.cell (p := ⟨b', o' + k * 5 + 4, none⟩) hb').trans d4⟩
        have hkl : k < l.length := by have := HL.out; omega
        have hkl' : k < l'.length := by have := HL'.out; omega
        rw [List.getElem?_eq_getElem hkl] at hx
        rw [List.getElem?_eq_getElem hkl'] at hy
        injection hx with hx
        injection hy with hy
        have HX := Lib.hid hx
        have HX' := Lib.hid hy
        have hki : (k : Int) < (n : Int) := by omega
        have hkb : decide ((k : Int) < (n : Int)) = true := by simp; omega
        clear hx hy c0 c1 c2 c3 c4 d0 d1 d2 d3 d4
        by_cases m1 : x1 = y1
        · by_cases m2 : x2 = y2
          · by_cases m3 : x3 = y3
            · by_cases m4 : x4 = y4
              · by_cases m5 : x5 = y5
                · subst m1; subst m2; subst m3; subst m4; subst m5
                  have hxy := it_ext (X1.out.symm.trans Y1.out) (X2.out.symm.trans Y2.out) (by have := X3.out; have := Y3.out; omega) (by have := X4.out; have := Y4.out; omega) (X5.out.symm.trans Y5.out)
                  have HXY := Lib.hid hxy
                  clear hxy
                  go_wp2_with fail
                  apply Rg.region_up _ (by kernel_rfl) (by kernel_rfl) hS
                  · intro QN hQN
                    iterate 9 (apply Rg.RK.ok; (· intro vs w1 hS; go_simp; with_reducible rfl); (· rfl); simp only [Act.put, List.setIfInBounds_toArray, List.set_cons_zero, List.set_cons_succ, Nat.reduceAdd])
                    apply Rg.RK.fin []
                    intro vs w1 hK hS _
                    refine hQN.out _ _ ?_
                    clear hQN
                    go_wp2_with fail
                    go_roundw
                    case rel =>
                      refine ⟨k + 1, by go_num, by omega, ?_, hu.trans (keeps_up hK)⟩
                      show _ = _
                      rw [List.take_succ_eq_append_getElem hkl, List.take_succ_eq_append_getElem hkl', ht.out, HX.out, HX'.out, HXY.out]
                    case measure => simp [intOf]; omega
                  · kernel_rfl
                · have hne : l ≠ l' := by
                    intro e
                    subst e
                    have h := HX.out.symm.trans HX'.out
                    have a1 := X1.out; have a2 := X2.out; have a3 := X3.out; have a4 := X4.out; have a5 := X5.out
                    have b1 := Y1.out; have b2 := Y2.out; have b3 := Y3.out; have b4 := Y4.out; have b5 := Y5.out
                    rw [h] at a1 a2 a3 a4 a5
                    omega
                  have HNE := Lib.hid hne
                  clear hne
                  go_wp2_with fail
                  apply Rg.region_up _ (by kernel_rfl) (by kernel_rfl) hS
                  · intro QN hQN
                    iterate 9 (apply Rg.RK.ok; (· intro vs w1 hS; go_simp; with_reducible rfl); (· rfl); simp only [Act.put, List.setIfInBounds_toArray, List.set_cons_zero, List.set_cons_succ, Nat.reduceAdd])
                    apply Rg.RK.fin []
                    intro vs w1 hK hS _
                    refine hQN.out _ _ ?_
                    clear hQN
                    go_wp2_with fail
                    go_ret
                    refine ⟨retb ?_, hu.trans (keeps_up hK)⟩
                    have := HNE.out
                    simp [this]
                  · kernel_rfl
              · have hne : l ≠ l' := by
                  intro e
                  subst e
                  have h := HX.out.symm.trans HX'.out
                  have a1 := X1.out; have a2 := X2.out; have a3 := X3.out; have a4 := X4.out; have a5 := X5.out
                  have b1 := Y1.out; have b2 := Y2.out; have b3 := Y3.out; have b4 := Y4.out; have b5 := Y5.out
                  rw [h] at a1 a2 a3 a4 a5
                  omega
                have HNE := Lib.hid hne
                clear hne
                go_wp2_with fail
                apply Rg.region_up _ (by kernel_rfl) (by kernel_rfl) hS
                · intro QN hQN
                  iterate 9 (apply Rg.RK.ok; (· intro vs w1 hS; go_simp; with_reducible rfl); (· rfl); simp only [Act.put, List.setIfInBounds_toArray, List.set_cons_zero, List.set_cons_succ, Nat.reduceAdd])
                  apply Rg.RK.fin []
                  intro vs w1 hK hS _
                  refine hQN.out _ _ ?_
                  clear hQN
                  go_wp2_with fail
                  go_ret
                  refine ⟨retb ?_, hu.trans (keeps_up hK)⟩
                  have := HNE.out
                  simp [this]
                · kernel_rfl
            · have hne : l ≠ l' := by
                intro e
                subst e
                have h := HX.out.symm.trans HX'.out
                have a1 := X1.out; have a2 := X2.out; have a3 := X3.out; have a4 := X4.out; have a5 := X5.out
                have b1 := Y1.out; have b2 := Y2.out; have b3 := Y3.out; have b4 := Y4.out; have b5 := Y5.out
                rw [h] at a1 a2 a3 a4 a5
                omega
              have HNE := Lib.hid hne
              clear hne
              go_wp2_with fail
              apply Rg.region_up _ (by kernel_rfl) (by kernel_rfl) hS
              · intro QN hQN
                iterate 9 (apply Rg.RK.ok; (· intro vs w1 hS; go_simp; with_reducible rfl); (· rfl); simp only [Act.put, List.setIfInBounds_toArray, List.set_cons_zero, List.set_cons_succ, Nat.reduceAdd])
                apply Rg.RK.fin []
                intro vs w1 hK hS _
                refine hQN.out _ _ ?_
                clear hQN
                go_wp2_with fail
                go_ret
                refine ⟨retb ?_, hu.trans (keeps_up hK)⟩
                have := HNE.out
                simp [this]
              · kernel_rfl
          · have hne : l ≠ l' := by
              intro e
              subst e
              have h := HX.out.symm.trans HX'.out
              have a1 := X1.out; have a2 := X2.out; have a3 := X3.out; have a4 := X4.out; have a5 := X5.out
              have b1 := Y1.out; have b2 := Y2.out; have b3 := Y3.out; have b4 := Y4.out; have b5 := Y5.out
              rw [h] at a1 a2 a3 a4 a5
              omega
            have HNE := Lib.hid hne
            clear hne
            go_wp2_with fail
            apply Rg.region_up _ (by kernel_rfl) (by kernel_rfl) hS
            · intro QN hQN
              iterate 9 (apply Rg.RK.ok; (· intro vs w1 hS; go_simp; with_reducible rfl); (· rfl); simp only [Act.put, List.setIfInBounds_toArray, List.set_cons_zero, List.set_cons_succ, Nat.reduceAdd])
              apply Rg.RK.fin []
              intro vs w1 hK hS _
              refine hQN.out _ _ ?_
              clear hQN
              go_wp2_with fail
              go_ret
              refine ⟨retb ?_, hu.trans (keeps_up hK)⟩
              have := HNE.out
              simp [this]
            · kernel_rfl
        · have hne : l ≠ l' := by
            intro e
            subst e
            have h := HX.out.symm.trans HX'.out
            have a1 := X1.out; have a2 := X2.out; have a3 := X3.out; have a4 := X4.out; have a5 := X5.out
            have b1 := Y1.out; have b2 := Y2.out; have b3 := Y3.out; have b4 := Y4.out; have b5 := Y5.out
            rw [h] at a1 a2 a3 a4 a5
            omega
          have HNE := Lib.hid hne
          clear hne
          go_wp2_with fail
          apply Rg.region_up _ (by kernel_rfl) (by kernel_rfl) hS
          · intro QN hQN
            iterate 9 (apply Rg.RK.ok; (· intro vs w1 hS; go_simp; with_reducible rfl); (· rfl); simp only [Act.put, List.setIfInBounds_toArray, List.set_cons_zero, List.set_cons_succ, Nat.reduceAdd])
            apply Rg.RK.fin []
            intro vs w1 hK hS _
            refine hQN.out _ _ ?_
            clear hQN
            go_wp2_with fail
            go_ret
            refine ⟨retb ?_, hu.trans (keeps_up hK)⟩
            have := HNE.out
            simp [this]
          · kernel_rfl
      · go_wp2_with fail
        go_ret
        refine ⟨retb ?_, hu⟩
        have hkn : k = n := by omega
        have hll : l = l' := by
          have h := ht.out
          rwa [List.take_of_length_le (by have := HL.out; omega), List.take_of_length_le (by have := HL'.out; omega)] at h
        rw [hll]
        simp
  · have hne : decide (l = l') = false := by
      rw [decide_eq_false_iff_not]
      intro e
      apply k6
      rw [HL.out, HL'.out, e]
    have HNE := Lib.hid hne
    clear hne
    have hnn : ((n : Int) != (n' : Int)) = true := by simp; omega
    go_enter Tryz.func14, Tryz.ntmps14
    go_wp2_with fail
    go_ret
    refine ⟨retb ?_, Up.refl _⟩
    rw [HNE.out]
end Go.Proofs.YtfmjgkfblejknaaGreat

/-
  Opening arguments: slices of items, of whole numbers.
-/
namespace Go.Proofs.YtfmjgkfblejknaaGreat
open Go.ChangeShapes Go.WideShapes Go.ChangeAt Go.RowKit Go.Deep
set_option linter.unusedVariables false

instance : Inhabited It := ⟨⟨0, 0, 0, 0, 0⟩⟩
/-- a slice of items that came in -/
def IsI (w : World) (A : Option Addr) (n c : Nat) (l : List It) : Prop := Rd w w.heap.size 5 A n (itcs l) ∧ n ≤ c ∧ c ≤ 9223372036854775807
section
variable {H : Type} {enc : TypeId × Value → H} {W : World} {sp : Nat → Bool} {a : Option Addr} {len cap : Nat} {d : DataW H} {p : List MemPlace}
theorem is_i (h : DataW.Trod enc Tryz.prog W 0 (fun _ => true) true 23 (.slice a len cap) d p) : ∃ l, IsI W a len cap l := by
  obtain ⟨fuel, hf⟩ := h
  rcases open_slice Tryz.underlying23 hf with ⟨hcs, _⟩ | ⟨x, l, c, m, n, D, Pl, hcs, _, hl, hm, hmm, _, hx⟩
  · simp [Value.cells] at hcs
    obtain ⟨rfl, rfl, rfl⟩ := hcs
    exact ⟨[], Rd.empty, by omega, by omega⟩
  · simp [Value.cells] at hcs
    obtain ⟨rfl, rfl, rfl⟩ := hcs
    have hC : Tryz.prog.cellsOf 37 = 5 := by kernel_rfl
    rw [hC] at hx
    obtain ⟨L, hL, hr⟩ := rd_elems (W := W) (len := len) (a := x) (base := 0) itc (sz := 5) (fun _ => rfl) (by omega) (fun i hi => by
      obtain ⟨cs', h1, h2⟩ := hx i (by simp at hmm; omega)
      exact ⟨cs', h1, item_cells' h2⟩)
    exact ⟨L, hr, hl, by simpa only [maxLen] using hm⟩
/-- a slice of whole numbers that came in -/
def zvs (l : List Int64) : List Value := l.map fun z => Value.int .i64 z.toInt
def IsZ (w : World) (A : Option Addr) (n c : Nat) (l : List Int64) : Prop := Rd w w.heap.size 1 A n (zvs l) ∧ n ≤ c ∧ c ≤ 9223372036854775807
theorem is_z (h : DataW.Trod enc Tryz.prog W 0 (fun _ => true) true 33 (.slice a len cap) d p) : ∃ l, IsZ W a len cap l := by
  obtain ⟨fuel, hf⟩ := h
  rcases open_ints Tryz.underlying33 Tryz.underlying3 (by kernel_rfl) hf with ⟨hcs, _⟩ | ⟨x, l, c, zs, hcs, _, hl, hm, hz, _, hcell, hwz⟩
  · simp [Value.cells] at hcs
    obtain ⟨rfl, rfl, rfl⟩ := hcs
    exact ⟨[], Rd.empty, by omega, by omega⟩
  · simp [Value.cells] at hcs
    obtain ⟨rfl, rfl, rfl⟩ := hcs
    refine ⟨_, rd_ints (fun z : Int64 => Value.int .i64 z.toInt) (fun n => Int64.ofInt n) (fun n hn => ?_) hl (by simpa using hz) hcell hwz, hl, by simpa only [maxLen] using hm⟩
    exact congrArg _ (i64_of hn).symm
theorem Rd.zlen {w : World} {B n : Nat} {A : Option Addr} {q : List Int64} (h : Rd w B 1 A n (zvs q)) : n = q.length := by have := h.1; simp [zvs] at this; omega
theorem Rd.znum {w : World} {B n : Nat} {A : Option Addr} {q : List Int64} (h : Rd w B 1 A n (zvs q)) {k : Nat} (hk : k < n) :
    ∃ b o, A = some ⟨b, o, none⟩ ∧ b < B ∧ w.cell? ⟨b, o + k, none⟩ = some (.int .i64 (q.getD k 0).toInt) := by
  obtain ⟨b, o, e, hb, hc⟩ := h.2 (by omega)
  have hl : k < q.length := by have := h.zlen; omega
  exact ⟨b, o, e, hb, hc k _ (by simp [zvs, hl, List.getD])⟩
end
end Go.Proofs.YtfmjgkfblejknaaGreat
