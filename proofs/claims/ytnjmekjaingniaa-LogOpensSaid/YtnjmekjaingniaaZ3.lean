/-
  Texts of this claim, joined: Crc, FrameLaw3, ItemW7, ItemW8, ItemLaw, LogA, Rw, RwO, FrameW10, ItemW10, LogW2, MsgW1, MsgW2, OpenI.
-/
import Derived.Deep.RegionWith
import Derived.Deep.DrawnRows
import Derived.IntWalk
import Derived.Deep.Cut
import Derived.Deep.CutRange
import Derived.Test.YtnjmekjaingniaaZ2
/-
  Sums of texts: what turned bits do to them. Up to three of them are found in any text of less than 2^28 bytes.
-/
namespace Go.Proofs.Ytnjmekjaingniaa
open Go.RowKit
set_option linter.unusedVariables false
set_option linter.unusedSimpArgs false

theorem crcN_add : ∀ (a b n : Nat), crcN (a + b) n = crcN b (crcN a n)
  | 0, b, n => by rw [Nat.zero_add]; rfl
  | a + 1, b, n => by rw [Nat.add_right_comm]; exact crcN_add a b (crcS n)
theorem xor_swap (a b c : Nat) : a ^^^ b ^^^ c = a ^^^ c ^^^ b := by rw [Nat.xor_assoc, Nat.xor_comm b c, ← Nat.xor_assoc]
theorem xor_half (a b : Nat) : (a ^^^ b) / 2 = a / 2 ^^^ b / 2 := Nat.xor_div_two
theorem xor_odd (a b : Nat) : (a ^^^ b) % 2 = (a % 2 + b % 2) % 2 := by
  have h := Nat.xor_mod_two_eq_one (a := a) (b := b)
  have h1 := Nat.mod_two_eq_zero_or_one (a ^^^ b)
  have h2 := Nat.mod_two_eq_zero_or_one a
  have h3 := Nat.mod_two_eq_zero_or_one b
  rcases h1 with h1 | h1 <;> rcases h2 with h2 | h2 <;> rcases h3 with h3 | h3 <;> simp [h1, h2, h3] at h ⊢
theorem crcS_xor (a b : Nat) : crcS (a ^^^ b) = crcS a ^^^ crcS b := by
  have h2 := Nat.mod_two_eq_zero_or_one a
  have h3 := Nat.mod_two_eq_zero_or_one b
  unfold crcS
  rw [xor_odd, xor_half]
  rcases h2 with h2 | h2 <;> rcases h3 with h3 | h3 <;> simp only [h2, h3] <;> simp
  · rw [Nat.xor_assoc]
  · rw [xor_swap]
  · rw [Nat.xor_assoc, Nat.xor_comm (2197175160) (b / 2 ^^^ 2197175160), Nat.xor_assoc, Nat.xor_self, Nat.xor_zero]
theorem crcN_xor : ∀ (k a b : Nat), crcN k (a ^^^ b) = crcN k a ^^^ crcN k b
  | 0, _, _ => rfl
  | k + 1, a, b => by show crcN k (crcS (a ^^^ b)) = _; rw [crcS_xor, crcN_xor k]; rfl
theorem xor_zero_eq {a b : Nat} (h : a ^^^ b = 0) : a = b := by
  have h2 : (a ^^^ b) ^^^ b = 0 ^^^ b := by rw [h]
  rwa [Nat.xor_assoc, Nat.xor_self, Nat.xor_zero, Nat.zero_xor] at h2
theorem crcS_zero {a : Nat} (ha : a < 4294967296) (h : crcS a = 0) : a = 0 := by
  unfold crcS at h
  split at h
  · have := xor_zero_eq h; omega
  · omega
theorem crcN_zero : ∀ (k : Nat) {a : Nat}, a < 4294967296 → crcN k a = 0 → a = 0
  | 0, _, _, h => h
  | k + 1, _, ha, h => crcS_zero ha (crcN_zero k (crcS_lt ha) h)
theorem xor_lt32 {a b : Nat} (ha : a < 4294967296) (hb : b < 4294967296) : a ^^^ b < 4294967296 := by
  have h2 : a ^^^ b < 2 ^ 32 := Nat.xor_lt_two_pow (by omega) (by omega)
  omega
theorem crcN_inj (k : Nat) {a b : Nat} (ha : a < 4294967296) (hb : b < 4294967296) (h : crcN k a = crcN k b) : a = b :=
  xor_zero_eq (crcN_zero k (xor_lt32 ha hb) (by rw [crcN_xor, h, Nat.xor_self]))

/-- how many of the first k bits are set: odd or not -/
def par : Nat → Nat → Bool
  | 0, _ => false
  | k + 1, n => (n % 2 == 1) ^^ par k (n / 2)
theorem par_xor : ∀ (k a b : Nat), par k (a ^^^ b) = (par k a ^^ par k b)
  | 0, _, _ => rfl
  | k + 1, a, b => by
    unfold par
    rw [xor_odd, xor_half, par_xor k]
    have h2 := Nat.mod_two_eq_zero_or_one a
    have h3 := Nat.mod_two_eq_zero_or_one b
    rcases h2 with h2 | h2 <;> rcases h3 with h3 | h3 <;> simp [h2, h3]
theorem par_zero : ∀ k, par k 0 = false
  | 0 => rfl
  | k + 1 => by unfold par; simp [par_zero k]
theorem par_more : ∀ (k n : Nat), n < 2 ^ k → par (k + 1) n = par k n
  | 0, n, h => by
    have : n = 0 := by simpa using h
    subst this; rfl
  | k + 1, n, h => by
    conv => lhs; unfold par
    conv => rhs; unfold par
    rw [par_more k (n / 2) (by rw [Nat.pow_succ] at h; omega)]
theorem par_crcS {n : Nat} (h : n < 4294967296) : par 32 (crcS n) = par 32 n := by
  have e : par 32 n = ((n % 2 == 1) ^^ par 31 (n / 2)) := rfl
  have e2 := par_more 31 (n / 2) (by omega)
  rw [e, ← e2]
  unfold crcS
  split
  · rename_i h1
    rw [par_xor, h1, show par 32 2197175160 = true by decide]
    cases par 32 (n / 2) <;> rfl
  · rename_i h1
    rw [show (n % 2 == 1) = false by simp; omega]
    simp
theorem par_crcN : ∀ (k : Nat) {n : Nat}, n < 4294967296 → par 32 (crcN k n) = par 32 n
  | 0, _, _ => rfl
  | k + 1, _, h => (par_crcN k (crcS_lt h)).trans (par_crcS h)

/-- a sum that goes on from two registers together -/
theorem addC_lin (l : List UInt8) : ∀ (u v : Nat), addC (u ^^^ v) l = addC u l ^^^ crcN (8 * l.length) v := by
  induction l with
  | nil => intro u v; rfl
  | cons b l ih =>
    intro u v
    show addC (crcB (u ^^^ v) b) l = addC (crcB u b) l ^^^ _
    have e : crcB (u ^^^ v) b = crcB u b ^^^ crcN 8 v := by
      unfold crcB
      rw [xor_swap, crcN_xor]
    rw [e, ih, List.length_cons, show 8 * (l.length + 1) = 8 + 8 * l.length by omega, crcN_add]
theorem addC_set (m : UInt8) : ∀ (l : List UInt8) (n i : Nat), i < l.length → addC n (l.set i (l.getD i 0 ^^^ m)) = addC n l ^^^ crcN (8 * (l.length - i)) m.toNat
  | b :: l, n, 0, _ => by
    show addC (crcB n (b ^^^ m)) l = addC (crcB n b) l ^^^ _
    have e : crcB n (b ^^^ m) = crcB n b ^^^ crcN 8 m.toNat := by
      unfold crcB
      rw [UInt8.toNat_xor, ← Nat.xor_assoc, crcN_xor]
    rw [e, addC_lin, List.length_cons, show 8 * (l.length + 1 - 0) = 8 + 8 * l.length by omega, crcN_add]
  | b :: l, n, i + 1, h => by
    have h2 : i < l.length := by simpa using h
    show addC (crcB n b) (l.set i (l.getD i 0 ^^^ m)) = addC (crcB n b) l ^^^ _
    rw [addC_set m l _ i h2, List.length_cons, show l.length + 1 - (i + 1) = l.length - i by omega]

/-- one bit turned -/
def flipB (l : List UInt8) (p : Nat) : List UInt8 := l.set (p / 8) (l.getD (p / 8) 0 ^^^ UInt8.ofNat (2 ^ (p % 8)))
theorem flipB_len (l : List UInt8) (p : Nat) : (flipB l p).length = l.length := by unfold flipB; rw [List.length_set]
def flipsB (l : List UInt8) (ps : List Nat) : List UInt8 := ps.foldl flipB l
theorem flipsB_len : ∀ (ps : List Nat) (l : List UInt8), (flipsB l ps).length = l.length
  | [], _ => rfl
  | p :: ps, l => (flipsB_len ps (flipB l p)).trans (flipB_len l p)
theorem pow_bits : ∀ t, t < 8 → crcN t (2 ^ t) = 1 ∧ (UInt8.ofNat (2 ^ t)).toNat = 2 ^ t := by decide
theorem addC_flip {l : List UInt8} {p : Nat} (n : Nat) (h : p < 8 * l.length) : addC n (flipB l p) = addC n l ^^^ crcN (8 * l.length - p) 1 := by
  unfold flipB
  rw [addC_set _ _ _ _ (by omega)]
  obtain ⟨h1, h2⟩ := pow_bits (p % 8) (by omega)
  rw [h2, show 8 * (l.length - p / 8) = p % 8 + (8 * l.length - p) by omega, crcN_add, h1]
theorem flipB_flipB {l : List UInt8} {p : Nat} (h : p < 8 * l.length) : flipB (flipB l p) p = l := by
  have h8 : p / 8 < l.length := by omega
  unfold flipB
  have e : (l.set (p / 8) (l.getD (p / 8) 0 ^^^ UInt8.ofNat (2 ^ (p % 8)))).getD (p / 8) 0 = l.getD (p / 8) 0 ^^^ UInt8.ofNat (2 ^ (p % 8)) := by
    simp [List.getD, h8]
  rw [e, List.set_set, UInt8.xor_assoc, UInt8.xor_self, UInt8.xor_zero]
  simp [List.getD, h8]

-- the order of the step

/-- a linear step of 32 bits by its columns -/
def appC : List Nat → Nat → Nat
  | [], _ => 0
  | c :: cs, n => if n % 2 = 1 then c ^^^ appC cs (n / 2) else appC cs (n / 2)
theorem appC_eq (g : Nat → Nat) (g0 : g 0 = 0) (gx : ∀ a b, g (a ^^^ b) = g a ^^^ g b) : ∀ (k i n : Nat), n < 2 ^ k → appC ((List.range' i k).map fun j => g (2 ^ j)) n = g (n * 2 ^ i)
  | 0, i, n, h => by
    have : n = 0 := by simpa using h
    subst this
    rw [Nat.zero_mul, g0]; rfl
  | k + 1, i, n, h => by
    rw [List.range'_succ, List.map_cons]
    have hlt : n / 2 < 2 ^ k := by rw [Nat.pow_succ] at h; omega
    have ih := appC_eq g g0 gx k (i + 1) (n / 2) hlt
    unfold appC
    rw [ih]
    have e2 : n / 2 * 2 ^ (i + 1) = 2 * (n / 2) * 2 ^ i := by rw [Nat.pow_succ]; rw [Nat.mul_comm (2 ^ i) 2, ← Nat.mul_assoc, Nat.mul_comm (n / 2) 2]
    split
    · rename_i h1
      rw [← gx]
      congr 1
      rw [e2]
      have h3 : n * 2 ^ i = 2 * (n / 2) * 2 ^ i + 2 ^ i := by
        have : n = 2 * (n / 2) + 1 := by omega
        conv => lhs; rw [this]
        rw [Nat.add_mul, Nat.one_mul]
      rw [h3]
      apply Nat.eq_of_testBit_eq
      intro j
      rw [show 2 * (n / 2) * 2 ^ i + 2 ^ i = (2 * (n / 2) + 1) * 2 ^ i by rw [Nat.add_mul, Nat.one_mul], Nat.testBit_xor, Nat.testBit_mul_two_pow, Nat.testBit_mul_two_pow, Nat.testBit_two_pow]
      by_cases hj : i ≤ j
      · obtain ⟨q, rfl⟩ : ∃ q, j = i + q := ⟨j - i, by omega⟩
        rw [show i + q - i = q by omega]
        cases q with
        | zero => simp
        | succ q =>
          simp [Nat.testBit_succ]
          rw [show (2 * (n / 2) + 1) / 2 = n / 2 by omega]
      · simp [hj]
        intro h; omega
    · rename_i h1
      rw [e2, show 2 * (n / 2) = n by omega]
def colsC : Nat → List Nat
  | 0 => (List.range' 0 32).map fun j => crcS (2 ^ j)
  | k + 1 => (colsC k).map (appC (colsC k))
theorem crcN_0 (k : Nat) : crcN k 0 = 0 := by
  have h := crcN_xor k 0 0
  rw [Nat.xor_self, Nat.xor_self] at h
  exact h
theorem colsC_eq : ∀ k, colsC k = (List.range' 0 32).map fun j => crcN (2 ^ k) (2 ^ j)
  | 0 => rfl
  | k + 1 => by
    show (colsC k).map (appC (colsC k)) = _
    rw [colsC_eq k, List.map_map]
    apply List.map_congr_left
    intro j hj
    show appC _ (crcN (2 ^ k) (2 ^ j)) = _
    have hj2 : j < 32 := by simp [List.mem_range'] at hj; omega
    have hlt : 2 ^ j < 4294967296 := Nat.pow_lt_pow_right (by omega) hj2
    have h := appC_eq (fun x => crcN (2 ^ k) x) (crcN_0 _) (crcN_xor _) 32 0 (crcN (2 ^ k) (2 ^ j)) (crcN_lt _ hlt)
    rw [h]
    show crcN (2 ^ k) (crcN (2 ^ k) (2 ^ j) * 2 ^ 0) = crcN (2 ^ (k + 1)) (2 ^ j)
    rw [Nat.pow_zero, Nat.mul_one, ← crcN_add, Nat.pow_succ, Nat.mul_two]
/-- the columns, step by step, each list made once -/
def stepC : Nat → List Nat → List Nat
  | 0, l => l
  | k + 1, l => stepC k (l.map (appC l))
theorem stepC_eq : ∀ k j, stepC k (colsC j) = colsC (j + k)
  | 0, _ => rfl
  | k + 1, j => by
    show stepC k (colsC (j + 1)) = _
    rw [stepC_eq k (j + 1), Nat.add_right_comm, Nat.add_assoc]
def colK0 : List Nat := [2197175160, 1, 2, 4, 8, 16, 32, 64, 128, 256, 512, 1024, 2048, 4096, 8192, 16384, 32768, 65536, 131072, 262144, 524288, 1048576, 2097152, 4194304, 8388608, 16777216, 33554432, 67108864, 134217728, 268435456, 536870912, 1073741824]
def colK1 : List Nat := [1098587580, 2197175160, 1, 2, 4, 8, 16, 32, 64, 128, 256, 512, 1024, 2048, 4096, 8192, 16384, 32768, 65536, 131072, 262144, 524288, 1048576, 2097152, 4194304, 8388608, 16777216, 33554432, 67108864, 134217728, 268435456, 536870912]
def colK2 : List Nat := [274646895, 549293790, 1098587580, 2197175160, 1, 2, 4, 8, 16, 32, 64, 128, 256, 512, 1024, 2048, 4096, 8192, 16384, 32768, 65536, 131072, 262144, 524288, 1048576, 2097152, 4194304, 8388608, 16777216, 33554432, 67108864, 134217728]
def colK3 : List Nat := [4067132163, 3778769143, 3348797215, 2329499855, 274646895, 549293790, 1098587580, 2197175160, 1, 2, 4, 8, 16, 32, 64, 128, 256, 512, 1024, 2048, 4096, 8192, 16384, 32768, 65536, 131072, 262144, 524288, 1048576, 2097152, 4194304, 8388608]
def colK4 : List Nat := [329422967, 658845934, 1317691868, 2635383736, 1069937025, 2139874050, 4279748100, 4223924985, 4067132163, 3778769143, 3348797215, 2329499855, 274646895, 549293790, 1098587580, 2197175160, 1, 2, 4, 8, 16, 32, 64, 128, 256, 512, 1024, 2048, 4096, 8192, 16384, 32768]
def colK5 : List Nat := [3712330424, 3211207553, 2065838579, 4131677158, 3915690301, 3609531531, 2879807463, 1386268991, 2772537982, 1332695565, 2665391130, 944848581, 1889697162, 3779394324, 3345318105, 2334619459, 329422967, 658845934, 1317691868, 2635383736, 1069937025, 2139874050, 4279748100, 4223924985, 4067132163, 3778769143, 3348797215, 2329499855, 274646895, 549293790, 1098587580, 2197175160]
def colK6 : List Nat := [1228700967, 2457401934, 555582061, 1111164122, 2222328244, 218129817, 436259634, 872519268, 1745038536, 3490077072, 2782971345, 1311636819, 2623273638, 1029407677, 2058815354, 4117630708, 4012927769, 3683426499, 3002414967, 1611012127, 3222024254, 2247366285, 235166699, 470333398, 940666796, 1881333592, 3762667184, 3311864721, 2401395155, 464041303, 928082606, 1856165212]
def colK7 : List Nat := [4060876286, 3790892301, 3322195179, 2313498407, 371599551, 743199102, 1486398204, 2972796408, 1737424129, 3474848258, 2614592245, 843281179, 1686562358, 3373124716, 2549607977, 704883363, 1409766726, 2819533452, 1441866729, 2883733458, 1378416981, 2756833962, 1297060773, 2594121546, 819083365, 1638166730, 3276333460, 2206053849, 51846467, 103692934, 207385868, 414771736]
def colK8 : List Nat := [1034342603, 2068685206, 4137370412, 3906662569, 3562641315, 2908707255, 1599260063, 3198520126, 2024235149, 4048470298, 3883005125, 3406798715, 2482194439, 571139839, 1142279678, 2284559356, 364593417, 729186834, 1458373668, 2916747336, 1582851681, 3165703362, 2089676661, 4179353322, 4158376741, 3931889851, 3512448903, 2807765503, 1264207119, 2528414238, 679830221, 1359660442]
def colK9 : List Nat := [1947135746, 3894271492, 3587689209, 2923684611, 1500229879, 3000459758, 1614984493, 3229968986, 2229707333, 203502203, 407004406, 814008812, 1628017624, 3256035248, 2177513873, 108529107, 217058214, 434116428, 868232856, 1736465712, 3472931424, 2616001073, 842429075, 1684858150, 3369716300, 2489311849, 760459811, 1520919622, 3041839244, 1869735913, 3739471826, 3089885525]
def colK10 : List Nat := [1771228834, 3542457668, 2745650297, 1117974019, 2235948038, 258461437, 516922874, 1033845748, 2067691496, 4135382992, 3910510929, 3620152403, 2858565207, 1361578591, 2723157182, 1095524237, 2191048474, 14485701, 28971402, 57942804, 115885608, 231771216, 463542432, 927084864, 1854169728, 3708339456, 3221093617, 2048364307, 4096728614, 3987884733, 3733513099, 3103633895]
def colK11 : List Nat := [3702618788, 3163456441, 2096198019, 4192396038, 4129927421, 3921614603, 3599915239, 2831730495, 1417541775, 2835083550, 1411093709, 2822187418, 1434592709, 2869185418, 1407508965, 2815017930, 1249898853, 2499797706, 739488613, 1478977226, 2957954452, 1701965273, 3403930546, 2418786709, 633075163, 1266150326, 2532300652, 674486313, 1348972626, 2697945252, 1148368825, 2296737650]
def colK12 : List Nat := [3178201592, 2134078721, 4268157442, 4179731189, 4155454235, 3937538247, 3498596223, 2768033807, 1276495599, 2552991198, 901475661, 1802951322, 3605902644, 2822184089, 1434603459, 2869206918, 1407535613, 2815071226, 1249464581, 2498929162, 738800357, 1477600714, 2955201428, 1705370073, 3410740146, 2474373525, 589010395, 1178020790, 2356041580, 489740329, 979480658, 1958961316]
def colK13 : List Nat := [4264641112, 4186894913, 4143026803, 3893318167, 3589460703, 2919879503, 1509937263, 3019874526, 1645426509, 3290853018, 2376117189, 514662779, 1029325558, 2058651116, 4117302232, 4013842753, 3683693683, 2999787031, 1618365151, 3236730302, 2218089869, 226938347, 453876694, 907753388, 1815506776, 3631013552, 3040201617, 1871176147, 3742352294, 3153326525, 1913361803, 3826723606]
def colK14 : List Nat := [4149242244, 3947668985, 3547675907, 2735082743, 1138781983, 2277563966, 174967437, 349934874, 699869748, 1399739496, 2799478992, 1213540177, 2427080354, 616098741, 1232197482, 2464394964, 539700057, 1079400114, 2158800228, 78982201, 157964402, 315928804, 631857608, 1263715216, 2527430432, 682064049, 1364128098, 2728256196, 1087878009, 2175756018, 112376597, 224753194]
def colK15 : List Nat := [3265640030, 2158434893, 77742699, 155485398, 310970796, 621941592, 1243883184, 2487766368, 763161649, 1526323298, 3052646596, 1846220665, 3692441330, 3183487765, 2121015515, 4242031030, 4233950621, 4250246603, 4282862951, 4217564223, 4079595151, 3820956655, 3264356655, 2160604335, 75243439, 150486878, 300973756, 601947512, 1203895024, 2407790048, 451648817, 903297634]
def colK16 : List Nat := [3762348204, 3312301993, 2402752931, 461522359, 923044718, 1846089436, 3692178872, 3184012673, 2122067443, 4244134886, 4229742909, 4258657419, 4266106855, 4184033599, 4146783375, 3954819055, 3533637935, 2698142895, 1145618351, 2291236702, 349079629, 698159258, 1396318516, 2792637032, 1225060897, 2450121794, 570408565, 1140817130, 2281634260, 168920409, 337840818, 675681636]
def colK17 : List Nat := [3351957165, 2323245995, 287285671, 574571342, 1149142684, 2298285368, 337013889, 674027778, 1348055556, 2696111112, 1149943521, 2299887042, 398888309, 797776618, 1595553236, 3191106472, 2038735265, 4077470530, 3825135733, 3255932443, 2177850055, 108184447, 216368894, 432737788, 865475576, 1730951152, 3461902304, 2572986673, 928326803, 1856653606, 3713307212, 3208991337]
def colK18 : List Nat := [83680447, 167360894, 334721788, 669443576, 1338887152, 2677774304, 987453745, 1974907490, 3949814980, 3543580537, 2743142403, 1122920183, 2245840366, 240512301, 481024602, 962049204, 1924098408, 3848196816, 3478246225, 2605699155, 863229527, 1726459054, 3452918108, 2658321481, 956956259, 1913912518, 3827825036, 3450045929, 2662038819, 951749815, 1903499630, 3806999260]
def colK19 : List Nat := [1806683169, 3613366338, 2874361461, 1397422619, 2794845238, 1221041821, 2442083642, 653397125, 1306794250, 2613588500, 846992089, 1693984178, 3387968356, 2517426233, 703968899, 1407937798, 2815875596, 1245823721, 2491647442, 753630549, 1507261098, 3014522196, 1656200281, 3312400562, 2402420629, 461928923, 923857846, 1847715692, 3695431384, 3177966401, 2134614131, 4269228262]
def colK20 : List Nat := [335823302, 671646604, 1343293208, 2686586416, 1168665233, 2337330466, 323869877, 647739754, 1295479508, 2590959016, 825343393, 1650686786, 3301373572, 2355207161, 489636099, 979272198, 1958544396, 3917088792, 3608700609, 2883369843, 1381302295, 2762604590, 1287157421, 2574314842, 923642949, 1847285898, 3694571796, 3179353305, 2129551171, 4259102342, 4266986493, 4182139147]
def colK21 : List Nat := [1746360842, 3492721684, 2779848409, 1317948227, 2635896454, 1070947325, 2141894650, 4283789300, 4215712025, 4083229891, 3811458935, 3283093535, 2190239439, 16038767, 32077534, 64155068, 128310136, 256620272, 513240544, 1026481088, 2052962176, 4105924352, 3969558769, 3705218835, 3160291543, 2102396767, 4204793534, 4037831565, 3837043179, 3431281959, 2632326335, 1008750479]
def colK22 : List Nat := [3791599207, 3323075135, 2311602831, 377287663, 754575326, 1509150652, 3018301304, 1646479361, 3292958722, 2371966709, 523164443, 1046328886, 2092657772, 4185315544, 4144088897, 3958372467, 3526592023, 2710272735, 1190822735, 2381645470, 503741389, 1007482778, 2014965556, 4029931112, 3851143713, 3472614067, 2551952279, 903549407, 1807098814, 3614197628, 2872375305, 1401259747]
def colK23 : List Nat := [2339516652, 319297321, 638594642, 1277189284, 2554378568, 896336993, 1792673986, 3585347972, 2927908345, 1491393795, 2982787590, 1719599869, 3439199738, 2618326277, 1036815611, 2073631222, 4147262444, 3951563049, 3539752099, 2685722551, 1170590111, 2341180222, 318460045, 636920090, 1273840180, 2547680360, 710508065, 1421016130, 2842032260, 1462208505, 2924417010, 1500670229]
def colK24 : List Nat := [1444372256, 2888744512, 1571883633, 3143767266, 1932025653, 3864051306, 3377269285, 2541118139, 721466247, 1442932494, 2885864988, 1575611081, 3151222162, 1917574613, 3835149226, 3435332005, 2624222651, 1027120519, 2054241038, 4108482076, 3962084041, 3720168291, 3197562935, 2025952927, 4051905854, 3874106509, 3359125483, 2510039335, 785654975, 1571309950, 3142619900, 1934447369]
def colK25 : List Nat := [3114523856, 1990971217, 3981942434, 3745729461, 3144343963, 1933161927, 3866323854, 3372917229, 2549691691, 706616487, 1413232974, 2826465948, 1427936201, 2855872402, 1369323989, 2738647978, 1133810085, 2267620170, 197013605, 394027210, 788054420, 1576108840, 3152217680, 1915386449, 3830772898, 3443892149, 2674346395, 992142791, 1984285582, 3968571164, 3707459785, 3155871587]
def colK26 : List Nat := [3710744734, 3216410573, 2055305579, 4110611158, 4025062237, 3661582411, 2979190375, 1724504639, 3449009278, 2664111629, 947538667, 1895077334, 3790154668, 3325960617, 2307929507, 382475703, 764951406, 1529902812, 3059805624, 1764601217, 3529202434, 2707079413, 1197078299, 2394156598, 411806365, 823612730, 1647225460, 3294450920, 2371280673, 524404915, 1048809830, 2097619660]
def colK27 : List Nat := [1141075018, 2282150036, 367118297, 734236594, 1468473188, 2936946376, 1542458209, 3084916418, 1781291893, 3562583786, 2908560165, 1599488187, 3198976374, 2025157661, 4050315322, 3879315077, 3416210427, 2463236359, 541619455, 1083238910, 2166477820, 128962825, 257925650, 515851300, 1031702600, 2063405200, 4126810400, 3994563761, 3655081875, 3058977239, 1766122847, 3532245694]
def colK28 : List Nat := [1175610749, 2351221498, 497410821, 994821642, 1989643284, 3979286568, 3753002657, 3129539507, 1895661975, 3791323950, 3323621549, 2312673195, 375216551, 750433102, 1500866204, 3001732408, 1614408833, 3228817666, 2232141045, 268173083, 536346166, 1072692332, 2145384664, 4290769328, 4203976081, 4039859667, 3833253207, 3441028191, 2682236495, 978528879, 1957057758, 3914115516]
def colK29 : List Nat := [1481463145, 2962926290, 1691951957, 3383903914, 2525559717, 687702459, 1375404918, 2750809836, 1107327785, 2214655570, 233675349, 467350698, 934701396, 1869402792, 3738805584, 3093249105, 1968311891, 3936623782, 3500429245, 2762271115, 1285924327, 2571848654, 930799981, 1861599962, 3723199924, 3191569817, 2040171971, 4080343942, 3817226749, 3269522699, 2150472935, 95899455]
def colK30 : List Nat := [3905762274, 3564507445, 2902480027, 1609359303, 3218718606, 2053048813, 4106097626, 3968880965, 3704411259, 3161841159, 2097662719, 4195325438, 4059258125, 3859467499, 3388600103, 2518657215, 701704079, 1403408158, 2806816316, 1265977993, 2531955986, 674847957, 1349695914, 2699391828, 1143378009, 2286756018, 360069013, 720138026, 1440276052, 2880552104, 1385107361, 2770214722]
def colK31 : List Nat := [2197175160, 1, 2, 4, 8, 16, 32, 64, 128, 256, 512, 1024, 2048, 4096, 8192, 16384, 32768, 65536, 131072, 262144, 524288, 1048576, 2097152, 4194304, 8388608, 16777216, 33554432, 67108864, 134217728, 268435456, 536870912, 1073741824]
theorem colK0_eq : colsC 0 = colK0 := by decide
theorem colK1_eq : colsC 1 = colK1 := by
  show (colsC 0).map (appC (colsC 0)) = _
  rw [colK0_eq]
  kernel_rfl
theorem colK2_eq : colsC 2 = colK2 := by
  show (colsC 1).map (appC (colsC 1)) = _
  rw [colK1_eq]
  kernel_rfl
theorem colK3_eq : colsC 3 = colK3 := by
  show (colsC 2).map (appC (colsC 2)) = _
  rw [colK2_eq]
  kernel_rfl
theorem colK4_eq : colsC 4 = colK4 := by
  show (colsC 3).map (appC (colsC 3)) = _
  rw [colK3_eq]
  kernel_rfl
theorem colK5_eq : colsC 5 = colK5 := by
  show (colsC 4).map (appC (colsC 4)) = _
  rw [colK4_eq]
  kernel_rfl
theorem colK6_eq : colsC 6 = colK6 := by
  show (colsC 5).map (appC (colsC 5)) = _
  rw [colK5_eq]
  kernel_rfl
theorem colK7_eq : colsC 7 = colK7 := by
  show (colsC 6).map (appC (colsC 6)) = _
  rw [colK6_eq]
  kernel_rfl
theorem colK8_eq : colsC 8 = colK8 := by
  show (colsC 7).map (appC (colsC 7)) = _
  rw [colK7_eq]
  kernel_rfl
theorem colK9_eq : colsC 9 = colK9 := by
  show (colsC 8).map (appC (colsC 8)) = _
  rw [colK8_eq]
  kernel_rfl
theorem colK10_eq : colsC 10 = colK10 := by
  show (colsC 9).map (appC (colsC 9)) = _
  rw [colK9_eq]
  kernel_rfl
theorem colK11_eq : colsC 11 = colK11 := by
  show (colsC 10).map (appC (colsC 10)) = _
  rw [colK10_eq]
  kernel_rfl
theorem colK12_eq : colsC 12 = colK12 := by
  show (colsC 11).map (appC (colsC 11)) = _
  rw [colK11_eq]
  kernel_rfl
theorem colK13_eq : colsC 13 = colK13 := by
  show (colsC 12).map (appC (colsC 12)) = _
  rw [colK12_eq]
  kernel_rfl
theorem colK14_eq : colsC 14 = colK14 := by
  show (colsC 13).map (appC (colsC 13)) = _
  rw [colK13_eq]
  kernel_rfl
theorem colK15_eq : colsC 15 = colK15 := by
  show (colsC 14).map (appC (colsC 14)) = _
  rw [colK14_eq]
  kernel_rfl
theorem colK16_eq : colsC 16 = colK16 := by
  show (colsC 15).map (appC (colsC 15)) = _
  rw [colK15_eq]
  kernel_rfl
theorem colK17_eq : colsC 17 = colK17 := by
  show (colsC 16).map (appC (colsC 16)) = _
  rw [colK16_eq]
  kernel_rfl
theorem colK18_eq : colsC 18 = colK18 := by
  show (colsC 17).map (appC (colsC 17)) = _
  rw [colK17_eq]
  kernel_rfl
theorem colK19_eq : colsC 19 = colK19 := by
  show (colsC 18).map (appC (colsC 18)) = _
  rw [colK18_eq]
  kernel_rfl
theorem colK20_eq : colsC 20 = colK20 := by
  show (colsC 19).map (appC (colsC 19)) = _
  rw [colK19_eq]
  kernel_rfl
theorem colK21_eq : colsC 21 = colK21 := by
  show (colsC 20).map (appC (colsC 20)) = _
  rw [colK20_eq]
  kernel_rfl
theorem colK22_eq : colsC 22 = colK22 := by
  show (colsC 21).map (appC (colsC 21)) = _
  rw [colK21_eq]
  kernel_rfl
theorem colK23_eq : colsC 23 = colK23 := by
  show (colsC 22).map (appC (colsC 22)) = _
  rw [colK22_eq]
  kernel_rfl
theorem colK24_eq : colsC 24 = colK24 := by
  show (colsC 23).map (appC (colsC 23)) = _
  rw [colK23_eq]
  kernel_rfl
theorem colK25_eq : colsC 25 = colK25 := by
  show (colsC 24).map (appC (colsC 24)) = _
  rw [colK24_eq]
  kernel_rfl
theorem colK26_eq : colsC 26 = colK26 := by
  show (colsC 25).map (appC (colsC 25)) = _
  rw [colK25_eq]
  kernel_rfl
theorem colK27_eq : colsC 27 = colK27 := by
  show (colsC 26).map (appC (colsC 26)) = _
  rw [colK26_eq]
  kernel_rfl
theorem colK28_eq : colsC 28 = colK28 := by
  show (colsC 27).map (appC (colsC 27)) = _
  rw [colK27_eq]
  kernel_rfl
theorem colK29_eq : colsC 29 = colK29 := by
  show (colsC 28).map (appC (colsC 28)) = _
  rw [colK28_eq]
  kernel_rfl
theorem colK30_eq : colsC 30 = colK30 := by
  show (colsC 29).map (appC (colsC 29)) = _
  rw [colK29_eq]
  kernel_rfl
theorem colK31_eq : colsC 31 = colK31 := by
  show (colsC 30).map (appC (colsC 30)) = _
  rw [colK30_eq]
  kernel_rfl
theorem crcN_big : crcN (2 ^ 31) 1 = crcN 1 1 := by
  have h : (colsC 31).getD 0 0 = 2197175160 := by rw [colK31_eq]; rfl
  have e : ∀ f : Nat → Nat, ((List.range' 0 32).map f).getD 0 0 = f 0 := fun f => rfl
  rw [colsC_eq, e] at h
  rw [show crcN 1 1 = 2197175160 by decide]
  rw [Nat.pow_zero] at h
  exact h
theorem crcN_per : crcN 2147483647 1 = 1 := by
  have h := crcN_big
  rw [show 2 ^ 31 = 2147483647 + 1 by decide, crcN_add] at h
  exact crcN_inj 1 (crcN_lt _ (by decide)) (by decide) h

/-- no number of a row of 2 ^ k divides the great prime -/
def noDiv : Nat → Nat → Bool
  | 0, lo => 2147483647 % lo != 0
  | k + 1, lo => noDiv k lo && noDiv k (lo + 2 ^ k)
theorem noDiv_at : ∀ (k lo : Nat), noDiv k lo = true → ∀ t, lo ≤ t → t < lo + 2 ^ k → 2147483647 % t ≠ 0
  | 0, lo, h, t, h1, h2 => by
    have : t = lo := by rw [Nat.pow_zero] at h2; omega
    subst this
    simpa [noDiv] using h
  | k + 1, lo, h, t, h1, h2 => by
    unfold noDiv at h
    rw [Bool.and_eq_true] at h
    rw [Nat.pow_succ] at h2
    by_cases ht : t < lo + 2 ^ k
    · exact noDiv_at k lo h.1 t h1 ht
    · exact noDiv_at k (lo + 2 ^ k) h.2 t (by omega) (by omega)
theorem prime_M {g h : Nat} (e : 2147483647 = g * h) (hg : 1 < g) : h ≤ 1 := by
  have key : ∀ t, 2 ≤ t → t < 2 + 2 ^ 16 → 2147483647 % t ≠ 0 := noDiv_at 16 2 (by kernel_rfl)
  rcases Nat.lt_or_ge 1 h with h1 | h1
  · rcases Nat.lt_or_ge g 65538 with h2 | h2
    · exact absurd (by rw [e]; exact Nat.mul_mod_right g h) (key g hg (by omega))
    · rcases Nat.lt_or_ge h 65538 with h3 | h3
      · exact absurd (by rw [e]; exact Nat.mul_mod_left g h) (key h h1 (by omega))
      · have := Nat.mul_le_mul h2 h3
        omega
  · exact h1
theorem crcN_mul {d : Nat} (hd : crcN d 1 = 1) : ∀ q, crcN (d * q) 1 = 1
  | 0 => rfl
  | q + 1 => by rw [Nat.mul_succ, crcN_add, crcN_mul hd q, hd]
theorem crcN_gcd (a b : Nat) : crcN a 1 = 1 → crcN b 1 = 1 → crcN (Nat.gcd a b) 1 = 1 := by
  induction a, b using Nat.gcd.induction with
  | H0 n => intro _ h; rwa [Nat.gcd_zero_left]
  | H1 m n hm ih =>
    intro h1 h2
    rw [Nat.gcd_rec]
    refine ih ?_ h1
    have e : crcN (m * (n / m) + n % m) 1 = 1 := by rw [Nat.div_add_mod]; exact h2
    rw [crcN_add, crcN_mul h1] at e
    exact e
/-- two bits that are less than 2 ^ 31 - 1 places apart are told from each other -/
theorem crcN_order {d : Nat} (h0 : 0 < d) (h1 : d < 2147483647) : crcN d 1 ≠ 1 := by
  intro h
  have hg := crcN_gcd d 2147483647 h crcN_per
  obtain ⟨q, hq⟩ := Nat.gcd_dvd_right d 2147483647
  have hle := Nat.le_of_dvd h0 (Nat.gcd_dvd_left d 2147483647)
  generalize Nat.gcd d 2147483647 = g at *
  rcases Nat.lt_or_ge 1 g with h2 | h2
  · have := prime_M hq h2
    have h3 : q = 0 ∨ q = 1 := by omega
    rcases h3 with rfl | rfl <;> omega
  · have h3 : g = 0 ∨ g = 1 := by omega
    rcases h3 with rfl | rfl
    · omega
    · exact absurd hg (by decide)

-- what was sealed, turned
theorem crcN_hi : ∀ (m : Nat), crcN 8 (256 * m) = m := by
  intro m
  have h2 : ∀ x, crcS (2 * x) = x := by
    intro x; unfold crcS; rw [if_neg (by omega)]; omega
  rw [show 256 * m = 2 * (2 * (2 * (2 * (2 * (2 * (2 * (2 * m))))))) by omega]
  simp only [crcN, h2]
theorem lo_hi (c : Nat) : c = c % 256 ^^^ 256 * (c / 256) := by
  apply Nat.eq_of_testBit_eq
  intro j
  rw [Nat.testBit_xor, show (256 : Nat) = 2 ^ 8 by decide, Nat.testBit_mod_two_pow, Nat.testBit_two_pow_mul, Nat.testBit_div_two_pow]
  by_cases hj : j < 8
  · simp [hj, show ¬ 8 ≤ j by omega]
  · simp [hj, show 8 ≤ j by omega, show j - 8 + 8 = j by omega]
theorem crcN_byte (n c : Nat) : crcN 8 (n ^^^ c) = crcB n (UInt8.ofNat c) ^^^ c / 256 := by
  unfold crcB
  rw [UInt8.toNat_ofNat', show (2 : Nat) ^ 8 = 256 by decide]
  conv => lhs; rw [lo_hi c]
  rw [← Nat.xor_assoc, crcN_xor, crcN_hi]
theorem addC_sumB (r c : Nat) (hc : c < 4294967296) : addC r (sumB c) = crcN 32 (r ^^^ c) := by
  rw [show (32 : Nat) = 8 + (8 + (8 + 8)) by decide, crcN_add, crcN_byte, crcN_add, crcN_byte, crcN_add, crcN_byte, crcN_byte]
  rw [show c / 256 / 256 = c / 65536 by omega, show c / 65536 / 256 = c / 16777216 by omega, show c / 16777216 / 256 = 0 by omega, Nat.xor_zero]
  rfl
theorem xor_not {r : Nat} (h : r < 4294967296) : r ^^^ (4294967295 - r) = 4294967295 := by
  apply Nat.eq_of_testBit_eq
  intro j
  rw [Nat.testBit_xor, show 4294967295 - r = 2 ^ 32 - (r + 1) by omega, Nat.testBit_two_pow_sub_succ (by omega), show (4294967295 : Nat) = 2 ^ 32 - 1 by decide, Nat.testBit_two_pow_sub_one]
  by_cases hj : j < 32
  · simp [hj]
  · have : r.testBit j = false := Nat.testBit_lt_two_pow (Nat.lt_of_lt_of_le (show r < 2 ^ 32 by omega) (Nat.pow_le_pow_right (by omega) (by omega)))
    simp [hj, this]
theorem open_sum {l : List UInt8} (h : openE l = 0) : addC 4294967295 l = crcN 32 4294967295 := by
  unfold openE at h
  split at h
  · omega
  · split at h
    · rename_i h4 hs
      have hr := addC_lt (l.take (l.length - 4)) (n := 4294967295) (by decide)
      rw [← hs]
      unfold sealB
      rw [addC_append, addC_sumB _ _ (sumC_lt _)]
      unfold sumC
      rw [xor_not hr]
    · omega

def xorsC (T : Nat) (ps : List Nat) : Nat := ps.foldr (fun p x => crcN (T - p) 1 ^^^ x) 0
theorem addC_flips (n : Nat) : ∀ (ps : List Nat) (l : List UInt8), (∀ p ∈ ps, p < 8 * l.length) → addC n (flipsB l ps) = addC n l ^^^ xorsC (8 * l.length) ps
  | [], l, _ => by show _ = _ ^^^ 0; rw [Nat.xor_zero]; rfl
  | p :: ps, l, h => by
    show addC n (flipsB (flipB l p) ps) = _
    have hp := h p List.mem_cons_self
    rw [addC_flips n ps (flipB l p) (fun q hq => by rw [flipB_len]; exact h q (List.mem_cons_of_mem _ hq)), addC_flip n hp, flipB_len]
    show _ = addC n l ^^^ (crcN (8 * l.length - p) 1 ^^^ xorsC (8 * l.length) ps)
    rw [Nat.xor_assoc]
theorem par_one (k : Nat) : par 32 (crcN k 1) = true := by rw [par_crcN k (by decide)]; decide
theorem crcN_one_lt (k : Nat) : crcN k 1 < 4294967296 := crcN_lt k (by decide)
theorem crcN_two {T p q : Nat} (hp : p < T) (hq : q < T) (hT : T ≤ 2147483647) (h : crcN (T - p) 1 = crcN (T - q) 1) : p = q := by
  have key : ∀ a b : Nat, a < b → b < T → crcN (T - a) 1 = crcN (T - b) 1 → False := by
    intro a b hab hb h
    rw [show T - a = (b - a) + (T - b) by omega, crcN_add] at h
    exact crcN_order (show 0 < b - a by omega) (by omega) (crcN_inj _ (crcN_one_lt _) (by decide) h)
  rcases Nat.lt_trichotomy p q with h1 | h1 | h1
  · exact (key p q h1 hq h).elim
  · exact h1
  · exact (key q p h1 hp h.symm).elim
/-- up to three bits that are turned in what is sealed are found -/
theorem open_flips {l : List UInt8} {ps : List Nat} (h : openE l = 0) (h3 : ps.length ≤ 3) (hb : ∀ p ∈ ps, p < 8 * l.length) (hM : 8 * l.length ≤ 2147483647) (h' : openE (flipsB l ps) = 0) : flipsB l ps = l := by
  have e := addC_flips 4294967295 ps l hb
  rw [open_sum h', open_sum h] at e
  have hx : xorsC (8 * l.length) ps = 0 := by
    have : crcN 32 4294967295 ^^^ crcN 32 4294967295 = crcN 32 4294967295 ^^^ (crcN 32 4294967295 ^^^ xorsC (8 * l.length) ps) := by rw [← e]
    rw [← Nat.xor_assoc, Nat.xor_self, Nat.zero_xor] at this
    exact this.symm
  match ps, h3, hb, hx with
  | [], _, _, _ => rfl
  | [p], _, hb, hx => exact absurd (congrArg (par 32) hx) (by show ¬ par 32 (_ ^^^ 0) = _; rw [Nat.xor_zero, par_one, par_zero]; decide)
  | [p, q], _, hb, hx =>
    have hx2 : crcN (8 * l.length - p) 1 ^^^ (crcN (8 * l.length - q) 1 ^^^ 0) = 0 := hx
    rw [Nat.xor_zero] at hx2
    have hp := hb p List.mem_cons_self
    have hpq := crcN_two hp (hb q (List.mem_cons_of_mem _ List.mem_cons_self)) hM (xor_zero_eq hx2)
    subst hpq
    exact flipB_flipB hp
  | [p, q, r], _, hb, hx => exact absurd (congrArg (par 32) hx) (by show ¬ par 32 (_ ^^^ (_ ^^^ (_ ^^^ 0))) = _; rw [Nat.xor_zero, par_xor, par_xor, par_one, par_one, par_one, par_zero]; decide)
  | _ :: _ :: _ :: _ :: _, h3, _, _ => exact absurd h3 (by simp)

-- flips in rows of parts
theorem flipB_left {a b : List UInt8} {p : Nat} (h : p < 8 * a.length) : flipB (a ++ b) p = flipB a p ++ b := by
  have h8 : p / 8 < a.length := by omega
  unfold flipB
  rw [List.set_append_left _ _ h8]
  simp [List.getD, List.getElem?_append_left h8]
theorem flipB_right {a b : List UInt8} {p : Nat} (h : 8 * a.length ≤ p) : flipB (a ++ b) p = a ++ flipB b (p - 8 * a.length) := by
  have h8 : a.length ≤ p / 8 := by omega
  unfold flipB
  rw [List.set_append_right _ _ h8, show (p - 8 * a.length) / 8 = p / 8 - a.length by omega, show (p - 8 * a.length) % 8 = p % 8 by omega]
  simp [List.getD, List.getElem?_append_right h8]
/-- the flips that fall into a row's first T bits, and the others -/
theorem flips_split : ∀ (ps : List Nat) (a b : List UInt8), (∀ p ∈ ps, p < 8 * (a.length + b.length)) → ∃ p1 p2 : List Nat, flipsB (a ++ b) ps = flipsB a p1 ++ flipsB b p2 ∧ p1.length ≤ ps.length ∧ p2.length ≤ ps.length ∧ (∀ p ∈ p1, p < 8 * a.length) ∧ (∀ p ∈ p2, p < 8 * b.length)
  | [], a, b, _ => ⟨[], [], rfl, Nat.le_refl _, Nat.le_refl _, fun _ h => by simp at h, fun _ h => by simp at h⟩
  | p :: ps, a, b, h => by
    have hp := h p List.mem_cons_self
    have hr := fun q hq => h q (List.mem_cons_of_mem p hq)
    by_cases h1 : p < 8 * a.length
    · obtain ⟨p1, p2, e, l1, l2, b1, b2⟩ := flips_split ps (flipB a p) b (by rw [flipB_len]; exact hr)
      rw [flipB_len] at b1
      refine ⟨p :: p1, p2, ?_, by simp; omega, by simp; omega, ?_, b2⟩
      · show flipsB (flipB (a ++ b) p) ps = flipsB (flipB a p) p1 ++ _
        rw [flipB_left h1, e]
      · intro q hq
        rcases List.mem_cons.1 hq with rfl | hq
        · exact h1
        · exact b1 q hq
    · obtain ⟨p1, p2, e, l1, l2, b1, b2⟩ := flips_split ps a (flipB b (p - 8 * a.length)) (by rw [flipB_len]; exact hr)
      rw [flipB_len] at b2
      refine ⟨p1, (p - 8 * a.length) :: p2, ?_, by simp; omega, by simp; omega, b1, ?_⟩
      · show flipsB (flipB (a ++ b) p) ps = _ ++ flipsB (flipB b (p - 8 * a.length)) p2
        rw [flipB_right (by omega), e]
      · intro q hq
        rcases List.mem_cons.1 hq with rfl | hq
        · omega
        · exact b2 q hq
end Go.Proofs.Ytnjmekjaingniaa

/-
  Frames with bits turned: the plain law.
-/
namespace Go.Proofs.Ytnjmekjaingniaa
open Go.RowKit
set_option linter.unusedVariables false
set_option linter.unusedSimpArgs false

theorem flipB_mid {pre F post : List UInt8} {p : Nat} (h : p < 8 * F.length) : flipB (pre ++ (F ++ post)) (8 * pre.length + p) = pre ++ (flipB F p ++ post) := by
  rw [flipB_right (by omega), show 8 * pre.length + p - 8 * pre.length = p by omega, flipB_left h]
theorem flips_mid : ∀ (ps : List Nat) (pre F post : List UInt8), (∀ p ∈ ps, p < 8 * F.length) → flipsB (pre ++ (F ++ post)) (ps.map (8 * pre.length + ·)) = pre ++ (flipsB F ps ++ post)
  | [], _, _, _, _ => rfl
  | p :: ps, pre, F, post, h => by
    show flipsB (flipB (pre ++ (F ++ post)) (8 * pre.length + p)) _ = _
    rw [flipB_mid (h p List.mem_cons_self), flips_mid ps pre (flipB F p) post (fun q hq => by rw [flipB_len]; exact h q (List.mem_cons_of_mem _ hq))]
    rfl
theorem headN_head (k : Int) (n : Nat) (hn : n ≤ 60000) (x : List UInt8) : headN (sealB (headB k n) ++ x) = n := by
  have g : ∀ j, j < 4 → (sealB (headB k n) ++ x).getD j 0 = (headB k n).getD j 0 := by
    intro j hj
    unfold sealB
    simp only [List.getD_eq_getElem?_getD]
    rw [List.append_assoc, List.getElem?_append_left (by simpa [headB] using hj)]
  unfold headN
  rw [g 1 (by omega), g 2 (by omega), g 3 (by omega)]
  have e1 : (n / 65536) % 256 * 65536 + (n / 256) % 256 * 256 + n % 256 = n := by omega
  simpa [headB, List.getD] using e1
theorem takeR_bad1 {r : List UInt8} (h : openE (r.take 8) ≠ 0) : (takeR r).1 ≠ 0 := by
  unfold takeR
  split
  · decide
  · exact h
theorem takeR_bad2 {r : List UInt8} (h : openE ((r.drop 8).take (headN r + 4)) ≠ 0) : (takeR r).1 ≠ 0 := by
  unfold takeR
  split
  · decide
  · split
    · assumption
    · split
      · decide
      · split
        · decide
        · exact h
/-- a frame with up to three bits turned is told as it was, or refused -/
theorem frame_flips (k : Int) (l post : List UInt8) (hl : l.length ≤ 60000) {ps : List Nat} (h3 : ps.length ≤ 3) (hb : ∀ p ∈ ps, p < 8 * (frameB k l).length) :
    flipsB (frameB k l) ps = frameB k l ∨ (takeR (flipsB (frameB k l) ps ++ post)).1 ≠ 0 := by
  have hH : (sealB (headB k l.length)).length = 8 := by rw [sealB_len]; rfl
  have hB := sealB_len l
  have hf : frameB k l = sealB (headB k l.length) ++ sealB l := rfl
  rw [frameB_len] at hb
  obtain ⟨p1, p2, e, l1, l2, b1, b2⟩ := flips_split ps (sealB (headB k l.length)) (sealB l) (fun p hp => by have := hb p hp; omega)
  rw [hf, e]
  have fl1 := flipsB_len p1 (sealB (headB k l.length))
  have fl2 := flipsB_len p2 (sealB l)
  by_cases o1 : openE (flipsB (sealB (headB k l.length)) p1) = 0
  · have e1 := open_flips (openE_seal _) (by omega) b1 (by omega) o1
    rw [e1]
    by_cases o2 : openE (flipsB (sealB l) p2) = 0
    · left
      rw [open_flips (openE_seal _) (by omega) b2 (by omega) o2]
    · right
      apply takeR_bad2
      rw [List.append_assoc, headN_head k _ hl]
      have e3 : (sealB (headB k l.length) ++ (flipsB (sealB l) p2 ++ post)).drop 8 = flipsB (sealB l) p2 ++ post := by rw [← hH, List.drop_left]
      have e4 : (flipsB (sealB l) p2 ++ post).take (l.length + 4) = flipsB (sealB l) p2 := by rw [← hB, ← fl2, List.take_left]
      rw [e3, e4]
      exact o2
  · right
    apply takeR_bad1
    have e3 : (flipsB (sealB (headB k l.length)) p1 ++ flipsB (sealB l) p2 ++ post).take 8 = flipsB (sealB (headB k l.length)) p1 := by
      rw [List.append_assoc, show (8 : Nat) = (flipsB (sealB (headB k l.length)) p1).length by rw [fl1, hH], List.take_left]
    rw [e3]
    exact o1
/-- rows of frames, of which one has up to three bits turned -/
theorem split_flips (L : List (List UInt8)) (hL : ∀ x ∈ L, x.length ≤ 60000) {m : Nat} (hm : m < L.length) {ps : List Nat} (h3 : ps.length ≤ 3) (hb : ∀ p ∈ ps, p < 8 * (endAt L (m + 1) - endAt L m)) :
    (flipsB (frsB 0 L) (ps.map (8 * endAt L m + ·)) = frsB 0 L ∧ splitL (flipsB (frsB 0 L) (ps.map (8 * endAt L m + ·))) = (kindsL 0 L.length, L, endAt L L.length, 0)) ∨
    (flipsB (frsB 0 L) (ps.map (8 * endAt L m + ·)) ≠ frsB 0 L ∧ ∃ e, e ≠ 0 ∧ splitL (flipsB (frsB 0 L) (ps.map (8 * endAt L m + ·))) = (kindsL 0 m, L.take m, endAt L m, e)) := by
  have hsplit : frsB 0 L = frsB 0 (L.take m) ++ (frameB (kindOf m : Int) L[m] ++ frsB (m + 1) (L.drop (m + 1))) := by
    conv => lhs; rw [← List.take_append_drop m L]
    rw [frsB_append, List.length_take, Nat.min_eq_left (by omega), Nat.zero_add, List.drop_eq_getElem_cons hm, frsB]
  have hend : (frsB 0 (L.take m)).length = endAt L m := rfl
  have hlen := frameB_len (kindOf m : Int) L[m]
  have hb2 : ∀ p ∈ ps, p < 8 * (frameB (kindOf m : Int) L[m]).length := by
    intro p hp
    have := hb p hp
    rw [endAt_snoc L hm] at this
    omega
  have hmid := flips_mid ps (frsB 0 (L.take m)) (frameB (kindOf m : Int) L[m]) (frsB (m + 1) (L.drop (m + 1))) hb2
  rw [← hsplit, hend] at hmid
  rcases frame_flips (kindOf m : Int) L[m] (frsB (m + 1) (L.drop (m + 1))) (hL _ (List.getElem_mem hm)) h3 hb2 with he | he
  · left
    rw [he, ← hsplit] at hmid
    rw [hmid]
    refine ⟨rfl, ?_⟩
    have hfull : (frsB 0 L).length = endAt L L.length := by unfold endAt; rw [List.take_length]
    have h := split_cut L L.length (endAt L L.length) hL (Nat.le_refl _) (Nat.le_refl _) (fun h => absurd h (by omega)) (Nat.le_refl _)
    rw [← hfull, List.take_length, List.take_length, if_pos rfl] at h
    rw [h, hfull]
  · right
    have hfl := flipsB_len ps (frameB (kindOf m : Int) L[m])
    generalize flipsB (frameB (kindOf m : Int) L[m]) ps = F at *
    generalize frsB (m + 1) (L.drop (m + 1)) = post at *
    rw [hmid]
    have hsp : splitL (frsB 0 (L.take m) ++ (F ++ post)) = (kindsL 0 m, L.take m, endAt L m, (takeR (F ++ post)).1) := by
      have hlm : (L.take m).length = m := by rw [List.length_take]; omega
      have hmm : m ≤ (frsB 0 (L.take m)).length := by
        have : ∀ n, n ≤ L.length → n ≤ endAt L n := by
          intro n
          induction n with
          | zero => intro _; omega
          | succ m ih => intro hm; have := ih (by omega); rw [endAt_snoc L (show m < L.length by omega)]; omega
        exact this m (by omega)
      have hgo := splitG_frs (frsB 0 (L.take m) ++ (F ++ post)) (L.take m) 0 ((frsB 0 (L.take m) ++ (F ++ post)).length + 1 - m) [] (F ++ post) [] [] rfl (fun x hx => hL x (List.mem_of_mem_take hx))
      have hle : (frsB 0 (L.take m) ++ (F ++ post)).length = endAt L m + F.length + post.length := by rw [List.length_append, List.length_append, hend]; omega
      rw [hend] at hmm
      rw [hlm, List.length_nil, Nat.zero_add, List.nil_append, List.nil_append, hend, hle, show endAt L m + F.length + post.length + 1 - m + m = endAt L m + F.length + post.length + 1 by omega] at hgo
      unfold splitL
      rw [hle, hgo]
      obtain ⟨f, hf⟩ : ∃ f, endAt L m + F.length + post.length + 1 - m = f + 1 := ⟨endAt L m + F.length + post.length - m, by omega⟩
      rw [hf]
      unfold splitG
      have hd : (frsB 0 (L.take m) ++ (F ++ post)).drop (endAt L m) = F ++ post := by rw [← hend, List.drop_left]
      rw [if_pos (by rw [hle]; omega), hd, if_neg he]
    refine ⟨fun h => he ?_, _, he, hsp⟩
    rw [h] at hsp
    have hfull : (frsB 0 L).length = endAt L L.length := by unfold endAt; rw [List.take_length]
    have h := split_cut L L.length (endAt L L.length) hL (Nat.le_refl _) (Nat.le_refl _) (fun h => absurd h (by omega)) (Nat.le_refl _)
    rw [← hfull, List.take_length, List.take_length, if_pos rfl, hsp] at h
    exact congrArg (fun x => x.2.2.2) h
end Go.Proofs.Ytnjmekjaingniaa

/-
  The walk of item.one: the item that bytes begin with.
-/
namespace Go.Proofs.Ytnjmekjaingniaa
open Go.RowKit
set_option linter.unusedVariables false

/-- k numbers, one behind the other -/
def takesL : Nat → List Nat → List UInt8 → Nat × List Nat × List UInt8
  | 0, acc, l => (0, acc, l)
  | k + 1, acc, l => if (takeL l).2.2 = 0 then takesL k (acc ++ [(takeL l).1]) (l.drop (takeL l).2.1) else ((takeL l).2.2, [], [])
def mkIt (s k t v x : Nat) : It := ⟨Int64.ofInt s, Int64.ofInt k, UInt64.ofNat t, UInt64.ofNat v, Int64.ofInt (unsignZ x)⟩
def noIt : It := ⟨0, 0, 0, 0, 0⟩
/-- the error, the item, the bytes behind it -/
def oneL (l : List UInt8) : Nat × It × List UInt8 :=
  if l.length < 2 then (4, noIt, [])
  else if (takesL 3 [] (l.drop 2)).1 = 0 then (0, mkIt (l.getD 0 0).toNat (l.getD 1 0).toNat ((takesL 3 [] (l.drop 2)).2.1.getD 0 0) ((takesL 3 [] (l.drop 2)).2.1.getD 1 0) ((takesL 3 [] (l.drop 2)).2.1.getD 2 0), (takesL 3 [] (l.drop 2)).2.2)
  else ((takesL 3 [] (l.drop 2)).1, noIt, [])
theorem mkIt_c (s k t v x : Nat) (hs : s < 256) (hk : k < 256) (ht : t < 18446744073709551616) (hv : v < 18446744073709551616) (hx : x < 18446744073709551616) :
    itc (mkIt s k t v x) = [.int .i64 (s : Int), .int .i64 (k : Int), .int .u64 (t : Int), .int .u64 (v : Int), .int .i64 (unsignZ x)] := by
  have hb : -9223372036854775808 ≤ unsignZ x ∧ unsignZ x ≤ 9223372036854775807 := by unfold unsignZ; split <;> omega
  have e1 : ∀ n : Nat, n < 256 → (Int64.ofInt (n : Int)).toInt = (n : Int) := fun n hn => by rw [Int64.toInt_ofInt_of_le (by omega) (by simp; omega)]
  have ex : (Int64.ofInt (unsignZ x)).toInt = unsignZ x := by rw [Int64.toInt_ofInt_of_le (by simpa using hb.1) (by have := hb.2; simp; omega)]
  have e2 : ∀ n : Nat, n < 18446744073709551616 → ((UInt64.ofNat n).toNat : Int) = (n : Int) := fun n hn => by simp; omega
  simp only [itc, mkIt, e1 s hs, e1 k hk, e2 t ht, e2 v hv, ex]
theorem noIt_c : itc noIt = [.int .i64 0, .int .i64 0, .int .u64 0, .int .u64 0, .int .i64 0] := by kernel_rfl

set_option maxRecDepth 100000 in
set_option maxHeartbeats 3200000 in
theorem one_any (A : Option Addr) (n c : Nat) (l : List UInt8) (w : World) (B : Nat) (hB : B ≤ w.heap.size) (hr : Rd w B 1 A n (bvs l)) (hn : n ≤ 9223372036854775807) (hc : n ≤ c) :
    Calls Try.prog 65 #[.slice A n c] w fun e w' => ∃ A' n' c', e = .returned (.tuple #[.agg (itc (oneL l).2.1).toArray, .slice A' n' c', .int .i64 ((oneL l).1 : Int)]) ∧ Rd w' B 1 A' n' (bvs (oneL l).2.2) ∧ n' ≤ c' ∧ n' ≤ n ∧ Up w w' := by
  have HL := Lib.hid hr.blen
  have CUT := cut_from_b
  by_cases h2 : n < 2
  · have hv : oneL l = (4, noIt, []) := by unfold oneL; rw [if_pos (by rw [← HL.out]; exact h2)]
    have HV := Lib.hid hv
    clear hv
    go_enter Try.func65, Try.ntmps65
    go_wp2_with fail
    refine bodyPost_ret (v := .tuple #[.agg #[.int .i64 0, .int .i64 0, .int .u64 0, .int .u64 0, .int .i64 0], .slice none 0 0, .int .i64 4]) (by simp [results, Try.results65, go_sem]) rfl ?_
    rw [HV.out, noIt_c]
    exact ⟨none, 0, 0, rfl, Rd.empty, by omega, by omega, (Up.refl w).alloc _⟩
  · obtain ⟨b, o, rfl, hb, hc0⟩ := hr.byte (k := 0) (by omega)
    obtain ⟨b', o', e', _, hc1⟩ := hr.byte (k := 1) (by omega)
    injection e' with e'
    injection e' with e1 e2
    subst e1; subst e2
    have hbw : b < w.heap.size := by omega
    have hd := hr.bfrom (k := 2) (cap := c) (by omega) hc
    rw [Nat.add_zero] at hc0
    have hv : oneL l = if (takesL 3 [] (l.drop 2)).1 = 0 then (0, mkIt (l.getD 0 0).toNat (l.getD 1 0).toNat ((takesL 3 [] (l.drop 2)).2.1.getD 0 0) ((takesL 3 [] (l.drop 2)).2.1.getD 1 0) ((takesL 3 [] (l.drop 2)).2.1.getD 2 0), (takesL 3 [] (l.drop 2)).2.2)
        else ((takesL 3 [] (l.drop 2)).1, noIt, []) := by
      conv => lhs; unfold oneL
      rw [if_neg (by rw [← HL.out]; exact h2)]
    have HV := Lib.hid hv
    clear hv
    have hb0 := (l.getD 0 0).toNat_lt
    have hb1 := (l.getD 1 0).toNat_lt
    generalize (l.getD 0 0).toNat = b0 at *
    generalize (l.getD 1 0).toNat = b1 at *
    have hl2 : (l.drop 2).length = n - 2 := by rw [List.length_drop, HL.out]
    have HL2 := Lib.hid hl2
    clear hl2
    generalize l.drop 2 = l2 at *
    have w0 : wrap64 (b0 : Int) = b0 := by unfold wrap64; omega
    have w1 : wrap64 (b1 : Int) = b1 := by unfold wrap64; omega
    have g0 : (0 : Int) < n := by omega
    have g1 : (1 : Int) < n := by omega
    have g2 : 0 < n := by omega
    have g3 : 1 < n := by omega
    have g4 : (2 : Int) ≤ n := by omega
    clear hr
    have SD : ∀ (W : World) (q : Nat) (a : Addr) (v : Value), (W.drewN q).setCell a v = (W.setCell a v).drewN q := fun _ _ _ _ => rfl
    go_enter Try.func65, Try.ntmps65
    go_wp2_with fail
    go_region
    clear w0 w1
    go_wp2_with fail
    go_loopw [0, 26] (fun q i wr => ∃ (k : Nat) (A' : Option Addr) (n' c' : Nat) (r : List UInt8) (acc : List Nat) (x y z qd : Nat), i = .int .i64 (k : Int) ∧ q = .slice A' n' c' ∧ k ≤ 3 ∧ Rd w B 1 A' n' (bvs r) ∧ n' ≤ c' ∧ n' ≤ n ∧
        wr = ((w.alloc (.cells #[.int .i64 (b0 : Int), .int .i64 (b1 : Int), .int .u64 0, .int .u64 0, .int .i64 0] 25)).alloc (.cells #[.int .u64 (x : Int), .int .u64 (y : Int), .int .u64 (z : Int)] 125)).drewN qd ∧ Hid (takesL (3 - k) acc r = takesL 3 [] l2) ∧ Hid (acc.length = k ∧ acc.getD 0 0 = x ∧ acc.getD 1 0 = y ∧ acc.getD 2 0 = z) ∧ (x : Int) ≤ 18446744073709551615 ∧ (y : Int) ≤ 18446744073709551615 ∧ (z : Int) ≤ 18446744073709551615) (fun _ i _ => 3 - (intOf i).toNat)
    case atStart => exact ⟨0, _, _, _, l2, [], 0, 0, 0, 1, rfl, rfl, by omega, hd, by omega, by omega, rfl, rfl, ⟨rfl, rfl, rfl, rfl⟩, by omega, by omega, by omega⟩
    case round =>
      obtain ⟨k, A', n', c', r, acc, x, y, z, qd, rfl, rfl, hk, hrr, hnc, hnn, rfl, HT, HA, hx, hy, hz⟩ := hrel
      clear hd
      have hup : Up w (((w.alloc (.cells #[.int .i64 (b0 : Int), .int .i64 (b1 : Int), .int .u64 0, .int .u64 0, .int .i64 0] 25)).alloc (.cells #[.int .u64 (x : Int), .int .u64 (y : Int), .int .u64 (z : Int)] 125)).drewN qd) := (((Up.refl w).alloc _).alloc _).drewN _
      by_cases hlt : k < 3
      · go_wp2_with fail
        refine (take_any A' n' c' r _ ((hrr.mono hB).up hup) (by omega)).mono ?_
        rintro e w1 ⟨rfl, rfl⟩
        by_cases he : (takeL r).2.2 = 0
        · have hok := takeL_ok he
          have hst : takesL (3 - k) acc r = takesL (3 - (k + 1)) (acc ++ [(takeL r).1]) (r.drop (takeL r).2.1) := by
            rw [show 3 - k = (3 - (k + 1)) + 1 by omega]
            conv => lhs; unfold takesL
            rw [if_pos he]
          have hrl := hrr.blen
          have hd2 := hrr.bfrom (k := (takeL r).2.1) (cap := c') (by omega) hnc
          rw [he]
          have HST := Lib.hid (HT.out.symm.trans hst)
          clear hst he
          generalize (takeL r).1 = tn at *
          generalize (takeL r).2.1 = ts at *
          generalize r.drop ts = r2 at *
          obtain ⟨h1, h2', h3, h4⟩ := hok
          have t1 : (0 : Int) ≤ ts := by omega
          have t2 : (ts : Int) ≤ n' := by omega
          have t3 : (tn : Int) ≤ 18446744073709551615 := by omega
          clear h1 h2' h3 h4 hrl HT
          have hk3 : k = 0 ∨ k = 1 ∨ k = 2 := by omega
          rcases hk3 with rfl | rfl | rfl
          · go_wp2_with fail
            go_region
            go_wp2_with fail
            go_roundw
            case rel =>
              refine ⟨1, _, _, _, r2, acc ++ [tn], tn, y, z, _, rfl, rfl, by omega, hd2, by omega, by omega, rfl, HST.out.symm, ?_, by omega, by omega, by omega⟩
              obtain ⟨q1, q2, q3, q4⟩ := HA.out
              match acc, q1 with
              | [], _ => exact ⟨by simp, by first | exact q2 | simp, by first | exact q3 | simp, by first | exact q4 | simp⟩
            case measure => simp [intOf]
          · go_wp2_with fail
            go_region
            go_wp2_with fail
            go_roundw
            case rel =>
              refine ⟨2, _, _, _, r2, acc ++ [tn], x, tn, z, _, rfl, rfl, by omega, hd2, by omega, by omega, rfl, HST.out.symm, ?_, by omega, by omega, by omega⟩
              obtain ⟨q1, q2, q3, q4⟩ := HA.out
              match acc, q1 with
              | [a0], _ => exact ⟨by simp, by first | exact q2 | simp, by first | exact q3 | simp, by first | exact q4 | simp⟩
            case measure => simp [intOf]
          · go_wp2_with fail
            go_region
            go_wp2_with fail
            go_roundw
            case rel =>
              refine ⟨3, _, _, _, r2, acc ++ [tn], x, y, tn, _, rfl, rfl, by omega, hd2, by omega, by omega, rfl, HST.out.symm, ?_, by omega, by omega, by omega⟩
              obtain ⟨q1, q2, q3, q4⟩ := HA.out
              match acc, q1 with
              | [a0, a1], _ => exact ⟨by simp, by first | exact q2 | simp, by first | exact q3 | simp, by first | exact q4 | simp⟩
            case measure => simp [intOf]
        · have hbad := HT.out
          have hst : takesL (3 - k) acc r = ((takeL r).2.2, [], []) := by
            rw [show 3 - k = (3 - (k + 1)) + 1 by omega]
            unfold takesL
            rw [if_neg he]
          rw [hst] at hbad
          have hr1 : oneL l = ((takeL r).2.2, noIt, []) := by
            rw [HV.out, ← hbad]
            exact if_neg he
          have HR := Lib.hid hr1
          generalize (takeL r).2.2 = te at *
          have h0 : ¬ (te : Int) = 0 := by omega
          clear hr1 hst hbad HT he
          go_wp2_with fail
          refine bodyPost_ret (v := .tuple #[.agg #[.int .i64 0, .int .i64 0, .int .u64 0, .int .u64 0, .int .i64 0], .slice none 0 0, .int .i64 (te : Int)]) (by simp [results, Try.results65, go_sem]) rfl ?_
          rw [HR.out, noIt_c]
          exact ⟨none, 0, 0, rfl, Rd.empty, by omega, by omega, (((Up.refl w).alloc _).alloc _).drewN _⟩
      · have h3 : k = 3 := by omega
        subst h3
        have hT := HT.out
        have hok : (takesL 3 [] l2) = (0, acc, r) := by rw [← hT]; rfl
        obtain ⟨q1, q2, q3, q4⟩ := HA.out
        have hr1 : oneL l = (0, mkIt b0 b1 x y z, r) := by
          rw [HV.out, hok, if_pos rfl, q2, q3, q4]
        have HR := Lib.hid hr1
        clear hr1 hok hT q1 q2 q3 q4 HT HA
        go_wp2_with fail
        go_region_with (go_at_call 84; refine (unsign_any z _ (by omega)).mono ?_; rintro e w1 ⟨rfl, rfl⟩)
        all_goals
          go_wp2_with fail
          refine bodyPost_ret (v := .tuple #[.agg #[.int .i64 (b0 : Int), .int .i64 (b1 : Int), .int .u64 (x : Int), .int .u64 (y : Int), .int .i64 (unsignZ z)], .slice A' n' c', .int .i64 0]) (by simp [results, Try.results65, go_sem]) rfl ?_
          rw [HR.out, mkIt_c b0 b1 x y z hb0 hb1 (by omega) (by omega) (by omega)]
          exact ⟨A', n', c', rfl, hrr.below (Below.mono ((((Up.refl w).alloc _).alloc _).drewN _) hB), hnc, hnn, (((Up.refl w).alloc _).alloc _).drewN _⟩
end Go.Proofs.Ytnjmekjaingniaa

/-
  The walk of item.Read.
-/
namespace Go.Proofs.Ytnjmekjaingniaa
open Go.RowKit
set_option linter.unusedVariables false

/-- k items, one behind the other -/
def itsL : Nat → List It → List UInt8 → Nat × List It × List UInt8
  | 0, acc, l => (0, acc, l)
  | k + 1, acc, l => if (oneL l).1 = 0 then itsL k (acc ++ [(oneL l).2.1]) (oneL l).2.2 else ((oneL l).1, [], [])
/-- what Read tells: the error, the items -/
def readL (l : List UInt8) : Nat × List It :=
  if (takeL l).2.2 ≠ 0 then ((takeL l).2.2, [])
  else if 2000 < (takeL l).1 then (2, [])
  else if (itsL (takeL l).1 [] (l.drop (takeL l).2.1)).1 ≠ 0 then ((itsL (takeL l).1 [] (l.drop (takeL l).2.1)).1, [])
  else if (itsL (takeL l).1 [] (l.drop (takeL l).2.1)).2.2.length = 0 ∧ (itsL (takeL l).1 [] (l.drop (takeL l).2.1)).2.1.all okB = true then (0, (itsL (takeL l).1 [] (l.drop (takeL l).2.1)).2.1)
  else (3, [])

theorem itemsT : SlT Try.prog 22 25 5 40 := SlT.mk' Try.underlying22 (z := .agg #[.int .i64 0, .int .i64 0, .int .u64 0, .int .u64 0, .int .i64 0]) (by kernel_rfl) rfl (by decide)
/-- the slice is a row of the call's own that holds these items -/
def OwnI (w : World) (base : Nat) (A : Option Addr) (n c : Nat) (l : List It) : Prop := w.ownsRow base 25 5 (.slice A n c) n (itcs l)
section
variable {w w' : World} {base n c : Nat} {A : Option Addr} {l : List It}
theorem OwnI.rd (h : OwnI w base A n c l) : Rd w w.heap.size 5 A n (itcs l) := Rd.own h
theorem OwnI.len (h : OwnI w base A n c l) : n = l.length := h.rd.ilen
theorem OwnI.up (h : OwnI w base A n c l) (hu : Up w w') : OwnI w' base A n c l := own_up h hu
end

set_option maxRecDepth 100000 in
set_option maxHeartbeats 3200000 in
theorem read_any (A : Option Addr) (n c : Nat) (l : List UInt8) (w : World) (hr : Rd w w.heap.size 1 A n (bvs l)) (hn : n ≤ 9223372036854775807) (hc : n ≤ c) :
    Calls Try.prog 37 #[.slice A n c] w fun e w' => ∃ A' n' c', e = .returned (.tuple #[.slice A' n' c', .int .i64 ((readL l).1 : Int)]) ∧ OwnI w' w.heap.size A' n' c' (readL l).2 ∧ Up w w' := by
  have CUT := cut_from_b
  have nil0 : ∀ w0, OwnI w0 w.heap.size none 0 0 [] := fun w0 => World.ownsRow_nil _ _ _ _
  have NIL := Lib.hid nil0
  clear nil0
  have HL := Lib.hid hr.blen
  by_cases he : (takeL l).2.2 = 0
  · have hok := takeL_ok he
    by_cases hbig : 2000 < (takeL l).1
    · have hv : readL l = (2, []) := by unfold readL; rw [if_neg (by simpa using he), if_pos hbig]
      have HV := Lib.hid hv
      clear hv
      go_enter Try.func37, Try.ntmps37
      go_wp2_with fail
      refine (take_any A n c l w hr hn).mono ?_
      rintro e w1 ⟨rfl, rfl⟩
      rw [he]
      generalize (takeL l).1 = tn at *
      generalize (takeL l).2.1 = ts at *
      clear he
      go_wp2_with fail
      go_ret2
      rw [HV.out]
      exact ⟨none, 0, 0, rfl, NIL.out _, Up.refl _⟩
    · have hv : readL l = if (itsL (takeL l).1 [] (l.drop (takeL l).2.1)).1 ≠ 0 then ((itsL (takeL l).1 [] (l.drop (takeL l).2.1)).1, [])
          else if (itsL (takeL l).1 [] (l.drop (takeL l).2.1)).2.2.length = 0 ∧ (itsL (takeL l).1 [] (l.drop (takeL l).2.1)).2.1.all okB = true then (0, (itsL (takeL l).1 [] (l.drop (takeL l).2.1)).2.1) else (3, []) := by
        conv => lhs; unfold readL
        rw [if_neg (by simpa using he), if_neg hbig]
      have HV := Lib.hid hv
      clear hv
      have hd := hr.bfrom (k := (takeL l).2.1) (cap := c) (by have := HL.out; omega) hc
      have htl : (takeL l).2.1 ≤ n := by have := HL.out; omega
      go_enter Try.func37, Try.ntmps37
      go_wp2_with fail
      refine (take_any A n c l w hr hn).mono ?_
      rintro e w1 ⟨rfl, rfl⟩
      rw [he]
      generalize (takeL l).1 = tn at *
      generalize (takeL l).2.1 = ts at *
      generalize l.drop ts = l2 at *
      clear he
      obtain ⟨h1, h2', h3, h4⟩ := hok
      have t1 : (0 : Int) ≤ ts := by omega
      have t2 : (ts : Int) ≤ n := by omega
      go_wp2_with fail
      go_loopw [0, 7, 28] (fun q v i wr => ∃ (k : Nat) (A' : Option Addr) (n' c' : Nat) (r : List UInt8) (R : Option Addr) (m d : Nat) (acc : List It), i = .int .u64 (k : Int) ∧ q = .slice A' n' c' ∧ v = .slice R m d ∧ k ≤ tn ∧ Rd wr w.heap.size 1 A' n' (bvs r) ∧ n' ≤ c' ∧ n' ≤ n ∧ m = k ∧
          OwnI wr w.heap.size R m d acc ∧ Hid (itsL (tn - k) acc r = itsL tn [] l2) ∧ Up w wr) (fun _ _ i _ => tn - (intOf i).toNat)
      case atStart => exact ⟨0, _, _, _, l2, none, 0, 0, [], rfl, rfl, rfl, by omega, hd, by omega, by omega, rfl, NIL.out _, rfl, Up.refl _⟩
      case round =>
        obtain ⟨k, A', n', c', r, R, m, d, acc, rfl, rfl, rfl, hk, hrr, hnc, hnn, hmk, hown, HT, hu⟩ := hrel
        clear hd hr
        by_cases hlt : k < tn
        · go_wp2_with fail
          refine (one_any A' n' c' r wr w.heap.size hu.size hrr (by omega) hnc).mono ?_
          rintro e w1 ⟨A2, n2, c2, rfl, hr2, hnc2, hnn2, hu2⟩
          by_cases h1e : (oneL r).1 = 0
          · have hst : itsL tn [] l2 = itsL (tn - (k + 1)) (acc ++ [(oneL r).2.1]) (oneL r).2.2 := by
              rw [← HT.out, show tn - k = (tn - (k + 1)) + 1 by omega]
              conv => lhs; unfold itsL
              rw [if_pos h1e]
            have HST := Lib.hid hst
            rw [h1e]
            clear hst h1e HT
            generalize (oneL r).2.1 = it at *
            generalize (oneL r).2.2 = r2 at *
            have hag : Value.agg (itc it).toArray = .agg #[.int .i64 it.s.toInt, .int .i64 it.k.toInt, .int .u64 (it.t.toNat : Int), .int .u64 (it.v.toNat : Int), .int .i64 it.x.toInt] := rfl
            rw [hag]
            clear hag
            have hown1 := hown.up hu2
            subst hmk
            have hm2 : m ≤ 2000 := by omega
            go_wp2_with (at_builtin; refine wpList_append_rd _ itemsT (news := itcs [it]) (World.ownsRow.alloc (World.ownsRow.alloc hown1 _) _) (Rd.ilit_at _ [it] _ _ (by simp) rfl) (itcs_one _) (by simp; omega) (by simp; omega) (by simp; have := hu.size; have := hu2.size; omega) rfl rfl rfl rfl ?_; intro v3 w3 hown3 hg3 hat3; obtain ⟨R3, d3, rfl⟩ := own_form hown3)
            have hu3 : Up w w3 := (((hu.trans hu2).alloc _).alloc _).grown hg3 (fun g hg => (hown1.lt g hg).1)
            go_roundw
            case rel =>
              refine ⟨m + 1, A2, n2, c2, r2, R3, m + 1, d3, acc ++ [it], by go_num, rfl, rfl, by omega, ?_, hnc2, by omega, rfl, ?_, HST.out.symm, hu3⟩
              · have hz1 : w.heap.size ≤ w1.heap.size := Nat.le_trans hu.size hu2.size
                exact hr2.below ((((Below.refl w.heap.size w1).alloc hz1 _).alloc (by simp; omega) _).grown hg3 (by simp; omega) (fun g hg => (hown1.lt g hg).1))
              · show World.ownsRow _ _ _ _ _ _ _
                rw [itcs_append]; exact hown3
            case measure => simp [intOf]; omega
          · have hst : itsL tn [] l2 = ((oneL r).1, [], []) := by
              rw [← HT.out, show tn - k = (tn - (k + 1)) + 1 by omega]
              unfold itsL
              rw [if_neg h1e]
            have hv : readL l = ((oneL r).1, []) := by rw [HV.out, hst, if_pos h1e]
            have HR := Lib.hid hv
            clear hst hv HT
            generalize (oneL r).1 = te at *
            have h0 : ¬ (te : Int) = 0 := by omega
            generalize (oneL r).2.1 = it at *
            have hag : Value.agg (itc it).toArray = .agg #[.int .i64 it.s.toInt, .int .i64 it.k.toInt, .int .u64 (it.t.toNat : Int), .int .u64 (it.v.toNat : Int), .int .i64 it.x.toInt] := rfl
            rw [hag]
            clear hag h1e
            go_wp2_with fail
            go_ret2
            rw [HR.out]
            exact ⟨none, 0, 0, rfl, NIL.out _, (hu.trans hu2).alloc _⟩
        · subst hmk
          have hkt : m = tn := by omega
          subst hkt
          have hT : itsL m [] l2 = (0, acc, r) := by rw [← HT.out, Nat.sub_self]; rfl
          have hv := HV.out
          rw [hT, if_neg (by simp)] at hv
          have hrl := hrr.blen
          by_cases hr0 : n' = 0
          · subst hr0
            have hr0' : r.length = 0 := hrl.symm
            cases hall : acc.all okB
            · rw [if_neg (by simp [hall])] at hv
              have HR := Lib.hid hv
              have HA := Lib.hid hall
              clear hv hall hT HT hr0' hrl
              go_wp2_with fail
              refine (all_any R m d acc wr hown.rd (by omega)).mono ?_
              rintro e w1 ⟨rfl, hu2⟩
              rw [HA.out]
              go_wp2_with fail
              go_ret2
              rw [HR.out]
              exact ⟨none, 0, 0, rfl, NIL.out _, hu.trans hu2⟩
            · rw [if_pos ⟨hr0', hall⟩] at hv
              have HR := Lib.hid hv
              have HA := Lib.hid hall
              clear hv hall hT HT hr0' hrl
              go_wp2_with fail
              refine (all_any R m d acc wr hown.rd (by omega)).mono ?_
              rintro e w1 ⟨rfl, hu2⟩
              rw [HA.out]
              go_wp2_with fail
              go_ret2
              rw [HR.out]
              exact ⟨R, m, d, rfl, hown.up hu2, hu.trans hu2⟩
          · rw [if_neg (fun h => hr0 (by rw [hrl]; exact h.1))] at hv
            have HR := Lib.hid hv
            clear hv hT HT hrl
            have h0 : (0 : Int) < n' := by omega
            go_wp2_with fail
            go_ret2
            rw [HR.out]
            exact ⟨none, 0, 0, rfl, NIL.out _, hu⟩
  · have hv : readL l = ((takeL l).2.2, []) := by unfold readL; rw [if_pos he]
    have HV := Lib.hid hv
    clear hv
    go_enter Try.func37, Try.ntmps37
    go_wp2_with fail
    refine (take_any A n c l w hr hn).mono ?_
    rintro e w1 ⟨rfl, rfl⟩
    generalize (takeL l).2.2 = te at *
    have h0 : ¬ (te : Int) = 0 := by omega
    go_wp2_with fail
    go_ret2
    rw [HV.out]
    exact ⟨none, 0, 0, rfl, NIL.out _, Up.refl _⟩
end Go.Proofs.Ytnjmekjaingniaa

/-
  Plain laws of items' bytes.
-/
namespace Go.Proofs.Ytnjmekjaingniaa
open Go.RowKit
set_option linter.unusedVariables false
set_option linter.unusedSimpArgs false

theorem ok_bd {i : It} (h : okB i = true) : 0 ≤ i.s.toInt ∧ i.s.toInt ≤ 255 ∧ 1 ≤ i.k.toInt ∧ i.k.toInt ≤ 2 := by
  simp only [okB, okZ, decide_eq_true_eq] at h; omega
theorem byteOf_val {z : Int} (h0 : 0 ≤ z) (h1 : z ≤ 255) : ((byteOf z).toNat : Int) = z := by
  unfold byteOf; simp; omega
theorem takesL_ok {k : Nat} {acc : List Nat} {x : Nat} {r : List UInt8} (hx : x < 18446744073709551616) : takesL (k + 1) acc (numB x ++ r) = takesL k (acc ++ [x]) r := by
  conv => lhs; unfold takesL
  rw [takeL_numB x r hx, if_pos rfl]
  simp
theorem mkIt_self {i : It} (h : okB i = true) : mkIt (byteOf i.s.toInt).toNat (byteOf i.k.toInt).toNat i.t.toNat i.v.toNat (signN i.x.toInt) = i := by
  obtain ⟨a1, a2, a3, a4⟩ := ok_bd h
  have s1 := byteOf_val a1 a2
  have k1 := byteOf_val (z := i.k.toInt) (by omega) (by omega)
  have hx : unsignZ (signN i.x.toInt) = i.x.toInt := unsign_sign _
  unfold mkIt
  rw [s1, k1, hx]
  simp
theorem oneL_it {i : It} (r : List UInt8) (h : okB i = true) : oneL (itB i ++ r) = (0, i, r) := by
  have hl : ¬ (itB i ++ r).length < 2 := by simp [itB]
  have hd : (itB i ++ r).drop 2 = numB i.t.toNat ++ (numB i.v.toNat ++ (numB (signN i.x.toInt) ++ r)) := by simp [itB]
  have h0 : (itB i ++ r).getD 0 0 = byteOf i.s.toInt := by simp [itB]
  have h1 : (itB i ++ r).getD 1 0 = byteOf i.k.toInt := by simp [itB]
  have ht : takesL 3 [] ((itB i ++ r).drop 2) = (0, [i.t.toNat, i.v.toNat, signN i.x.toInt], r) := by
    rw [hd, takesL_ok i.t.toNat_lt, takesL_ok i.v.toNat_lt, takesL_ok (signN_lt _ (i64_bd i.x).1 (i64_bd i.x).2)]; rfl
  unfold oneL
  rw [if_neg hl, ht, if_pos rfl, h0, h1]
  simp only [List.getD_cons_zero, List.getD_cons_succ]
  rw [mkIt_self h]
theorem takesL_nil {k : Nat} {acc : List Nat} {l : List UInt8} (h : (takeL l).2.2 ≠ 0) : (takesL (k + 1) acc l).1 ≠ 0 := by
  unfold takesL; rw [if_neg h]; exact h
theorem takes1_cut {x j k : Nat} {acc : List Nat} (hx : x < 18446744073709551616) (hj : j < (numB x).length) : (takesL (k + 1) acc ((numB x).take j)).1 ≠ 0 :=
  takesL_nil (by rw [takeL_cut hx hj]; decide)
theorem takes_step_cut {x j k : Nat} {acc : List Nat} {r : List UInt8} (hx : x < 18446744073709551616) (ih : ∀ j acc, j < r.length → (takesL k acc (r.take j)).1 ≠ 0) (hj : j < (numB x ++ r).length) : (takesL (k + 1) acc ((numB x ++ r).take j)).1 ≠ 0 := by
  by_cases hlt : j < (numB x).length
  · rw [List.take_append_of_le_length (by omega)]
    exact takes1_cut hx hlt
  · rw [List.take_append, List.take_of_length_le (by omega), takesL_ok hx]
    exact ih _ _ (by rw [List.length_append] at hj; omega)
theorem oneL_cut {i : It} {j : Nat} (hj : j < (itB i).length) : (oneL ((itB i).take j)).1 ≠ 0 := by
  unfold oneL
  by_cases h2 : ((itB i).take j).length < 2
  · rw [if_pos h2]; decide
  · rw [if_neg h2]
    have hj2 : 2 ≤ j := by rw [List.length_take] at h2; omega
    have hd : ((itB i).take j).drop 2 = (numB i.t.toNat ++ (numB i.v.toNat ++ numB (signN i.x.toInt))).take (j - 2) := by
      rw [List.drop_take]; rfl
    have hjl : j - 2 < (numB i.t.toNat ++ (numB i.v.toNat ++ numB (signN i.x.toInt))).length := by
      simp only [itB, List.length_cons] at hj; omega
    have hne : (takesL 3 [] (((itB i).take j).drop 2)).1 ≠ 0 := by
      rw [hd]
      refine takes_step_cut i.t.toNat_lt (fun j acc hj => ?_) hjl
      refine takes_step_cut i.v.toNat_lt (fun j acc hj => ?_) hj
      exact takes1_cut (signN_lt _ (i64_bd i.x).1 (i64_bd i.x).2) hj
    rw [if_neg hne]; exact hne
theorem itsL_ok : ∀ (l : List It) (acc : List It) (r : List UInt8), l.all okB = true → itsL l.length acc (l.flatMap itB ++ r) = (0, acc ++ l, r)
  | [], acc, r, _ => by simp [itsL]
  | i :: l, acc, r, h => by
    simp only [List.all_cons, Bool.and_eq_true] at h
    rw [List.length_cons, List.flatMap_cons, List.append_assoc]
    conv => lhs; unfold itsL
    rw [oneL_it _ h.1, if_pos rfl, itsL_ok l _ r h.2]
    simp
theorem itsL_cut : ∀ (l : List It) (acc : List It) (j : Nat), l.all okB = true → j < (l.flatMap itB).length → (itsL l.length acc ((l.flatMap itB).take j)).1 ≠ 0
  | [], _, j, _, hj => by simp at hj
  | i :: l, acc, j, h, hj => by
    simp only [List.all_cons, Bool.and_eq_true] at h
    rw [List.length_cons, List.flatMap_cons]
    by_cases hlt : j < (itB i).length
    · rw [List.take_append_of_le_length (by omega)]
      unfold itsL
      rw [if_neg (oneL_cut hlt)]
      exact oneL_cut hlt
    · rw [List.take_append, List.take_of_length_le (by omega)]
      conv => lhs; unfold itsL
      rw [oneL_it _ h.1, if_pos rfl]
      exact itsL_cut l _ _ h.2 (by rw [List.flatMap_cons, List.length_append] at hj; omega)
theorem may_all {l : List It} (h : bytesE l = 0) : l.length ≤ 2000 ∧ l.all okB = true := by
  unfold bytesE at h
  by_cases h1 : 2000 < l.length
  · rw [if_pos h1] at h; cases h
  · rw [if_neg h1] at h
    refine ⟨by omega, ?_⟩
    cases ha : l.all okB
    · rw [ha] at h; simp at h
    · rfl
theorem readL_row {l : List It} (r : List UInt8) (h : bytesE l = 0) : readL (itemsB l ++ r) = if r.length = 0 then (0, l) else (3, []) := by
  obtain ⟨h1, h2⟩ := may_all h
  have ht := takeL_numB l.length (l.flatMap itB ++ r) (by omega)
  have hi := itsL_ok l [] r h2
  unfold readL
  rw [show itemsB l ++ r = numB l.length ++ (l.flatMap itB ++ r) by simp [itemsB], ht]
  simp only [ne_eq, not_true, if_false, List.drop_left', hi, List.nil_append]
  rw [if_neg (by omega)]
  by_cases hr : r.length = 0
  · rw [if_pos ⟨hr, h2⟩, if_pos hr]
  · rw [if_neg (fun h => hr h.1), if_neg hr]
theorem readL_cut {l : List It} {j : Nat} (h : bytesE l = 0) (hj : j < (itemsB l).length) : (readL ((itemsB l).take j)).1 ≠ 0 := by
  obtain ⟨h1, h2⟩ := may_all h
  unfold readL
  by_cases hlt : j < (numB l.length).length
  · have e : (itemsB l).take j = (numB l.length).take j := by unfold itemsB; rw [List.take_append_of_le_length (by omega)]
    have hn : (takeL ((numB l.length).take j)).2.2 ≠ 0 := by rw [takeL_cut (by omega) hlt]; decide
    rw [e, if_pos hn]; exact hn
  · have e : (itemsB l).take j = numB l.length ++ (l.flatMap itB).take (j - (numB l.length).length) := by
      unfold itemsB; rw [List.take_append, List.take_of_length_le (by omega)]
    have hc := itsL_cut l [] (j - (numB l.length).length) h2 (by unfold itemsB at hj; rw [List.length_append] at hj; omega)
    rw [e, takeL_numB l.length _ (by omega)]
    simp only [ne_eq, not_true, if_false, List.drop_left']
    rw [if_neg (by omega), if_pos hc]
    exact hc
end Go.Proofs.Ytnjmekjaingniaa

/-
  Logs of batches: plain laws.
-/
namespace Go.Proofs.Ytnjmekjaingniaa
open Go.RowKit
set_option linter.unusedVariables false
set_option linter.unusedSimpArgs false

section
variable {σ : Type} (step : σ → Nat → List UInt8 → Option σ)
theorem seqF_stepG (l : List UInt8) {f k : Nat} {s : σ} (h : k < l.length) : seqF step l (f + 1) k s = (if (takeR (l.drop k)).1 = 0 then (match step s (takeR (l.drop k)).2.1 (takeR (l.drop k)).2.2.1 with | none => none | some s' => seqF step l f (k + (takeR (l.drop k)).2.2.2) s')
       else if (takeR (l.drop k)).1 = 4 then some (s, k) else none) := by
  conv => lhs; unfold seqF
  rw [if_pos h]
  rfl
theorem seqF_stepB (l : List UInt8) {f k : Nat} {s : σ} (h : k < l.length) : seqF step l (f + 1) k s = (if (takeR (l.drop k)).1 = 0 then (step s (takeR (l.drop k)).2.1 (takeR (l.drop k)).2.2.1).bind fun s' => seqF step l f (k + (takeR (l.drop k)).2.2.2) s'
       else if (takeR (l.drop k)).1 = 4 then some (s, k) else none) := by
  rw [seqF_stepG step l h]
  cases step s (takeR (l.drop k)).2.1 (takeR (l.drop k)).2.2.1 <;> rfl
theorem seqF_stopG (l : List UInt8) {f k : Nat} {s : σ} (h : l.length ≤ k) : seqF step l f k s = some (s, k) := by
  cases f with
  | zero => rfl
  | succ f => unfold seqF; rw [if_neg (by omega)]
end
/-- a log with one frame more -/
def stepL (s : List (List It)) (k : Nat) (b : List UInt8) : Option (List (List It)) :=
  if k = 1 ∧ (readL b).1 = 0 ∧ 0 < (readL b).2.length then some (s ++ [(readL b).2]) else none
/-- what Replay tells -/
def replL (l : List UInt8) : Option (List (List It) × Nat) := seqF stepL l (l.length + 1) 0 []
theorem repl_split (l : List UInt8) : replL l = if (splitL l).2.2.2 ≠ 0 ∧ (splitL l).2.2.2 ≠ 4 then none else (foldF stepL [] (splitL l).1 (splitL l).2.1).map fun s => (s, (splitL l).2.2.1) := by
  unfold replL
  rw [seq_split]
  have hs : splitG l (l.length + 1) 0 [] [] = splitL l := rfl
  rw [hs]
  by_cases h : (splitL l).2.2.2 = 0 ∨ (splitL l).2.2.2 = 4
  · rw [if_pos h, if_neg (by omega)]
  · rw [if_neg h, if_pos (by omega)]
theorem itsL_len3 : ∀ (k : Nat) (acc : List It) (l : List UInt8), (itsL k acc l).2.1.length ≤ acc.length + k
  | 0, acc, l => by simp [itsL]
  | k + 1, acc, l => by
    unfold itsL; split
    · have := itsL_len3 k (acc ++ [(oneL l).2.1]) (oneL l).2.2
      rw [List.length_append, List.length_singleton] at this; omega
    · simp
theorem readL_len3 (l : List UInt8) : (readL l).2.length ≤ 2000 := by
  unfold readL
  split
  · simp
  · split
    · simp
    · split
      · simp
      · split
        · have := itsL_len3 (takeL l).1 [] (l.drop (takeL l).2.1)
          simp only [List.length_nil] at this ⊢; omega
        · simp
section
variable {σ : Type} (step : σ → Nat → List UInt8 → Option σ)
/-- what each step keeps holds of what the fold comes to -/
theorem seqF_inv (l : List UInt8) (P : σ → Nat → Prop) (hP : ∀ s s' k kd b d, P s k → step s kd b = some s' → 12 ≤ d → P s' (k + d)) :
    ∀ (f k : Nat) (s : σ), P s k → ∀ r, seqF step l f k s = some r → P r.1 r.2 ∧ (k ≤ l.length → r.2 ≤ l.length)
  | 0, k, s, h, r, e => by
    injection e with e
    subst e
    exact ⟨h, id⟩
  | f + 1, k, s, h, r, e => by
    by_cases hk : k < l.length
    · rw [seqF_stepB step l hk] at e
      by_cases h0 : (takeR (l.drop k)).1 = 0
      · rw [if_pos h0] at e
        obtain ⟨h1, h2, -⟩ := takeR_ok h0
        rw [List.length_drop] at h2
        cases hs : step s (takeR (l.drop k)).2.1 (takeR (l.drop k)).2.2.1 with
        | none => rw [hs] at e; cases e
        | some s' =>
          rw [hs] at e
          have ih := seqF_inv l P hP f _ s' (hP _ _ _ _ _ _ h hs h1) r e
          exact ⟨ih.1, fun _ => ih.2 (by omega)⟩
      · rw [if_neg h0] at e
        by_cases h4 : (takeR (l.drop k)).1 = 4
        · rw [if_pos h4] at e
          injection e with e
          subst e
          exact ⟨h, id⟩
        · rw [if_neg h4] at e; cases e
    · rw [seqF_stopG step l (by omega)] at e
      injection e with e
      subst e
      exact ⟨h, id⟩
end
/-- what Replay tells is not long -/
theorem replL_bd {l : List UInt8} {r : List (List It) × Nat} (h : replL l = some r) : r.1.length ≤ r.2 ∧ r.2 ≤ l.length ∧ ∀ q ∈ r.1, q.length ≤ 2000 := by
  have h1 := seqF_inv stepL l (fun s k => s.length ≤ k ∧ ∀ q ∈ s, q.length ≤ 2000) (fun s s' k kd b d hs he hd => by
    unfold stepL at he
    split at he
    · injection he with he
      subst he
      refine ⟨by rw [List.length_append, List.length_singleton]; omega, fun q hq => ?_⟩
      rcases List.mem_append.1 hq with hq | hq
      · exact hs.2 q hq
      · rw [List.mem_singleton] at hq
        subst hq
        exact readL_len3 b
    · cases he) (l.length + 1) 0 [] ⟨Nat.le_refl _, fun q hq => by cases hq⟩ r h
  exact ⟨h1.1.1, h1.2 (Nat.zero_le _), h1.1.2⟩
/-- the log of batches -/
def logB (g : List (List It)) : List UInt8 := g.flatMap batB
def goodL (l : List (List It)) : List (List It) := l.filter fun q => batE q == 0
def endL (g : List (List It)) (n : Nat) : Nat := (logB (g.take n)).length
theorem goodL_ok {l : List (List It)} : ∀ q ∈ goodL l, batE q = 0 := fun q hq => by
  have := (List.mem_filter.1 hq).2
  simpa using this
theorem batB_frame {q : List It} (h : batE q = 0) : batB q = frameB ((1 : Nat) : Int) (itemsB q) ∧ (itemsB q).length ≤ 60000 := by
  obtain ⟨-, -, h3, -, -⟩ := batE_ok h
  unfold batB
  rw [if_pos h]
  exact ⟨rfl, h3⟩
theorem batB_len {q : List It} (h : batE q = 0) : 12 ≤ (batB q).length ∧ (batB q).length ≤ 60012 := by
  obtain ⟨h1, h2⟩ := batB_frame h
  rw [h1, frameB_len]; omega
theorem logB_append (a b : List (List It)) : logB (a ++ b) = logB a ++ logB b := by simp [logB]
theorem logB_cons (q : List It) (g : List (List It)) : logB (q :: g) = batB q ++ logB g := by simp [logB]
theorem logB_one (q : List It) : logB [q] = batB q := by simp [logB]
theorem logB_len (g : List (List It)) (h : ∀ q ∈ g, batE q = 0) : 12 * g.length ≤ (logB g).length ∧ (logB g).length ≤ 60012 * g.length := by
  induction g with
  | nil => simp [logB]
  | cons q g ih =>
    have h1 := ih (fun x hx => h x (List.mem_cons_of_mem _ hx))
    have h2 := batB_len (h q (List.mem_cons_self ..))
    have e : logB (q :: g) = batB q ++ logB g := by simp [logB]
    rw [e, List.length_append, List.length_cons]
    omega
theorem stepL_bat (s : List (List It)) {q : List It} (h : batE q = 0) : stepL s 1 (itemsB q) = some (s ++ [q]) := by
  obtain ⟨h1, h2, -, -, -⟩ := batE_ok h
  have h3 := readL_row [] h2
  rw [List.append_nil] at h3
  have h3 : readL (itemsB q) = (0, q) := h3
  unfold stepL
  rw [h3, if_pos ⟨rfl, rfl, h1⟩]
/-- whole batches are gone over -/
theorem seq_logs : ∀ (g : List (List It)) (pre T : List UInt8) (f : Nat) (s : List (List It)), (∀ q ∈ g, batE q = 0) →
    seqF stepL (pre ++ (logB g ++ T)) (f + g.length) pre.length s = seqF stepL (pre ++ (logB g ++ T)) f (pre ++ logB g).length (s ++ g)
  | [], pre, T, f, s, _ => by simp [logB]
  | q :: g, pre, T, f, s, h => by
    have hq := h q (List.mem_cons_self ..)
    obtain ⟨hb, hl⟩ := batB_frame hq
    have e : pre ++ (logB (q :: g) ++ T) = (pre ++ batB q) ++ (logB g ++ T) := by simp [logB]
    have ih := seq_logs g (pre ++ batB q) T f (s ++ [q]) (fun x hx => h x (List.mem_cons_of_mem _ hx))
    have hlen := batB_len hq
    have hd : ((pre ++ batB q) ++ (logB g ++ T)).drop pre.length = frameB ((1 : Nat) : Int) (itemsB q) ++ (logB g ++ T) := by
      rw [List.append_assoc, List.drop_left, hb]
    have ht := takeR_frame 1 (itemsB q) (logB g ++ T) (by omega) (by omega) hl
    rw [e, List.length_cons, show f + (g.length + 1) = (f + g.length) + 1 by omega, seqF_stepG stepL _ (by rw [List.length_append, List.length_append]; omega), hd, ht]
    simp only [if_true, stepL_bat s hq]
    have hpl : pre.length + ((itemsB q).length + 12) = (pre ++ batB q).length := by rw [List.length_append, hb, frameB_len]
    rw [hpl, ih]
    have e1 : pre ++ logB (q :: g) = pre ++ batB q ++ logB g := by simp [logB]
    have e2 : s ++ [q] ++ g = s ++ (q :: g) := by simp
    rw [e1, e2]
theorem replL_more (l : List UInt8) {f : Nat} (h : l.length < f) : replL l = seqF stepL l f 0 [] := seqF_more stepL l _ _ 0 [] (by omega) (by omega)
theorem repl_logs (g : List (List It)) (T : List UInt8) (h : ∀ q ∈ g, batE q = 0) : replL (logB g ++ T) = seqF stepL (logB g ++ T) (T.length + 1) (logB g).length g := by
  have h1 := logB_len g h
  have h2 := seq_logs g [] T ((logB g ++ T).length + 1) [] h
  simp only [List.nil_append, List.length_nil] at h2
  rw [replL_more (logB g ++ T) (f := (logB g ++ T).length + 1 + g.length) (by omega), h2]
  exact seqF_more stepL _ _ _ _ _ (by rw [List.length_append]; omega) (by rw [List.length_append]; omega)
/-- a log tells its batches -/
theorem repl_all (g : List (List It)) (h : ∀ q ∈ g, batE q = 0) : replL (logB g) = some (g, (logB g).length) := by
  have h1 := repl_logs g [] h
  rw [List.append_nil] at h1
  rw [h1, seqF_stopG stepL _ (Nat.le_refl _)]
/-- what is torn behind whole batches ends it -/
theorem repl_torn (g : List (List It)) (T : List UInt8) (h : ∀ q ∈ g, batE q = 0) (hT : (takeR T).1 = 4) : replL (logB g ++ T) = some (g, (logB g).length) := by
  rw [repl_logs g T h]
  by_cases h0 : T.length = 0
  · have : T = [] := List.eq_nil_of_length_eq_zero h0
    subst this
    rw [seqF_stopG stepL _ (by simp)]
  · rw [seqF_stepG stepL _ (by rw [List.length_append]; omega), List.drop_left, hT, if_neg (by decide), if_pos rfl]
/-- what is spoilt behind whole batches spoils all -/
theorem repl_bad (g : List (List It)) (T : List UInt8) (h : ∀ q ∈ g, batE q = 0) (h0 : 0 < T.length) (hT : (takeR T).1 ≠ 0) (hT4 : (takeR T).1 ≠ 4) : replL (logB g ++ T) = none := by
  rw [repl_logs g T h, seqF_stepG stepL _ (by rw [List.length_append]; omega), List.drop_left, if_neg hT, if_neg hT4]
theorem endL_zero (g : List (List It)) : endL g 0 = 0 := by simp [endL, logB]
theorem endL_all (g : List (List It)) : endL g g.length = (logB g).length := by simp [endL]
theorem endL_snoc (g : List (List It)) {n : Nat} (h : n < g.length) : endL g (n + 1) = endL g n + (batB g[n]).length := by
  unfold endL
  rw [List.take_succ_eq_append_getElem h, logB_append, List.length_append, logB_one]
theorem logB_take (g : List (List It)) (n : Nat) : (logB g).take (endL g n) = logB (g.take n) ∧ (logB g).drop (endL g n) = logB (g.drop n) := by
  have e : logB g = logB (g.take n) ++ logB (g.drop n) := by rw [← logB_append, List.take_append_drop]
  unfold endL
  constructor
  · conv => lhs; rw [e]
    rw [List.take_left]
  · conv => lhs; rw [e]
    rw [List.drop_left]
theorem endL_le (g : List (List It)) (n : Nat) : endL g n ≤ (logB g).length := by
  have e : logB g = logB (g.take n) ++ logB (g.drop n) := by rw [← logB_append, List.take_append_drop]
  rw [e, List.length_append]; unfold endL; omega
theorem endL_mono (g : List (List It)) (n : Nat) : endL g n ≤ endL g (n + 1) := by
  by_cases h : n < g.length
  · rw [endL_snoc g h]; omega
  · unfold endL; rw [List.take_of_length_le (by omega), List.take_of_length_le (by omega)]; exact Nat.le_refl _
/-- a log that is cut -/
theorem repl_cut (g : List (List It)) (n k : Nat) (h : ∀ q ∈ g, batE q = 0) (hn : n ≤ g.length) (h1 : endL g n ≤ k) (h2 : n < g.length → k < endL g (n + 1)) (hk : k ≤ (logB g).length) :
    replL ((logB g).take k) = some (g.take n, endL g n) := by
  have hg : ∀ q ∈ g.take n, batE q = 0 := fun q hq => h q (List.mem_of_mem_take hq)
  have e : (logB g).take k = logB (g.take n) ++ (logB (g.drop n)).take (k - endL g n) := by
    conv => lhs; rw [← List.take_append_drop n g, logB_append]
    rw [List.take_append, List.take_of_length_le h1]
    rfl
  rw [e]
  by_cases hnl : n < g.length
  · have h3 := h2 hnl
    rw [endL_snoc g hnl] at h3
    have hq := h g[n] (List.getElem_mem hnl)
    obtain ⟨hb, hl⟩ := batB_frame hq
    have e2 : logB (g.drop n) = batB g[n] ++ logB (g.drop (n + 1)) := by
      rw [List.drop_eq_getElem_cons hnl, logB_cons]
    rw [e2, List.take_append_of_le_length (by omega)]
    refine repl_torn _ _ hg ?_
    rw [hb] at h3 ⊢
    exact takeR_cut (by omega) (by omega) hl (by omega)
  · have hne : n = g.length := by omega
    subst hne
    rw [List.drop_length]
    have := repl_all (g.take g.length) hg
    simpa [logB, endL] using this
/-- a frame with up to three bits turned is as it was, or spoilt -/
theorem takeR_bad1' {r : List UInt8} (h8 : 8 ≤ r.length) (h : openE (r.take 8) ≠ 0) : (takeR r).1 ≠ 0 ∧ (takeR r).1 ≠ 4 := by
  unfold takeR
  rw [if_neg (by omega), if_pos h]
  refine ⟨h, ?_⟩
  show openE (r.take 8) ≠ 4
  unfold openE at h ⊢
  rw [List.length_take, if_neg (by omega)] at h ⊢
  split
  · decide
  · decide
theorem takeR_bad2' {r : List UInt8} (h8 : openE (r.take 8) = 0) (hl : headN r + 12 ≤ r.length) (hk : ¬ ((r.getD 0 0).toNat < 1 ∨ 100 < (r.getD 0 0).toNat ∨ 60000 < headN r)) (h : openE ((r.drop 8).take (headN r + 4)) ≠ 0) : (takeR r).1 ≠ 0 ∧ (takeR r).1 ≠ 4 := by
  unfold takeR
  rw [if_neg (by omega), if_neg (by omega), if_neg hk, if_neg (by omega), if_pos h]
  refine ⟨h, ?_⟩
  show openE ((r.drop 8).take (headN r + 4)) ≠ 4
  unfold openE at h ⊢
  rw [List.length_take, List.length_drop, if_neg (by omega)] at h ⊢
  split
  · decide
  · decide
theorem frame_flips' (k : Nat) (l post : List UInt8) (hk1 : 1 ≤ k) (hk2 : k ≤ 100) (hl : l.length ≤ 60000) {ps : List Nat} (h3 : ps.length ≤ 3) (hb : ∀ p ∈ ps, p < 8 * (frameB (k : Int) l).length) :
    flipsB (frameB (k : Int) l) ps = frameB (k : Int) l ∨ ((takeR (flipsB (frameB (k : Int) l) ps ++ post)).1 ≠ 0 ∧ (takeR (flipsB (frameB (k : Int) l) ps ++ post)).1 ≠ 4) := by
  have hH : (sealB (headB (k : Int) l.length)).length = 8 := by rw [sealB_len]; rfl
  have hB := sealB_len l
  have hf : frameB (k : Int) l = sealB (headB (k : Int) l.length) ++ sealB l := rfl
  rw [frameB_len] at hb
  obtain ⟨p1, p2, e, l1, l2, b1, b2⟩ := flips_split ps (sealB (headB (k : Int) l.length)) (sealB l) (fun p hp => by have := hb p hp; omega)
  rw [hf, e]
  have fl1 := flipsB_len p1 (sealB (headB (k : Int) l.length))
  have fl2 := flipsB_len p2 (sealB l)
  by_cases o1 : openE (flipsB (sealB (headB (k : Int) l.length)) p1) = 0
  · have e1 := open_flips (openE_seal _) (by omega) b1 (by omega) o1
    rw [e1]
    by_cases o2 : openE (flipsB (sealB l) p2) = 0
    · left
      rw [open_flips (openE_seal _) (by omega) b2 (by omega) o2]
    · right
      have hN := headN_head (k : Int) l.length hl (flipsB (sealB l) p2 ++ post)
      have e8 : (sealB (headB (k : Int) l.length) ++ (flipsB (sealB l) p2 ++ post)).take 8 = sealB (headB (k : Int) l.length) := by rw [← hH, List.take_left]
      have g0 : ((sealB (headB (k : Int) l.length) ++ (flipsB (sealB l) p2 ++ post)).getD 0 0).toNat = k := by
        have : (sealB (headB (k : Int) l.length) ++ (flipsB (sealB l) p2 ++ post)).getD 0 0 = byteOf (k : Int) := by
          unfold sealB headB
          simp
        rw [this]; exact byteOf_nat k (by omega)
      rw [List.append_assoc]
      apply takeR_bad2'
      · rw [e8, openE_seal]
      · rw [hN, List.length_append, List.length_append]; omega
      · rw [g0, hN]; omega
      · rw [hN]
        have e3 : (sealB (headB (k : Int) l.length) ++ (flipsB (sealB l) p2 ++ post)).drop 8 = flipsB (sealB l) p2 ++ post := by rw [← hH, List.drop_left]
        have e4 : (flipsB (sealB l) p2 ++ post).take (l.length + 4) = flipsB (sealB l) p2 := by rw [← hB, ← fl2, List.take_left]
        rw [e3, e4]
        exact o2
  · right
    apply takeR_bad1'
    · rw [List.length_append, List.length_append]; omega
    · have e3 : (flipsB (sealB (headB (k : Int) l.length)) p1 ++ flipsB (sealB l) p2 ++ post).take 8 = flipsB (sealB (headB (k : Int) l.length)) p1 := by
        rw [List.append_assoc, show (8 : Nat) = (flipsB (sealB (headB (k : Int) l.length)) p1).length by rw [fl1, hH], List.take_left]
      rw [e3]
      exact o1
/-- a log of which one batch has up to three bits turned -/
theorem repl_flips (g : List (List It)) (h : ∀ q ∈ g, batE q = 0) {m : Nat} (hm : m < g.length) {ps : List Nat} (h3 : ps.length ≤ 3) (hb : ∀ p ∈ ps, p < 8 * (endL g (m + 1) - endL g m)) :
    flipsB (logB g) (ps.map (8 * endL g m + ·)) = logB g ∨ replL (flipsB (logB g) (ps.map (8 * endL g m + ·))) = none := by
  have hsplit : logB g = logB (g.take m) ++ (batB g[m] ++ logB (g.drop (m + 1))) := by
    conv => lhs; rw [← List.take_append_drop m g, logB_append]
    rw [List.drop_eq_getElem_cons hm, logB_cons]
  have hq := h g[m] (List.getElem_mem hm)
  obtain ⟨hbf, hl⟩ := batB_frame hq
  have hb2 : ∀ p ∈ ps, p < 8 * (batB g[m]).length := by
    intro p hp
    have := hb p hp
    rw [endL_snoc g hm] at this
    omega
  have hend : (logB (g.take m)).length = endL g m := rfl
  have hmid := flips_mid ps (logB (g.take m)) (batB g[m]) (logB (g.drop (m + 1))) hb2
  rw [← hsplit, hend] at hmid
  have hfl := flipsB_len ps (batB g[m])
  rw [hbf] at hmid hb2 hfl
  rcases frame_flips' 1 (itemsB g[m]) (logB (g.drop (m + 1))) (by omega) (by omega) hl h3 hb2 with he | ⟨he, he4⟩
  · left
    rw [he, ← hbf, ← hsplit] at hmid
    exact hmid
  · right
    rw [hmid]
    refine repl_bad _ _ (fun q hq => h q (List.mem_of_mem_take hq)) ?_ he he4
    rw [List.length_append, hfl, frameB_len]; omega
end Go.Proofs.Ytnjmekjaingniaa

/-
  Rows of items.
-/
namespace Go.Proofs.Ytnjmekjaingniaa
open Go.RowKit
set_option linter.unusedVariables false
set_option linter.unusedSimpArgs false

/-- a row of items and what it holds -/
structure Rw where
  A : Option Addr
  n : Nat
  c : Nat
  l : List It
def Rw.v (r : Rw) : Value := .slice r.A r.n r.c
def rwv (rs : List Rw) : List Value := rs.map Rw.v
def rwl (rs : List Rw) : List (List It) := rs.map Rw.l
/-- each of the rows reads so -/
def RwOk (w : World) (rs : List Rw) : Prop := ∀ r ∈ rs, Rd w w.heap.size 5 r.A r.n (itcs r.l) ∧ r.n ≤ r.c
theorem RwOk.nil (w : World) : RwOk w [] := fun r hr => by cases hr
theorem RwOk.up {w w' : World} {rs : List Rw} (h : RwOk w rs) (hu : Up w w') : RwOk w' rs := fun r hr => ⟨(h r hr).1.up hu, (h r hr).2⟩
theorem RwOk.snoc {w : World} {rs : List Rw} (h : RwOk w rs) {A : Option Addr} {n c : Nat} {l : List It} (hr : Rd w w.heap.size 5 A n (itcs l)) (hc : n ≤ c) : RwOk w (rs ++ [⟨A, n, c, l⟩]) := fun r hr' => by
  rcases List.mem_append.1 hr' with h1 | h1
  · exact h r h1
  · simp at h1; subst h1; exact ⟨hr, hc⟩
end Go.Proofs.Ytnjmekjaingniaa

/-
  Rows of items that are rows of the call's own.
-/
namespace Go.Proofs.Ytnjmekjaingniaa
open Go.RowKit
set_option linter.unusedVariables false
set_option linter.unusedSimpArgs false

/-- each of the rows is a row of its own -/
def RwOwn (w : World) (base : Nat) (rs : List Rw) : Prop := ∀ r ∈ rs, OwnI w base r.A r.n r.c r.l
theorem RwOwn.nil (w : World) (base : Nat) : RwOwn w base [] := fun r hr => by cases hr
theorem RwOwn.ok {w : World} {base : Nat} {rs : List Rw} (h : RwOwn w base rs) : RwOk w rs := fun r hr => ⟨Rd.own (h r hr), own_cap (h r hr)⟩
theorem RwOwn.snoc {w : World} {base : Nat} {rs : List Rw} (h : RwOwn w base rs) {A : Option Addr} {n c : Nat} {l : List It} (hr : OwnI w base A n c l) : RwOwn w base (rs ++ [⟨A, n, c, l⟩]) := fun r hr' => by
  rcases List.mem_append.1 hr' with h1 | h1
  · exact h r h1
  · simp at h1; subst h1; exact hr
theorem RwOwn.up {w w' : World} {base : Nat} {rs : List Rw} (h : RwOwn w base rs) (hu : Up w w') : RwOwn w' base rs := fun r hr => own_up (h r hr) hu
theorem RwOwn.base {w : World} {base base' : Nat} {rs : List Rw} (h : RwOwn w base rs) (hb : base' ≤ base) : RwOwn w base' rs := fun r hr => own_base (h r hr) hb
theorem rwv_len (rs : List Rw) : (rwv rs).length = rs.length := by simp [rwv]
theorem rwl_len (rs : List Rw) : (rwl rs).length = rs.length := by simp [rwl]
theorem rwv_snoc (rs : List Rw) (r : Rw) : rwv (rs ++ [r]) = rwv rs ++ [r.v] := by simp [rwv]
theorem rwl_snoc (rs : List Rw) (r : Rw) : rwl (rs ++ [r]) = rwl rs ++ [r.l] := by simp [rwl]
theorem rwv_one (rs : List Rw) : ∀ u ∈ rwv rs, u.oneCell' = true := fun u hu => by
  obtain ⟨r, _, rfl⟩ := List.mem_map.1 hu
  rfl
theorem Rd.rlen {w : World} {B n : Nat} {A : Option Addr} {rs : List Rw} (h : Rd w B 1 A n (rwv rs)) : n = rs.length := by have := h.1; rw [rwv_len, Nat.mul_one] at this; exact this.symm
/-- the value of row k -/
theorem Rd.row_at {w : World} {B n : Nat} {A : Option Addr} {rs : List Rw} (h : Rd w B 1 A n (rwv rs)) {k : Nat} (hk : k < n) : ∃ b o r, A = some ⟨b, o, none⟩ ∧ b < B ∧ rs[k]? = some r ∧ w.cell? ⟨b, o + k, none⟩ = some (.slice r.A r.n r.c) := by
  obtain ⟨b, o, rfl, hb, hc⟩ := h.2 (by omega)
  have hl := h.rlen
  have hk2 : k < rs.length := by omega
  exact ⟨b, o, rs[k], rfl, hb, List.getElem?_eq_getElem hk2, hc k _ (by simp [rwv, hk2, Rw.v])⟩
end Go.Proofs.Ytnjmekjaingniaa

/-
  The walk of clepsydraref1.Unframe.
-/
namespace Go.Proofs.Ytnjmekjaingniaa
open Go.RowKit
set_option linter.unusedVariables false
set_option linter.unusedSimpArgs false

theorem tx_cut (l : List UInt8) (a b : Nat) : (tx l).extract a b = tx ((l.drop a).take (b - a)) := tx_of (by
  rw [ByteArray.data_extract, Array.toList_extract, List.extract_eq_take_drop, tx_list])
/-- what Unframe comes to: shut to the walk -/
def UnPost (r : List UInt8) (k : Nat) (w : World) (e : Ending) (w' : World) : Prop :=
  e = .returned (.tuple #[.int .i64 ((takeR r).2.1 : Int), .string (tx (takeR r).2.2.1), .int .i64 (if (takeR r).1 = 0 then (k : Int) + (takeR r).2.2.2 else 0), .int .i64 ((takeR r).1 : Int)]) ∧ Up w w'
theorem UnPost.bad {r : List UInt8} {k E : Nat} {w w' : World} (h : takeR r = (E, 0, [], 0)) (hE : E ≠ 0) (hu : Up w w') : UnPost r k w (.returned (.tuple #[.int .i64 0, .string (ByteArray.mk #[]), .int .i64 0, .int .i64 (E : Int)])) w' := by
  unfold UnPost
  rw [h, if_neg hE]
  exact ⟨rfl, hu⟩
set_option maxRecDepth 100000 in
set_option maxHeartbeats 800000 in
theorem unframe_core (l : List UInt8) (k : Nat) (w : World) (hl : l.length ≤ 549755813888) (hk : k ≤ l.length) :
    Calls Try.prog 40 #[.string (tx l), .int .i64 (k : Int)] w (UnPost (l.drop k) k w) := by
  have hz : (tx l).size = l.length := tx_size l
  have hrl : (l.drop k).length = l.length - k := List.length_drop
  have hcut := tx_cut l
  generalize hn : l.length = n at *
  generalize hr : l.drop k = r at *
  have HR := Lib.hid hr
  have HL := Lib.hid hrl
  have HN := Lib.hid hn
  clear hr hrl hn
  have g0 : decide ((k : Int) < 0) = false := by simp
  have g1 : decide ((n : Int) < (k : Int)) = false := by simp; omega
  have g2 : ¬ (n : Int) < (k : Int) := by omega
  by_cases h8 : n - k < 8
  · have hv : takeR r = (4, 0, [], 0) := by unfold takeR; rw [if_pos (by rw [HL.out]; exact h8)]
    have HV := Lib.hid hv
    clear hv
    have g3 : (n : Int) - k < 8 := by omega
    go_enter Try.func40, Try.ntmps40
    go_wp2_with fail
    refine bodyPost_ret (v := .tuple #[.int .i64 0, .string (ByteArray.mk #[]), .int .i64 0, .int .i64 4]) (by simp [results, Try.results40, go_sem]) rfl ?_
    exact .bad (E := 4) HV.out (by omega) (Up.refl _)
  · have g3 : ¬ (n : Int) - k < 8 := by omega
    have g4 : decide ((n : Int) - k < 8) = false := by simp; omega
    have hx8 : (tx l).extract k (k + 8) = tx (r.take 8) := by rw [hcut, HR.out, Nat.add_sub_cancel_left]
    have q1 : (k : Int) + 8 ≤ (n : Int) := by omega
    have q2 : ((k : Int) + 8).toNat = k + 8 := by omega
    have q3 : (k : Int) ≤ (k : Int) + 8 := by omega
    have HX := Lib.hid hx8
    clear hx8
    by_cases hE : openE (r.take 8) = 0
    · have hL : openL (r.take 8) = r.take 4 := by
        have hl8 : (r.take 8).length - 4 = 4 := by rw [List.length_take, HL.out]; omega
        unfold openL; rw [if_pos hE, hl8, List.take_take]; rfl
      have hb0 : (r.getD 0 0).toNat < 256 := (r.getD 0 0).toNat_lt
      have hb1 : (r.getD 1 0).toNat < 256 := (r.getD 1 0).toNat_lt
      have hb2 : (r.getD 2 0).toNat < 256 := (r.getD 2 0).toNat_lt
      have hb3 : (r.getD 3 0).toNat < 256 := (r.getD 3 0).toNat_lt
      have hT : takeR r = if (r.getD 0 0).toNat < 1 ∨ 100 < (r.getD 0 0).toNat ∨ 60000 < headN r then (3, 0, [], 0)
          else if r.length - 8 < headN r + 4 then (4, 0, [], 0)
          else if openE ((r.drop 8).take (headN r + 4)) ≠ 0 then (openE ((r.drop 8).take (headN r + 4)), 0, [], 0)
          else (0, (r.getD 0 0).toNat, (r.drop 8).take (headN r), headN r + 12) := by
        conv => lhs; unfold takeR
        rw [if_neg (by rw [HL.out]; exact h8), if_neg (by simpa using hE)]
      have hh : headN r = (r.getD 1 0).toNat * 65536 + (r.getD 2 0).toNat * 256 + (r.getD 3 0).toNat := rfl
      rw [hh, HL.out] at hT
      have hl8 : (r.drop 8).length = n - k - 8 := by rw [List.length_drop, HL.out]
      have hd8 : ∀ N, (tx l).extract (k + 8) (k + 12 + N) = tx ((r.drop 8).take (N + 4)) := fun N => by
        rw [hcut, ← HR.out, List.drop_drop, show k + 12 + N - (k + 8) = N + 4 by omega]
      have ht4 : (tx (r.take 4)).size = 4 := by rw [tx_size, List.length_take, HL.out]; omega
      have hbs : ∀ j, j < 4 → ∀ h, (tx (r.take 4))[j]'h = r.getD j 0 := fun j hj h => by
        rw [getD_str (tx_list _) h, take_getD r hj]
      have HE := Lib.hid hE
      have HO := Lib.hid hL
      have HT := Lib.hid hT
      have HL8 := Lib.hid hl8
      have HD8 := Lib.hid hd8
      have HBS := Lib.hid hbs
      clear hL hE hT hh hl8 hd8 hcut hbs
      go_enter Try.func40, Try.ntmps40
      go_wp2_with fail
      rw [HX.out]
      refine (ropen_any (r.take 8) w (by rw [List.length_take]; omega)).mono ?_
      rintro e w1 ⟨rfl, hu1⟩
      rw [HO.out, HE.out]
      generalize r.take 4 = r4 at *
      have i0 := HBS.out 0 (by omega) (by omega)
      have i1 := HBS.out 1 (by omega) (by omega)
      have i2 := HBS.out 2 (by omega) (by omega)
      have i3 := HBS.out 3 (by omega) (by omega)
      generalize r.getD 0 0 = y0 at *
      generalize r.getD 1 0 = y1 at *
      generalize r.getD 2 0 = y2 at *
      generalize r.getD 3 0 = y3 at *
      go_wp2_with fail
      generalize hy0 : y0.toNat = x0 at *
      generalize hy1 : y1.toNat = x1 at *
      generalize hy2 : y2.toNat = x2 at *
      generalize hy3 : y3.toNat = x3 at *
      have v0 : IntKind.i64.wrap (x0 : Int) = x0 := IntWalk.i64_in _ (by omega)
      have v1 : IntKind.i64.wrap (x1 : Int) = x1 := IntWalk.i64_in _ (by omega)
      have v2 : IntKind.i64.wrap (x2 : Int) = x2 := IntWalk.i64_in _ (by omega)
      have v3 : IntKind.i64.wrap (x3 : Int) = x3 := IntWalk.i64_in _ (by omega)
      have v4 : IntKind.i64.wrap ((x1 : Int) * 65536) = (x1 : Int) * 65536 := IntWalk.i64_in _ (by omega)
      have v5 : IntKind.i64.wrap ((x2 : Int) * 256) = (x2 : Int) * 256 := IntWalk.i64_in _ (by omega)
      have v6 := or_head x1 x2 x3 hb1 hb2 hb3
      have hNb : x1 * 65536 + x2 * 256 + x3 < 16777216 := by omega
      generalize hN : x1 * 65536 + x2 * 256 + x3 = N at v6 hNb
      have hT := HT.out
      rw [hN] at hT
      have HT2 := Lib.hid hT
      have HD := Lib.hid (HD8.out N)
      clear hN hT HT HD8 HBS
      apply Rg.region_up (fun W => Up w1 W) (by kernel_rfl) (by kernel_rfl) (fun w1 h => h)
      · intro QN hQN
        iterate 14 (apply Rg.RK.ok; (· intro vs w1 hS; go_simp; with_reducible rfl); (· rfl); simp only [Act.put, List.setIfInBounds_toArray, List.set_cons_zero, List.set_cons_succ, Nat.reduceAdd])
        apply Rg.RK.fin []
        intro vs w1 hK hS _
        refine hQN.out _ _ ?_
        clear hQN
        have hu2 := hu1.trans (keeps_up hK)
        clear v1 v2 v3 v4 v5 v6 i1 i2 i3 hy1 hy2 hy3 hS hK
        by_cases hbad : x0 < 1 ∨ 100 < x0 ∨ 60000 < N
        · have hv : takeR r = (3, 0, [], 0) := by rw [HT2.out, if_pos hbad]
          have hpe : putE (x0 : Int) N ≠ 0 := by unfold putE; split; simp; split; simp; omega
          have HV := Lib.hid hv
          clear hv
          go_wp2_with fail
          refine (frameok_any (x0 : Int) N _ (by omega)).mono ?_
          rintro e w2 ⟨rfl, rfl⟩
          generalize putE (x0 : Int) N = E3 at *
          have hE3 : ¬ (E3 : Int) = 0 := by omega
          go_wp2_with fail
          refine bodyPost_ret (v := .tuple #[.int .i64 0, .string (ByteArray.mk #[]), .int .i64 0, .int .i64 3]) (by simp [results, Try.results40, go_sem]) rfl ?_
          exact .bad (E := 3) HV.out (by omega) hu2
        · have hpe : putE (x0 : Int) N = 0 := by unfold putE; rw [if_neg (by omega), if_neg (by omega)]
          have HP := Lib.hid hpe
          have hN6 : N ≤ 60000 := by omega
          clear hpe
          by_cases hx4 : n - k - 8 < N + 4
          · have hv : takeR r = (4, 0, [], 0) := by rw [HT2.out, if_neg hbad, if_pos hx4]
            have HV := Lib.hid hv
            clear hv
            have g6 : (n : Int) - k - 8 < N + 4 := by omega
            go_wp2_with fail
            refine (frameok_any (x0 : Int) N _ (by omega)).mono ?_
            rintro e w2 ⟨rfl, rfl⟩
            rw [HP.out]
            go_wp2_with fail
            refine bodyPost_ret (v := .tuple #[.int .i64 0, .string (ByteArray.mk #[]), .int .i64 0, .int .i64 4]) (by simp [results, Try.results40, go_sem]) rfl ?_
            exact .bad (E := 4) HV.out (by omega) hu2
          · have g6 : ¬ (n : Int) - k - 8 < N + 4 := by omega
            have q4 : ((k : Int) + 12 + N).toNat = k + 12 + N := by omega
            have q5 : (k : Int) + 8 ≤ (k : Int) + 12 + N := by omega
            have q6 : (k : Int) + 12 + N ≤ (n : Int) := by omega
            have q7 : (0 : Int) ≤ (k : Int) + 8 := by omega
            have hlen5 : ((r.drop 8).take (N + 4)).length = N + 4 := by rw [List.length_take, HL8.out]; omega
            by_cases hx5 : openE ((r.drop 8).take (N + 4)) = 0
            · have hv : takeR r = (0, x0, (r.drop 8).take N, N + 12) := by rw [HT2.out, if_neg hbad, if_neg hx4, if_neg (by simpa using hx5)]
              have hL5 : openL ((r.drop 8).take (N + 4)) = (r.drop 8).take N := by
                unfold openL; rw [if_pos hx5, hlen5, List.take_take, Nat.min_eq_left (by omega)]; simp
              have HV := Lib.hid hv
              have H5 := Lib.hid hx5
              have HL5 := Lib.hid hL5
              have H6 := Lib.hid hlen5
              clear hv hx5 hL5 hlen5
              go_wp2_with fail
              refine (frameok_any (x0 : Int) N _ (by omega)).mono ?_
              rintro e w2 ⟨rfl, rfl⟩
              rw [HP.out]
              go_wp2_with fail
              rw [HD.out]
              refine (ropen_any _ w1 (by rw [H6.out]; omega)).mono ?_
              rintro e w3 ⟨rfl, hu3⟩
              rw [HL5.out, H5.out]
              go_wp2_with fail
              refine bodyPost_ret (v := .tuple #[.int .i64 (x0 : Int), .string (tx ((r.drop 8).take N)), .int .i64 ((k : Int) + 12 + N), .int .i64 0]) (by simp [results, Try.results40, go_sem]) rfl ?_
              unfold UnPost
              rw [HV.out]
              have e12 : (k : Int) + 12 + N = (k : Int) + ((N + 12 : Nat) : Int) := by omega
              rw [e12]
              exact ⟨rfl, hu2.trans hu3⟩
            · have hv : takeR r = (openE ((r.drop 8).take (N + 4)), 0, [], 0) := by rw [HT2.out, if_neg hbad, if_neg hx4, if_pos hx5]
              have HV := Lib.hid hv
              have H6 := Lib.hid hlen5
              clear hv hlen5
              go_wp2_with fail
              refine (frameok_any (x0 : Int) N _ (by omega)).mono ?_
              rintro e w2 ⟨rfl, rfl⟩
              rw [HP.out]
              go_wp2_with fail
              rw [HD.out]
              refine (ropen_any _ w1 (by rw [H6.out]; omega)).mono ?_
              rintro e w3 ⟨rfl, hu3⟩
              generalize openE ((r.drop 8).take (N + 4)) = E5 at *
              have hE5 : ¬ (E5 : Int) = 0 := by omega
              go_wp2_with fail
              refine bodyPost_ret (v := .tuple #[.int .i64 0, .string (ByteArray.mk #[]), .int .i64 0, .int .i64 (E5 : Int)]) (by simp [results, Try.results40, go_sem]) rfl ?_
              exact .bad HV.out hx5 (hu2.trans hu3)
      · kernel_rfl
    · have hv : takeR r = (openE (r.take 8), 0, [], 0) := by unfold takeR; rw [if_neg (by rw [HL.out]; exact h8), if_pos hE]
      have HV := Lib.hid hv
      clear hv hcut
      go_enter Try.func40, Try.ntmps40
      go_wp2_with fail
      rw [HX.out]
      refine (ropen_any (r.take 8) w (by rw [List.length_take]; omega)).mono ?_
      rintro e w1 ⟨rfl, hu1⟩
      generalize openE (r.take 8) = E5 at *
      have hE5 : ¬ (E5 : Int) = 0 := by omega
      go_wp2_with fail
      refine bodyPost_ret (v := .tuple #[.int .i64 0, .string (ByteArray.mk #[]), .int .i64 0, .int .i64 (E5 : Int)]) (by simp [results, Try.results40, go_sem]) rfl ?_
      exact .bad HV.out hE hu1
set_option maxRecDepth 100000 in
set_option maxHeartbeats 800000 in
theorem unframe_any (l : List UInt8) (at_ : Int) (w : World) (hl : l.length ≤ 549755813888) :
    Calls Try.prog 40 #[.string (tx l), .int .i64 at_] w fun e w' => e = .returned (.tuple #[.int .i64 ((takeF l at_).2.1 : Int), .string (tx (takeF l at_).2.2.1), .int .i64 (takeF l at_).2.2.2, .int .i64 ((takeF l at_).1 : Int)]) ∧ Up w w' := by
  by_cases h0 : at_ < 0 ∨ (l.length : Int) < at_
  · have hv : takeF l at_ = (1, 0, [], 0) := by unfold takeF; rw [if_pos h0]
    have HV := Lib.hid hv
    have hz : (tx l).size = l.length := tx_size l
    clear hv
    rcases h0 with h0 | h0
    · go_enter Try.func40, Try.ntmps40
      go_wp2_with fail
      refine bodyPost_ret (v := .tuple #[.int .i64 0, .string (ByteArray.mk #[]), .int .i64 0, .int .i64 1]) (by simp [results, Try.results40, go_sem]) rfl ?_
      rw [HV.out]
      exact ⟨rfl, Up.refl _⟩
    · have h1 : ¬ at_ < 0 := by omega
      have hd1 : decide (at_ < 0) = false := by simp; omega
      go_enter Try.func40, Try.ntmps40
      go_wp2_with fail
      refine bodyPost_ret (v := .tuple #[.int .i64 0, .string (ByteArray.mk #[]), .int .i64 0, .int .i64 1]) (by simp [results, Try.results40, go_sem]) rfl ?_
      rw [HV.out]
      exact ⟨rfl, Up.refl _⟩
  · obtain ⟨k, rfl⟩ := Int.eq_ofNat_of_zero_le (show 0 ≤ at_ by omega)
    have hv : takeF l (k : Int) = ((takeR (l.drop k)).1, (takeR (l.drop k)).2.1, (takeR (l.drop k)).2.2.1, if (takeR (l.drop k)).1 = 0 then (k : Int) + (takeR (l.drop k)).2.2.2 else 0) := by
      unfold takeF; rw [if_neg h0]; rfl
    rw [hv]
    exact unframe_core l k w hl (by omega)
end Go.Proofs.Ytnjmekjaingniaa

/-
  The walks of clepsydraref1.Unsign and clepsydraref5.Read.
-/
namespace Go.Proofs.Ytnjmekjaingniaa
open Go.RowKit
set_option linter.unusedVariables false
set_option linter.unusedSimpArgs false

theorem u64_and_one (a : Nat) (ha : a < 18446744073709551616) : bits .and .u64 (a : Int) 1 = ((a % 2 : Nat) : Int) := by
  show IntKind.u64.wrap ((BitVec.ofInt 64 (a : Int) &&& BitVec.ofInt 64 1).toNat : Int) = _
  rw [BitVec.toNat_and, BitVec.ofInt_natCast, BitVec.toNat_ofNat, Nat.mod_eq_of_lt (by omega), IntKind.wrap_u64]
  have : (BitVec.ofInt 64 1).toNat = 1 := rfl
  rw [this, Nat.and_one_is_mod]; omega

set_option maxRecDepth 100000 in
set_option maxHeartbeats 800000 in
theorem runsign_any (z : Nat) (w : World) (hz : z < 18446744073709551616) :
    Calls Try.prog 70 #[.int .u64 (z : Int)] w fun e w' => e = .returned (.int .i64 (unsignZ z)) ∧ w = w' := by
  have ha := u64_and_one z hz
  by_cases h1 : z % 2 = 1
  · rw [h1] at ha
    have hv : unsignZ z = -((z : Int) / 2) - 1 := by unfold unsignZ; split <;> omega
    have HV := Lib.hid hv
    clear hv
    go_enter Try.func70, Try.ntmps70
    go_wp2
    go_ret
    rw [HV.out]
    exact ⟨rfl, rfl⟩
  · have h0 : z % 2 = 0 := by omega
    rw [h0] at ha
    have hv : unsignZ z = (z : Int) / 2 := by unfold unsignZ; split <;> omega
    have HV := Lib.hid hv
    clear hv
    go_enter Try.func70, Try.ntmps70
    go_wp2
    go_ret
    rw [HV.out]
    exact ⟨rfl, rfl⟩

/-- five cells at the head of a block, other than what was there before -/
def At5 (g : Nat) (v0 v1 v2 v3 v4 : Value) (W : World) : Prop := W.heap[g]? = some (.cells #[v0, v1, v2, v3, v4] 25 (0, 0))
def New5 (B : Nat) (v : Value) (W : World) : Prop := ∃ g, v = .pointer (some ⟨g, 0, none⟩) ∧ B ≤ g ∧ At5 g (.int .i64 0) (.int .i64 0) (.int .u64 0) (.int .u64 0) (.int .i64 0) W
theorem At5.sta {g : Nat} {v0 v1 v2 v3 v4 : Value} {w w' : World} {Y : Nat → Prop} (h : At5 g v0 v1 v2 v3 v4 w) (hs : Rg.Sta Y w w') (hy : Y g) : At5 g v0 v1 v2 v3 v4 w' :=
  (hs.block g (Array.getElem?_eq_some_iff.1 h).1 hy).trans h
theorem New5.sta {B : Nat} {v : Value} {w w' : World} {Y : Nat → Prop} (h : New5 B v w) (hs : Rg.Sta (fun g => Y g ∨ Rg.ob v g) w w') : New5 B v w' := by
  obtain ⟨g, rfl, hb, hh⟩ := h
  exact ⟨g, rfl, hb, hh.sta hs (.inr rfl)⟩
/-- the pointer leads to a new block that holds these numbers -/
def It5 (B x0 x1 : Nat) (v : Value) (W : World) : Prop := ∃ g, v = .pointer (some ⟨g, 0, none⟩) ∧ B ≤ g ∧ At5 g (.int .i64 (x0 : Int)) (.int .i64 (x1 : Int)) (.int .u64 0) (.int .u64 0) (.int .i64 0) W
theorem It5.sta {B x0 x1 : Nat} {v : Value} {w w' : World} {Y : Nat → Prop} (h : It5 B x0 x1 v w) (hs : Rg.Sta (fun g => Y g ∨ Rg.ob v g) w w') : It5 B x0 x1 v w' := by
  obtain ⟨g, rfl, hb, hh⟩ := h
  exact ⟨g, rfl, hb, hh.sta hs (.inr rfl)⟩
theorem cell_up {w w' : World} (hu : Up w w') {g o : Nat} {v : Value} (h : w.cell? ⟨g, o, none⟩ = some v) : w'.cell? ⟨g, o, none⟩ = some v :=
  (World.cell?_of_block (hu.block g (World.block_lt_of_cell? w ⟨g, o, none⟩ h))).trans h
/-- blocks that were written are newer than w -/
theorem keeps_fresh {w wq w2 : World} {gx : Nat} (hu : Up w wq) (hg : w.heap.size ≤ gx) (hK : Rg.Keeps (fun g => g = gx) wq.drew w2) : Up w w2 :=
  ⟨hK.os.trans hu.os, hK.tape.trans hu.tape, hK.output.trans hu.output, Nat.le_trans hu.size hK.size, fun k hk => (hK.block k (Nat.lt_of_lt_of_le hk hu.size) (by show ¬ k = gx; omega)).trans (hu.block k hk)⟩
theorem own_keeps {wq w2 : World} {base gx : Nat} {e : TypeId} {sz n : Nat} {v : Value} {xs : List Value} (h : wq.ownsRow base e sz v n xs) (hg : ∀ g, Rg.ob v g → g ≠ gx) (hK : Rg.Keeps (fun g => g = gx) wq.drew w2) : w2.ownsRow base e sz v n xs :=
  row_sta (Y := fun _ => False) h ⟨hK.size, fun g hl hy => hK.block g hl (hg g (hy.elim False.elim id))⟩
theorem At5.setc2 {g : Nat} {v0 v1 v2 v3 v4 u : Value} {W : World} (h : At5 g v0 v1 v2 v3 v4 W) : At5 g v0 v1 u v3 v4 (W.setCell ⟨g, 2, none⟩ u) := setc_heap W g 2 u _ _ h
theorem At5.setc3 {g : Nat} {v0 v1 v2 v3 v4 u : Value} {W : World} (h : At5 g v0 v1 v2 v3 v4 W) : At5 g v0 v1 v2 u v4 (W.setCell ⟨g, 3, none⟩ u) := setc_heap W g 3 u _ _ h
theorem At5.setc4 {g : Nat} {v0 v1 v2 v3 v4 u : Value} {W : World} (h : At5 g v0 v1 v2 v3 v4 W) : At5 g v0 v1 v2 v3 u (W.setCell ⟨g, 4, none⟩ u) := setc_heap W g 4 u _ _ h
theorem ext_tx {s : ByteArray} {l : List UInt8} (hs : s.data.toList = l) (a : Nat) : (s.extract a s.size).data.toList = l.drop a := by
  subst hs
  rw [ByteArray.data_extract, Array.toList_extract, List.extract_eq_take_drop]
  exact List.take_of_length_le (by rw [List.length_drop, Array.length_toList]; exact Nat.le_refl _)
/-- the item that bytes at a place begin with -/
theorem oneL_at (l : List UInt8) (p : Nat) (h : ¬ l.length - p < 2) : oneL (l.drop p) = if (takesL 3 [] (l.drop (p + 2))).1 = 0 then (0, mkIt (l.getD p 0).toNat (l.getD (p + 1) 0).toNat ((takesL 3 [] (l.drop (p + 2))).2.1.getD 0 0) ((takesL 3 [] (l.drop (p + 2))).2.1.getD 1 0) ((takesL 3 [] (l.drop (p + 2))).2.1.getD 2 0), (takesL 3 [] (l.drop (p + 2))).2.2)
    else ((takesL 3 [] (l.drop (p + 2))).1, noIt, []) := by
  conv => lhs; unfold oneL
  rw [if_neg (by rw [List.length_drop]; exact h), List.drop_drop]
  simp only [List.getD_eq_getElem?_getD, List.getElem?_drop, Nat.add_zero]

/-- what Read comes to -/
def RdPost (t : Nat × List It) (w : World) (e : Ending) (w' : World) : Prop := ∃ A' n' c', e = .returned (.tuple #[.slice A' n' c', .int .i64 (t.1 : Int)]) ∧ OwnI w' w.heap.size A' n' c' t.2 ∧ Up w w'

set_option maxRecDepth 100000 in
set_option maxHeartbeats 1600000 in
theorem rread_any (l : List UInt8) (w : World) (hl : l.length ≤ 1099511627776) :
    Calls Try.prog 41 #[.string (tx l)] w (RdPost (readL l) w) := by
  have nil0 : ∀ w0, OwnI w0 w.heap.size none 0 0 [] := fun w0 => World.ownsRow_nil _ _ _ _
  have NIL := Lib.hid nil0
  clear nil0
  have hts := tx_list l
  have hsz := tx_size l
  have HT0 : Hid (∀ W, Calls Try.prog 69 #[.string (tx l)] W fun e w' => e = .returned (.tuple #[.int .u64 ((takeL l).1 : Int), .int .i64 ((takeL l).2.1 : Int), .int .i64 ((takeL l).2.2 : Int)]) ∧ W = w') := fun W => rtake_any (tx l) l W hts (by omega)
  by_cases he : (takeL l).2.2 = 0
  · have hok := takeL_ok he
    by_cases hbig : 2000 < (takeL l).1
    · have hv : readL l = (2, []) := by unfold readL; rw [if_neg (by simpa using he), if_pos hbig]
      have HV := Lib.hid hv
      clear hv hts hsz
      go_enter Try.func41, Try.ntmps41
      go_wp2_with fail
      refine (HT0.out w).mono ?_
      rintro e w1 ⟨rfl, rfl⟩
      rw [he]
      generalize (takeL l).1 = tn at *
      clear he
      go_wp2_with fail
      go_ret2
      rw [HV.out]
      exact ⟨none, 0, 0, rfl, NIL.out _, Up.refl _⟩
    · have hv : readL l = if (itsL (takeL l).1 [] (l.drop (takeL l).2.1)).1 ≠ 0 then ((itsL (takeL l).1 [] (l.drop (takeL l).2.1)).1, [])
          else if (itsL (takeL l).1 [] (l.drop (takeL l).2.1)).2.2.length = 0 ∧ (itsL (takeL l).1 [] (l.drop (takeL l).2.1)).2.1.all okB = true then (0, (itsL (takeL l).1 [] (l.drop (takeL l).2.1)).2.1) else (3, []) := by
        conv => lhs; unfold readL
        rw [if_neg (by simpa using he), if_neg hbig]
      have HV := Lib.hid hv
      clear hv
      have htl : (takeL l).2.1 ≤ l.length := hok.2.2.1
      have HS := Lib.hid hts
      have HZ := Lib.hid hsz
      have hzz : (tx l).size ≤ 1099511627776 := by omega
      go_enter Try.func41, Try.ntmps41
      go_wp2_with fail
      refine (HT0.out w).mono ?_
      rintro e w1 ⟨rfl, rfl⟩
      rw [he]
      generalize hl2 : l.drop (takeL l).2.1 = l2 at *
      generalize (takeL l).1 = tn at *
      generalize (takeL l).2.1 = ts at *
      have HL2 := Lib.hid hl2
      clear he hl2
      obtain ⟨h1, h2', h3, h4⟩ := hok
      have t3 : (tn : Int) ≤ 2000 := by omega
      clear hts HT0
      generalize hsl : l.length = Z at *
      have HLZ := Lib.hid hsl
      clear hsl
      go_wp2_with fail
      go_loopw [5, 7, 8, 9] (fun av v bv i wr => ∃ (k p : Nat) (R : Option Addr) (m d : Nat) (acc : List It), i = .int .u64 (k : Int) ∧ av = .int .i64 (p : Int) ∧ v = .slice R m d ∧ bv = .bool (!(acc.all okB)) ∧ k ≤ tn ∧ p ≤ Z ∧ m = k ∧
          OwnI wr w.heap.size R m d acc ∧ Hid (itsL (tn - k) acc (l.drop p) = itsL tn [] l2) ∧ Up w wr) (fun _ _ _ i _ => tn - (intOf i).toNat)
      case atStart => exact ⟨0, ts, none, 0, 0, [], rfl, rfl, rfl, rfl, by omega, htl, rfl, NIL.out _, by rw [HL2.out]; rfl, Up.refl _⟩
      case round =>
        obtain ⟨k, p, R, m, d, acc, rfl, rfl, rfl, rfl, hk, hp, hmk, hown, HT, hu⟩ := hrel
        subst hmk
        generalize hbd : acc.all okB = bb at *
        have HBD := Lib.hid hbd
        clear hbd
        by_cases hlt : m < tn
        · by_cases hs2 : Z - p < 2
          · have hone : oneL (l.drop p) = (4, noIt, []) := by unfold oneL; rw [if_pos (by rw [List.length_drop, HLZ.out]; omega)]
            have hst : itsL tn [] l2 = (4, [], []) := by
              rw [← HT.out, show tn - m = (tn - (m + 1)) + 1 by omega]
              unfold itsL
              rw [hone, if_neg (by decide)]
            have hv : readL l = (4, []) := by rw [HV.out, hst, if_pos (by decide)]
            have HR := Lib.hid hv
            clear hv hst hone
            have g1 : (Z : Int) - p < 2 := by omega
            go_wp2_with fail
            go_ret2
            rw [HR.out]
            exact ⟨none, 0, 0, rfl, NIL.out _, hu⟩
          · have hg0 := getD_str HS.out (k := p) (by omega)
            have hg1 := getD_str HS.out (k := p + 1) (by omega)
            have hb0 := (l.getD p 0).toNat_lt
            have hb1 := (l.getD (p + 1) 0).toNat_lt
            have hone := oneL_at l p (by have := HLZ.out; omega)
            generalize hx0 : l.getD p 0 = b0 at *
            generalize hx1 : l.getD (p + 1) 0 = b1 at *
            have HX0 := Lib.hid hx0
            have HX1 := Lib.hid hx1
            have HO := Lib.hid hone
            clear hx0 hx1 hone
            have g1 : ¬ (Z : Int) - p < 2 := by omega
            have g2 : decide ((Z : Int) - p < 2) = false := by simp; omega
            have g3 : decide ((m : Int) < (tn : Int)) = true := by simp; omega
            have q1 : (p : Int) < (tx l).size := by omega
            have q2 : (p : Int) + 1 < (tx l).size := by omega
            have q3 : p < (tx l).size := by omega
            have q5 : p < Z := by omega
            have q6 : (p : Int) < Z := by omega
            have q7 : (p : Int) + 1 < Z := by omega
            have q8 : (0 : Int) ≤ (p : Int) + 1 := by omega
            have q4 : p + 1 < (tx l).size := by omega
            have v0 : IntKind.i64.wrap (b0.toNat : Int) = b0.toNat := IntWalk.i64_in _ (by omega)
            have v1 : IntKind.i64.wrap (b1.toNat : Int) = b1.toNat := IntWalk.i64_in _ (by omega)
            have v2 : IntKind.i64.wrap ((p : Int) + 1) = (p : Int) + 1 := IntWalk.i64_in _ (by omega)
            go_wp2_with fail
            apply Rg.region_up (fun W => Up wr W) (by kernel_rfl) (by kernel_rfl) (fun w1 h => h)
            · intro QN hQN
              iterate 10 (apply Rg.RK.ok; (· intro vs w1 hS; go_simp; with_reducible rfl); (· rfl); simp only [Act.put, List.setIfInBounds_toArray, List.set_cons_zero, List.set_cons_succ, Nat.reduceAdd])
              apply Rg.RK.opn (New5 wr.heap.size) Rg.ob [] []
              · exact fun v W1 W2 h hs => h.sta hs
              · rfl
              · intro vs w1 hK hS _ K hKK
                go_simp
                exact hKK.out _ _ ⟨w1.heap.size, rfl, (keeps_up hK).size, heap_alloc_new w1 _⟩ (Rg.Keeps.of_up ((Up.refl _).alloc _)) (by rintro g rfl; exact ⟨by simp, .inl (Nat.le_refl _)⟩)
              simp only [Act.put, List.setIfInBounds_toArray, List.set_cons_zero, List.set_cons_succ, Nat.reduceAdd]
              apply Rg.RK.opD (fun vs W => It5 wr.heap.size b0.toNat b1.toNat (vs 10) W) (fun vs => Rg.ob (vs 10)) [10] [10] [10] (fun vs vs' h => by rw [h 10 (by simp)]; exact ⟨rfl, rfl⟩)
              · exact fun vs W1 W2 h hs => h.sta hs
              · rfl
              · intro vs w1 hK hS hf K hKK
                obtain ⟨⟨g, hv, hbs, hh⟩, -⟩ := hf
                (try dsimp only at hKK ⊢)
                rw [hv] at hKK ⊢
                have c0 := blk_cell hh
                have c1 := blk_free hh
                go_simp
                have h5 := set5 w1 g _ _ _ _ _ (.int .i64 (b0.toNat : Int)) (.int .i64 (b1.toNat : Int)) (.int .u64 0) (.int .u64 0) (.int .i64 0) _ hh
                refine hKK.out undef _ ⟨g, hv, hbs, h5.1⟩ (Keeps.weak h5.2 fun y hy => ⟨10, List.mem_singleton.2 rfl, ?_⟩) (fun y hy => ⟨?_, .inr ⟨10, List.mem_singleton.2 rfl, hy⟩⟩)
                · show Rg.ob (vs 10) y
                  rw [hv]; exact hy.symm
                · have hy' : Rg.ob (vs 10) y := hy
                  rw [hv] at hy'
                  have hgy : g = y := hy'
                  rw [← hgy]; exact (Array.getElem?_eq_some_iff.1 h5.1).1
              simp only [Act.put, List.setIfInBounds_toArray, List.set_cons_zero, List.set_cons_succ, Nat.reduceAdd]
              apply Rg.RK.fin [11]
              intro vs w1 hK hS hf
              obtain ⟨⟨gx, hv, hxnew, hh⟩, -⟩ := hf
              refine hQN.out _ _ ?_
              clear hQN
              have huW := keeps_up hK
              (try dsimp only)
              rw [hv]
              clear hv hK hS v0 v1 v2 hg0 hg1 g1 q1 q2 q3 q4 q5 q6 q7 q8
              have hown1 := own_up hown huW
              have hu1 := hu.trans huW
              have hpz : p + 2 ≤ Z := by omega
              have hgxl : gx < w1.heap.size := (Array.getElem?_eq_some_iff.1 hh).1
              have hzz2 : (tx l).size = Z := HZ.out
              go_wp2_with fail
              go_loopw [5, 12] (fun av jv wr2 => ∃ (j q : Nat) (aw : List Nat) (x y z : Nat), jv = .int .i64 (j : Int) ∧ av = .int .i64 (q : Int) ∧ j ≤ 3 ∧ q ≤ Z ∧
                  wr2 = (w1.alloc (.cells #[.int .u64 (x : Int), .int .u64 (y : Int), .int .u64 (z : Int)] 125)) ∧ Hid (takesL (3 - j) aw (l.drop q) = takesL 3 [] (l.drop (p + 2))) ∧ Hid (aw.length = j ∧ aw.getD 0 0 = x ∧ aw.getD 1 0 = y ∧ aw.getD 2 0 = z) ∧ (x : Int) ≤ 18446744073709551615 ∧ (y : Int) ≤ 18446744073709551615 ∧ (z : Int) ≤ 18446744073709551615) (fun _ j _ => 3 - (intOf j).toNat)
              case atStart => exact ⟨0, p + 2, [], 0, 0, 0, rfl, rfl, by omega, hpz, rfl, rfl, ⟨rfl, rfl, rfl, rfl⟩, by omega, by omega, by omega⟩
              case round =>
                obtain ⟨j, q, aw, x, y, z, rfl, rfl, hj, hq, rfl, HT2, HA, hx, hy, hz⟩ := hrel
                by_cases hjlt : j < 3
                · have hex : (tx l).extract q Z = tx (l.drop q) := tx_of (by rw [← hzz2]; exact ext_tx HS.out q)
                  have HE := Lib.hid hex
                  clear hex
                  go_wp2_with fail
                  rw [HE.out]
                  refine (rtake_any _ (l.drop q) _ (tx_list _) (by rw [tx_size, List.length_drop]; have := HLZ.out; omega)).mono ?_
                  rintro e w2 ⟨rfl, rfl⟩
                  by_cases he : (takeL (l.drop q)).2.2 = 0
                  · have hok := takeL_ok he
                    have hst : takesL (3 - j) aw (l.drop q) = takesL (3 - (j + 1)) (aw ++ [(takeL (l.drop q)).1]) ((l.drop q).drop (takeL (l.drop q)).2.1) := by
                      rw [show 3 - j = (3 - (j + 1)) + 1 by omega]
                      conv => lhs; unfold takesL
                      rw [if_pos he]
                    rw [List.drop_drop] at hst
                    have hdl : (l.drop q).length = Z - q := by rw [List.length_drop, HLZ.out]
                    rw [hdl] at hok
                    rw [he]
                    have HST := Lib.hid (HT2.out.symm.trans hst)
                    clear hst he
                    generalize (takeL (l.drop q)).1 = an at *
                    generalize (takeL (l.drop q)).2.1 = ss at *
                    obtain ⟨k1, k2, k3, k4⟩ := hok
                    have t3 : (an : Int) ≤ 18446744073709551615 := by omega
                    have t4 : q + ss ≤ Z := by omega
                    clear k1 k2 k3 k4 hdl
                    have hk3 : j = 0 ∨ j = 1 ∨ j = 2 := by omega
                    rcases hk3 with rfl | rfl | rfl
                    · go_wp2_with fail
                      go_roundw
                      case rel =>
                        refine ⟨1, q + ss, aw ++ [an], an, y, z, rfl, rfl, by omega, t4, rfl, HST.out.symm, ?_, by omega, by omega, by omega⟩
                        obtain ⟨q1, q2, q3, q4⟩ := HA.out
                        match aw, q1 with
                        | [], _ => exact ⟨by simp, by first | exact q2 | simp, by first | exact q3 | simp, by first | exact q4 | simp⟩
                      case measure => simp [intOf]
                    · go_wp2_with fail
                      go_roundw
                      case rel =>
                        refine ⟨2, q + ss, aw ++ [an], x, an, z, rfl, rfl, by omega, t4, rfl, HST.out.symm, ?_, by omega, by omega, by omega⟩
                        obtain ⟨q1, q2, q3, q4⟩ := HA.out
                        match aw, q1 with
                        | [a0], _ => exact ⟨by simp, by first | exact q2 | simp, by first | exact q3 | simp, by first | exact q4 | simp⟩
                      case measure => simp [intOf]
                    · go_wp2_with fail
                      go_roundw
                      case rel =>
                        refine ⟨3, q + ss, aw ++ [an], x, y, an, rfl, rfl, by omega, t4, rfl, HST.out.symm, ?_, by omega, by omega, by omega⟩
                        obtain ⟨q1, q2, q3, q4⟩ := HA.out
                        match aw, q1 with
                        | [a0, a1], _ => exact ⟨by simp, by first | exact q2 | simp, by first | exact q3 | simp, by first | exact q4 | simp⟩
                      case measure => simp [intOf]
                  · have hst : takesL (3 - j) aw (l.drop q) = ((takeL (l.drop q)).2.2, [], []) := by
                      rw [show 3 - j = (3 - (j + 1)) + 1 by omega]
                      unfold takesL
                      rw [if_neg he]
                    have ho := HO.out
                    rw [← HT2.out, hst, if_neg he] at ho
                    have hst2 : itsL tn [] l2 = ((takeL (l.drop q)).2.2, [], []) := by
                      rw [← HT.out, show tn - m = (tn - (m + 1)) + 1 by omega]
                      unfold itsL
                      rw [ho, if_neg he]
                    have hv : readL l = ((takeL (l.drop q)).2.2, []) := by rw [HV.out, hst2, if_pos he]
                    have HR := Lib.hid hv
                    clear hv hst hst2 ho
                    generalize (takeL (l.drop q)).2.2 = te at *
                    have h0 : ¬ (te : Int) = 0 := by omega
                    go_wp2_with fail
                    go_ret2
                    rw [HR.out]
                    exact ⟨none, 0, 0, rfl, NIL.out _, (hu1.alloc _)⟩
                · have hj3 : j = 3 := by omega
                  subst hj3
                  have hones : oneL (l.drop p) = (0, mkIt b0.toNat b1.toNat x y z, l.drop q) := by
                    obtain ⟨q1, q2, q3, q4⟩ := HA.out
                    rw [HO.out, ← HT2.out]
                    show (if (0 : Nat) = 0 then (0, mkIt b0.toNat b1.toNat (aw.getD 0 0) (aw.getD 1 0) (aw.getD 2 0), l.drop q) else _) = _
                    rw [if_pos rfl, q2, q3, q4]
                  have hst : itsL (tn - (m + 1)) (acc ++ [mkIt b0.toNat b1.toNat x y z]) (l.drop q) = itsL tn [] l2 := by
                    rw [← HT.out, show tn - m = (tn - (m + 1)) + 1 by omega]
                    conv => rhs; unfold itsL
                    rw [hones, if_pos rfl]
                  have HST := Lib.hid hst
                  have hc := mkIt_c b0.toNat b1.toNat x y z hb0 hb1 (by omega) (by omega) (by omega)
                  clear hst hones HA HT2 HO HT HX0 HX1 hb0 hb1
                  have HC := Lib.hid hc
                  clear hc
                  generalize mkIt b0.toNat b1.toNat x y z = it at *
                  have huq : Up w1 (w1.alloc (.cells #[.int .u64 (x : Int), .int .u64 (y : Int), .int .u64 (z : Int)] 125)) := (Up.refl w1).alloc _
                  have hh5 : At5 gx _ _ _ _ _ (w1.alloc (.cells #[.int .u64 (x : Int), .int .u64 (y : Int), .int .u64 (z : Int)] 125)) := (huq.block gx hgxl).trans hh
                  have hh3 := heap_alloc_new w1 (.cells #[.int .u64 (x : Int), .int .u64 (y : Int), .int .u64 (z : Int)] 125)
                  have hne : w1.heap.size ≠ gx := by omega
                  have hlt' : gx < (w1.alloc (.cells #[.int .u64 (x : Int), .int .u64 (y : Int), .int .u64 (z : Int)] 125)).heap.size := Nat.lt_of_lt_of_le hgxl huq.size
                  have huwq := hu1.trans huq
                  have hownq := own_up hown1 huq
                  have hrow : ∀ g, Rg.ob (.slice R m d) g → g ≠ gx := fun g hg => by
                    have := (hown.lt g ((ob_of hown).2 hg)).2
                    omega
                  have hz3 : z < 18446744073709551616 := by omega
                  generalize w1.alloc (.cells #[.int .u64 (x : Int), .int .u64 (y : Int), .int .u64 (z : Int)] 125) = wq at *
                  generalize w1.heap.size = gy at *
                  clear hown1 hu1 huq hh huW hown hgxl
                  have hS3 : ∀ w2, Rg.Keeps (fun g => g = gx) wq.drew w2 → w2.cell? ⟨gy, 0, none⟩ = some (.int .u64 (x : Int)) ∧ w2.cell? ⟨gy, 1, none⟩ = some (.int .u64 (y : Int)) ∧ w2.cell? ⟨gy, 2, none⟩ = some (.int .u64 (z : Int)) := fun w2 hK => by
                    have h := (hK.block gy (Array.getElem?_eq_some_iff.1 hh3).1 hne).trans hh3
                    exact ⟨blk_cell h 0, blk_cell h 1, blk_cell h 2⟩
                  go_wp2_with fail
                  apply Rg.region_own 13 (fun W => W.cell? ⟨gy, 0, none⟩ = some (.int .u64 (x : Int)) ∧ W.cell? ⟨gy, 1, none⟩ = some (.int .u64 (y : Int)) ∧ W.cell? ⟨gy, 2, none⟩ = some (.int .u64 (z : Int))) (fun g => g = gx) (At5 gx (.int .i64 (b0.toNat : Int)) (.int .i64 (b1.toNat : Int)) (.int .u64 0) (.int .u64 0) (.int .i64 0)) rfl (by kernel_rfl) (by kernel_rfl) (by rintro g rfl; exact hlt') hh5 (fun w1 w2 h hs => h.sta hs (.inr rfl)) hS3
                  · intro QN hQN
                    iterate 6 (apply Rg.RK.ok; (· intro vs w1 hS; go_simp; with_reducible rfl); (· rfl); simp only [Act.put, List.setIfInBounds_toArray, List.set_cons_zero, List.set_cons_succ, Nat.reduceAdd])
                    apply Rg.RK.call (.int .i64 (unsignZ z)) []
                    · rfl
                    · intro vs w1 hK hS _ K hKK
                      go_simp
                      refine (runsign_any z _ hz3).mono ?_
                      rintro e w2 ⟨rfl, rfl⟩
                      exact hKK.out _ (Up.refl _)
                    simp only [Act.put, List.setIfInBounds_toArray, List.set_cons_zero, List.set_cons_succ, Nat.reduceAdd]
                    (apply Rg.RK.ok; (· intro vs w1 hS; go_simp; with_reducible rfl); (· rfl); simp only [Act.put, List.setIfInBounds_toArray, List.set_cons_zero, List.set_cons_succ, Nat.reduceAdd])
                    apply Rg.RK.opD (fun vs W => At5 gx (.int .i64 (b0.toNat : Int)) (.int .i64 (b1.toNat : Int)) (.int .u64 (x : Int)) (.int .u64 0) (.int .i64 0) W) (fun vs g => g = gx) [13] [13] [] (fun _ _ _ => ⟨rfl, rfl⟩)
                    · exact fun vs W1 W2 h hs => h.sta hs (.inr rfl)
                    · rfl
                    · intro vs w1 hK hS hf K hKK
                      have hh := hf.1
                      have hh' : At5 gx _ _ _ _ _ w1 := hh
                      have q0 := blk_cell hh'
                      have q1 := blk_free hh'
                      go_simp
                      refine hKK.out undef _ (At5.setc2 hh') (Keeps.weak (setc_keeps w1 w1 gx 2 _ (Rg.Keeps.refl _ _)) fun y hy => ⟨13, List.mem_singleton.2 rfl, hy⟩) (fun y hy => ⟨?_, .inr ⟨13, List.mem_singleton.2 rfl, hy⟩⟩)
                      have hyx : y = gx := hy
                      rw [hyx]; exact (Array.getElem?_eq_some_iff.1 (At5.setc2 hh')).1
                    simp only [Act.put, List.setIfInBounds_toArray, List.set_cons_zero, List.set_cons_succ, Nat.reduceAdd]
                    (apply Rg.RK.ok; (· intro vs w1 hS; go_simp; with_reducible rfl); (· rfl); simp only [Act.put, List.setIfInBounds_toArray, List.set_cons_zero, List.set_cons_succ, Nat.reduceAdd])
                    apply Rg.RK.opD (fun vs W => At5 gx (.int .i64 (b0.toNat : Int)) (.int .i64 (b1.toNat : Int)) (.int .u64 (x : Int)) (.int .u64 (y : Int)) (.int .i64 0) W) (fun vs g => g = gx) [8] [8] [] (fun _ _ _ => ⟨rfl, rfl⟩)
                    · exact fun vs W1 W2 h hs => h.sta hs (.inr rfl)
                    · rfl
                    · intro vs w1 hK hS hf K hKK
                      have hh := hf.1
                      have hh' : At5 gx _ _ _ _ _ w1 := hh
                      have q0 := blk_cell hh'
                      have q1 := blk_free hh'
                      go_simp
                      refine hKK.out undef _ (At5.setc3 hh') (Keeps.weak (setc_keeps w1 w1 gx 3 _ (Rg.Keeps.refl _ _)) fun y hy => ⟨8, List.mem_singleton.2 rfl, hy⟩) (fun y hy => ⟨?_, .inr ⟨8, List.mem_singleton.2 rfl, hy⟩⟩)
                      have hyx : y = gx := hy
                      rw [hyx]; exact (Array.getElem?_eq_some_iff.1 (At5.setc3 hh')).1
                    simp only [Act.put, List.setIfInBounds_toArray, List.set_cons_zero, List.set_cons_succ, Nat.reduceAdd]
                    (apply Rg.RK.ok; (· intro vs w1 hS; go_simp; with_reducible rfl); (· rfl); simp only [Act.put, List.setIfInBounds_toArray, List.set_cons_zero, List.set_cons_succ, Nat.reduceAdd])
                    apply Rg.RK.opD (fun vs W => At5 gx (.int .i64 (b0.toNat : Int)) (.int .i64 (b1.toNat : Int)) (.int .u64 (x : Int)) (.int .u64 (y : Int)) (.int .i64 (unsignZ z)) W) (fun vs g => g = gx) [10] [10] [] (fun _ _ _ => ⟨rfl, rfl⟩)
                    · exact fun vs W1 W2 h hs => h.sta hs (.inr rfl)
                    · rfl
                    · intro vs w1 hK hS hf K hKK
                      have hh := hf.1
                      have hh' : At5 gx _ _ _ _ _ w1 := hh
                      have q0 := blk_cell hh'
                      have q1 := blk_free hh'
                      go_simp
                      refine hKK.out undef _ (At5.setc4 hh') (Keeps.weak (setc_keeps w1 w1 gx 4 _ (Rg.Keeps.refl _ _)) fun y hy => ⟨10, List.mem_singleton.2 rfl, hy⟩) (fun y hy => ⟨?_, .inr ⟨10, List.mem_singleton.2 rfl, hy⟩⟩)
                      have hyx : y = gx := hy
                      rw [hyx]; exact (Array.getElem?_eq_some_iff.1 (At5.setc4 hh')).1
                    simp only [Act.put, List.setIfInBounds_toArray, List.set_cons_zero, List.set_cons_succ, Nat.reduceAdd]
                    apply Rg.RK.fin [12]
                    intro vs w1 hK hS hf
                    obtain ⟨hh6, -⟩ := hf
                    refine hQN.out _ _ ?_
                    clear hQN
                    have hh7 : w1.heap[gx]? = some (.cells (itc it).toArray 25 (0, 0)) := by rw [HC.out]; exact hh6
                    have hh8 : w1.heap[gx]? = some (.cells #[.int .i64 it.s.toInt, .int .i64 it.k.toInt, .int .u64 (it.t.toNat : Int), .int .u64 (it.v.toNat : Int), .int .i64 it.x.toInt] 25 (0, 0)) := hh7
                    have hu9 := keeps_fresh huwq (Nat.le_trans hu.size hxnew) hK
                    have hown9 := own_keeps hownq hrow hK
                    clear hh6 hh7 hS3 hS hh5 hh3 hK hownq huwq hrow HC
                    have e0 : w1.cell? ⟨gx, 0, none⟩ = some (.int .i64 it.s.toInt) := blk_cell hh8 0
                    have e1 : w1.cell? ⟨gx, 1, none⟩ = some (.int .i64 it.k.toInt) := blk_cell hh8 1
                    have e2 : w1.cell? ⟨gx, 2, none⟩ = some (.int .u64 (it.t.toNat : Int)) := blk_cell hh8 2
                    have e3 : w1.cell? ⟨gx, 3, none⟩ = some (.int .u64 (it.v.toNat : Int)) := blk_cell hh8 3
                    have e4 : w1.cell? ⟨gx, 4, none⟩ = some (.int .i64 it.x.toInt) := blk_cell hh8 4
                    (try dsimp only)
                    cases bb
                    · go_wp2_with (at_builtin; refine wpList_append_rd _ itemsT (news := itcs [it]) (World.ownsRow.alloc hown9 _) (Rd.ilit_at _ [it] _ _ (by simp) rfl) (itcs_one _) (by simp; omega) (by simp; omega) (by simp; have := hu9.size; omega) rfl rfl rfl rfl ?_; intro v3 w3 hown3 hg3 hat3; obtain ⟨R3, d3, rfl⟩ := own_form hown3)
                      have hu3 : Up w w3 := (hu9.alloc _).grown hg3 (fun g hg => (hown9.lt g hg).1)
                      go_roundw
                      case rel =>
                        refine ⟨m + 1, q, R3, m + 1, d3, acc ++ [it], by go_num, rfl, rfl, ?_, by omega, hq, rfl, ?_, HST.out, hu3⟩
                        · rw [List.all_append, HBD.out]; simp
                        · show World.ownsRow _ _ _ _ _ _ _
                          rw [itcs_append]; exact hown3
                      case measure => simp [intOf]; omega
                    · go_wp2_with (first
                        | (go_at_call 60; refine (rok_any it _).mono ?_; rintro e w2 ⟨rfl, hu2⟩; have hown2 := own_up hown9 hu2; have d0 := cell_up hu2 e0; have d1 := cell_up hu2 e1; have d2 := cell_up hu2 e2; have d3 := cell_up hu2 e3; have d4 := cell_up hu2 e4; replace hu2 := hu9.trans hu2)
                        | (at_builtin; refine wpList_append_rd _ itemsT (news := itcs [it]) (World.ownsRow.alloc hown2 _) (Rd.ilit_at _ [it] _ _ (by simp) rfl) (itcs_one _) (by simp; omega) (by simp; omega) (by simp; have := hu2.size; omega) rfl rfl rfl rfl ?_; intro v3 w3 hown3 hg3 hat3; obtain ⟨R3, d3, rfl⟩ := own_form hown3))
                      have hu3 : Up w w3 := (hu2.alloc _).grown hg3 (fun g hg => (hown2.lt g hg).1)
                      go_roundw
                      case rel =>
                        refine ⟨m + 1, q, R3, m + 1, d3, acc ++ [it], by go_num, rfl, rfl, ?_, by omega, hq, rfl, ?_, HST.out, hu3⟩
                        · rw [List.all_append, HBD.out]; simp
                        · show World.ownsRow _ _ _ _ _ _ _
                          rw [itcs_append]; exact hown3
                      case measure => simp [intOf]; omega
                  · kernel_rfl
            · kernel_rfl
        · have hkt : m = tn := by omega
          subst hkt
          have hT : itsL m [] l2 = (0, acc, l.drop p) := by rw [← HT.out, Nat.sub_self]; rfl
          have hv := HV.out
          rw [hT, if_neg (by simp)] at hv
          have hdl : (l.drop p).length = Z - p := by rw [List.length_drop, HLZ.out]
          by_cases hpz : p = Z
          · subst hpz
            cases bb
            · rw [if_neg (by simp [HBD.out])] at hv
              have HR := Lib.hid hv
              clear hv hT hdl HT
              go_wp2_with fail
              go_ret2
              rw [HR.out]
              exact ⟨none, 0, 0, rfl, NIL.out _, hu⟩
            · rw [if_pos ⟨by simp only []; omega, by simpa using HBD.out⟩] at hv
              have HR := Lib.hid hv
              clear hv hT hdl HT
              go_wp2_with fail
              go_ret2
              rw [HR.out]
              exact ⟨R, m, d, rfl, hown, hu⟩
          · rw [if_neg (by simp only []; intro h; have := h.1; omega)] at hv
            have HR := Lib.hid hv
            have hpl : (p : Int) < Z := by omega
            clear hv hT hdl HT
            cases bb
            · go_wp2_with fail
              go_ret2
              rw [HR.out]
              exact ⟨none, 0, 0, rfl, NIL.out _, hu⟩
            · go_wp2_with fail
              go_ret2
              rw [HR.out]
              exact ⟨none, 0, 0, rfl, NIL.out _, hu⟩
  · have hv : readL l = ((takeL l).2.2, []) := by unfold readL; rw [if_pos he]
    have HV := Lib.hid hv
    clear hv hts hsz
    go_enter Try.func41, Try.ntmps41
    go_wp2_with fail
    refine (HT0.out w).mono ?_
    rintro e w1 ⟨rfl, rfl⟩
    generalize (takeL l).2.2 = te at *
    have h0 : ¬ (te : Int) = 0 := by omega
    go_wp2_with fail
    go_ret2
    rw [HV.out]
    exact ⟨none, 0, 0, rfl, NIL.out _, Up.refl _⟩
end Go.Proofs.Ytnjmekjaingniaa

/-
  The walks of log.Replay and of the document's Replay.
-/
namespace Go.Proofs.Ytnjmekjaingniaa
open Go.RowKit
set_option linter.unusedVariables false
set_option linter.unusedSimpArgs false

theorem rowsIT : SlT Try.prog 33 22 1 24 := SlT.mk' Try.underlying33 (z := .slice none 0 0) (by kernel_rfl) rfl (by decide)
def OwnRI (w : World) (base : Nat) (A : Option Addr) (n c : Nat) (rs : List Rw) : Prop := w.ownsRow base 22 1 (.slice A n c) n (rwv rs)
theorem OwnRI.rd {w : World} {base n c : Nat} {A : Option Addr} {rs : List Rw} (h : OwnRI w base A n c rs) : Rd w w.heap.size 1 A n (rwv rs) := Rd.own h
theorem OwnRI.len {w : World} {base n c : Nat} {A : Option Addr} {rs : List Rw} (h : OwnRI w base A n c rs) : n = rs.length := (OwnRI.rd h).rlen
theorem OwnRI.up {w w' : World} {base n c : Nat} {A : Option Addr} {rs : List Rw} (h : OwnRI w base A n c rs) (hu : Up w w') : OwnRI w' base A n c rs := own_up h hu
theorem OwnRI.nil (w : World) (base : Nat) : OwnRI w base none 0 0 [] := World.ownsRow_nil _ _ _ _
theorem OwnRI.snoc {w : World} {base n c : Nat} {A : Option Addr} {rs : List Rw} {A1 : Option Addr} {n1 c1 : Nat} {l : List It} (h : w.ownsRow base 22 1 (.slice A n c) n (rwv rs ++ [.slice A1 n1 c1])) : OwnRI w base A n c (rs ++ [⟨A1, n1, c1, l⟩]) := by
  unfold OwnRI; rw [rwv_snoc]; exact h
/-- rows of the call's own: what a Replay tells -/
def ReplPost (r : Option (List (List It) × Nat)) (w : World) (e : Ending) (w' : World) : Prop :=
  match r with
  | none => e = .returned (.tuple #[.slice none 0 0, .int .i64 0, .int .i64 9]) ∧ Up w w'
  | some x => ∃ R m rc rs, e = .returned (.tuple #[.slice R m rc, .int .i64 (x.2 : Int), .int .i64 0]) ∧ OwnRI w' w.heap.size R m rc rs ∧ RwOwn w' w.heap.size rs ∧ rwl rs = x.1 ∧ Up w w'
theorem ReplPost.no {r : Option (List (List It) × Nat)} {w w' : World} (h : r = none) (hu : Up w w') : ReplPost r w (.returned (.tuple #[.slice none 0 0, .int .i64 0, .int .i64 9])) w' := by subst h; exact ⟨rfl, hu⟩
set_option maxRecDepth 100000 in
set_option maxHeartbeats 6400000 in
theorem replay14_any (A : Option Addr) (n c : Nat) (bs : List UInt8) (w : World) (hr : Rd w w.heap.size 1 A n (bvs bs)) (hn : n ≤ 549755813888) (hnc : n ≤ c) :
    Calls Try.prog 15 #[.slice A n c] w (ReplPost (replL bs) w) := by
  have hbl : bs.length = n := hr.blen.symm
  have hbody := splitL_body bs
  have hlens := splitL_lens bs
  have hvp := repl_split bs
  have hsp := split_any A n c bs w hr hn hnc
  obtain ⟨ks, bd, en, er, hT⟩ : ∃ a b c d, splitL bs = (a, b, c, d) := ⟨_, _, _, _, rfl⟩
  rw [hT] at hbody hlens hvp hsp
  (try dsimp only at hbody hlens hvp hsp)
  rw [hbl] at hbody hlens
  have HVP := Lib.hid hvp
  have HSP := Lib.hid hsp
  have HBD := Lib.hid hbody
  have HLN := Lib.hid hlens
  clear hvp hsp hbody hlens hT hbl
  go_enter Try.func15, Try.ntmps15
  go_wp2_with fail
  refine HSP.out.mono ?_
  rintro e w2 ⟨K, kn, kc, R, rn, rc, ps, rfl, hK, hR, hP, hu2⟩
  (try dsimp only at hK hR hP ⊢)
  have hrn : rn = bd.length := by have h := hR.1; have h2 := congrArg List.length hP.1; rw [List.length_map] at h h2; omega
  have hkn : kn = ks.length := by have h := hK.1; unfold nvi at h; rw [List.length_map] at h; omega
  have hkr : kn = rn := by have := HLN.out.1; omega
  have hrb : rn ≤ n + 1 := by have := HLN.out.2; omega
  subst hkr
  have HRN := Lib.hid hrn
  have HKN := Lib.hid hkn
  have hsz2 := hu2.size
  clear HSP hrn hkn hr
  by_cases hE : er ≠ 0 ∧ er ≠ 4
  · have hbad2 : replL bs = none := by rw [HVP.out, if_pos hE]
    have HBAD := Lib.hid hbad2
    have d1 : ((er : Int) != 0) = true := by rw [bne_iff_ne]; omega
    have d2 : ((er : Int) != 4) = true := by rw [bne_iff_ne]; omega
    clear hbad2 HVP HBD HLN hP hE
    go_wp2_with fail
    refine bodyPost_ret (v := .tuple #[.slice none 0 0, .int .i64 0, .int .i64 9]) (by simp [results, Try.results15, go_sem]) rfl ?_
    exact ReplPost.no HBAD.out hu2
  have hvp := HVP.out
  rw [if_neg hE] at hvp
  have HV := Lib.hid hvp
  have hd : (((er : Int) != 0) = false) ∨ (((er : Int) != 0) = true ∧ ((er : Int) != 4) = false) := by
    by_cases h0 : er = 0
    · exact .inl (by rw [bne_eq_false_iff_eq]; omega)
    · exact .inr ⟨by rw [bne_iff_ne]; omega, by rw [bne_eq_false_iff_eq]; omega⟩
  clear hvp HVP hE
  have keepR : ∀ (wa wb : World) (A n c : _) (rs : List Rw), OwnRI wa w2.heap.size A n c rs → wa.grownBy wb (Value.slice A n c).ownBlock → RwOwn wa w2.heap.size rs → RwOwn wb w2.heap.size rs := fun wa wb A n c rs h hg hr r hr' => own_far h (hr r hr') (by decide) hg
  go_upto_region 2 with fail
  go_cut [23] from 18 (fun s23 wc => s23 = .bool false ∧ wc = w2)
  case first =>
    rcases hd with d1 | ⟨d1, d2⟩
    · go_wp2_with fail
      go_meet
      case rel => exact ⟨rfl, rfl⟩
    · go_wp2_with fail
      go_meet
      case rel => exact ⟨rfl, rfl⟩
  obtain ⟨rfl, rfl⟩ := hcut
  clear hd
  go_wp2_with fail
  go_loopw [2, 3, 26] (fun lv ev i wr => ∃ (k : Nat) (L : Option Addr) (lc : Nat) (rs : List Rw), lv = .slice L k lc ∧ ev = .int .i64 (en : Int) ∧ i = .int .i64 (k : Int) ∧ k ≤ kn ∧ OwnRI wr wc.heap.size L k lc rs ∧ RwOwn wr wc.heap.size rs ∧ Hid (foldF stepL [] (ks.take k) (bd.take k) = some (rwl rs)) ∧ Up wc wr) (fun _ _ i _ => kn - (intOf i).toNat)
  case atStart => exact ⟨0, none, 0, [], rfl, rfl, rfl, by omega, OwnRI.nil _ _, RwOwn.nil _ _, rfl, Up.refl _⟩
  case round =>
    obtain ⟨k, L, lc, rs, rfl, rfl, rfl, hk, hown, hrw, hfo, hup⟩ := hrel
    by_cases hkk : k < kn
    · have hK1 : OwnK wr w.heap.size K kn kc ks := own_up hK hup
      have hR1 : OwnR wr w.heap.size R kn rc ps := own_up hR hup
      have k1 : k < bd.length := by rw [← HRN.out]; exact hkk
      have k2 : k < ks.length := by rw [← HKN.out]; exact hkk
      have k3 : k < ps.length := by have h2 := congrArg List.length hP.1; rw [List.length_map] at h2; omega
      obtain ⟨bK, oK, rfl, hbK, hcK⟩ := (Rd.own hK1).2 (by omega)
      obtain ⟨bR, oR, rfl, hbR, hcR⟩ := (Rd.own hR1).2 (by omega)
      have e1 := hcK k (.int .i64 (ks[k] : Int)) (by unfold nvi; simp [k2])
      have e2 := hcR k ps[k].v (by rw [List.getElem?_map, List.getElem?_eq_getElem k3]; rfl)
      have ho : OwnB wr w.heap.size ps[k].A ps[k].n ps[k].c ps[k].l := own_up (hP.2 ps[k] (List.getElem_mem _)) hup
      have hl : ps[k].l = bd[k] := by
        have h := congrArg (fun l => l[k]?) hP.1
        simp only [List.getElem?_map, List.getElem?_eq_getElem k3, List.getElem?_eq_getElem k1, Option.map_some] at h
        injection h
      have hbl := HBD.out bd[k] (List.getElem_mem _)
      have hst : foldF stepL [] (ks.take (k + 1)) (bd.take (k + 1)) = stepL (rwl rs) ks[k] bd[k] := by
        rw [List.take_succ_eq_append_getElem k2, List.take_succ_eq_append_getElem k1]
        exact foldF_snoc stepL (by simp; omega) hfo.out
      have hno : stepL (rwl rs) ks[k] bd[k] = none → replL bs = none := fun h => by
        rw [HV.out, foldF_take_none stepL (k + 1) HLN.out.1 (hst.trans h)]; rfl
      rw [hl] at ho
      generalize ps[k] = p5 at *
      obtain ⟨pA, pn, pc, pl⟩ := p5
      simp only [Pt.v] at e2 ho
      generalize ks[k] = kk at *
      generalize bd[k] = bk at *
      have hrd := ho.rd
      have hpn := hrd.blen
      have hpc := own_cap ho
      have HNO := Lib.hid hno
      have HST := Lib.hid hst
      have hpb : pn ≤ 9223372036854775807 := by omega
      clear hno hst hl hcK hcR k1 k2 k3 hK1 hR1 ho hbl hpn
      go_wp2_with fail
      refine (read_any pA pn pc bk wr hrd hpb hpc).mono ?_
      rintro e w3 ⟨Q, qn, qc, rfl, hoQ, hu3⟩
      obtain ⟨qe, ql, hq⟩ : ∃ a b, readL bk = (a, b) := ⟨_, _, rfl⟩
      have hsv : stepL (rwl rs) kk bk = if kk = 1 ∧ qe = 0 ∧ 0 < ql.length then some (rwl rs ++ [ql]) else none := by unfold stepL; rw [hq]
      rw [hq] at hoQ ⊢
      (try dsimp only at hoQ ⊢)
      have hqn := hoQ.len
      have hup3 := hup.trans hu3
      have hupw := hu2.trans hup3
      have e3 : w3.cell? ⟨bK, oK + k, none⟩ = some (.int .i64 (kk : Int)) := (hu3.cell (p := ⟨bK, oK + k, none⟩) hbK).trans e1
      have HSV := Lib.hid hsv
      have HQN := Lib.hid hqn
      have hsz := hup.size
      clear hq hsv hqn e1 e2 hrd
      by_cases hqe : qe = 0
      · have c1 : ((qe : Int) != 0) = false := by rw [bne_eq_false_iff_eq]; omega
        by_cases hk1 : kk = 1
        · have c2 : ((kk : Int) != 1) = false := by rw [bne_eq_false_iff_eq]; omega
          by_cases hq0 : qn = 0
          · have c3 : ((qn : Int) == 0) = true := by rw [beq_iff_eq]; omega
            have hb := HNO.out (by rw [HSV.out, if_neg (by have := HQN.out; omega)])
            have HBAD := Lib.hid hb
            clear hb hqe hk1 hq0
            go_wp2_with fail
            refine bodyPost_ret (v := .tuple #[.slice none 0 0, .int .i64 0, .int .i64 9]) (by simp [results, Try.results15, go_sem]) rfl ?_
            exact ReplPost.no HBAD.out hupw
          · have c3 : ((qn : Int) == 0) = false := by rw [beq_eq_false_iff_ne]; omega
            have hs2 : foldF stepL [] (ks.take (k + 1)) (bd.take (k + 1)) = some (rwl rs ++ [ql]) := by
              rw [HST.out, HSV.out, if_pos ⟨hk1, hqe, by have := HQN.out; omega⟩]
            have HS2 := Lib.hid hs2
            have hown3 : OwnRI w3 wc.heap.size L k lc rs := hown.up hu3
            have hrw3 := hrw.up hu3
            have hoQ2 := own_base hoQ hsz
            clear hs2 hqe hk1 hq0 hown hrw HSV HNO HST
            go_wp2_with (at_builtin; refine wpList_append_rd _ rowsIT (news := [Value.slice Q qn qc]) (World.ownsRow.alloc hown3 _) (Rd.box _ _ _) (by intro u hu; simp at hu; subst hu; rfl) (by omega) (by omega) (by simp; have := hup3.size; omega) rfl rfl rfl rfl ?_; intro v4 w4 hown4 hg4 hat4; obtain ⟨L4, lc4, rfl⟩ := own_form hown4)
            have hu4 : Up wc w4 := (hup3.alloc _).grown hg4 (fun g hg => (hown3.lt g hg).1)
            have hrw4 : RwOwn w4 wc.heap.size rs := keepR _ _ _ _ _ _ (World.ownsRow.alloc hown3 _) hg4 (hrw3.up ((Up.refl _).alloc _))
            have hq4 : OwnI w4 wc.heap.size Q qn qc ql := own_far (World.ownsRow.alloc hown3 _) (World.ownsRow.alloc hoQ2 _) (by decide) hg4
            go_roundw
            case rel => exact ⟨k + 1, L4, lc4, rs ++ [⟨Q, qn, qc, ql⟩], rfl, rfl, by go_num, by omega, OwnRI.snoc hown4, hrw4.snoc hq4, by rw [rwl_snoc]; exact HS2, hu4⟩
            case measure => simp [intOf] <;> omega
        · have c2 : ((kk : Int) != 1) = true := by rw [bne_iff_ne]; omega
          have hb := HNO.out (by rw [HSV.out, if_neg (by omega)])
          have HBAD := Lib.hid hb
          clear hb hqe hk1
          go_wp2_with fail
          refine bodyPost_ret (v := .tuple #[.slice none 0 0, .int .i64 0, .int .i64 9]) (by simp [results, Try.results15, go_sem]) rfl ?_
          exact ReplPost.no HBAD.out hupw
      · have c1 : ((qe : Int) != 0) = true := by rw [bne_iff_ne]; omega
        have hb := HNO.out (by rw [HSV.out, if_neg (by omega)])
        have HBAD := Lib.hid hb
        clear hb hqe
        go_wp2_with fail
        refine bodyPost_ret (v := .tuple #[.slice none 0 0, .int .i64 0, .int .i64 9]) (by simp [results, Try.results15, go_sem]) rfl ?_
        exact ReplPost.no HBAD.out hupw
    · have hke : k = kn := by omega
      subst hke
      have hf2 : foldF stepL [] ks bd = some (rwl rs) := by
        have h := hfo.out
        rw [List.take_of_length_le (by have := HKN.out; omega), List.take_of_length_le (by have := HRN.out; omega)] at h
        exact h
      have hres : replL bs = some (rwl rs, en) := by rw [HV.out, hf2]; rfl
      have HRES := Lib.hid hres
      clear hf2 hres hfo HV HBD HLN HRN HKN
      go_wp2_with fail
      refine bodyPost_ret (v := .tuple #[.slice L k lc, .int .i64 (en : Int), .int .i64 0]) (by simp [results, Try.results15, go_sem]) rfl ?_
      rw [HRES.out]
      exact ⟨L, k, lc, rs, rfl, own_base hown hsz2, hrw.base hsz2, rfl, hu2.trans hup⟩
theorem takeF_at (l : List UInt8) {k : Nat} (h : k ≤ l.length) : takeF l (k : Int) = ((takeR (l.drop k)).1, (takeR (l.drop k)).2.1, (takeR (l.drop k)).2.2.1, if (takeR (l.drop k)).1 = 0 then (k : Int) + (takeR (l.drop k)).2.2.2 else 0) := by
  unfold takeF
  rw [if_neg (by omega), Int.toNat_natCast]
set_option maxRecDepth 100000 in
set_option maxHeartbeats 6400000 in
theorem rreplay14_any (l : List UInt8) (w : World) (hn : l.length ≤ 549755813888) :
    Calls Try.prog 18 #[.string (tx l)] w (ReplPost (replL l) w) := by
  obtain ⟨n, hnl⟩ : ∃ n, n = l.length := ⟨_, rfl⟩
  have hz : (tx l).size = n := by rw [hnl]; exact tx_size l
  have hn2 : n ≤ 549755813888 := by omega
  have HL := Lib.hid hnl
  clear hnl
  have keepR : ∀ (wa wb : World) (A n c : _) (rs : List Rw), OwnRI wa w.heap.size A n c rs → wa.grownBy wb (Value.slice A n c).ownBlock → RwOwn wa w.heap.size rs → RwOwn wb w.heap.size rs := fun wa wb A n c rs h hg hr r hr' => own_far h (hr r hr') (by decide) hg
  go_enter Try.func18, Try.ntmps18
  go_wp2_with fail
  go_loopw [5, 6] (fun lv i wr => ∃ (k m : Nat) (L : Option Addr) (lc : Nat) (rs : List Rw), lv = .slice L m lc ∧ i = .int .i64 (k : Int) ∧ k ≤ n ∧ m ≤ k ∧ OwnRI wr w.heap.size L m lc rs ∧ RwOwn wr w.heap.size rs ∧ Hid (∃ f, n - k < f ∧ seqF stepL l f k (rwl rs) = replL l) ∧ Up w wr) (fun _ i _ => n - (intOf i).toNat)
  case atStart => exact ⟨0, 0, none, 0, [], rfl, rfl, by omega, by omega, OwnRI.nil _ _, RwOwn.nil _ _, ⟨l.length + 1, by have := HL.out; omega, rfl⟩, Up.refl _⟩
  case round =>
    obtain ⟨k, m, L, lc, rs, rfl, rfl, hk, hm, hown, hrw, HF, hup⟩ := hrel
    by_cases hkk : k < n
    · have hun := unframe_any l (k : Int) wr hn
      rw [takeF_at l (by rw [← HL.out]; exact hk)] at hun
      have hst : ∃ f, n - k ≤ f ∧ replL l = (if (takeR (l.drop k)).1 = 0 then (stepL (rwl rs) (takeR (l.drop k)).2.1 (takeR (l.drop k)).2.2.1).bind fun s' => seqF stepL l f (k + (takeR (l.drop k)).2.2.2) s' else if (takeR (l.drop k)).1 = 4 then some (rwl rs, k) else none) := by
        obtain ⟨f, hf, h⟩ := HF.out
        match f, hf, h with
        | f + 1, hf, h =>
          refine ⟨f, by omega, ?_⟩
          rw [← h, seqF_stepB stepL l (by rw [← HL.out]; exact hkk)]
      have hbl : (takeR (l.drop k)).2.2.1.length ≤ n := by
        have := takeR_bl (l.drop k)
        rw [List.length_drop, ← HL.out] at this
        omega
      have hok : (takeR (l.drop k)).1 = 0 → 12 ≤ (takeR (l.drop k)).2.2.2 ∧ (takeR (l.drop k)).2.2.2 ≤ n - k := fun h => by
        obtain ⟨h1, h2, -⟩ := takeR_ok h
        rw [List.length_drop, ← HL.out] at h2
        exact ⟨h1, h2⟩
      generalize takeR (l.drop k) = T at *
      obtain ⟨te, tk, tb, tn⟩ := T
      (try dsimp only at hun hst hbl hok)
      obtain ⟨nx, hnx⟩ : ∃ q : Int, q = (if te = 0 then (k : Int) + (tn : Int) else 0) := ⟨_, rfl⟩
      rw [← hnx] at hun
      have HNX := Lib.hid hnx
      have HUN := Lib.hid hun
      clear hnx
      have HST := Lib.hid hst
      have HOK := Lib.hid hok
      clear hun hst hok HF
      go_wp2_with fail
      refine HUN.out.mono ?_
      rintro e w3 ⟨rfl, hu3⟩
      have hup3 := hup.trans hu3
      have hown3 : OwnRI w3 w.heap.size L m lc rs := hown.up hu3
      have hrw3 := hrw.up hu3
      clear HUN hown hrw
      by_cases h4 : te = 4
      · have c1 : ((te : Int) == 4) = true := by rw [beq_iff_eq]; omega
        have hres : replL l = some (rwl rs, k) := by
          obtain ⟨f, -, h⟩ := HST.out
          rw [h, if_neg (by omega), if_pos h4]
        have HRES := Lib.hid hres
        clear hres HST HOK h4
        go_wp2_with fail
        refine bodyPost_ret (v := .tuple #[.slice L m lc, .int .i64 (k : Int), .int .i64 0]) (by simp [results, Try.results18, go_sem]) rfl ?_
        rw [HRES.out]
        exact ⟨L, m, lc, rs, rfl, hown3, hrw3, rfl, hup3⟩
      have c1 : ((te : Int) == 4) = false := by rw [beq_eq_false_iff_ne]; omega
      by_cases h0 : te = 0
      · have c2 : ((te : Int) != 0) = false := by rw [bne_eq_false_iff_eq]; omega
        obtain ⟨q1, q2⟩ := HOK.out h0
        by_cases hk1 : tk = 1
        · have c3 : ((tk : Int) != 1) = false := by rw [bne_eq_false_iff_eq]; omega
          obtain rfl : nx = ((k + tn : Nat) : Int) := by rw [HNX.out, if_pos h0]; omega
          go_wp2_with fail
          refine (rread_any tb w3 (by omega)).mono ?_
          rintro e w4 ⟨Q, qn, qc, rfl, hoQ, hu4⟩
          obtain ⟨qe, ql, hq⟩ : ∃ a b, readL tb = (a, b) := ⟨_, _, rfl⟩
          have hsv : stepL (rwl rs) tk tb = if tk = 1 ∧ qe = 0 ∧ 0 < ql.length then some (rwl rs ++ [ql]) else none := by unfold stepL; rw [hq]
          rw [hq] at hoQ ⊢
          (try dsimp only at hoQ ⊢)
          have hqn := hoQ.len
          have hup4 := hup3.trans hu4
          have hown4 : OwnRI w4 w.heap.size L m lc rs := hown3.up hu4
          have hrw4 := hrw3.up hu4
          have hoQ2 := own_base hoQ hup3.size
          have HSV := Lib.hid hsv
          have HQN := Lib.hid hqn
          clear hq hsv hqn hown3 hrw3 hoQ
          by_cases hqe : qe = 0
          · have c4 : ((qe : Int) != 0) = false := by rw [bne_eq_false_iff_eq]; omega
            by_cases hq0 : qn = 0
            · have c5 : ((qn : Int) == 0) = true := by rw [beq_iff_eq]; omega
              have hb : replL l = none := by
                obtain ⟨f, -, h⟩ := HST.out
                rw [h, if_pos h0, HSV.out, if_neg (by have := HQN.out; omega)]
                rfl
              have HBAD := Lib.hid hb
              clear hb hqe hk1 hq0 h0 HST HOK HSV
              go_wp2_with fail
              refine bodyPost_ret (v := .tuple #[.slice none 0 0, .int .i64 0, .int .i64 9]) (by simp [results, Try.results18, go_sem]) rfl ?_
              exact ReplPost.no HBAD.out hup4
            · have c5 : ((qn : Int) == 0) = false := by rw [beq_eq_false_iff_ne]; omega
              have hs2 : ∃ f, n - (k + tn) < f ∧ seqF stepL l f (k + tn) (rwl rs ++ [ql]) = replL l := by
                obtain ⟨f, hf, h⟩ := HST.out
                refine ⟨f, by omega, ?_⟩
                rw [h, if_pos h0, HSV.out, if_pos ⟨hk1, hqe, by have := HQN.out; omega⟩]
                rfl
              have HS2 := Lib.hid hs2
              clear hs2 hqe hk1 hq0 h0 HST HOK HSV
              go_wp2_with (at_builtin; refine wpList_append_rd _ rowsIT (news := [Value.slice Q qn qc]) (World.ownsRow.alloc hown4 _) (Rd.box _ _ _) (by intro u hu; simp at hu; subst hu; rfl) (by omega) (by omega) (by simp; have := hup4.size; omega) rfl rfl rfl rfl ?_; intro v5 w5 hown5 hg5 hat5; obtain ⟨L5, lc5, rfl⟩ := own_form hown5)
              have hu5 : Up w w5 := (hup4.alloc _).grown hg5 (fun g hg => (hown4.lt g hg).1)
              have hrw5 : RwOwn w5 w.heap.size rs := keepR _ _ _ _ _ _ (World.ownsRow.alloc hown4 _) hg5 (hrw4.up ((Up.refl _).alloc _))
              have hq5 : OwnI w5 w.heap.size Q qn qc ql := own_far (World.ownsRow.alloc hown4 _) (World.ownsRow.alloc hoQ2 _) (by decide) hg5
              go_roundw
              case rel => exact ⟨k + tn, m + 1, L5, lc5, rs ++ [⟨Q, qn, qc, ql⟩], rfl, rfl, by omega, by omega, OwnRI.snoc hown5, hrw5.snoc hq5, by rw [rwl_snoc]; exact HS2, hu5⟩
              case measure => simp [intOf] <;> omega
          · have c4 : ((qe : Int) != 0) = true := by rw [bne_iff_ne]; omega
            have hb : replL l = none := by
              obtain ⟨f, -, h⟩ := HST.out
              rw [h, if_pos h0, HSV.out, if_neg (by omega)]
              rfl
            have HBAD := Lib.hid hb
            clear hb hqe hk1 h0 HST HOK HSV
            go_wp2_with fail
            refine bodyPost_ret (v := .tuple #[.slice none 0 0, .int .i64 0, .int .i64 9]) (by simp [results, Try.results18, go_sem]) rfl ?_
            exact ReplPost.no HBAD.out hup4
        · have c3 : ((tk : Int) != 1) = true := by rw [bne_iff_ne]; omega
          have hb : replL l = none := by
            obtain ⟨f, -, h⟩ := HST.out
            rw [h, if_pos h0]
            unfold stepL
            rw [if_neg (by omega)]
            rfl
          have HBAD := Lib.hid hb
          clear hb hk1 h0 HST HOK
          go_wp2_with fail
          refine bodyPost_ret (v := .tuple #[.slice none 0 0, .int .i64 0, .int .i64 9]) (by simp [results, Try.results18, go_sem]) rfl ?_
          exact ReplPost.no HBAD.out hup3
      · have c2 : ((te : Int) != 0) = true := by rw [bne_iff_ne]; omega
        have hb : replL l = none := by
          obtain ⟨f, -, h⟩ := HST.out
          rw [h, if_neg h0, if_neg h4]
        have HBAD := Lib.hid hb
        clear hb h0 h4 HST HOK
        go_wp2_with fail
        refine bodyPost_ret (v := .tuple #[.slice none 0 0, .int .i64 0, .int .i64 9]) (by simp [results, Try.results18, go_sem]) rfl ?_
        exact ReplPost.no HBAD.out hup3
    · have hke : k = n := by omega
      have hres : replL l = some (rwl rs, k) := by
        obtain ⟨f, -, h⟩ := HF.out
        rw [← h, seqF_stopG stepL l (by rw [← HL.out]; omega)]
      have HRES := Lib.hid hres
      clear hres HF hke
      go_wp2_with fail
      refine bodyPost_ret (v := .tuple #[.slice L m lc, .int .i64 (k : Int), .int .i64 0]) (by simp [results, Try.results18, go_sem]) rfl ?_
      rw [HRES.out]
      exact ⟨L, m, lc, rs, rfl, hown, hrw, rfl, hup⟩
end Go.Proofs.Ytnjmekjaingniaa

/-
  The walks of msg.isNode, msg.withItems, msg.Ok, and of the document's MsgOk.
-/
namespace Go.Proofs.Ytnjmekjaingniaa
open Go.RowKit
set_option linter.unusedVariables false
set_option linter.unusedSimpArgs false

theorem retb {a b : Bool} (h : a = b) : Ending.returned (.bool a) = .returned (.bool b) := by rw [h]
def nodeB (n : Int) : Bool := decide (0 ≤ n ∧ n < 7)
def withB (k : Int) : Bool := decide (k = 1 ∨ k = 5 ∨ k = 7 ∨ k = 8)
def msgB (k f t : Int) (id n : Nat) (l : List It) : Bool := decide (1 ≤ k ∧ k ≤ 10 ∧ (0 ≤ f ∧ f < 7) ∧ (0 ≤ t ∧ t < 7) ∧ id ≤ 1099511627776 ∧ n ≤ 281474976710656 ∧ l.length ≤ 1500 ∧ (l.length = 0 ∨ withB k = true)) && l.all okB
end Go.Proofs.Ytnjmekjaingniaa

/-
  The walks of slices.Equal at items, of the document's Equal at any two rows, of msg.Same and SameMsg.
-/
namespace Go.Proofs.Ytnjmekjaingniaa
open Go.RowKit
set_option linter.unusedVariables false
set_option linter.unusedSimpArgs false

theorem it_ext {a b : It} (h1 : a.s.toInt = b.s.toInt) (h2 : a.k.toInt = b.k.toInt) (h3 : a.t.toNat = b.t.toNat) (h4 : a.v.toNat = b.v.toNat) (h5 : a.x.toInt = b.x.toInt) : a = b := by
  obtain ⟨a1, a2, a3, a4, a5⟩ := a
  obtain ⟨b1, b2, b3, b4, b5⟩ := b
  simp only [It.mk.injEq]
  exact ⟨Int64.toInt_inj.1 h1, Int64.toInt_inj.1 h2, UInt64.toNat_inj.1 h3, UInt64.toNat_inj.1 h4, Int64.toInt_inj.1 h5⟩
instance : DecidableEq It := fun a b => decidable_of_iff (a.s.toInt = b.s.toInt ∧ a.k.toInt = b.k.toInt ∧ a.t.toNat = b.t.toNat ∧ a.v.toNat = b.v.toNat ∧ a.x.toInt = b.x.toInt)
  ⟨fun ⟨h1, h2, h3, h4, h5⟩ => it_ext h1 h2 h3 h4 h5, fun h => by rw [h]; exact ⟨rfl, rfl, rfl, rfl, rfl⟩⟩
set_option maxRecDepth 100000 in
set_option maxHeartbeats 4000000 in
theorem requal_any (A : Option Addr) (n c : Nat) (l : List It) (A' : Option Addr) (n' c' : Nat) (l' : List It) (w : World)
    (hr : Rd w w.heap.size 5 A n (itcs l)) (hr' : Rd w w.heap.size 5 A' n' (itcs l')) (hn : n ≤ 1099511627776) (hn' : n' ≤ 1099511627776) :
    Calls Try.prog 38 #[.slice A n c, .slice A' n' c'] w fun e w' => e = .returned (.bool (decide (l = l'))) ∧ Up w w' := by
  have HL := Lib.hid hr.ilen
  have HL' := Lib.hid hr'.ilen
  by_cases k6 : n = n'
  · subst k6
    have hnn : ((n : Int) != (n : Int)) = false := by simp
    go_enter Try.func38, Try.ntmps38
    go_wp2_with fail
    go_loopw [5] (fun i wr => ∃ k : Nat, i = .int .i64 (k : Int) ∧ k ≤ n ∧ Hid (l.take k = l'.take k) ∧ Up w wr) (fun i _ => n - (intOf i).toNat)
    case atStart => exact ⟨0, rfl, by omega, rfl, Up.refl _⟩
    case round =>
      obtain ⟨k, rfl, hk, ht, hu⟩ := hrel
      by_cases hlt : k < n
      · obtain ⟨b, o, x, rfl, hb, hx, c0, c1, c2, c3, c4⟩ := (hr.up hu).item_at hlt
        obtain ⟨b', o', y, rfl, hb', hy, d0, d1, d2, d3, d4⟩ := (hr'.up hu).item_at hlt
        obtain ⟨x1, hx1⟩ : ∃ z, z = x.s.toInt := ⟨_, rfl⟩
        obtain ⟨x2, hx2⟩ : ∃ z, z = x.k.toInt := ⟨_, rfl⟩
        obtain ⟨x3, hx3⟩ : ∃ z : Int, z = (x.t.toNat : Int) := ⟨_, rfl⟩
        obtain ⟨x4, hx4⟩ : ∃ z : Int, z = (x.v.toNat : Int) := ⟨_, rfl⟩
        obtain ⟨x5, hx5⟩ : ∃ z, z = x.x.toInt := ⟨_, rfl⟩
        obtain ⟨y1, hy1⟩ : ∃ z, z = y.s.toInt := ⟨_, rfl⟩
        obtain ⟨y2, hy2⟩ : ∃ z, z = y.k.toInt := ⟨_, rfl⟩
        obtain ⟨y3, hy3⟩ : ∃ z : Int, z = (y.t.toNat : Int) := ⟨_, rfl⟩
        obtain ⟨y4, hy4⟩ : ∃ z : Int, z = (y.v.toNat : Int) := ⟨_, rfl⟩
        obtain ⟨y5, hy5⟩ : ∃ z, z = y.x.toInt := ⟨_, rfl⟩
        rw [← hx1] at c0
        rw [← hx2] at c1
        rw [← hx3] at c2
        rw [← hx4] at c3
        rw [← hx5] at c4
        rw [← hy1] at d0
        rw [← hy2] at d1
        rw [← hy3] at d2
        rw [← hy4] at d3
        rw [← hy5] at d4
        have X1 := Lib.hid hx1
        have X2 := Lib.hid hx2
        have X3 := Lib.hid hx3
        have X4 := Lib.hid hx4
        have X5 := Lib.hid hx5
        have Y1 := Lib.hid hy1
        have Y2 := Lib.hid hy2
        have Y3 := Lib.hid hy3
        have Y4 := Lib.hid hy4
        have Y5 := Lib.hid hy5
        clear hx1 hx2 hx3 hx4 hx5 hy1 hy2 hy3 hy4 hy5
        have hS : ∀ W, Up wr W → Up wr W ∧ (W.cell? ⟨b, o + k * 5, none⟩ = some (.int .i64 x1) ∧ W.cell? ⟨b, o + k * 5 + 1, none⟩ = some (.int .i64 x2) ∧ W.cell? ⟨b, o + k * 5 + 2, none⟩ = some (.int .u64 x3) ∧ W.cell? ⟨b, o + k * 5 + 3, none⟩ = some (.int .u64 x4) ∧ W.cell? ⟨b, o + k * 5 + 4, none⟩ = some (.int .i64 x5)) ∧
            (W.cell? ⟨b', o' + k * 5, none⟩ = some (.int .i64 y1) ∧ W.cell? ⟨b', o' + k * 5 + 1, none⟩ = some (.int .i64 y2) ∧ W.cell? ⟨b', o' + k * 5 + 2, none⟩ = some (.int .u64 y3) ∧ W.cell? ⟨b', o' + k * 5 + 3, none⟩ = some (.int .u64 y4) ∧ W.cell? ⟨b', o' + k * 5 + 4, none⟩ = some (.int .i64 y5)) := fun W h =>
          ⟨h, ⟨(h.cell (p := ⟨b, o + k * 5, none⟩) hb).trans c0, (h.cell (p := ⟨b, o + k * 5 + 1, none⟩) hb).trans c1, (h.cell (p := ⟨b, o + k * 5 + 2, none⟩) hb).trans c2, (h.cell (p := ⟨b, o + k * 5 + 3, none⟩) hb).trans c3, (h.cell (p := ⟨b, o + k * 5 + 4, none⟩) hb).trans c4⟩,
            (h.cell (p := ⟨b', o' + k * 5, none⟩) hb').trans d0, (h.cell (p := ⟨b', o' + k * 5 + 1, none⟩) hb').trans d1, (h.cell (p := ⟨b', o' + k * 5 + 2, none⟩) hb').trans d2, (h.cell (p := ⟨b', o' + k * 5 + 3, none⟩) hb').trans d3, (h.cell (p := ⟨b', o' + k * 5 + 4, none⟩) hb').trans d4⟩
        have hkl : k < l.length := by have := HL.out; omega
        have hkl' : k < l'.length := by have := HL'.out; omega
        rw [List.getElem?_eq_getElem hkl] at hx
        rw [List.getElem?_eq_getElem hkl'] at hy
        injection hx with hx
        injection hy with hy
        have HX := Lib.hid hx
        have HX' := Lib.hid hy
        have hki : (k : Int) < (n : Int) := by omega
        have hkb : decide ((k : Int) < (n : Int)) = true := by simp; omega
        clear hx hy c0 c1 c2 c3 c4 d0 d1 d2 d3 d4
        by_cases m1 : x1 = y1
        · by_cases m2 : x2 = y2
          · by_cases m3 : x3 = y3
            · by_cases m4 : x4 = y4
              · by_cases m5 : x5 = y5
                · subst m1; subst m2; subst m3; subst m4; subst m5
                  have hxy := it_ext (X1.out.symm.trans Y1.out) (X2.out.symm.trans Y2.out) (by have := X3.out; have := Y3.out; omega) (by have := X4.out; have := Y4.out; omega) (X5.out.symm.trans Y5.out)
                  have HXY := Lib.hid hxy
                  clear hxy
                  go_wp2_with fail
                  apply Rg.region_up _ (by kernel_rfl) (by kernel_rfl) hS
                  · intro QN hQN
                    iterate 9 (apply Rg.RK.ok; (· intro vs w1 hS; go_simp; with_reducible rfl); (· rfl); simp only [Act.put, List.setIfInBounds_toArray, List.set_cons_zero, List.set_cons_succ, Nat.reduceAdd])
                    apply Rg.RK.fin []
                    intro vs w1 hK hS _
                    refine hQN.out _ _ ?_
                    clear hQN
                    go_wp2_with fail
                    go_roundw
                    case rel =>
                      refine ⟨k + 1, by go_num, by omega, ?_, hu.trans (keeps_up hK)⟩
                      show _ = _
                      rw [List.take_succ_eq_append_getElem hkl, List.take_succ_eq_append_getElem hkl', ht.out, HX.out, HX'.out, HXY.out]
                    case measure => simp [intOf]; omega
                  · kernel_rfl
                · have hne : l ≠ l' := by
                    intro e
                    subst e
                    have h := HX.out.symm.trans HX'.out
                    have a1 := X1.out; have a2 := X2.out; have a3 := X3.out; have a4 := X4.out; have a5 := X5.out
                    have b1 := Y1.out; have b2 := Y2.out; have b3 := Y3.out; have b4 := Y4.out; have b5 := Y5.out
                    rw [h] at a1 a2 a3 a4 a5
                    omega
                  have HNE := Lib.hid hne
                  clear hne
                  go_wp2_with fail
                  apply Rg.region_up _ (by kernel_rfl) (by kernel_rfl) hS
                  · intro QN hQN
                    iterate 9 (apply Rg.RK.ok; (· intro vs w1 hS; go_simp; with_reducible rfl); (· rfl); simp only [Act.put, List.setIfInBounds_toArray, List.set_cons_zero, List.set_cons_succ, Nat.reduceAdd])
                    apply Rg.RK.fin []
                    intro vs w1 hK hS _
                    refine hQN.out _ _ ?_
                    clear hQN
                    go_wp2_with fail
                    go_ret
                    refine ⟨retb ?_, hu.trans (keeps_up hK)⟩
                    have := HNE.out
                    simp [this]
                  · kernel_rfl
              · have hne : l ≠ l' := by
                  intro e
                  subst e
                  have h := HX.out.symm.trans HX'.out
                  have a1 := X1.out; have a2 := X2.out; have a3 := X3.out; have a4 := X4.out; have a5 := X5.out
                  have b1 := Y1.out; have b2 := Y2.out; have b3 := Y3.out; have b4 := Y4.out; have b5 := Y5.out
                  rw [h] at a1 a2 a3 a4 a5
                  omega
                have HNE := Lib.hid hne
                clear hne
                go_wp2_with fail
                apply Rg.region_up _ (by kernel_rfl) (by kernel_rfl) hS
                · intro QN hQN
                  iterate 9 (apply Rg.RK.ok; (· intro vs w1 hS; go_simp; with_reducible rfl); (· rfl); simp only [Act.put, List.setIfInBounds_toArray, List.set_cons_zero, List.set_cons_succ, Nat.reduceAdd])
                  apply Rg.RK.fin []
                  intro vs w1 hK hS _
                  refine hQN.out _ _ ?_
                  clear hQN
                  go_wp2_with fail
                  go_ret
                  refine ⟨retb ?_, hu.trans (keeps_up hK)⟩
                  have := HNE.out
                  simp [this]
                · kernel_rfl
            · have hne : l ≠ l' := by
                intro e
                subst e
                have h := HX.out.symm.trans HX'.out
                have a1 := X1.out; have a2 := X2.out; have a3 := X3.out; have a4 := X4.out; have a5 := X5.out
                have b1 := Y1.out; have b2 := Y2.out; have b3 := Y3.out; have b4 := Y4.out; have b5 := Y5.out
                rw [h] at a1 a2 a3 a4 a5
                omega
              have HNE := Lib.hid hne
              clear hne
              go_wp2_with fail
              apply Rg.region_up _ (by kernel_rfl) (by kernel_rfl) hS
              · intro QN hQN
                iterate 9 (apply Rg.RK.ok; (· intro vs w1 hS; go_simp; with_reducible rfl); (· rfl); simp only [Act.put, List.setIfInBounds_toArray, List.set_cons_zero, List.set_cons_succ, Nat.reduceAdd])
                apply Rg.RK.fin []
                intro vs w1 hK hS _
                refine hQN.out _ _ ?_
                clear hQN
                go_wp2_with fail
                go_ret
                refine ⟨retb ?_, hu.trans (keeps_up hK)⟩
                have := HNE.out
                simp [this]
              · kernel_rfl
          · have hne : l ≠ l' := by
              intro e
              subst e
              have h := HX.out.symm.trans HX'.out
              have a1 := X1.out; have a2 := X2.out; have a3 := X3.out; have a4 := X4.out; have a5 := X5.out
              have b1 := Y1.out; have b2 := Y2.out; have b3 := Y3.out; have b4 := Y4.out; have b5 := Y5.out
              rw [h] at a1 a2 a3 a4 a5
              omega
            have HNE := Lib.hid hne
            clear hne
            go_wp2_with fail
            apply Rg.region_up _ (by kernel_rfl) (by kernel_rfl) hS
            · intro QN hQN
              iterate 9 (apply Rg.RK.ok; (· intro vs w1 hS; go_simp; with_reducible rfl); (· rfl); simp only [Act.put, List.setIfInBounds_toArray, List.set_cons_zero, List.set_cons_succ, Nat.reduceAdd])
              apply Rg.RK.fin []
              intro vs w1 hK hS _
              refine hQN.out _ _ ?_
              clear hQN
              go_wp2_with fail
              go_ret
              refine ⟨retb ?_, hu.trans (keeps_up hK)⟩
              have := HNE.out
              simp [this]
            · kernel_rfl
        · have hne : l ≠ l' := by
            intro e
            subst e
            have h := HX.out.symm.trans HX'.out
            have a1 := X1.out; have a2 := X2.out; have a3 := X3.out; have a4 := X4.out; have a5 := X5.out
            have b1 := Y1.out; have b2 := Y2.out; have b3 := Y3.out; have b4 := Y4.out; have b5 := Y5.out
            rw [h] at a1 a2 a3 a4 a5
            omega
          have HNE := Lib.hid hne
          clear hne
          go_wp2_with fail
          apply Rg.region_up _ (by kernel_rfl) (by kernel_rfl) hS
          · intro QN hQN
            iterate 9 (apply Rg.RK.ok; (· intro vs w1 hS; go_simp; with_reducible rfl); (· rfl); simp only [Act.put, List.setIfInBounds_toArray, List.set_cons_zero, List.set_cons_succ, Nat.reduceAdd])
            apply Rg.RK.fin []
            intro vs w1 hK hS _
            refine hQN.out _ _ ?_
            clear hQN
            go_wp2_with fail
            go_ret
            refine ⟨retb ?_, hu.trans (keeps_up hK)⟩
            have := HNE.out
            simp [this]
          · kernel_rfl
      · go_wp2_with fail
        go_ret
        refine ⟨retb ?_, hu⟩
        have hkn : k = n := by omega
        have hll : l = l' := by
          have h := ht.out
          rwa [List.take_of_length_le (by have := HL.out; omega), List.take_of_length_le (by have := HL'.out; omega)] at h
        rw [hll]
        simp
  · have hne : decide (l = l') = false := by
      rw [decide_eq_false_iff_not]
      intro e
      apply k6
      rw [HL.out, HL'.out, e]
    have HNE := Lib.hid hne
    clear hne
    have hnn : ((n : Int) != (n' : Int)) = true := by simp; omega
    go_enter Try.func38, Try.ntmps38
    go_wp2_with fail
    go_ret
    refine ⟨retb ?_, Up.refl _⟩
    rw [HNE.out]
end Go.Proofs.Ytnjmekjaingniaa

/-
  Opening arguments: slices of items, of whole numbers.
-/
namespace Go.Proofs.Ytnjmekjaingniaa
open Go.ChangeShapes Go.WideShapes Go.ChangeAt Go.RowKit Go.Deep
set_option linter.unusedVariables false

instance : Inhabited It := ⟨⟨0, 0, 0, 0, 0⟩⟩
/-- a slice of items that came in -/
def IsI (w : World) (A : Option Addr) (n c : Nat) (l : List It) : Prop := Rd w w.heap.size 5 A n (itcs l) ∧ n ≤ c ∧ c ≤ 9223372036854775807
section
variable {H : Type} {enc : TypeId × Value → H} {W : World} {sp : Nat → Bool} {a : Option Addr} {len cap : Nat} {d : DataW H} {p : List MemPlace}
theorem is_i (h : DataW.Trod enc Try.prog W 0 (fun _ => true) true 22 (.slice a len cap) d p) : ∃ l, IsI W a len cap l := by
  obtain ⟨fuel, hf⟩ := h
  rcases open_slice Try.underlying22 hf with ⟨hcs, _⟩ | ⟨x, l, c, m, n, D, Pl, hcs, _, hl, hm, hmm, _, hx⟩
  · simp [Value.cells] at hcs
    obtain ⟨rfl, rfl, rfl⟩ := hcs
    exact ⟨[], Rd.empty, by omega, by omega⟩
  · simp [Value.cells] at hcs
    obtain ⟨rfl, rfl, rfl⟩ := hcs
    have hC : Try.prog.cellsOf 25 = 5 := by kernel_rfl
    rw [hC] at hx
    obtain ⟨L, hL, hr⟩ := rd_elems (W := W) (len := len) (a := x) (base := 0) itc (sz := 5) (fun _ => rfl) (by omega) (fun i hi => by
      obtain ⟨cs', h1, h2⟩ := hx i (by simp at hmm; omega)
      exact ⟨cs', h1, item_cells' h2⟩)
    exact ⟨L, hr, hl, by simpa only [maxLen] using hm⟩
/-- a slice of whole numbers that came in -/
def zvs (l : List Int64) : List Value := l.map fun z => Value.int .i64 z.toInt
def IsZ (w : World) (A : Option Addr) (n c : Nat) (l : List Int64) : Prop := Rd w w.heap.size 1 A n (zvs l) ∧ n ≤ c ∧ c ≤ 9223372036854775807
theorem is_z (h : DataW.Trod enc Try.prog W 0 (fun _ => true) true 35 (.slice a len cap) d p) : ∃ l, IsZ W a len cap l := by
  obtain ⟨fuel, hf⟩ := h
  rcases open_ints Try.underlying35 Try.underlying3 (by kernel_rfl) hf with ⟨hcs, _⟩ | ⟨x, l, c, zs, hcs, _, hl, hm, hz, _, hcell, hwz⟩
  · simp [Value.cells] at hcs
    obtain ⟨rfl, rfl, rfl⟩ := hcs
    exact ⟨[], Rd.empty, by omega, by omega⟩
  · simp [Value.cells] at hcs
    obtain ⟨rfl, rfl, rfl⟩ := hcs
    refine ⟨_, rd_ints (fun z : Int64 => Value.int .i64 z.toInt) (fun n => Int64.ofInt n) (fun n hn => ?_) hl (by simpa using hz) hcell hwz, hl, by simpa only [maxLen] using hm⟩
    exact congrArg _ (i64_of hn).symm
theorem Rd.zlen {w : World} {B n : Nat} {A : Option Addr} {q : List Int64} (h : Rd w B 1 A n (zvs q)) : n = q.length := by have := h.1; simp [zvs] at this; omega
theorem Rd.znum {w : World} {B n : Nat} {A : Option Addr} {q : List Int64} (h : Rd w B 1 A n (zvs q)) {k : Nat} (hk : k < n) :
    ∃ b o, A = some ⟨b, o, none⟩ ∧ b < B ∧ w.cell? ⟨b, o + k, none⟩ = some (.int .i64 (q.getD k 0).toInt) := by
  obtain ⟨b, o, e, hb, hc⟩ := h.2 (by omega)
  have hl : k < q.length := by have := h.zlen; omega
  exact ⟨b, o, e, hb, hc k _ (by simp [zvs, hl, List.getD])⟩
end
end Go.Proofs.Ytnjmekjaingniaa
