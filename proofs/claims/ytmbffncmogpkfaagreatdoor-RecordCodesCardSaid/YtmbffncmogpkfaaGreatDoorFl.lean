
/- Plain facts on float64 words: which are NaNs, how two stand to one another, the key of a word and the word of a key. No program in sight. -/
import Derived.WalkKit
import Derived.WalkLawsBesides
import Derived.Laws.FloatArith
import Derived.Laws.BitsAllLaws
namespace Go.Proofs.YtmbffncmogpkfaaGreatDoor
open Go Go.RowKit Ieee

/-- is a float64's word a NaN's, as the walk writes the test 'f != f'. -/
def isNaNB (b : Nat) : Bool := FloatKind.f64.format.order b b != some .eq
def nanBits : Nat := 9221120237041090560
def infBits : Nat := 9218868437227405312
def topBit : Nat := 9223372036854775808
def W64 : Nat := 18446744073709551616
def normN (b : Nat) : Nat := if isNaNB b = true then nanBits else b
def keyN (b : Nat) : Nat := if normN b < topBit then normN b + topBit else 18446744073709551615 - normN b
/-- -1, 0, 1: how two integers stand. -/
def cmpI (a b : Int) : Int := if a < b then -1 else if b < a then 1 else 0
def cmpN (a b : Nat) : Int := cmpI (keyN a) (keyN b)
def unkeyN (k : Nat) : Nat := if k < topBit then 18446744073709551615 - k else k - topBit
def ofN (k : Nat) : Nat × Bool := if keyN (unkeyN k) = k then (unkeyN k, true) else (0, false)

/-- where a word that is no NaN stands: its rung, with its sign. -/
def rankF (b : Nat) : Int := if b < topBit then (b : Int) else (topBit : Int) - b

theorem dbl : FloatKind.f64.format = Ieee.double := rfl
theorem d_sign : Ieee.double.signWeight = 9223372036854775808 := by decide +kernel
theorem d_bin : Ieee.double.binade = 4503599627370496 := by decide +kernel
theorem d_inf : Ieee.double.infRung = 9218868437227405312 := by decide +kernel
theorem d_least : Ieee.double.leastPlace = -1074 := by decide +kernel

/-- a rung's magnitude, in units of the least place. -/
def val (r : Nat) : Nat := if r < 4503599627370496 then r else (4503599627370496 + r % 4503599627370496) * 2 ^ (r / 4503599627370496 - 1)

theorem val_step (r : Nat) : val r < val (r + 1) := by
  unfold val
  by_cases h1 : r + 1 < 4503599627370496
  · rw [if_pos h1, if_pos (by omega)]; omega
  · rw [if_neg h1]
    by_cases h2 : r < 4503599627370496
    · rw [if_pos h2]
      have e : r + 1 = 4503599627370496 := by omega
      rw [e]; simp; omega
    · rw [if_neg h2]
      by_cases h3 : r % 4503599627370496 + 1 < 4503599627370496
      · have e1 : (r + 1) / 4503599627370496 = r / 4503599627370496 := by omega
        have e2 : (r + 1) % 4503599627370496 = r % 4503599627370496 + 1 := by omega
        rw [e1, e2]
        exact Nat.mul_lt_mul_of_pos_right (by omega) (Nat.two_pow_pos _)
      · have e1 : (r + 1) / 4503599627370496 = r / 4503599627370496 + 1 := by omega
        have e2 : (r + 1) % 4503599627370496 = 0 := by omega
        have e3 : r % 4503599627370496 = 4503599627370495 := by omega
        obtain ⟨q, hq⟩ : ∃ q, r / 4503599627370496 = q + 1 := ⟨r / 4503599627370496 - 1, by omega⟩
        rw [e1, e2, e3, hq]
        simp only [Nat.add_sub_cancel, Nat.add_zero]
        rw [Nat.pow_succ, ← Nat.mul_assoc, Nat.mul_right_comm]
        exact Nat.mul_lt_mul_of_pos_right (by omega) (Nat.two_pow_pos _)

theorem val_lt {r s : Nat} (h : r < s) : val r < val s := by
  induction s with
  | zero => omega
  | succ s ih =>
    by_cases e : r = s
    · subst e; exact val_step r
    · exact Nat.lt_trans (ih (by omega)) (val_step s)
theorem val_zero : val 0 = 0 := by simp [val]

/-- what a finite word stands for, in units of the least place. -/
def sval (neg : Bool) (r : Nat) : Int := if neg then -(val r : Int) else (val r : Int)

theorem signed_scale (neg : Bool) (m u k : Nat) : signed neg m (u + k) = signed neg m u * (2 ^ k : Nat) := by
  unfold signed
  have e : m <<< (u + k) = (m <<< u) * 2 ^ k := by rw [Nat.shiftLeft_eq, Nat.shiftLeft_eq, Nat.pow_add, Nat.mul_assoc]
  cases neg <;> simp [e, Int.neg_mul]

theorem cmp_lt {a b : Int} (h : a < b) : compare a b = .lt := by simp [compare, compareOfLessAndEq, h]
theorem cmp_gt {a b : Int} (h : b < a) : compare a b = .gt := by
  have h1 : ¬ a < b := by omega
  have h2 : ¬ a = b := by omega
  simp [compare, compareOfLessAndEq, h1, h2]
theorem cmp_self (a : Int) : compare a a = .eq := by simp [compare, compareOfLessAndEq]
theorem compare_scale (a b : Int) (k : Nat) (hk : 0 < k) : compare (a * k) (b * k) = compare a b := by
  have hk' : (0 : Int) < k := by omega
  rcases Int.lt_trichotomy a b with h | h | h
  · have h1 : a * (k : Int) < b * k := Int.mul_lt_mul_of_pos_right h hk'
    rw [cmp_lt h, cmp_lt h1]
  · subst h; simp
  · have h1 : b * (k : Int) < a * k := Int.mul_lt_mul_of_pos_right h hk'
    rw [cmp_gt h, cmp_gt h1]

/-- the finite word's reading: its magnitude and its place. -/
def magOf (r : Nat) : Nat := if r < 4503599627370496 then r else 4503599627370496 + r % 4503599627370496
def upOf (r : Nat) : Nat := if r < 4503599627370496 then 0 else r / 4503599627370496 - 1
theorem val_eq (r : Nat) : val r = magOf r * 2 ^ upOf r := by
  unfold val magOf upOf; split <;> simp
theorem sval_eq (neg : Bool) (r : Nat) : sval neg r = signed neg (magOf r) (upOf r) := by
  unfold sval signed; rw [val_eq]; simp only [Nat.shiftLeft_eq]
theorem read_fin (b : Nat) (h : b % 9223372036854775808 < 9218868437227405312) :
    Ieee.double.read b = .number (b / 9223372036854775808 % 2 == 1) (magOf (b % 9223372036854775808)) (-1074 + (upOf (b % 9223372036854775808) : Nat)) := by
  unfold Format.read
  simp only [d_sign, d_bin, d_inf, d_least]
  unfold magOf upOf
  split
  · simp
  · simp
theorem read_inf (b : Nat) (h : b % 9223372036854775808 = 9218868437227405312) : Ieee.double.read b = .infinity (b / 9223372036854775808 % 2 == 1) := by
  unfold Format.read
  simp only [d_sign, d_bin, d_inf, d_least, h]
  rw [if_neg (by omega), if_neg (by omega)]; simp
theorem read_nan (b : Nat) (h : 9218868437227405312 < b % 9223372036854775808) : Ieee.double.read b = .nan (b / 9223372036854775808 % 2 == 1) (b % 9223372036854775808 - 9218868437227405312) := by
  unfold Format.read
  simp only [d_sign, d_bin, d_inf, d_least]
  rw [if_neg (by omega), if_neg (by omega), if_neg (by omega)]

theorem order_fin (s t : Bool) (r q : Nat) : (Datum.number s (magOf r) (-1074 + (upOf r : Nat))).order (.number t (magOf q) (-1074 + (upOf q : Nat))) = some (compare (sval s r) (sval t q)) := by
  simp only [Datum.order]
  congr 1
  generalize hb : min (-1074 + (upOf r : Nat) : Int) (-1074 + (upOf q : Nat)) = base
  have e1 : upOf r = (-1074 + (upOf r : Nat) - base : Int).toNat + (base + 1074).toNat := by omega
  have e2 : upOf q = (-1074 + (upOf q : Nat) - base : Int).toNat + (base + 1074).toNat := by omega
  rw [sval_eq, sval_eq]
  rw [show signed s (magOf r) (upOf r) = signed s (magOf r) ((-1074 + (upOf r : Nat) - base : Int).toNat) * (2 ^ (base + 1074).toNat : Nat) from by rw [← signed_scale, ← e1]]
  rw [show signed t (magOf q) (upOf q) = signed t (magOf q) ((-1074 + (upOf q : Nat) - base : Int).toNat) * (2 ^ (base + 1074).toNat : Nat) from by rw [← signed_scale, ← e2]]
  exact (compare_scale _ _ _ (Nat.two_pow_pos _)).symm

theorem compare_sval (s t : Bool) (r q : Nat) : compare (sval s r) (sval t q) = compare (if s then -(r : Int) else r) (if t then -(q : Int) else q) := by
  have hr : r = 0 ∨ 0 < r := by omega
  have hq : q = 0 ∨ 0 < q := by omega
  have pr : 0 < r → 0 < val r := fun h => by have := val_lt h; omega
  have pq : 0 < q → 0 < val q := fun h => by have := val_lt h; omega
  have zr : r = 0 → val r = 0 := fun h => by subst h; exact val_zero
  have zq : q = 0 → val q = 0 := fun h => by subst h; exact val_zero
  have key : ∀ a b c d : Int, (a < b ↔ c < d) → (b < a ↔ d < c) → compare a b = compare c d := by
    intro a b c d h1 h2
    rcases Int.lt_trichotomy a b with h | h | h
    · rw [cmp_lt h, cmp_lt (h1.1 h)]
    · have : c = d := by omega
      subst h; subst this; simp
    · rw [cmp_gt h, cmp_gt (h2.1 h)]
  have lt1 : r < q → val r < val q := val_lt
  have lt2 : q < r → val q < val r := val_lt
  have eq1 : r = q → val r = val q := fun h => by rw [h]
  unfold sval
  apply key <;> cases s <;> cases t <;> simp <;> omega

theorem isNaNB_eq (b : Nat) : isNaNB b = decide (9218868437227405312 < b % 9223372036854775808) := by
  unfold isNaNB Format.order
  rw [dbl]
  rcases Nat.lt_trichotomy (b % 9223372036854775808) 9218868437227405312 with h | h | h
  · rw [read_fin b h, order_fin]; simp; omega
  · rw [read_inf b h]; simp [Datum.order]; omega
  · rw [read_nan b h]; simp [Datum.order, h]

/-- TWO WORDS THAT ARE NO NaNs STAND AS THEIR RANKS DO. -/
theorem order_rank (a b : Nat) (ha : a < W64) (hb : b < W64) (na : isNaNB a = false) (nb : isNaNB b = false) :
    FloatKind.f64.format.order a b = some (compare (rankF a) (rankF b)) := by
  rw [isNaNB_eq] at na nb
  simp at na nb
  unfold W64 at ha hb
  unfold Format.order
  rw [dbl]
  have sg : ∀ x : Nat, x < 18446744073709551616 → (x / 9223372036854775808 % 2 == 1) = decide (9223372036854775808 ≤ x) := by
    intro x hx
    by_cases h : 9223372036854775808 ≤ x
    · have : x / 9223372036854775808 = 1 := by omega
      simp [this, h]
    · have : x / 9223372036854775808 = 0 := by omega
      simp [this, h]
  have rk : ∀ x : Nat, x < 18446744073709551616 → rankF x = if decide (9223372036854775808 ≤ x) then -((x % 9223372036854775808 : Nat) : Int) else ((x % 9223372036854775808 : Nat) : Int) := by
    intro x hx
    unfold rankF topBit
    by_cases h : 9223372036854775808 ≤ x
    · simp [h]; omega
    · simp [h]; omega
  rw [rk a ha, rk b hb]
  rcases Nat.lt_or_eq_of_le na with h1 | h1 <;> rcases Nat.lt_or_eq_of_le nb with h2 | h2
  · rw [read_fin a h1, read_fin b h2, order_fin, sg a ha, sg b hb, compare_sval]
  · rw [read_fin a h1, read_inf b h2, sg a ha, sg b hb, h2]
    simp only [Datum.order]
    congr 1
    by_cases hs : 9223372036854775808 ≤ b
    · simp only [hs, decide_true, if_true]
      exact (cmp_gt (by split <;> omega)).symm
    · simp only [hs, decide_false, if_false, Bool.false_eq_true]
      exact (cmp_lt (by split <;> omega)).symm
  · rw [read_inf a h1, read_fin b h2, sg a ha, sg b hb, h1]
    simp only [Datum.order]
    congr 1
    by_cases hs : 9223372036854775808 ≤ a
    · simp only [hs, decide_true, if_true]
      exact (cmp_lt (by split <;> omega)).symm
    · simp only [hs, decide_false, if_false, Bool.false_eq_true]
      exact (cmp_gt (by split <;> omega)).symm
  · rw [read_inf a h1, read_inf b h2, sg a ha, sg b hb, h1, h2]
    simp only [Datum.order]
    by_cases hs : 9223372036854775808 ≤ a <;> by_cases ht : 9223372036854775808 ≤ b <;> simp [hs, ht] <;> decide

theorem normN_lt {b : Nat} (h : b < W64) : normN b < W64 := by
  unfold normN; split
  · unfold nanBits W64; omega
  · exact h
theorem nanBits_nan : isNaNB nanBits = true := by rw [isNaNB_eq]; unfold nanBits; simp
theorem normN_norm (b : Nat) : normN (normN b) = normN b := by
  unfold normN; split
  · simp [nanBits_nan]
  · rfl
/-- a normed word: a number, or the one NaN. -/
theorem normN_range {b : Nat} (h : b < W64) : normN b ≤ 9218868437227405312 ∨ normN b = 9221120237041090560 ∨ (9223372036854775808 ≤ normN b ∧ normN b ≤ 18442240474082181120) := by
  unfold normN
  split
  · right; left; rfl
  · rename_i hn
    rw [isNaNB_eq] at hn
    simp at hn
    unfold W64 at h
    omega
theorem keyN_lt {b : Nat} (h : b < W64) : keyN b < W64 := by
  have := normN_lt h
  unfold keyN topBit W64 at *; split <;> omega
theorem unkey_key {b : Nat} (h : b < W64) : unkeyN (keyN b) = normN b := by
  have := normN_lt h
  unfold unkeyN keyN topBit W64 at *
  split <;> split <;> omega
theorem keyN_norm (b : Nat) : keyN (normN b) = keyN b := by unfold keyN; rw [normN_norm]
theorem ofN_key {b : Nat} (h : b < W64) : ofN (keyN b) = (normN b, true) := by
  unfold ofN; rw [unkey_key h, keyN_norm]; simp
theorem unkeyN_lt {k : Nat} (h : k < W64) : unkeyN k < W64 := by
  unfold unkeyN topBit W64 at *; split <;> omega
theorem key_inj {a b : Nat} (ha : a < W64) (hb : b < W64) (h : keyN a = keyN b) : normN a = normN b := by
  rw [← unkey_key ha, ← unkey_key hb, h]

theorem and_top (n : Nat) (h : n < W64) : bits .and .u64 (n : Int) 9223372036854775808 = if n < topBit then 0 else 9223372036854775808 := by
  unfold W64 at h
  have := u64_and_nat n 9223372036854775808 h (by omega)
  rw [show ((9223372036854775808 : Nat) : Int) = 9223372036854775808 from rfl] at this
  rw [this]
  have h2 := nat_bit 63 n
  rw [show (2 : Nat) ^ 63 = 9223372036854775808 from by decide +kernel] at h2
  rw [h2]; unfold topBit
  split
  · rw [Nat.div_eq_of_lt (by omega)]; rfl
  · have : n / 9223372036854775808 = 1 := by omega
    rw [this]; rfl
theorem or_top (n : Nat) (h : n < topBit) : bits .or .u64 (n : Int) 9223372036854775808 = ((n + topBit : Nat) : Int) := by
  unfold topBit at *
  have := u64_or_nat n 9223372036854775808 (by omega) (by omega)
  rw [show ((9223372036854775808 : Nat) : Int) = 9223372036854775808 from rfl] at this
  rw [this, Nat.or_comm, nat_join 63 _ _ (by decide +kernel) (by simpa using h)]
  omega
theorem u64max : IntKind.u64.max = 18446744073709551615 := by decide
theorem xor_max (n : Nat) (h : n < W64) : bits .xor .u64 IntKind.u64.max (n : Int) = ((18446744073709551615 - n : Nat) : Int) := by
  unfold W64 at h
  rw [u64max]
  show IntKind.u64.wrap ((BitVec.ofInt 64 18446744073709551615 ^^^ BitVec.ofInt 64 (n : Int)).toNat : Int) = _
  have h1 : BitVec.ofInt 64 18446744073709551615 = BitVec.allOnes 64 := by decide
  rw [h1, BitVec.allOnes_xor, BitVec.toNat_not, ofInt_u64 n (by omega)]
  simp [IntKind.wrap, IntKind.bits, IntKind.signed]
  omega
theorem xor_max_un (n : Nat) (h : n < topBit) : bits .xor .u64 IntKind.u64.max (n : Int) = (unkeyN n : Int) := by
  rw [xor_max n (by unfold topBit at h; unfold W64; omega)]; simp [unkeyN, h]
theorem andNot_top (n : Nat) (h : n < W64) (ht : ¬ n < topBit) : bits .andNot .u64 (n : Int) 9223372036854775808 = (unkeyN n : Int) := by
  unfold W64 at h
  have := u64_andNot_nat n 9223372036854775808 h (by omega)
  rw [show ((9223372036854775808 : Nat) : Int) = 9223372036854775808 from rfl] at this
  rw [this, show 18446744073709551615 - 9223372036854775808 = (9223372036854775807 : Nat) from by decide +kernel, show (9223372036854775807 : Nat) = 2 ^ 63 - 1 from by decide +kernel, Nat.and_two_pow_sub_one_eq_mod]
  unfold unkeyN
  rw [if_neg ht]
  unfold topBit at *
  rw [show (2 : Nat) ^ 63 = 9223372036854775808 from by decide +kernel]
  omega
theorem xor_or_pow (i m : Nat) (h : m < 2 ^ i) : (2 ^ i ||| m) ^^^ 2 ^ i = m := by
  apply Nat.eq_of_testBit_eq
  intro k
  simp only [Nat.testBit_xor, Nat.testBit_or, Nat.testBit_two_pow]
  by_cases hk : i = k
  · subst hk
    simp [Nat.testBit_lt_two_pow h]
  · simp [hk]
theorem xor_or_at (T i n : Nat) (hT : T = 2 ^ i) (h1 : T ≤ n) (h2 : n < T + T) : n ^^^ T = n - T := by
  obtain ⟨m, rfl⟩ : ∃ m, n = T + m := ⟨n - T, by omega⟩
  subst hT
  have hm : m < 2 ^ i := by omega
  have e : 2 ^ i + m = 2 ^ i ||| m := (nat_join i _ _ (Nat.mod_self _) hm).symm
  rw [Nat.add_sub_cancel_left, e]
  exact xor_or_pow i m hm
theorem two63 : (9223372036854775808 : Nat) = 2 ^ 63 := by decide +kernel
theorem xor_top (n : Nat) (h : n < W64) (ht : ¬ n < topBit) : bits .xor .u64 (n : Int) 9223372036854775808 = (unkeyN n : Int) := by
  unfold unkeyN
  rw [if_neg ht]
  unfold W64 topBit at *
  have := u64_xor_nat n 9223372036854775808 h (by omega)
  rw [show ((9223372036854775808 : Nat) : Int) = 9223372036854775808 from rfl] at this
  rw [this, xor_or_at 9223372036854775808 63 n two63 (by omega) (by omega)]
theorem ofN_ok {k : Nat} (h : keyN (unkeyN k) = k) : ofN k = (unkeyN k, true) := by simp [ofN, h]
theorem ofN_no {k : Nat} (h : ¬ keyN (unkeyN k) = k) : ofN k = (0, false) := by simp [ofN, h]
theorem shr63 (n : Nat) (h : n < W64) : ((n : Int) / 9223372036854775808 == 1) = decide (¬ n < topBit) := by
  unfold W64 at h; unfold topBit
  by_cases h1 : n < 9223372036854775808
  · have : (n : Int) / 9223372036854775808 = 0 := by omega
    rw [this]; simp; omega
  · have : (n : Int) / 9223372036854775808 = 1 := by omega
    rw [this]; simp; omega
theorem key_zero : keyN 0 = topBit := by decide +kernel
theorem key_nzero : keyN topBit = 9223372036854775807 := by decide +kernel
theorem key_one : keyN 4607182418800017408 = 13830554455654793216 := by decide +kernel
/-- the word of the number with its sign turned. -/
def negN (n : Nat) : Nat := if n < topBit then n + topBit else n - topBit
theorem or_xor_pow (i m : Nat) (h : m < 2 ^ i) : m ^^^ 2 ^ i = 2 ^ i + m := by
  rw [← nat_join i _ _ (Nat.mod_self _) h]
  apply Nat.eq_of_testBit_eq
  intro k
  simp only [Nat.testBit_xor, Nat.testBit_or, Nat.testBit_two_pow]
  by_cases hk : i = k
  · subst hk
    simp [Nat.testBit_lt_two_pow h]
  · simp [hk]
theorem neg_eq (n : Nat) (h : n < W64) : Op.negFloat .f64 n = negN n := by
  unfold Op.negFloat negN
  show n ^^^ 2 ^ 63 = _
  split
  · rename_i ht
    rw [or_xor_pow 63 n (by rw [← two63]; exact ht), ← two63, Nat.add_comm]; rfl
  · rename_i ht
    have := xor_or_at topBit 63 n two63 (by omega) (by unfold topBit; unfold W64 at h; omega)
    rw [← two63]; exact this
theorem negN_lt {n : Nat} (h : n < W64) : negN n < W64 := by unfold negN topBit; unfold W64 at *; split <;> omega
theorem negN_nan {n : Nat} (h : n < W64) : isNaNB (negN n) = isNaNB n := by
  rw [isNaNB_eq, isNaNB_eq]
  have : negN n % 9223372036854775808 = n % 9223372036854775808 := by
    unfold negN topBit; unfold W64 at h; split <;> omega
  rw [this]
theorem norm_of_not {n : Nat} (h : isNaNB n = false) : normN n = n := by simp [normN, h]
theorem key_neg {n : Nat} (h : n < W64) (hn : isNaNB n = false) : keyN (negN n) = 18446744073709551615 - keyN n := by
  unfold keyN
  rw [norm_of_not hn, norm_of_not (by rw [negN_nan h]; exact hn)]
  unfold negN topBit; unfold W64 at h
  split <;> split <;> omega
theorem cmpI_bd (a b : Int) : -1 ≤ cmpI a b ∧ cmpI a b ≤ 1 := by unfold cmpI; split <;> (try split) <;> omega
theorem cmpN_bd (a b : Nat) : -1 ≤ cmpN a b ∧ cmpN a b ≤ 1 := cmpI_bd _ _
theorem cmpN_neg {a b : Nat} (ha : a < W64) (hb : b < W64) (na : isNaNB a = false) (nb : isNaNB b = false) : cmpN (negN a) (negN b) = -cmpN a b := by
  have k1 := keyN_lt ha
  have k2 := keyN_lt hb
  unfold cmpN
  rw [key_neg ha na, key_neg hb nb]
  unfold W64 at k1 k2
  unfold cmpI
  split <;> split <;> (try split) <;> (try split) <;> omega
theorem negN_neg {n : Nat} (h : n < W64) : negN (negN n) = n := by
  unfold negN topBit; unfold W64 at h; split <;> split <;> omega
theorem cmpN_turn (a b : Nat) : cmpN b a = -cmpN a b := by
  unfold cmpN cmpI
  split <;> split <;> (try split) <;> (try split) <;> omega
theorem nan_test (n : Nat) : (FloatKind.f64.format.order n n != some .eq) = isNaNB n := rfl
theorem cmpI_self (a : Int) : cmpI a a = 0 := by simp [cmpI]
theorem cmpN_self (a : Nat) : cmpN a a = 0 := cmpI_self _
theorem cmpI_trans {a b c : Int} (h1 : cmpI a b ≤ 0) (h2 : cmpI b c ≤ 0) : cmpI a c ≤ 0 := by
  unfold cmpI at *
  split <;> (try split) <;> (try omega)
theorem cmpN_trans {a b c : Nat} (h1 : cmpN a b ≤ 0) (h2 : cmpN b c ≤ 0) : cmpN a c ≤ 0 := cmpI_trans h1 h2
theorem cmpI_zero (a b : Int) : (cmpI a b == 0) = decide (a = b) := by
  unfold cmpI
  split
  · have : ¬ a = b := by omega
    simp [this]
  · split
    · have : ¬ a = b := by omega
      simp [this]
    · have : a = b := by omega
      simp [this]
theorem cmpN_zero (a b : Nat) : (cmpN a b == 0) = decide (keyN a = keyN b) := by
  unfold cmpN; rw [cmpI_zero]; simp [Int.ofNat_inj]
/-- a comparison of the language's own says no NaN stands there. -/
theorem not_nan_of {a b : Nat} {o : Ordering} (h : FloatKind.f64.format.order a b = some o) : isNaNB a = false ∧ isNaNB b = false := by
  have na : isNaNB a = true → FloatKind.f64.format.order a b = none := by
    intro hn
    rw [isNaNB_eq] at hn
    unfold Format.order
    rw [dbl, read_nan a (by simpa using hn)]
    cases Ieee.double.read b <;> rfl
  have nb : isNaNB b = true → FloatKind.f64.format.order a b = none := by
    intro hn
    rw [isNaNB_eq] at hn
    unfold Format.order
    rw [dbl, read_nan b (by simpa using hn)]
    cases Ieee.double.read a <;> rfl
  constructor
  · cases hh : isNaNB a
    · rfl
    · rw [na hh] at h; cases h
  · cases hh : isNaNB b
    · rfl
    · rw [nb hh] at h; cases h
theorem rank_key {a b : Nat} (ha : a < W64) (hb : b < W64) (na : isNaNB a = false) (nb : isNaNB b = false) (h : rankF a < rankF b) : keyN a < keyN b := by
  unfold keyN
  rw [norm_of_not na, norm_of_not nb]
  unfold rankF topBit at *; unfold W64 at *
  split at h <;> split at h <;> split <;> (try split) <;> omega
theorem less_cmp {a b : Nat} (ha : a < W64) (hb : b < W64) (h : (FloatKind.f64.format.order a b == some .lt) = true) : cmpN a b = -1 := by
  have h' : FloatKind.f64.format.order a b = some .lt := by simpa using h
  obtain ⟨na, nb⟩ := not_nan_of h'
  rw [order_rank a b ha hb na nb] at h'
  have hr : rankF a < rankF b := by
    rcases Int.lt_trichotomy (rankF a) (rankF b) with r | r | r
    · exact r
    · rw [r, cmp_self] at h'; cases h'
    · rw [cmp_gt r] at h'; cases h'
  have := rank_key ha hb na nb hr
  unfold cmpN cmpI
  rw [if_pos (by omega)]
/-- a word with a NaN's digits laid over it. -/
def orNan (a : Nat) : Nat := a ||| 9218868437227405313
theorem or_nan_bits (a : Nat) (h : a < W64) : bits .or .u64 (a : Int) 9218868437227405313 = (orNan a : Int) := by
  unfold W64 at h
  have := u64_or_nat a 9218868437227405313 h (by omega)
  exact this
theorem orNan_lt (a : Nat) (h : a < W64) : orNan a < W64 := by
  unfold orNan
  rw [show W64 = 2 ^ 64 from by decide +kernel] at *
  exact Nat.or_lt_two_pow h (by decide +kernel)
theorem orNan_nan (a : Nat) : isNaNB (orNan a) = true := by
  rw [isNaNB_eq, decide_eq_true_iff]
  unfold orNan
  rw [two63, Nat.or_mod_two_pow]
  have : 9218868437227405313 ≤ a % 2 ^ 63 ||| 9218868437227405313 % 2 ^ 63 := by
    rw [show 9218868437227405313 % 2 ^ 63 = 9218868437227405313 from by decide +kernel]
    exact Nat.right_le_or
  exact Nat.lt_of_lt_of_le (by decide +kernel) this
theorem norm_of_nan {n : Nat} (h : isNaNB n = true) : normN n = nanBits := by simp [normN, h]
theorem key_of_nan {n : Nat} (h : isNaNB n = true) : keyN n = 18444492273895866368 := by
  unfold keyN; rw [norm_of_nan h]; decide +kernel
theorem key_not_nan {n : Nat} (h : n < W64) (hn : isNaNB n = false) : keyN n < 18444492273895866368 := by
  unfold keyN; rw [norm_of_not hn]
  rw [isNaNB_eq] at hn
  simp at hn
  unfold topBit; unfold W64 at h
  split <;> omega
theorem cmp_nan_left {a b : Nat} (hb : b < W64) (ha : isNaNB a = true) (nb : isNaNB b = false) : cmpN a b = 1 := by
  have := key_not_nan hb nb
  unfold cmpN cmpI
  rw [key_of_nan ha, if_neg (by omega), if_pos (by omega)]
theorem cmp_nan_both {a b : Nat} (ha : isNaNB a = true) (nb : isNaNB b = true) : cmpN a b = 0 := by
  unfold cmpN; rw [key_of_nan ha, key_of_nan nb, cmpI_self]
theorem self_eq (n : Nat) : (FloatKind.f64.format.order n n == some .eq) = !isNaNB n := by unfold isNaNB bne; rw [Bool.not_not]
end Go.Proofs.YtmbffncmogpkfaaGreatDoor
