/- Plain facts: float64 words of small whole numbers: sums of them are exact, and they stand as the numbers do. -/
import Derived.Test.YtbkailelmpbogaaFl
namespace Go.Proofs.Ytbkailelmpbogaa
open Go Go.RowKit Ieee

/-- the word stands for the whole number n. -/
def Rep (b : Nat) (n : Int) : Prop := ∃ p : Nat, Ieee.double.read b = .number (decide (n < 0)) (n.natAbs * 2 ^ p) (-(p : Int))

theorem cut_exact (neg : Bool) (n drop k : Nat) (h : n = k * 2 ^ drop) (hd : drop ≤ n.log2 + 2) : Toward.even.cut neg n drop = k := by
  unfold Toward.cut
  have e : min drop (n.log2 + 2) = drop := by omega
  rw [e]
  have g : (1 : Nat) <<< drop = 2 ^ drop := by rw [Nat.shiftLeft_eq, Nat.one_mul]
  have hp : 0 < 2 ^ drop := Nat.two_pow_pos _
  simp only [g]
  have q : n / 2 ^ drop = k := by rw [h]; exact Nat.mul_div_cancel _ hp
  have r : n % 2 ^ drop = 0 := by rw [h]; exact Nat.mul_mod_left _ _
  rw [q, r]
  have h1 : ¬ 2 ^ drop < 2 * 0 := by omega
  have h2 : (2 ^ drop == 2 * 0) = false := by simp
  simp

theorem log2_mul_pow (m P : Nat) (h : m ≠ 0) : (m * 2 ^ P).log2 = m.log2 + P := by
  have hm : m * 2 ^ P ≠ 0 := Nat.mul_ne_zero h (Nat.pos_iff_ne_zero.1 (Nat.two_pow_pos _))
  rw [Nat.log2_eq_iff hm]
  have a1 := Nat.log2_self_le h
  have a2 : m < 2 ^ (m.log2 + 1) := Nat.lt_log2_self
  constructor
  · rw [Nat.pow_add]; exact Nat.mul_le_mul_right _ a1
  · rw [show m.log2 + P + 1 = (m.log2 + 1) + P from by omega, Nat.pow_add]
    exact Nat.mul_lt_mul_of_pos_right a2 (Nat.two_pow_pos _)

/-- the rung of a whole number below 2^53. -/
def rungOf (m : Nat) : Nat := if m = 0 then 0 else (m.log2 + 1022) * 4503599627370496 + m * 2 ^ (52 - m.log2)

theorem rung_lt (m : Nat) (h : m < 9007199254740992) : rungOf m < 9218868437227405312 := by
  unfold rungOf
  split
  · omega
  · rename_i h0
    have a2 : m < 2 ^ (m.log2 + 1) := Nat.lt_log2_self
    have hl : m.log2 ≤ 52 := by
      have := (Nat.log2_lt h0).2 (show m < 2 ^ 53 from h)
      omega
    have e : m * 2 ^ (52 - m.log2) < 2 ^ (m.log2 + 1) * 2 ^ (52 - m.log2) := Nat.mul_lt_mul_of_pos_right a2 (Nat.two_pow_pos _)
    rw [← Nat.pow_add, show m.log2 + 1 + (52 - m.log2) = 53 from by omega] at e
    have e53 : (2 : Nat) ^ 53 = 9007199254740992 := by decide +kernel
    omega

theorem nearest_scale (s : Bool) (m P : Nat) (h : m < 9007199254740992) : Ieee.double.nearest s (m * 2 ^ P) (-(P : Int)) = Ieee.double.word s (rungOf m) := by
  unfold Format.nearest
  by_cases h0 : m = 0
  · subst h0; simp [rungOf]
  · have hm : m * 2 ^ P ≠ 0 := Nat.mul_ne_zero h0 (Nat.pos_iff_ne_zero.1 (Nat.two_pow_pos _))
    rw [if_neg hm]
    have hl : m.log2 ≤ 52 := by
      have := (Nat.log2_lt h0).2 (show m < 2 ^ 53 from h)
      omega
    rw [log2_mul_pow m P h0, d_least, d_bin, d_inf]
    have el : max (-(P : Int) + ((m.log2 + P : Nat) : Int) - (Ieee.double.fractionBits : Nat)) (-1074) = (m.log2 : Int) - 52 := by
      show max (-(P : Int) + ((m.log2 + P : Nat) : Int) - (52 : Nat)) (-1074) = (m.log2 : Int) - 52
      omega
    simp only [el]
    have ek : Toward.even.cut s ((m * 2 ^ P) <<< (-(P : Int) - ((m.log2 : Int) - 52)).toNat) ((m.log2 : Int) - 52 - -(P : Int)).toNat = m * 2 ^ (52 - m.log2) := by
      rw [Nat.shiftLeft_eq]
      by_cases hc : 52 ≤ m.log2 + P
      · have e1 : (-(P : Int) - ((m.log2 : Int) - 52)).toNat = 0 := by omega
        have e2 : ((m.log2 : Int) - 52 - -(P : Int)).toNat = m.log2 + P - 52 := by omega
        rw [e1, e2]
        apply cut_exact
        · rw [Nat.pow_zero, Nat.mul_one, Nat.mul_assoc, ← Nat.pow_add]
          congr 2; omega
        · rw [Nat.pow_zero, Nat.mul_one, log2_mul_pow m P h0]; omega
      · have e1 : (-(P : Int) - ((m.log2 : Int) - 52)).toNat = 52 - m.log2 - P := by omega
        have e2 : ((m.log2 : Int) - 52 - -(P : Int)).toNat = 0 := by omega
        rw [e1, e2]
        apply cut_exact
        · rw [Nat.pow_zero, Nat.mul_one, Nat.mul_assoc, ← Nat.pow_add]
          congr 2; omega
        · omega
    rw [ek]
    have e3 : ((m.log2 : Int) - 52 - -1074).toNat = m.log2 + 1022 := by omega
    rw [e3]
    have hr := rung_lt m h
    have hru : rungOf m = (m.log2 + 1022) * 4503599627370496 + m * 2 ^ (52 - m.log2) := by unfold rungOf; rw [if_neg h0]
    rw [← hru, Nat.min_eq_left (by omega)]

/-- the word of a whole number, as the language converts it. -/
def flN (n : Int) : Nat := Ieee.double.word (decide (n < 0)) (rungOf n.natAbs)
theorem floatOfInt_eq (n : Int) (h : n.natAbs < 9007199254740992) : floatOfInt .f64 n = flN n := by
  have := nearest_scale (decide (n < 0)) n.natAbs 0 h
  rw [Nat.pow_zero, Nat.mul_one] at this
  exact this

theorem flN_lt (n : Int) (h : n.natAbs < 9007199254740992) : flN n < W64 := by
  have := rung_lt _ h
  unfold flN Format.word
  rw [d_sign]; unfold W64
  split <;> omega

theorem flN_rep (n : Int) (h : n.natAbs < 9007199254740992) : Rep (flN n) n := by
  have hr := rung_lt _ h
  have hm : flN n % 9223372036854775808 = rungOf n.natAbs := by
    unfold flN Format.word; rw [d_sign]; split <;> omega
  have hs : (flN n / 9223372036854775808 % 2 == 1) = decide (n < 0) := by
    unfold flN Format.word; rw [d_sign]
    by_cases hn : n < 0
    · have : (9223372036854775808 + rungOf n.natAbs) / 9223372036854775808 = 1 := by omega
      simp [hn, this]
    · have : rungOf n.natAbs / 9223372036854775808 = 0 := by omega
      simp [hn, this]
  have hrd := read_fin (flN n) (by rw [hm]; exact hr)
  rw [hm, hs] at hrd
  by_cases h0 : n.natAbs = 0
  · obtain ⟨P, hP⟩ : ∃ P : Nat, P = 1074 := ⟨_, rfl⟩
    refine ⟨P, ?_⟩
    rw [hrd, h0]
    have : rungOf 0 = 0 := by simp [rungOf]
    rw [this, Nat.zero_mul]
    simp [magOf, upOf, hP]
  · have hl : n.natAbs.log2 ≤ 52 := by
      have := (Nat.log2_lt h0).2 (show n.natAbs < 2 ^ 53 from h)
      omega
    have a1 := Nat.log2_self_le h0
    have a2 : n.natAbs < 2 ^ (n.natAbs.log2 + 1) := Nat.lt_log2_self
    have e53 : (2 : Nat) ^ 53 = 9007199254740992 := by decide +kernel
    have e52 : (2 : Nat) ^ 52 = 4503599627370496 := by decide +kernel
    have b1 : 4503599627370496 ≤ n.natAbs * 2 ^ (52 - n.natAbs.log2) := by
      have := Nat.mul_le_mul_right (2 ^ (52 - n.natAbs.log2)) a1
      rw [← Nat.pow_add, show n.natAbs.log2 + (52 - n.natAbs.log2) = 52 from by omega] at this
      omega
    have b2 : n.natAbs * 2 ^ (52 - n.natAbs.log2) < 9007199254740992 := by
      have : n.natAbs * 2 ^ (52 - n.natAbs.log2) < 2 ^ (n.natAbs.log2 + 1) * 2 ^ (52 - n.natAbs.log2) := Nat.mul_lt_mul_of_pos_right a2 (Nat.two_pow_pos _)
      rw [← Nat.pow_add, show n.natAbs.log2 + 1 + (52 - n.natAbs.log2) = 53 from by omega] at this
      omega
    have hru : rungOf n.natAbs = (n.natAbs.log2 + 1022) * 4503599627370496 + n.natAbs * 2 ^ (52 - n.natAbs.log2) := by unfold rungOf; rw [if_neg h0]
    refine ⟨52 - n.natAbs.log2, ?_⟩
    rw [hrd, hru]
    generalize n.natAbs * 2 ^ (52 - n.natAbs.log2) = K at *
    generalize n.natAbs.log2 = L at *
    have c1 : ¬ (L + 1022) * 4503599627370496 + K < 4503599627370496 := by omega
    have c2 : ((L + 1022) * 4503599627370496 + K) % 4503599627370496 = K - 4503599627370496 := by omega
    have c3 : ((L + 1022) * 4503599627370496 + K) / 4503599627370496 = L + 1023 := by omega
    unfold magOf upOf
    rw [if_neg c1, if_neg c1, c2, c3, show 4503599627370496 + (K - 4503599627370496) = K from by omega, show (-1074 + ((L + 1023 - 1 : Nat) : Int)) = -((52 - L : Nat) : Int) from by omega]

theorem signed_val (n : Int) (p u : Nat) : signed (decide (n < 0)) (n.natAbs * 2 ^ p) u = n * (2 ^ (p + u) : Nat) := by
  unfold signed
  rw [Nat.shiftLeft_eq, Nat.mul_assoc, ← Nat.pow_add]
  by_cases h : n < 0
  · simp only [h, decide_true, if_true]
    have : (n.natAbs : Int) = -n := by omega
    rw [Int.natCast_mul, this, Int.neg_mul, Int.neg_neg]
  · simp only [h, decide_false, Bool.false_eq_true, if_false]
    have : (n.natAbs : Int) = n := by omega
    rw [Int.natCast_mul, this]

theorem rep_order {x y : Nat} {a b : Int} (hx : Rep x a) (hy : Rep y b) : FloatKind.f64.format.order x y = some (compare a b) := by
  obtain ⟨p, hp⟩ := hx
  obtain ⟨q, hq⟩ := hy
  unfold Format.order
  rw [dbl, hp, hq]
  simp only [Datum.order]
  rw [signed_val, signed_val]
  have e1 : p + (-(p : Int) - min (-(p : Int)) (-(q : Int))).toNat = max p q := by omega
  have e2 : q + (-(q : Int) - min (-(p : Int)) (-(q : Int))).toNat = max p q := by omega
  rw [e1, e2, compare_scale _ _ _ (Nat.two_pow_pos _)]

theorem rep_add {x y : Nat} {a b : Int} (hx : Rep x a) (hy : Rep y b) (h : (a + b).natAbs < 9007199254740992) : Ieee.double.add x y = some (flN (a + b)) := by
  obtain ⟨p, hp⟩ := hx
  obtain ⟨q, hq⟩ := hy
  unfold Format.add
  rw [hp, hq]
  simp only [Datum.sum, Option.map_some]
  rw [signed_val, signed_val]
  have e1 : p + (-(p : Int) - min (-(p : Int)) (-(q : Int))).toNat = max p q := by omega
  have e2 : q + (-(q : Int) - min (-(p : Int)) (-(q : Int))).toNat = max p q := by omega
  have e3 : min (-(p : Int)) (-(q : Int)) = -((max p q : Nat) : Int) := by omega
  rw [e1, e2, e3, ← Int.add_mul]
  have hp2 : (0 : Int) < ((2 ^ max p q : Nat) : Int) := by have := Nat.two_pow_pos (max p q); omega
  congr 1
  unfold Format.write
  simp only
  have es : (if (a + b) * ((2 ^ max p q : Nat) : Int) = 0 then (decide (a < 0) && decide (b < 0)) else decide ((a + b) * ((2 ^ max p q : Nat) : Int) < 0)) = decide (a + b < 0) := by
    by_cases hz : a + b = 0
    · rw [hz, Int.zero_mul, if_pos rfl]
      by_cases ha : a < 0
      · have : ¬ b < 0 := by omega
        simp [this]
      · simp [ha]
    · have : (a + b) * ((2 ^ max p q : Nat) : Int) ≠ 0 := Int.mul_ne_zero hz (by omega)
      rw [if_neg this]
      congr 1
      apply propext
      constructor
      · intro hlt
        rcases (by omega : a + b < 0 ∨ 0 ≤ a + b) with g | g
        · exact g
        · have := Int.mul_nonneg g (Int.le_of_lt hp2); omega
      · intro hlt
        exact Int.mul_neg_of_neg_of_pos hlt hp2
  rw [es]
  have en : ((a + b) * ((2 ^ max p q : Nat) : Int)).natAbs = (a + b).natAbs * 2 ^ max p q := by rw [Int.natAbs_mul, Int.natAbs_natCast]
  rw [en]
  exact nearest_scale _ _ _ h

theorem rep_not_nan {x : Nat} {a : Int} (h : Rep x a) : isNaNB x = false := by
  unfold isNaNB; rw [rep_order h h, cmp_self]; rfl

theorem cmp_fl {a b : Int} (ha : a.natAbs < 9007199254740992) (hb : b.natAbs < 9007199254740992) : cmpN (flN a) (flN b) = cmpI a b := by
  have key : ∀ a b : Int, a.natAbs < 9007199254740992 → b.natAbs < 9007199254740992 → a < b → cmpN (flN a) (flN b) = -1 := by
    intro a b ha hb h
    exact less_cmp (flN_lt a ha) (flN_lt b hb) (by rw [rep_order (flN_rep a ha) (flN_rep b hb), cmp_lt h]; rfl)
  rcases Int.lt_trichotomy a b with h | h | h
  · rw [key a b ha hb h]; simp [cmpI, h]
  · subst h; rw [cmpN_self, cmpI_self]
  · rw [cmpN_turn, key b a hb ha h]
    have : ¬ a < b := by omega
    simp [cmpI, h, this]
/-- 'a & (2^n - 1)' of an int. -/
theorem and_mask (a : Int) (n M : Nat) (hM : M = 2 ^ n) (hn : n ≤ 62) : bits .and .i64 a (((M - 1 : Nat)) : Int) = a % (M : Int) := by
  subst hM
  have hp : 0 < 2 ^ n := Nat.two_pow_pos _
  have h62 : 2 ^ n ≤ 2 ^ 62 := Nat.pow_le_pow_right (by omega) hn
  have e62 : (2 : Nat) ^ 62 = 4611686018427387904 := by decide +kernel
  show IntKind.i64.wrap ((BitVec.ofInt 64 a &&& BitVec.ofInt 64 ((2 ^ n - 1 : Nat) : Int)).toNat : Int) = _
  rw [BitVec.toNat_and, ofInt_u64 _ (by omega), Nat.and_two_pow_sub_one_eq_mod, BitVec.toNat_ofInt]
  have hd : (2 ^ n : Nat) ∣ 2 ^ 64 := Nat.pow_dvd_pow 2 (by omega)
  have e1 : (((a % ((2 ^ 64 : Nat) : Int)).toNat % 2 ^ n : Nat) : Int) = a % ((2 ^ n : Nat) : Int) := by
    rw [Int.natCast_emod, Int.toNat_of_nonneg (Int.emod_nonneg _ (by decide))]
    exact Int.emod_emod_of_dvd a (by exact_mod_cast hd)
  have e2 := Int.emod_lt_of_pos a (show (0 : Int) < ((2 ^ n : Nat) : Int) by omega)
  have e3 := Int.emod_nonneg a (show ((2 ^ n : Nat) : Int) ≠ 0 by omega)
  rw [e1, IntKind.wrap_i64]
  omega

theorem fold_fl (B : Nat) : ∀ (ns : List Int) (s : Int), (∀ n ∈ ns, n.natAbs ≤ B) → s.natAbs + ns.length * B < 9007199254740992 →
    (ns.map flN).foldl (fun s f => s.bind (Ieee.double.add · f)) (some (flN s)) = some (flN (s + ns.sum))
  | [], s, _, _ => by simp
  | n :: ns, s, h, hs => by
    have hn := h n (by simp)
    simp only [List.length_cons, Nat.succ_mul] at hs
    have e := rep_add (flN_rep s (by omega)) (flN_rep n (by omega)) (by omega : (s + n).natAbs < 9007199254740992)
    simp only [List.map_cons, List.foldl_cons, Option.bind_some, e, List.sum_cons]
    rw [fold_fl B ns (s + n) (fun m hm => h m (by simp [hm])) (by omega), Int.add_assoc]
theorem sum_bd (B : Nat) : ∀ (ns : List Int), (∀ n ∈ ns, n.natAbs ≤ B) → ns.sum.natAbs ≤ ns.length * B
  | [], _ => by simp
  | n :: ns, h => by
    have := sum_bd B ns (fun m hm => h m (by simp [hm]))
    have hn := h n (by simp)
    simp only [List.length_cons, List.sum_cons, Nat.succ_mul]
    omega
end Go.Proofs.Ytbkailelmpbogaa
