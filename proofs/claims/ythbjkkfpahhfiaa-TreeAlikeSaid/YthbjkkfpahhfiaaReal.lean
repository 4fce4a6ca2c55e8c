
/- Contracts of package real and of its reference ligatureref1: each Go function computes the plain function named beside it. -/
import Derived.Test.YthbjkkfpahhfiaaRows
import Derived.Test.YthbjkkfpahhfiaaFl
import Derived.WalkKit
import Derived.WalkSpells
import Derived.WalkLawsBesides
import Derived.Laws.FloatArith
import Derived.Lib.Hide
import Derived.Handy
namespace Go.Proofs.Ythbjkkfpahhfiaa
open Go Go.RowKit

@[go_sem] theorem run_bits (x : Nat) (w : World) : (callFunc 47 #[.float .f64 x]).run Try.prog w = .ok (.value (.int .u64 x)) w := by kernel_rfl
@[go_sem] theorem run_frombits (x : Int) (w : World) : (callFunc 12 #[.int .u64 x]).run Try.prog w = .ok (.value (.float .f64 x.toNat)) w := by kernel_rfl
@[go_sem] theorem run_negf (x : Nat) (w : World) : (Op.unary .neg (.float .f64 x)).run Try.prog w = .ok (.float .f64 (Op.negFloat .f64 x)) w := rfl

set_option maxHeartbeats 400000 in
theorem Norm_c (b : Nat) (w : World) :
    Calls Try.prog 63 #[.float .f64 b] w fun e w' => e = .returned (.float .f64 (normN b)) ∧ w = w' := by
  cases h : isNaNB b
  · have hn : normN b = b := by simp [normN, h]
    have H := Lib.hid hn; clear hn
    unfold isNaNB at h
    go_enter Try.func63, Try.ntmps63
    go_wp2
    go_ret
    exact ⟨by rw [H.out]; rfl, rfl⟩
  · have hn : normN b = nanBits := by simp [normN, h]
    have H := Lib.hid hn; clear hn
    unfold isNaNB at h
    go_enter Try.func63, Try.ntmps63
    go_wp2
    go_ret
    exact ⟨by rw [H.out]; rfl, rfl⟩
set_option maxHeartbeats 400000 in
theorem RNaN_c (w : World) :
    Calls Try.prog 28 #[] w fun e w' => e = .returned (.float .f64 nanBits) ∧ w = w' := by
  go_enter Try.func28, Try.ntmps28
  go_wp2
  go_ret
  exact ⟨rfl, rfl⟩
set_option maxHeartbeats 400000 in
theorem RNorm_c (b : Nat) (w : World) :
    Calls Try.prog 11 #[.float .f64 b] w fun e w' => e = .returned (.float .f64 (normN b)) ∧ w = w' := by
  cases h : isNaNB b
  · have hn : normN b = b := by simp [normN, h]
    have H := Lib.hid hn; clear hn
    unfold isNaNB at h
    go_enter Try.func11, Try.ntmps11
    go_wp2
    go_ret
    exact ⟨by rw [H.out]; rfl, rfl⟩
  · have hn : normN b = nanBits := by simp [normN, h]
    have H := Lib.hid hn; clear hn
    unfold isNaNB at h
    go_enter Try.func11, Try.ntmps11
    go_wp2_with (go_at_call 28; (with_reducible refine (RNaN_c _).mono ?_); rintro e w' ⟨rfl, rfl⟩)
    go_ret
    exact ⟨by rw [H.out]; rfl, rfl⟩
set_option maxHeartbeats 400000 in
theorem Key_c (b : Nat) (hb : b < W64) (w : World) :
    Calls Try.prog 58 #[.float .f64 b] w fun e w' => e = .returned (.int .u64 (keyN b)) ∧ w = w' := by
  have hn := normN_lt hb
  have ha := and_top _ hn
  by_cases ht : normN b < topBit
  · have hk : (keyN b : Int) = bits .or .u64 (normN b) 9223372036854775808 := by rw [or_top _ ht]; simp [keyN, ht]
    have h0 : (bits .and .u64 (normN b) 9223372036854775808 != 0) = false := by rw [ha]; simp [ht]
    have H := Lib.hid hk; clear hk ha hn hb
    go_enter Try.func58, Try.ntmps58
    go_wp2_with (go_at_call 63; (with_reducible refine (Norm_c _ _).mono ?_); rintro e w' ⟨rfl, rfl⟩)
    go_ret
    exact ⟨by rw [H.out]; rfl, rfl⟩
  · have hk : (keyN b : Int) = bits .xor .u64 IntKind.u64.max (normN b) := by rw [xor_max _ hn]; simp [keyN, ht]
    have h0 : (bits .and .u64 (normN b) 9223372036854775808 != 0) = true := by rw [ha]; simp [ht]
    have H := Lib.hid hk; clear hk ha hn hb
    go_enter Try.func58, Try.ntmps58
    go_wp2_with (go_at_call 63; (with_reducible refine (Norm_c _ _).mono ?_); rintro e w' ⟨rfl, rfl⟩)
    go_ret
    exact ⟨by rw [H.out]; rfl, rfl⟩
set_option maxHeartbeats 400000 in
theorem RKey_c (b : Nat) (hb : b < W64) (w : World) :
    Calls Try.prog 61 #[.float .f64 b] w fun e w' => e = .returned (.int .u64 (keyN b)) ∧ w = w' := by
  have hn := normN_lt hb
  have hs := shr63 _ hn
  by_cases ht : normN b < topBit
  · have hk : (keyN b : Int) = bits .or .u64 (normN b) 9223372036854775808 := by rw [or_top _ ht]; simp [keyN, ht]
    have H := Lib.hid hk; clear hk hn hb
    simp only [ht, not_true, decide_false] at hs
    go_enter Try.func61, Try.ntmps61
    go_wp2_with (go_at_call 11; (with_reducible refine (RNorm_c _ _).mono ?_); rintro e w' ⟨rfl, rfl⟩)
    go_ret
    exact ⟨by rw [H.out]; rfl, rfl⟩
  · have hk : (keyN b : Int) = bits .xor .u64 IntKind.u64.max (normN b) := by rw [xor_max _ hn]; simp [keyN, ht]
    have H := Lib.hid hk; clear hk hn hb
    simp only [ht, not_false_iff, decide_true] at hs
    go_enter Try.func61, Try.ntmps61
    go_wp2_with (go_at_call 11; (with_reducible refine (RNorm_c _ _).mono ?_); rintro e w' ⟨rfl, rfl⟩)
    go_ret
    exact ⟨by rw [H.out]; rfl, rfl⟩
set_option maxHeartbeats 400000 in
theorem Compare_u64 (a b : Int) (w : World) :
    Calls Try.prog 57 #[.int .u64 a, .int .u64 b] w fun e w' => e = .returned (.int .i64 (cmpI a b)) ∧ w = w' := by
  by_cases h1 : a < b
  · have H := Lib.hid (show cmpI a b = -1 by simp [cmpI, h1])
    go_enter Try.func57, Try.ntmps57
    go_wp2
    go_ret
    exact ⟨by rw [H.out]; rfl, rfl⟩
  · by_cases h2 : b < a
    · have H := Lib.hid (show cmpI a b = 1 by simp [cmpI, h1, h2])
      go_enter Try.func57, Try.ntmps57
      go_wp2
      go_ret
      exact ⟨by rw [H.out]; rfl, rfl⟩
    · have H := Lib.hid (show cmpI a b = 0 by simp [cmpI, h1, h2])
      go_enter Try.func57, Try.ntmps57
      go_wp2
      go_ret
      exact ⟨by rw [H.out]; rfl, rfl⟩
set_option maxHeartbeats 400000 in
theorem Cmp_c (a b : Nat) (ha : a < W64) (hb : b < W64) (w : World) :
    Calls Try.prog 51 #[.float .f64 a, .float .f64 b] w fun e w' => e = .returned (.int .i64 (cmpN a b)) ∧ w = w' := by
  go_enter Try.func51, Try.ntmps51
  go_wp2_with fail
  refine (Key_c _ ha _).mono ?_
  rintro e w' ⟨rfl, rfl⟩
  go_wp2_with fail
  refine (Key_c _ hb _).mono ?_
  rintro e w' ⟨rfl, rfl⟩
  go_wp2_with fail
  refine (Compare_u64 _ _ _).mono ?_
  rintro e w' ⟨rfl, rfl⟩
  go_wp2_with fail
  go_ret
  exact ⟨rfl, rfl⟩
set_option maxHeartbeats 400000 in
theorem RCmp_c (a b : Nat) (ha : a < W64) (hb : b < W64) (w : World) :
    Calls Try.prog 56 #[.float .f64 a, .float .f64 b] w fun e w' => e = .returned (.int .i64 (cmpN a b)) ∧ w = w' := by
  by_cases h1 : (keyN a : Int) < (keyN b : Int)
  · have H := Lib.hid (show cmpN a b = -1 by simp [cmpN, cmpI, h1])
    go_enter Try.func56, Try.ntmps56
    go_wp2_with fail
    refine (RKey_c _ ha _).mono ?_
    rintro e w' ⟨rfl, rfl⟩
    go_wp2_with fail
    refine (RKey_c _ hb _).mono ?_
    rintro e w' ⟨rfl, rfl⟩
    go_wp2_with fail
    go_ret
    exact ⟨by rw [H.out]; rfl, rfl⟩
  · by_cases h2 : (keyN b : Int) < (keyN a : Int)
    · have H := Lib.hid (show cmpN a b = 1 by simp [cmpN, cmpI, h1, h2])
      go_enter Try.func56, Try.ntmps56
      go_wp2_with fail
      refine (RKey_c _ ha _).mono ?_
      rintro e w' ⟨rfl, rfl⟩
      go_wp2_with fail
      refine (RKey_c _ hb _).mono ?_
      rintro e w' ⟨rfl, rfl⟩
      go_wp2_with fail
      go_ret
      exact ⟨by rw [H.out]; rfl, rfl⟩
    · have H := Lib.hid (show cmpN a b = 0 by simp [cmpN, cmpI, h1, h2])
      go_enter Try.func56, Try.ntmps56
      go_wp2_with fail
      refine (RKey_c _ ha _).mono ?_
      rintro e w' ⟨rfl, rfl⟩
      go_wp2_with fail
      refine (RKey_c _ hb _).mono ?_
      rintro e w' ⟨rfl, rfl⟩
      go_wp2_with fail
      go_ret
      exact ⟨by rw [H.out]; rfl, rfl⟩
/-- is a word a weight: 'f >= 0', as the walk writes it. -/
def weightB (b : Nat) : Bool := FloatKind.f64.format.order b 0 == some .gt || FloatKind.f64.format.order b 0 == some .eq

set_option maxHeartbeats 400000 in
theorem Same_c (a b : Nat) (w : World) :
    Calls Try.prog 37 #[.float .f64 a, .float .f64 b] w fun e w' => e = .returned (.bool (decide (a = b))) ∧ w = w' := by
  by_cases h : a = b
  · subst h
    go_enter Try.func37, Try.ntmps37
    go_wp2
    go_ret
    exact ⟨by simp, rfl⟩
  · have h1 : ((a : Int) == (b : Int)) = false := by simp; omega
    have H := Lib.hid (show decide (a = b) = false by simp [h])
    clear h
    go_enter Try.func37, Try.ntmps37
    go_wp2
    go_ret
    exact ⟨by rw [H.out]; rfl, rfl⟩
end Go.Proofs.Ythbjkkfpahhfiaa
