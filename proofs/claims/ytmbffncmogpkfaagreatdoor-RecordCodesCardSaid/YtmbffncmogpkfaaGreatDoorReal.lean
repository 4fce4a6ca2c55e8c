
/- Contracts of package real and of its reference ligatureref1: each Go function computes the plain function named beside it. -/
import Derived.Test.YtmbffncmogpkfaaGreatDoorRows
import Derived.Test.YtmbffncmogpkfaaGreatDoorFl
import Derived.WalkKit
import Derived.WalkSpells
import Derived.WalkLawsBesides
import Derived.Laws.FloatArith
import Derived.Lib.Hide
import Derived.Handy
namespace Go.Proofs.YtmbffncmogpkfaaGreatDoor
open Go Go.RowKit

@[go_sem] theorem run_bits (x : Nat) (w : World) : (callFunc 67 #[.float .f64 x]).run Tryz.prog w = .ok (.value (.int .u64 x)) w := by kernel_rfl
@[go_sem] theorem run_frombits (x : Int) (w : World) : (callFunc 76 #[.int .u64 x]).run Tryz.prog w = .ok (.value (.float .f64 x.toNat)) w := by kernel_rfl
@[go_sem] theorem run_negf (x : Nat) (w : World) : (Op.unary .neg (.float .f64 x)).run Tryz.prog w = .ok (.float .f64 (Op.negFloat .f64 x)) w := rfl

set_option maxHeartbeats 400000 in
theorem Norm_c (b : Nat) (w : World) :
    Calls Tryz.prog 68 #[.float .f64 b] w fun e w' => e = .returned (.float .f64 (normN b)) ∧ w = w' := by
  cases h : isNaNB b
  · have hn : normN b = b := by simp [normN, h]
    have H := Lib.hid hn; clear hn
    unfold isNaNB at h
    go_enter Tryz.func68, Tryz.ntmps68
    go_wp2
    go_ret
    exact ⟨by rw [H.out]; rfl, rfl⟩
  · have hn : normN b = nanBits := by simp [normN, h]
    have H := Lib.hid hn; clear hn
    unfold isNaNB at h
    go_enter Tryz.func68, Tryz.ntmps68
    go_wp2
    go_ret
    exact ⟨by rw [H.out]; rfl, rfl⟩
set_option maxHeartbeats 400000 in
theorem RNaN_c (w : World) :
    Calls Tryz.prog 97 #[] w fun e w' => e = .returned (.float .f64 nanBits) ∧ w = w' := by
  go_enter Tryz.func97, Tryz.ntmps97
  go_wp2
  go_ret
  exact ⟨rfl, rfl⟩
set_option maxHeartbeats 400000 in
theorem RNorm_c (b : Nat) (w : World) :
    Calls Tryz.prog 72 #[.float .f64 b] w fun e w' => e = .returned (.float .f64 (normN b)) ∧ w = w' := by
  cases h : isNaNB b
  · have hn : normN b = b := by simp [normN, h]
    have H := Lib.hid hn; clear hn
    unfold isNaNB at h
    go_enter Tryz.func72, Tryz.ntmps72
    go_wp2
    go_ret
    exact ⟨by rw [H.out]; rfl, rfl⟩
  · have hn : normN b = nanBits := by simp [normN, h]
    have H := Lib.hid hn; clear hn
    unfold isNaNB at h
    go_enter Tryz.func72, Tryz.ntmps72
    go_wp2_with (go_at_call 97; (with_reducible refine (RNaN_c _).mono ?_); rintro e w' ⟨rfl, rfl⟩)
    go_ret
    exact ⟨by rw [H.out]; rfl, rfl⟩
set_option maxHeartbeats 400000 in
theorem Key_c (b : Nat) (hb : b < W64) (w : World) :
    Calls Tryz.prog 43 #[.float .f64 b] w fun e w' => e = .returned (.int .u64 (keyN b)) ∧ w = w' := by
  have hn := normN_lt hb
  have ha := and_top _ hn
  by_cases ht : normN b < topBit
  · have hk : (keyN b : Int) = bits .or .u64 (normN b) 9223372036854775808 := by rw [or_top _ ht]; simp [keyN, ht]
    have h0 : (bits .and .u64 (normN b) 9223372036854775808 != 0) = false := by rw [ha]; simp [ht]
    have H := Lib.hid hk; clear hk ha hn hb
    go_enter Tryz.func43, Tryz.ntmps43
    go_wp2_with (go_at_call 68; (with_reducible refine (Norm_c _ _).mono ?_); rintro e w' ⟨rfl, rfl⟩)
    go_ret
    exact ⟨by rw [H.out]; rfl, rfl⟩
  · have hk : (keyN b : Int) = bits .xor .u64 IntKind.u64.max (normN b) := by rw [xor_max _ hn]; simp [keyN, ht]
    have h0 : (bits .and .u64 (normN b) 9223372036854775808 != 0) = true := by rw [ha]; simp [ht]
    have H := Lib.hid hk; clear hk ha hn hb
    go_enter Tryz.func43, Tryz.ntmps43
    go_wp2_with (go_at_call 68; (with_reducible refine (Norm_c _ _).mono ?_); rintro e w' ⟨rfl, rfl⟩)
    go_ret
    exact ⟨by rw [H.out]; rfl, rfl⟩
set_option maxHeartbeats 400000 in
theorem RKey_c (b : Nat) (hb : b < W64) (w : World) :
    Calls Tryz.prog 47 #[.float .f64 b] w fun e w' => e = .returned (.int .u64 (keyN b)) ∧ w = w' := by
  have hn := normN_lt hb
  have hs := shr63 _ hn
  by_cases ht : normN b < topBit
  · have hk : (keyN b : Int) = bits .or .u64 (normN b) 9223372036854775808 := by rw [or_top _ ht]; simp [keyN, ht]
    have H := Lib.hid hk; clear hk hn hb
    simp only [ht, not_true, decide_false] at hs
    go_enter Tryz.func47, Tryz.ntmps47
    go_wp2_with (go_at_call 72; (with_reducible refine (RNorm_c _ _).mono ?_); rintro e w' ⟨rfl, rfl⟩)
    go_ret
    exact ⟨by rw [H.out]; rfl, rfl⟩
  · have hk : (keyN b : Int) = bits .xor .u64 IntKind.u64.max (normN b) := by rw [xor_max _ hn]; simp [keyN, ht]
    have H := Lib.hid hk; clear hk hn hb
    simp only [ht, not_false_iff, decide_true] at hs
    go_enter Tryz.func47, Tryz.ntmps47
    go_wp2_with (go_at_call 72; (with_reducible refine (RNorm_c _ _).mono ?_); rintro e w' ⟨rfl, rfl⟩)
    go_ret
    exact ⟨by rw [H.out]; rfl, rfl⟩
set_option maxHeartbeats 400000 in
theorem Of_c (k : Nat) (hk : k < W64) (w : World) :
    Calls Tryz.prog 75 #[.int .u64 (k : Int)] w fun e w' => e = .returned (.tuple #[.float .f64 (ofN k).1, .bool (ofN k).2]) ∧ w = w' := by
  have ha := and_top _ hk
  have hu := unkeyN_lt hk
  by_cases ht : k < topBit
  · have hx := xor_max_un k ht
    have h0 : (bits .and .u64 (k : Int) 9223372036854775808 != 0) = false := by rw [ha]; simp [ht]
    by_cases he : keyN (unkeyN k) = k
    · have H := Lib.hid (ofN_ok he)
      have h1 : ((keyN (unkeyN k) : Int) != (k : Int)) = false := by rw [he]; simp
      clear ha he hk
      go_enter Tryz.func75, Tryz.ntmps75
      go_wp2_with (go_at_call 43; (with_reducible refine (Key_c _ hu _).mono ?_); rintro e w' ⟨rfl, rfl⟩)
      go_ret2
      exact ⟨by rw [H.out]; rfl, rfl⟩
    · have H := Lib.hid (ofN_no he)
      have h1 : ((keyN (unkeyN k) : Int) != (k : Int)) = true := by rw [bne_iff_ne]; omega
      clear ha he hk
      go_enter Tryz.func75, Tryz.ntmps75
      go_wp2_with (go_at_call 43; (with_reducible refine (Key_c _ hu _).mono ?_); rintro e w' ⟨rfl, rfl⟩)
      go_ret2
      exact ⟨by rw [H.out]; rfl, rfl⟩
  · have hx := andNot_top k hk ht
    have h0 : (bits .and .u64 (k : Int) 9223372036854775808 != 0) = true := by rw [ha]; simp [ht]
    by_cases he : keyN (unkeyN k) = k
    · have H := Lib.hid (ofN_ok he)
      have h1 : ((keyN (unkeyN k) : Int) != (k : Int)) = false := by rw [he]; simp
      clear ha he hk
      go_enter Tryz.func75, Tryz.ntmps75
      go_wp2_with (go_at_call 43; (with_reducible refine (Key_c _ hu _).mono ?_); rintro e w' ⟨rfl, rfl⟩)
      go_ret2
      exact ⟨by rw [H.out]; rfl, rfl⟩
    · have H := Lib.hid (ofN_no he)
      have h1 : ((keyN (unkeyN k) : Int) != (k : Int)) = true := by rw [bne_iff_ne]; omega
      clear ha he hk
      go_enter Tryz.func75, Tryz.ntmps75
      go_wp2_with (go_at_call 43; (with_reducible refine (Key_c _ hu _).mono ?_); rintro e w' ⟨rfl, rfl⟩)
      go_ret2
      exact ⟨by rw [H.out]; rfl, rfl⟩
set_option maxHeartbeats 400000 in
theorem ROf_c (k : Nat) (hk : k < W64) (w : World) :
    Calls Tryz.prog 57 #[.int .u64 (k : Int)] w fun e w' => e = .returned (.tuple #[.float .f64 (ofN k).1, .bool (ofN k).2]) ∧ w = w' := by
  have hs := shr63 _ hk
  have hu := unkeyN_lt hk
  by_cases ht : k < topBit
  · have hx := xor_max_un k ht
    simp only [ht, not_true, decide_false] at hs
    by_cases he : keyN (unkeyN k) = k
    · have H := Lib.hid (ofN_ok he)
      have h1 : ((keyN (unkeyN k) : Int) != (k : Int)) = false := by rw [he]; simp
      clear he hk
      go_enter Tryz.func57, Tryz.ntmps57
      go_wp2_with (go_at_call 47; (with_reducible refine (RKey_c _ hu _).mono ?_); rintro e w' ⟨rfl, rfl⟩)
      go_ret2
      exact ⟨by rw [H.out]; rfl, rfl⟩
    · have H := Lib.hid (ofN_no he)
      have h1 : ((keyN (unkeyN k) : Int) != (k : Int)) = true := by rw [bne_iff_ne]; omega
      clear he hk
      go_enter Tryz.func57, Tryz.ntmps57
      go_wp2_with (go_at_call 47; (with_reducible refine (RKey_c _ hu _).mono ?_); rintro e w' ⟨rfl, rfl⟩)
      go_ret2
      exact ⟨by rw [H.out]; rfl, rfl⟩
  · have hx := xor_top k hk ht
    simp only [ht, not_false_iff, decide_true] at hs
    by_cases he : keyN (unkeyN k) = k
    · have H := Lib.hid (ofN_ok he)
      have h1 : ((keyN (unkeyN k) : Int) != (k : Int)) = false := by rw [he]; simp
      clear he hk
      go_enter Tryz.func57, Tryz.ntmps57
      go_wp2_with (go_at_call 47; (with_reducible refine (RKey_c _ hu _).mono ?_); rintro e w' ⟨rfl, rfl⟩)
      go_ret2
      exact ⟨by rw [H.out]; rfl, rfl⟩
    · have H := Lib.hid (ofN_no he)
      have h1 : ((keyN (unkeyN k) : Int) != (k : Int)) = true := by rw [bne_iff_ne]; omega
      clear he hk
      go_enter Tryz.func57, Tryz.ntmps57
      go_wp2_with (go_at_call 47; (with_reducible refine (RKey_c _ hu _).mono ?_); rintro e w' ⟨rfl, rfl⟩)
      go_ret2
      exact ⟨by rw [H.out]; rfl, rfl⟩
set_option maxHeartbeats 400000 in
theorem Compare_u64 (a b : Int) (w : World) :
    Calls Tryz.prog 104 #[.int .u64 a, .int .u64 b] w fun e w' => e = .returned (.int .i64 (cmpI a b)) ∧ w = w' := by
  by_cases h1 : a < b
  · have H := Lib.hid (show cmpI a b = -1 by simp [cmpI, h1])
    go_enter Tryz.func104, Tryz.ntmps104
    go_wp2
    go_ret
    exact ⟨by rw [H.out]; rfl, rfl⟩
  · by_cases h2 : b < a
    · have H := Lib.hid (show cmpI a b = 1 by simp [cmpI, h1, h2])
      go_enter Tryz.func104, Tryz.ntmps104
      go_wp2
      go_ret
      exact ⟨by rw [H.out]; rfl, rfl⟩
    · have H := Lib.hid (show cmpI a b = 0 by simp [cmpI, h1, h2])
      go_enter Tryz.func104, Tryz.ntmps104
      go_wp2
      go_ret
      exact ⟨by rw [H.out]; rfl, rfl⟩
set_option maxHeartbeats 400000 in
theorem Cmp_c (a b : Nat) (ha : a < W64) (hb : b < W64) (w : World) :
    Calls Tryz.prog 86 #[.float .f64 a, .float .f64 b] w fun e w' => e = .returned (.int .i64 (cmpN a b)) ∧ w = w' := by
  go_enter Tryz.func86, Tryz.ntmps86
  go_wp2_with fail
  refine (Key_c _ ha _).mono ?_
  rintro e w' ⟨rfl, rfl⟩
  go_wp2_with fail
  refine (Key_c _ hb _).mono ?_
  rintro e w' ⟨rfl, rfl⟩
  go_wp2_with fail
  refine (Compare_u64 _ _ _).mono ?_
  rintro e w' ⟨rfl, rfl⟩
  go_wp2_with fail
  go_ret
  exact ⟨rfl, rfl⟩
set_option maxHeartbeats 400000 in
theorem RCmp_c (a b : Nat) (ha : a < W64) (hb : b < W64) (w : World) :
    Calls Tryz.prog 60 #[.float .f64 a, .float .f64 b] w fun e w' => e = .returned (.int .i64 (cmpN a b)) ∧ w = w' := by
  by_cases h1 : (keyN a : Int) < (keyN b : Int)
  · have H := Lib.hid (show cmpN a b = -1 by simp [cmpN, cmpI, h1])
    go_enter Tryz.func60, Tryz.ntmps60
    go_wp2_with fail
    refine (RKey_c _ ha _).mono ?_
    rintro e w' ⟨rfl, rfl⟩
    go_wp2_with fail
    refine (RKey_c _ hb _).mono ?_
    rintro e w' ⟨rfl, rfl⟩
    go_wp2_with fail
    go_ret
    exact ⟨by rw [H.out]; rfl, rfl⟩
  · by_cases h2 : (keyN b : Int) < (keyN a : Int)
    · have H := Lib.hid (show cmpN a b = 1 by simp [cmpN, cmpI, h1, h2])
      go_enter Tryz.func60, Tryz.ntmps60
      go_wp2_with fail
      refine (RKey_c _ ha _).mono ?_
      rintro e w' ⟨rfl, rfl⟩
      go_wp2_with fail
      refine (RKey_c _ hb _).mono ?_
      rintro e w' ⟨rfl, rfl⟩
      go_wp2_with fail
      go_ret
      exact ⟨by rw [H.out]; rfl, rfl⟩
    · have H := Lib.hid (show cmpN a b = 0 by simp [cmpN, cmpI, h1, h2])
      go_enter Tryz.func60, Tryz.ntmps60
      go_wp2_with fail
      refine (RKey_c _ ha _).mono ?_
      rintro e w' ⟨rfl, rfl⟩
      go_wp2_with fail
      refine (RKey_c _ hb _).mono ?_
      rintro e w' ⟨rfl, rfl⟩
      go_wp2_with fail
      go_ret
      exact ⟨by rw [H.out]; rfl, rfl⟩
/-- is a word a weight: 'f >= 0', as the walk writes it. -/
def weightB (b : Nat) : Bool := FloatKind.f64.format.order b 0 == some .gt || FloatKind.f64.format.order b 0 == some .eq

set_option maxHeartbeats 400000 in
theorem Weight_c (b : Nat) (w : World) :
    Calls Tryz.prog 87 #[.float .f64 b] w fun e w' => e = .returned (.bool (weightB b)) ∧ w = w' := by
  go_enter Tryz.func87, Tryz.ntmps87
  go_wp2
  go_ret
  exact ⟨rfl, rfl⟩
set_option maxHeartbeats 400000 in
theorem RWeight_c (b : Nat) (w : World) :
    Calls Tryz.prog 94 #[.float .f64 b] w fun e w' => e = .returned (.bool (weightB b)) ∧ w = w' := by
  go_enter Tryz.func94, Tryz.ntmps94
  go_wp2
  go_ret
  exact ⟨rfl, rfl⟩
set_option maxHeartbeats 400000 in
theorem Same_c (a b : Nat) (w : World) :
    Calls Tryz.prog 95 #[.float .f64 a, .float .f64 b] w fun e w' => e = .returned (.bool (decide (a = b))) ∧ w = w' := by
  by_cases h : a = b
  · subst h
    go_enter Tryz.func95, Tryz.ntmps95
    go_wp2
    go_ret
    exact ⟨by simp, rfl⟩
  · have h1 : ((a : Int) == (b : Int)) = false := by simp; omega
    have H := Lib.hid (show decide (a = b) = false by simp [h])
    clear h
    go_enter Tryz.func95, Tryz.ntmps95
    go_wp2
    go_ret
    exact ⟨by rw [H.out]; rfl, rfl⟩
end Go.Proofs.YtmbffncmogpkfaaGreatDoor
