/- The walks of the laws on package real (part 1). -/
import Derived.Test.YtbkailelmpbogaaReal
import Derived.Test.YtbkailelmpbogaaText
import Derived.Test.YtbkailelmpbogaaBase
namespace Go.Proofs.Ytbkailelmpbogaa
open Go Go.RowKit

set_option maxHeartbeats 400000 in
theorem known_c (w : World) : Calls Try.prog 16 #[] w fun e w' => e = .returned (.bool true) ∧ w = w' := by
  go_enter Try.func16, Try.ntmps16
  go_wp2_with fail
  with_reducible refine (Key_c 0 (by decide) _).mono ?_
  rintro e w' ⟨rfl, rfl⟩
  rw [key_zero]
  go_wp2_with fail
  with_reducible refine (Copysign_c _).mono ?_
  rintro e w' ⟨rfl, rfl⟩
  go_wp2_with fail
  with_reducible refine (Key_c topBit (by decide) _).mono ?_
  rintro e w' ⟨rfl, rfl⟩
  rw [key_nzero]
  go_wp2_with fail
  with_reducible refine (Key_c 4607182418800017408 (by decide) _).mono ?_
  rintro e w' ⟨rfl, rfl⟩
  rw [key_one]
  go_wp2_with fail
  go_ret
  exact ⟨rfl, rfl⟩

set_option maxHeartbeats 400000 in
theorem RealBack_walk (a0 : Int) (w0 : (Lit.int .u64 a0).wf = true) (w : World) :
    Calls Try.prog 4 #[.int .u64 a0] w fun e w' => e = .returned (.bool true) ∧ Below w.heap.size w w' := by
  obtain ⟨n, rfl, hn⟩ := u64_nat w0
  have hN : n < W64 := hn
  have ho := ofN_key hN
  have hnn := normN_norm n
  have hk := keyN_lt hN
  clear hn w0
  go_enter Try.func4, Try.ntmps4
  go_wp2_with (first | (go_at_call 18; (with_reducible refine (Key_c _ (by assumption) _).mono ?_); rintro e w' ⟨rfl, rfl⟩) | (go_at_call 17; (with_reducible refine (Of_c _ (by assumption) _).mono ?_); rintro e w' ⟨rfl, rfl⟩) | (go_at_call 19; (with_reducible refine (RNorm_c _ _).mono ?_); rintro e w' ⟨rfl, rfl⟩) | (go_at_call 13; (with_reducible refine (Same_c _ _ _).mono ?_); rintro e w' ⟨rfl, rfl⟩) | (go_at_call 20; (with_reducible refine (Norm_c _ _).mono ?_); rintro e w' ⟨rfl, rfl⟩) | (go_at_call 16; (with_reducible refine (known_c _).mono ?_); rintro e w' ⟨rfl, rfl⟩))
  go_ret
  exact ⟨rfl, Below.refl _ _⟩
set_option maxHeartbeats 400000 in
theorem RealSigns_walk (a0 : Int) (a1 : Int) (w0 : (Lit.int .u64 a0).wf = true) (w1 : (Lit.int .u64 a1).wf = true) (w : World) :
    Calls Try.prog 5 #[.int .u64 a0, .int .u64 a1] w fun e w' => e = .returned (.bool true) ∧ Below w.heap.size w w' := by
  obtain ⟨a, rfl, ha⟩ := u64_nat w0
  obtain ⟨b, rfl, hb⟩ := u64_nat w1
  have hA : a < W64 := ha
  have hB : b < W64 := hb
  clear ha hb w0 w1
  cases na : isNaNB a
  · cases nb : isNaNB b
    · have e1 := neg_eq a hA
      have e2 := neg_eq b hB
      have l1 := negN_lt hA
      have l2 := negN_lt hB
      have c1 := cmpN_neg hA hB na nb
      have c2 := cmpN_turn a (negN a)
      have b1 := cmpN_bd a b
      have b2 := cmpN_bd a (negN a)
      unfold isNaNB at na nb
      go_enter Try.func5, Try.ntmps5
      go_wp2_with (first | (go_at_call 21; (with_reducible refine (Cmp_c _ _ (by assumption) (by assumption) _).mono ?_); rintro e w' ⟨rfl, rfl⟩) | (go_at_call 16; (with_reducible refine (known_c _).mono ?_); rintro e w' ⟨rfl, rfl⟩))
      go_ret
      exact ⟨rfl, Below.refl _ _⟩
    · unfold isNaNB at na nb
      go_enter Try.func5, Try.ntmps5
      go_wp2
      go_ret
      exact ⟨rfl, Below.refl _ _⟩
  · unfold isNaNB at na
    go_enter Try.func5, Try.ntmps5
    go_wp2
    go_ret
    exact ⟨rfl, Below.refl _ _⟩
set_option maxHeartbeats 1000000 in
theorem RealOrders_walk (a0 : Int) (a1 : Int) (a2 : Int) (w0 : (Lit.int .u64 a0).wf = true) (w1 : (Lit.int .u64 a1).wf = true) (w2 : (Lit.int .u64 a2).wf = true) (w : World) :
    Calls Try.prog 7 #[.int .u64 a0, .int .u64 a1, .int .u64 a2] w fun e w' => e = .returned (.bool true) ∧ Below w.heap.size w w' := by
  obtain ⟨a, rfl, ha⟩ := u64_nat w0
  obtain ⟨b, rfl, hb⟩ := u64_nat w1
  obtain ⟨c, rfl, hc⟩ := u64_nat w2
  have hA : a < W64 := ha
  have hB : b < W64 := hb
  have hC : c < W64 := hc
  have c1 := cmpN_turn a b
  have c2 := cmpN_self a
  have c3 : cmpN a b ≤ 0 → cmpN b c ≤ 0 → cmpN a c ≤ 0 := fun x y => cmpN_trans x y
  have c4 := cmpN_bd a b
  have c5 := cmpN_bd b c
  have c6 := cmpN_bd a c
  have z1 := cmpN_zero a b
  have z2 := text_eq (keyN_lt hA) (keyN_lt hB)
  have lt := @less_cmp a b hA hB
  have l1 := keyN_lt hA
  clear ha hb hc w0 w1 w2
  rw [← z2] at z1
  clear z2
  have r3 : cmpN a b ≤ 0 ∧ cmpN b c ≤ 0 ∧ cmpN a c ≤ 0 ∨ ¬ cmpN a b ≤ 0 ∨ cmpN a b ≤ 0 ∧ ¬ cmpN b c ≤ 0 := by
    by_cases p : cmpN a b ≤ 0
    · by_cases q : cmpN b c ≤ 0
      · exact .inl ⟨p, q, c3 p q⟩
      · exact .inr (.inr ⟨p, q⟩)
    · exact .inr (.inl p)
  cases hl : (FloatKind.f64.format.order a b == some .lt)
  · clear lt c3
    rcases r3 with ⟨p, q, r⟩ | p | ⟨p, q⟩
    · go_enter Try.func7, Try.ntmps7
      go_wp2_with (first | (go_at_call 21; (with_reducible refine (Cmp_c _ _ (by assumption) (by assumption) _).mono ?_); rintro e w' ⟨rfl, rfl⟩) | (go_at_call 22; (with_reducible refine (Text_c _ (by assumption) _).mono ?_); rintro e w' ⟨rfl, hb1⟩) | (go_at_call 16; (with_reducible refine (known_c _).mono ?_); rintro e w' ⟨rfl, rfl⟩))
      go_ret
      exact ⟨rfl, Below.step (by assumption) (by assumption)⟩
    · go_enter Try.func7, Try.ntmps7
      go_wp2_with (first | (go_at_call 21; (with_reducible refine (Cmp_c _ _ (by assumption) (by assumption) _).mono ?_); rintro e w' ⟨rfl, rfl⟩) | (go_at_call 22; (with_reducible refine (Text_c _ (by assumption) _).mono ?_); rintro e w' ⟨rfl, hb1⟩) | (go_at_call 16; (with_reducible refine (known_c _).mono ?_); rintro e w' ⟨rfl, rfl⟩))
      go_ret
      exact ⟨rfl, Below.step (by assumption) (by assumption)⟩
    · go_enter Try.func7, Try.ntmps7
      go_wp2_with (first | (go_at_call 21; (with_reducible refine (Cmp_c _ _ (by assumption) (by assumption) _).mono ?_); rintro e w' ⟨rfl, rfl⟩) | (go_at_call 22; (with_reducible refine (Text_c _ (by assumption) _).mono ?_); rintro e w' ⟨rfl, hb1⟩) | (go_at_call 16; (with_reducible refine (known_c _).mono ?_); rintro e w' ⟨rfl, rfl⟩))
      go_ret
      exact ⟨rfl, Below.step (by assumption) (by assumption)⟩
  · have e := lt hl
    clear lt c3
    by_cases q : cmpN b c ≤ 0
    · have r : cmpN a c ≤ 0 := cmpN_trans (by omega) q
      rw [e] at z1
      have z : (digs 16 (keyN a) == digs 16 (keyN b)) = false := z1.symm
      rw [e] at c1 c4
      clear r3 z1
      go_enter Try.func7, Try.ntmps7
      go_wp2_with (first | (go_at_call 21; (with_reducible refine (Cmp_c _ _ (by assumption) (by assumption) _).mono ?_); rintro e w' ⟨rfl, rfl⟩) | (go_at_call 22; (with_reducible refine (Text_c _ (by assumption) _).mono ?_); rintro e w' ⟨rfl, hb1⟩) | (go_at_call 16; (with_reducible refine (known_c _).mono ?_); rintro e w' ⟨rfl, rfl⟩))
      go_ret
      exact ⟨rfl, Below.step (by assumption) (by assumption)⟩
    · rw [e] at z1
      have z : (digs 16 (keyN a) == digs 16 (keyN b)) = false := z1.symm
      rw [e] at c1 c4
      clear r3 z1
      go_enter Try.func7, Try.ntmps7
      go_wp2_with (first | (go_at_call 21; (with_reducible refine (Cmp_c _ _ (by assumption) (by assumption) _).mono ?_); rintro e w' ⟨rfl, rfl⟩) | (go_at_call 22; (with_reducible refine (Text_c _ (by assumption) _).mono ?_); rintro e w' ⟨rfl, hb1⟩) | (go_at_call 16; (with_reducible refine (known_c _).mono ?_); rintro e w' ⟨rfl, rfl⟩))
      go_ret
      exact ⟨rfl, Below.step (by assumption) (by assumption)⟩
theorem text_nan : digs 16 18444492273895866368 = [102, 102, 102, 56, 48, 48, 48, 48, 48, 48, 48, 48, 48, 48, 48, 48] := by decide +kernel

set_option maxHeartbeats 1000000 in
theorem RealNaNs_walk (a0 : Int) (a1 : Int) (w0 : (Lit.int .u64 a0).wf = true) (w1 : (Lit.int .u64 a1).wf = true) (w : World) :
    Calls Try.prog 8 #[.int .u64 a0, .int .u64 a1] w fun e w' => e = .returned (.bool true) ∧ Below w.heap.size w w' := by
  obtain ⟨a, rfl, ha⟩ := u64_nat w0
  obtain ⟨b, rfl, hb⟩ := u64_nat w1
  have hA : a < W64 := ha
  have hB : b < W64 := hb
  have o1 := or_nan_bits a hA
  have o2 := orNan_lt a hA
  have o3 := orNan_nan a
  have o4 := key_of_nan o3
  have o5 := norm_of_nan o3
  have tn := text_nan
  have hs := self_eq b
  clear ha hb w0 w1
  cases nb : isNaNB b
  · have c := cmp_nan_left hB o3 nb
    rw [nb] at hs
    unfold isNaNB at nb
    clear o3
    go_enter Try.func8, Try.ntmps8
    go_wp2_with (first | (go_at_call 21; (with_reducible refine (Cmp_c _ _ (by assumption) (by assumption) _).mono ?_); rintro e w' ⟨rfl, rfl⟩) | (go_at_call 18; (with_reducible refine (Key_c _ (by assumption) _).mono ?_); rintro e w' ⟨rfl, rfl⟩) | (go_at_call 20; (with_reducible refine (Norm_c _ _).mono ?_); rintro e w' ⟨rfl, rfl⟩) | (go_at_call 23; (with_reducible refine (RNaN_c _).mono ?_); rintro e w' ⟨rfl, rfl⟩) | (go_at_call 13; (with_reducible refine (Same_c _ _ _).mono ?_); rintro e w' ⟨rfl, rfl⟩) | (go_at_call 22; (with_reducible refine (Text_c _ (by assumption) _).mono ?_); rintro e w' ⟨rfl, hb1⟩) | (go_at_call 16; (with_reducible refine (known_c _).mono ?_); rintro e w' ⟨rfl, rfl⟩))
    go_ret
    exact ⟨rfl, by assumption⟩
  · have c := cmp_nan_both o3 nb
    rw [nb] at hs
    unfold isNaNB at nb
    clear o3
    go_enter Try.func8, Try.ntmps8
    go_wp2_with (first | (go_at_call 21; (with_reducible refine (Cmp_c _ _ (by assumption) (by assumption) _).mono ?_); rintro e w' ⟨rfl, rfl⟩) | (go_at_call 18; (with_reducible refine (Key_c _ (by assumption) _).mono ?_); rintro e w' ⟨rfl, rfl⟩) | (go_at_call 20; (with_reducible refine (Norm_c _ _).mono ?_); rintro e w' ⟨rfl, rfl⟩) | (go_at_call 23; (with_reducible refine (RNaN_c _).mono ?_); rintro e w' ⟨rfl, rfl⟩) | (go_at_call 13; (with_reducible refine (Same_c _ _ _).mono ?_); rintro e w' ⟨rfl, rfl⟩) | (go_at_call 22; (with_reducible refine (Text_c _ (by assumption) _).mono ?_); rintro e w' ⟨rfl, hb1⟩) | (go_at_call 16; (with_reducible refine (known_c _).mono ?_); rintro e w' ⟨rfl, rfl⟩))
    go_ret
    exact ⟨rfl, by assumption⟩

set_option maxHeartbeats 1000000 in
theorem RealTexts_walk (a0 : Int) (a1 : Int) (w0 : (Lit.int .u64 a0).wf = true) (w1 : (Lit.int .u64 a1).wf = true) (w : World) :
    Calls Try.prog 9 #[.int .u64 a0, .int .u64 a1] w fun e w' => e = .returned (.bool true) ∧ Below w.heap.size w w' := by
  obtain ⟨a, rfl, ha⟩ := u64_nat w0
  obtain ⟨b, rfl, hb⟩ := u64_nat w1
  have hA : a < W64 := ha
  have hB : b < W64 := hb
  have T1 := text_less (keyN_lt hA) (keyN_lt hB)
  have T2 := text_eq (keyN_lt hA) (keyN_lt hB)
  have l1 := digs_length 16 (keyN a)
  have l2 := digs_length 16 (keyN b)
  have hc : cmpN a b = cmpI (keyN a) (keyN b) := rfl
  unfold cmpI at hc
  clear ha hb w0 w1
  rcases Nat.lt_trichotomy (keyN a) (keyN b) with h | h | h
  · have c : cmpN a b = -1 := by rw [hc, if_pos (by omega)]
    have t1 : Op.bytesLess (digs 16 (keyN a)) (digs 16 (keyN b)) = true := by rw [T1]; simp [h]
    have t2 : (digs 16 (keyN a) == digs 16 (keyN b)) = false := by rw [T2]; simp; omega
    clear hc h T1 T2
    go_enter Try.func9, Try.ntmps9
    go_wp2_with (first | (go_at_call 21; (with_reducible refine (Cmp_c _ _ (by assumption) (by assumption) _).mono ?_); rintro e w' ⟨rfl, rfl⟩) | (go_at_call 22; (with_reducible refine (Text_c _ (by assumption) _).mono ?_); rintro e w' ⟨rfl, hb1⟩) | (go_at_call 16; (with_reducible refine (known_c _).mono ?_); rintro e w' ⟨rfl, rfl⟩))
    go_ret
    exact ⟨rfl, Below.step (by assumption) (by assumption)⟩
  · have c : cmpN a b = 0 := by rw [hc, if_neg (by omega), if_neg (by omega)]
    have t1 : Op.bytesLess (digs 16 (keyN a)) (digs 16 (keyN b)) = false := by rw [T1]; simp; omega
    have t2 : (digs 16 (keyN a) == digs 16 (keyN b)) = true := by rw [T2]; simp [h]
    clear hc h T1 T2
    go_enter Try.func9, Try.ntmps9
    go_wp2_with (first | (go_at_call 21; (with_reducible refine (Cmp_c _ _ (by assumption) (by assumption) _).mono ?_); rintro e w' ⟨rfl, rfl⟩) | (go_at_call 22; (with_reducible refine (Text_c _ (by assumption) _).mono ?_); rintro e w' ⟨rfl, hb1⟩) | (go_at_call 16; (with_reducible refine (known_c _).mono ?_); rintro e w' ⟨rfl, rfl⟩))
    go_ret
    exact ⟨rfl, Below.step (by assumption) (by assumption)⟩
  · have c : cmpN a b = 1 := by rw [hc, if_neg (by omega), if_pos (by omega)]
    have t1 : Op.bytesLess (digs 16 (keyN a)) (digs 16 (keyN b)) = false := by rw [T1]; simp; omega
    have t2 : (digs 16 (keyN a) == digs 16 (keyN b)) = false := by rw [T2]; simp; omega
    clear hc h T1 T2
    go_enter Try.func9, Try.ntmps9
    go_wp2_with (first | (go_at_call 21; (with_reducible refine (Cmp_c _ _ (by assumption) (by assumption) _).mono ?_); rintro e w' ⟨rfl, rfl⟩) | (go_at_call 22; (with_reducible refine (Text_c _ (by assumption) _).mono ?_); rintro e w' ⟨rfl, hb1⟩) | (go_at_call 16; (with_reducible refine (known_c _).mono ?_); rintro e w' ⟨rfl, rfl⟩))
    go_ret
    exact ⟨rfl, Below.step (by assumption) (by assumption)⟩

set_option maxHeartbeats 1000000 in
theorem RealTells_walk (a0 : Int) (a1 : Int) (w0 : (Lit.int .u64 a0).wf = true) (w1 : (Lit.int .u64 a1).wf = true) (w : World) :
    Calls Try.prog 11 #[.int .u64 a0, .int .u64 a1] w fun e w' => e = .returned (.bool true) ∧ Below w.heap.size w w' := by
  obtain ⟨a, rfl, ha⟩ := u64_nat w0
  obtain ⟨b, rfl, hb⟩ := u64_nat w1
  have hA : a < W64 := ha
  have hB : b < W64 := hb
  clear ha hb w0 w1
  go_enter Try.func11, Try.ntmps11
  go_wp2_with (first | (go_at_call 21; (with_reducible refine (Cmp_c _ _ (by assumption) (by assumption) _).mono ?_); rintro e w' ⟨rfl, rfl⟩) | (go_at_call 30; (with_reducible refine (RCmp_c _ _ (by assumption) (by assumption) _).mono ?_); rintro e w' ⟨rfl, rfl⟩) | (go_at_call 18; (with_reducible refine (Key_c _ (by assumption) _).mono ?_); rintro e w' ⟨rfl, rfl⟩) | (go_at_call 29; (with_reducible refine (RKey_c _ (by assumption) _).mono ?_); rintro e w' ⟨rfl, rfl⟩) | (go_at_call 17; (with_reducible refine (Of_c _ (by assumption) _).mono ?_); rintro e w' ⟨rfl, rfl⟩) | (go_at_call 28; (with_reducible refine (ROf_c _ (by assumption) _).mono ?_); rintro e w' ⟨rfl, rfl⟩) | (go_at_call 26; (with_reducible refine (Weight_c _ _).mono ?_); rintro e w' ⟨rfl, rfl⟩) | (go_at_call 31; (with_reducible refine (RWeight_c _ _).mono ?_); rintro e w' ⟨rfl, rfl⟩) | (go_at_call 20; (with_reducible refine (Norm_c _ _).mono ?_); rintro e w' ⟨rfl, rfl⟩) | (go_at_call 19; (with_reducible refine (RNorm_c _ _).mono ?_); rintro e w' ⟨rfl, rfl⟩) | (go_at_call 13; (with_reducible refine (Same_c _ _ _).mono ?_); rintro e w' ⟨rfl, rfl⟩) | (go_at_call 22; (with_reducible refine (Text_c _ (by assumption) _).mono ?_); rintro e w' ⟨rfl, hb1⟩) | (go_at_call 32; (with_reducible refine (RText_c _ (by assumption) _).mono ?_); rintro e w' ⟨rfl, rfl⟩) | (go_at_call 16; (with_reducible refine (known_c _).mono ?_); rintro e w' ⟨rfl, rfl⟩))
  go_ret
  exact ⟨rfl, by assumption⟩
end Go.Proofs.Ytbkailelmpbogaa
