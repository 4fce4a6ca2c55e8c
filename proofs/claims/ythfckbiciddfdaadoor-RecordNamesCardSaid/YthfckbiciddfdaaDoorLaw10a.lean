
/- The laws on package record: RecordEnds, RecordNames. -/
import Derived.Test.YthfckbiciddfdaaDoorRec2
import Derived.Test.YthfckbiciddfdaaDoorFl
namespace Go.Proofs.YthfckbiciddfdaaDoor
open Go Go.Proofs Go.RowKit Ieee
set_option linter.unusedVariables false
set_option linter.unusedSimpArgs false

theorem floatOfInt_word (n : Int) (h1 : n.natAbs < 18446744073709551616) : ∃ r : Nat, floatOfInt .f64 n = Ieee.double.word (decide (n < 0)) r ∧ r ≤ 9218868437227405312 ∧ (n ≠ 0 → 0 < r) := by
  show ∃ r : Nat, Ieee.double.nearest (decide (n < 0)) n.natAbs 0 = _ ∧ _
  unfold Format.nearest
  by_cases h0 : n.natAbs = 0
  · rw [if_pos h0]; exact ⟨0, rfl, by omega, fun h => by omega⟩
  · rw [if_neg h0]
    refine ⟨_, rfl, by rw [d_inf]; exact Nat.min_le_right _ _, fun _ => ?_⟩
    rw [d_least, d_bin, d_inf]
    have e : 0 < (max ((0 : Int) + (n.natAbs.log2 : Int) - (Ieee.double.fractionBits : Nat)) (-1074) - -1074).toNat := by
      show 0 < (max ((0 : Int) + (n.natAbs.log2 : Int) - (52 : Nat)) (-1074) - -1074).toNat
      omega
    have := Nat.mul_le_mul_right 4503599627370496 e
    omega
theorem float_facts (n : Int) (h1 : n.natAbs < 18446744073709551616) : floatOfInt .f64 n < W64 ∧ weightB (floatOfInt .f64 n) = decide (0 ≤ n) := by
  obtain ⟨r, hr, hle, hpos⟩ := floatOfInt_word n h1
  rw [hr]
  unfold Format.word
  rw [d_sign]
  by_cases hn : n < 0
  · have h0 := hpos (by omega)
    simp only [hn, decide_true, if_true]
    refine ⟨by unfold W64; omega, ?_⟩
    have na : isNaNB (9223372036854775808 + r) = false := by rw [isNaNB_eq]; simp; omega
    have nz : isNaNB 0 = false := by rw [isNaNB_eq]; decide
    have ho := order_rank (9223372036854775808 + r) 0 (by unfold W64; omega) (by unfold W64; omega) na nz
    have hk : rankF (9223372036854775808 + r) < rankF 0 := by
      unfold rankF topBit; rw [if_neg (by omega), if_pos (by omega)]; omega
    unfold weightB
    rw [ho, Int.compare_eq_lt.2 hk, decide_eq_false (by omega)]
    rfl
  · simp only [hn, decide_false, Bool.false_eq_true, if_false]
    refine ⟨by unfold W64; omega, ?_⟩
    have na : isNaNB r = false := by rw [isNaNB_eq]; simp; omega
    have nz : isNaNB 0 = false := by rw [isNaNB_eq]; decide
    have ho := order_rank r 0 (by unfold W64; omega) (by unfold W64; omega) na nz
    have hk : rankF 0 ≤ rankF r := by
      unfold rankF topBit; rw [if_pos (by omega), if_pos (by omega)]; omega
    unfold weightB
    rw [ho, decide_eq_true (by omega)]
    rcases Int.lt_or_eq_of_le hk with h | h
    · rw [Int.compare_eq_gt.2 h]; rfl
    · rw [Int.compare_eq_eq.2 h.symm]; rfl
theorem okED_eq (a b : Int) (t : List UInt8) (x : Nat) : okED ⟨a, b, t, x⟩ = ((decide (1 ≤ a) && decide (a ≤ 24)) && (decide (1 ≤ b) && decide (b ≤ 24)) && nameB t && weightB x) := by simp [okED, Bool.and_assoc]
set_option maxRecDepth 100000 in
set_option maxHeartbeats 4000000 in
theorem RecordEnds_core (a0 : Int) (a1 : Int) (a2 : Int) (w : World) (w0 : (Lit.int .i64 a0).wf = true) (w1 : (Lit.int .i64 a1).wf = true) (w2 : (Lit.int .i64 a2).wf = true) :
    Calls Tryd.prog 6 #[.int .i64 a0, .int .i64 a1, .int .i64 a2] w fun e w' => e = .returned (.bool true) ∧ Below w.heap.size w w' := by
  obtain ⟨hf1, hf2⟩ := float_facts a2 (by simp [Lit.wf, IntKind.min, IntKind.max, IntKind.signed, IntKind.bits] at w2; omega)
  clear w0 w1 w2
  generalize hf : floatOfInt .f64 a2 = f at *
  have HE1 := Lib.hid (fun w => IsEdge_c ⟨a0, a1, [101], f⟩ w (show (1 : Nat) ≤ 9223372036854775807 by decide))
  have HE2 := Lib.hid (fun w => RIsEdge_c ⟨a0, a1, [101], f⟩ w (show (1 : Nat) ≤ 9223372036854775807 by decide))
  have H0 := Lib.hid (Keep.one w (⟨a0, a1, [101], f⟩ : ED).cells 28)
  have hk := ED.facts H0.out.facts
  have HV : Hid (okED ⟨a0, a1, [101], f⟩ = decide ((1 ≤ a0 ∧ a0 ≤ 24) ∧ (1 ≤ a1 ∧ a1 ≤ 24) ∧ 0 ≤ a2)) := Lib.hid (by
    rw [okED_eq, hf2, show nameB [101] = true by decide, Bool.eq_iff_iff]; simp; omega)
  have hc : ((1 ≤ a0 ∧ a0 ≤ 24) ∧ (1 ≤ a1 ∧ a1 ≤ 24) ∧ 0 ≤ a2) ∨ a0 < 1 ∨ (1 ≤ a0 ∧ 24 < a0) ∨ (1 ≤ a0 ∧ a0 ≤ 24 ∧ a1 < 1) ∨ (1 ≤ a0 ∧ a0 ≤ 24 ∧ 1 ≤ a1 ∧ 24 < a1) ∨ (1 ≤ a0 ∧ a0 ≤ 24 ∧ 1 ≤ a1 ∧ a1 ≤ 24 ∧ a2 < 0) := by omega
  rw [HV.out] at HE1 HE2
  unfold ED.v at HE1 HE2
  unfold ED.cells at H0
  dsimp only at HE1 HE2 H0
  clear HV hf1 hf2
  rcases hc with ⟨⟨c1, c2⟩, ⟨c3, c4⟩, c5⟩ | c1 | ⟨c1, c2⟩ | ⟨c1, c2, c3⟩ | ⟨c1, c2, c3, c4⟩ | ⟨c1, c2, c3, c4, c5⟩
  all_goals
    first
    | rw [decide_eq_true (by omega)] at HE1 HE2
    | rw [decide_eq_false (by omega)] at HE1 HE2
    go_enter Tryd.func6, Tryd.ntmps6
    go_wp2_with (first | (go_at_call 13; (with_reducible refine (HE1.out _).mono ?_); rintro e wq ⟨rfl, hq⟩; have HT := Lib.hid (Keep.on (Hid.out (by assumption)) hq); clear hq; have hk := ED.facts HT.out.facts) | (go_at_call 14; (with_reducible refine (HE2.out _).mono ?_); rintro e wq ⟨rfl, hq⟩; have HT := Lib.hid (Keep.on (Hid.out (by assumption)) hq); clear hq) | (go_at_call 10; (with_reducible refine (known10_c _).mono ?_); rintro e wq ⟨rfl, hq⟩; have HT := Lib.hid (Keep.on (Hid.out (by assumption)) hq); clear hq))
    go_ret
    exact ⟨by first | rfl | (refine congrArg (fun b => Ending.returned (Value.bool b)) ?_; simp; omega), HT.out.below⟩
theorem node_one (t : List UInt8) : nodeB [t] [] = nameB t := by
  simp [nodeB, namesB, stepB, List.range_succ]
theorem edge_one (t : List UInt8) : okED ⟨1, 2, t, 0⟩ = nameB t := by
  rw [okED_eq, show weightB 0 = true by decide +kernel]; simp
set_option maxRecDepth 100000 in
set_option maxHeartbeats 4000000 in
theorem RecordNames_core (s0 : ByteArray) (w : World) (w0 : s0.size ≤ maxLen) :
    Calls Tryd.prog 4 #[.string s0] w fun e w' => e = .returned (.bool true) ∧ Below w.heap.size w w' := by
  obtain ⟨t, rfl⟩ : ∃ t : List UInt8, s0 = ⟨t.toArray⟩ := ⟨s0.data.toList, (bytes_of s0).symm⟩
  have hlen : t.length ≤ 9223372036854775807 := by
    have m9 : maxLen = 9223372036854775807 := by decide
    rw [m9] at w0; simpa [ByteArray.size] using w0
  clear w0
  by_cases h40 : t.length ≤ 40
  · have HN := Lib.hid (fun w => IsName_c t w hlen)
    have HE := Lib.hid (fun w => IsEdge_c ⟨1, 2, t, 0⟩ w hlen)
    have HD := Lib.hid (fun (w : World) h => IsNode_c [t] [] (.slice (some ⟨w.heap.size, 0, none⟩) 1 1) (.slice none 0 0) (w.alloc (.cells #[.string ⟨t.toArray⟩] 9)) h (RowK.nil 6 _) (by intro s hs; simp at hs; subst hs; exact hlen) (by simp) (by simp))
    have HR := Lib.hid (fun (w : World) => RowAt.new w [strV t] 9 1 (show (1 : Nat) ≤ maxLen by decide) (Nat.le_refl 1))
    rw [node_one] at HD
    rw [edge_one] at HE
    unfold ED.v at HE
    dsimp only at HE
    have HB : Hid (nameB t = (t.all letterB && (decide ((1 : Int) ≤ (t.length : Int)) && decide ((t.length : Int) ≤ 8)))) := Lib.hid (by
      rw [nameB_eq, Bool.and_assoc]; congr 2 <;> exact decide_eq_decide.2 (by omega))
    have hnn : (nameB t == nameB t) = true := by simp
    generalize nameB t = nb at *
    cases hl1 : decide ((1 : Int) ≤ (t.length : Int)) <;> cases hl8 : decide ((t.length : Int) ≤ 8)
    all_goals
      rw [hl1, hl8] at HB
      go_enter Tryd.func4, Tryd.ntmps4
      go_wp2_with fail
      go_loopw [3, 4] (fun u i wr => ∃ j : Nat, j ≤ t.length ∧ i = .int .i64 (j : Int) ∧ (∃ b, u = .bool b ∧ b = ((t.take j).all letterB && (decide ((1 : Int) ≤ (t.length : Int)) && decide ((t.length : Int) ≤ 8)))) ∧ wr = w) (fun _ i _ => t.length - (intOf i).toNat)
      case atStart => exact ⟨0, by omega, rfl, ⟨_, rfl, by rw [hl1, hl8]; rfl⟩, rfl⟩
      case round =>
        obtain ⟨j, hj, rfl, ⟨b, rfl, hb⟩, rfl⟩ := hrel
        rw [hl1, hl8] at hb
        have HBB := Lib.hid hb
        clear hb
        by_cases hlt : j < t.length
        · have hat := fun w => run_at_list0 w t j hlt
          have hs := all_take_s letterB t j hlt
          have hok : letterB t[j] = (decide ((97 : Int) ≤ (t[j].toNat : Int)) && decide ((t[j].toNat : Int) ≤ 122)) := by
            unfold letterB; congr 1 <;> exact decide_eq_decide.2 (by omega)
          have HS := Lib.hid hs
          have HO := Lib.hid hok
          clear hs hok
          generalize t[j] = c at *
          have hi1 : (j : Int) < (t.length : Int) := by omega
          cases b
          · go_wp2_with fail
            exact ⟨⟨j + 1, by omega, by go_num, ⟨_, rfl, by rw [HS.out]; have := HBB.out; revert this; rw [hl1, hl8]; cases (t.take j).all letterB <;> simp⟩, by first | rfl | trivial⟩, by simp [intOf]; omega⟩
          · cases h97 : decide ((97 : Int) ≤ (c.toNat : Int))
            all_goals
              rw [h97] at HO
              go_wp2_with fail
              exact ⟨⟨j + 1, by omega, by go_num, ⟨_, rfl, by rw [HS.out, HO.out]; have := HBB.out; revert this; rw [hl1, hl8]; cases (t.take j).all letterB <;> simp⟩, by first | rfl | trivial⟩, by simp [intOf]; omega⟩
        · obtain rfl : j = t.length := by omega
          rw [List.take_of_length_le (Nat.le_refl _), ← HB.out] at HBB
          obtain rfl : b = nb := HBB.out
          clear HB HBB
          cases b
          all_goals
            go_wp2_with (first | (go_at_call 11; (with_reducible refine (HN.out _).mono ?_); rintro e wq ⟨rfl, hq⟩) | (go_at_call 12; (with_reducible refine (HD.out _ (HR.out _)).mono ?_); rintro e wq ⟨rfl, hz⟩; have hq := hq.trans ((((Below.refl _ _).alloc (Nat.le_refl _) _).trans (hz.mono (by simp))).mono hq.size); clear hz) | (go_at_call 13; (with_reducible refine (HE.out _).mono ?_); rintro e wq ⟨rfl, hz⟩; have hq := hq.trans (hz.mono hq.size); clear hz) | (go_at_call 10; (with_reducible refine (known10_c _).mono ?_); rintro e wq ⟨rfl, hz⟩; have hq := hq.trans (hz.mono hq.size); clear hz))
            go_ret
            exact ⟨rfl, hq⟩
  · go_enter Tryd.func4, Tryd.ntmps4
    go_wp2_with fail
    go_ret
    exact ⟨rfl, Below.refl _ w⟩
end Go.Proofs.YthfckbiciddfdaaDoor
