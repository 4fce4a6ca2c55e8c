/- The laws on package value: ValueTexts. -/
import Derived.Test.YtbnhepcfjjephaaLaw2b
import Derived.Test.YtbnhepcfjjephaaOddF
namespace Go.Proofs.Ytbnhepcfjjephaa
open Go Go.Proofs Go.RowKit
set_option linter.unusedVariables false
set_option linter.unusedSimpArgs false

theorem text_v (t : List UInt8) : isV ⟨4, false, 0, 0, t⟩ = isT t := by simp [isV, sameV, namedV]
theorem text_cmp (s t : List UInt8) : decide (cmpV ⟨4, false, 0, 0, s⟩ ⟨4, false, 0, 0, t⟩ < 0) = Op.bytesLess s t := by
  have : cmpV ⟨4, false, 0, 0, s⟩ ⟨4, false, 0, 0, t⟩ = cmpT s t := by simp [cmpV]
  rw [this]
  unfold cmpT
  cases Op.bytesLess s t
  · simp; split <;> omega
  · simp
theorem as_list (s : ByteArray) : ∃ l : List UInt8, s = ⟨l.toArray⟩ ∧ l.length = s.size := ⟨s.data.toList, by cases s; simp, by rw [Array.length_toList]; rfl⟩
set_option maxRecDepth 100000 in
set_option maxHeartbeats 4000000 in
theorem ValueTexts_core (s0 : ByteArray) (s1 : ByteArray) (w : World) (w0 : s0.size ≤ maxLen) (w1 : s1.size ≤ maxLen) :
    Calls Try.prog 13 #[.string s0, .string s1] w fun e w' => e = .returned (.bool true) ∧ Below w.heap.size w w' := by
  obtain ⟨t, rfl, hl⟩ := as_list s0
  obtain ⟨t', rfl, hl'⟩ := as_list s1
  have m9 : maxLen = 9223372036854775807 := by decide
  rw [← hl, m9] at w0
  rw [← hl', m9] at w1
  clear hl hl' m9
  by_cases hs : t.length ≤ 60
  · by_cases ht : t'.length ≤ 60
    · have HM := Lib.hid (fun W B hB => may2_c ⟨4, false, 0, 0, t⟩ ⟨4, false, 0, 0, t'⟩ W B hB w0 w1)
      have HI := Lib.hid (fun w => Is_c ⟨4, false, 0, 0, t⟩ w)
      have HC := Lib.hid (fun w => VCmp_c ⟨4, false, 0, 0, t⟩ ⟨4, false, 0, 0, t'⟩ w z64 z64)
      have HA := Lib.hid (boxes2 w ⟨4, false, 0, 0, t⟩ ⟨4, false, 0, 0, t'⟩)
      have hc := text_cmp t t'
      rw [text_v, isT_eq] at HI
      clear w0 w1
      generalize (isV ⟨4, false, 0, 0, t⟩ && isV ⟨4, false, 0, 0, t'⟩) = mv at *
      generalize cmpV ⟨4, false, 0, 0, t⟩ ⟨4, false, 0, 0, t'⟩ = c at *
      unfold V5.v at *
      go_enter Try.func13, Try.ntmps13
      go_wp2_with fail
      generalize (w.alloc (.cells #[.int .i64 4, .bool false, .int .i64 0, .float .f64 0, .string ⟨t.toArray⟩] 53)).alloc (.cells #[.int .i64 4, .bool false, .int .i64 0, .float .f64 0, .string ⟨t'.toArray⟩] 53) = W0 at *
      go_loopw [7, 8] (fun o i wr => ∃ j : Nat, j ≤ t.length ∧ i = .int .i64 (j : Int) ∧ o = .bool (decide (t.length ≤ 12) && (t.take j).all okB) ∧ wr = W0) (fun _ i _ => t.length - (intOf i).toNat)
      case atStart => exact ⟨0, by omega, rfl, by simp; omega, rfl⟩
      case round =>
        obtain ⟨j, hj, rfl, rfl, rfl⟩ := hrel
        by_cases hlt : j < t.length
        · have hat := fun w => run_at_list w t j hlt
          have hsn := all_take_succ t j hlt
          have hok : okB t[j] = (decide (32 ≤ t[j].toNat) && decide (t[j].toNat ≤ 126)) := rfl
          rw [hok] at hsn
          have HSN := Lib.hid hsn
          clear hsn hok
          generalize (t.take j).all okB = av at *
          cases hov : (decide (t.length ≤ 12) && av)
          all_goals
            go_wp2_with fail
            all_goals
              refine ⟨⟨j + 1, by omega, by go_num, ?_, trivial⟩, by simp [intOf]; omega⟩
              rw [HSN.out, ← Bool.and_assoc, hov]
              first | (simp; done) | (congr 1; rw [Bool.eq_iff_iff]; (try simp); omega) | (exact congrArg Value.bool (by first | rfl | (simp; done) | (simp; omega)))
        · rw [List.take_of_length_le (by omega)]
          generalize (decide (t.length ≤ 12) && t.all okB) = ov at *
          have hoo : (ov != ov) = false := by simp
          clear hs ht
          have hk := HA.out.all
          dsimp only at hk
          go_wp2_with (first | (go_at_call 43; (with_reducible refine (HI.out _).mono ?_); rintro e wq ⟨rfl, hq⟩; have HT := Lib.hid (HA.out.below hq); clear hq; have hk := HT.out.all; dsimp only at hk))
          refine (HM.out _ _ (by simp)).mono ?_
          rintro e wq ⟨rfl, hq⟩
          have HT := Lib.hid (Two2.below (Hid.out (by assumption)) hq)
          have hk := HT.out.all
          dsimp only at hk
          clear hq
          cases mv
          all_goals
            go_wp2_with (first | (go_at_call 39; (with_reducible refine (HC.out _).mono ?_); rintro e wq ⟨rfl, hq⟩; have HT := Lib.hid (Two2.below (Hid.out (by assumption)) hq); clear hq; have hk := HT.out.all; dsimp only at hk) | (go_at_call 42; (with_reducible refine (known2_c _).mono ?_); rintro e wq ⟨rfl, hq⟩; have HT := Lib.hid (Two2.below (Hid.out (by assumption)) hq); clear hq; have hk := HT.out.all; dsimp only at hk))
            all_goals go_ret
            all_goals exact ⟨rfl, HT.out.2.2⟩
    · go_enter Try.func13, Try.ntmps13
      go_wp2_with fail
      all_goals first | (exfalso; omega) | (go_ret; exact ⟨rfl, Below.refl _ w⟩)
  · go_enter Try.func13, Try.ntmps13
    go_wp2_with fail
    all_goals first | (exfalso; omega) | (go_ret; exact ⟨rfl, Below.refl _ w⟩)
end Go.Proofs.Ytbnhepcfjjephaa
