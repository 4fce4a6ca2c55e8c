/- Plain facts for ValueOdd and ValueReals: float64(n) of a whole number that is not nought; which odd values may be. -/
import Derived.Test.YtbnhepcfjjephaaVLaw
namespace Go.Proofs.Ytbnhepcfjjephaa
open Go Go.RowKit Ieee
set_option linter.unusedVariables false
set_option linter.unusedSimpArgs false

theorem fl_ok (n : Int) (h : n ≠ 0) : FloatKind.f64.nearest n ≠ 0 ∧ FloatKind.f64.nearest n < W64 ∧ isNaNB (FloatKind.f64.nearest n) = false := by
  have hm : n.natAbs ≠ 0 := by omega
  have key : ∃ q kept : Nat, FloatKind.f64.nearest n = Ieee.double.word (decide (n < 0)) (min (q * Ieee.double.binade + kept) Ieee.double.infRung) ∧ 1022 ≤ q := by
    have e : FloatKind.f64.nearest n = Ieee.double.nearest (decide (n < 0)) n.natAbs 0 := rfl
    rw [e]
    unfold Format.nearest
    rw [if_neg hm]
    refine ⟨_, _, rfl, ?_⟩
    have hf : (Ieee.double.fractionBits : Int) = 52 := rfl
    rw [hf, d_least]
    omega
  obtain ⟨q, kept, e, hq⟩ := key
  rw [e, d_bin, d_inf]
  have hr : 1 ≤ min (q * 4503599627370496 + kept) 9218868437227405312 ∧ min (q * 4503599627370496 + kept) 9218868437227405312 ≤ 9218868437227405312 := by
    have : 1022 * 4503599627370496 ≤ q * 4503599627370496 := Nat.mul_le_mul_right _ hq
    omega
  generalize min (q * 4503599627370496 + kept) 9218868437227405312 = r at *
  clear e
  unfold Format.word
  rw [d_sign, isNaNB_eq]
  unfold W64
  split <;> (refine ⟨by omega, by omega, ?_⟩; simp; omega)
theorem odd_b (k : Int) : isV ⟨k, true, 0, 0, []⟩ = (k == 1) := by
  by_cases h : k = 1
  · subst h; rfl
  · have : isV ⟨k, true, 0, 0, []⟩ = false := by
      cases hv : isV ⟨k, true, 0, 0, []⟩
      · rfl
      · have := (isV_out hv).1 h; simp at this
    rw [this]; simp [h]
theorem odd_n (k n : Int) (hn : n ≠ 0) : isV ⟨k, false, n, 0, []⟩ = (k == 2) := by
  by_cases h : k = 2
  · subst h; simp [isV, sameV, namedV, isT]
  · have : isV ⟨k, false, n, 0, []⟩ = false := by
      cases hv : isV ⟨k, false, n, 0, []⟩
      · rfl
      · exact absurd ((isV_out hv).2.1 h) hn
    rw [this]; simp [h]
theorem odd_f (k : Int) (f : Nat) (h0 : f ≠ 0) (hn : isNaNB f = false) : isV ⟨k, false, 0, f, []⟩ = (k == 3) := by
  by_cases h : k = 3
  · subst h; simp [isV, sameV, namedV, isT, norm_of_not hn]
  · have : isV ⟨k, false, 0, f, []⟩ = false := by
      cases hv : isV ⟨k, false, 0, f, []⟩
      · rfl
      · exact absurd ((isV_out hv).2.2.1 h) h0
    rw [this]; simp [h]
theorem odd_t (k : Int) : isV ⟨k, false, 0, 0, [0x78]⟩ = (k == 4) := by
  by_cases h : k = 4
  · subst h; decide +kernel
  · have : isV ⟨k, false, 0, 0, [0x78]⟩ = false := by
      cases hv : isV ⟨k, false, 0, 0, [0x78]⟩
      · rfl
      · have := (isV_out hv).2.2.2.1 h; simp at this
    rw [this]; simp [h]
theorem real_v (f : Nat) : isV ⟨3, false, 0, f, []⟩ = (!isNaNB f || ((f : Int) == 9221120237041090560)) := by
  have e : isV ⟨3, false, 0, f, []⟩ = decide (normN f = f) := by
    simp [isV, sameV, namedV, isT]
    rw [Bool.eq_iff_iff]; simp; omega
  rw [e]
  unfold normN nanBits
  cases isNaNB f
  · simp
  · simp; rw [Bool.eq_iff_iff]; simp; omega
theorem real_same (f g : Nat) (hf : f < W64) (hg : g < W64) (h : (isV ⟨3, false, 0, f, []⟩ && isV ⟨3, false, 0, g, []⟩) = true) : (cmpV ⟨3, false, 0, f, []⟩ ⟨3, false, 0, g, []⟩ == 0) = ((f : Int) == (g : Int)) := by
  simp only [Bool.and_eq_true] at h
  have := cmpV_zero (x := ⟨3, false, 0, f, []⟩) (y := ⟨3, false, 0, g, []⟩) h.1 h.2 hf hg
  rw [Bool.eq_iff_iff, beq_iff_eq, this]
  simp
  omega
end Go.Proofs.Ytbnhepcfjjephaa
