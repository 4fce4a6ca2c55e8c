/- Contracts of Sum (package real and its reference): the sum of the words, from left to right, normed. -/
import Derived.Test.YtbkailelmpbogaaReal
import Derived.Test.YtbkailelmpbogaaBase
import Derived.Deep.Draws
namespace Go.Proofs.Ytbkailelmpbogaa
open Go Go.RowKit Ieee

theorem add_nan_left {a b : Nat} (h : isNaNB a = true) : Ieee.double.add a b = none := by
  rw [isNaNB_eq] at h
  unfold Format.add
  rw [read_nan a (by simpa using h)]
  cases Ieee.double.read b <;> rfl

/-- the sum as far as it is a number; none: a NaN has come. -/
def sumO (fs : List Nat) : Option Nat := fs.foldl (fun s f => s.bind (Ieee.double.add · f)) (some 0)
def sumN (fs : List Nat) : Nat := match sumO fs with | some b => normN b | none => nanBits
/-- what the running sum holds. -/
def SumIs (s : Option Nat) (acc : Nat) : Prop := acc < W64 ∧ match s with | some b => acc = b | none => isNaNB acc = true
theorem sumO_snoc (fs : List Nat) (f : Nat) : sumO (fs ++ [f]) = (sumO fs).bind (Ieee.double.add · f) := by simp [sumO, List.foldl_append]
theorem norm_sum {fs : List Nat} {acc : Nat} (h : SumIs (sumO fs) acc) : normN acc = sumN fs := by
  unfold SumIs at h
  unfold sumN
  cases hs : sumO fs with
  | none => rw [hs] at h; exact norm_of_nan h.2
  | some b => rw [hs] at h; rw [h.2]

theorem run_fadd (t : TypeId) (x y : Nat) (w : World) : ∃ r m, (binOp .add t (.float .f64 x) (.float .f64 y)).run Try.prog w = .ok (.float .f64 r) (w.drewN m) ∧ SumIs (Ieee.double.add x y) r := by
  cases h : Ieee.double.add x y with
  | some r =>
    refine ⟨r, 0, ?_, ?_⟩
    · have := run_float_arith (P := Try.prog) w .add t .f64 x y r h
      exact this
    · have := Ieee.double.add_lt h
      rw [show Ieee.double.width = 64 from rfl] at this
      exact ⟨by rw [show W64 = 2 ^ 64 from by decide +kernel]; exact this, rfl⟩
  | none =>
    refine ⟨(Question.nanBits .f64 x y).cut (w.tape w.drawn (Question.nanBits .f64 x y)), 1, ?_, ?_⟩
    · have hf : FloatKind.f64.format.add x y = none := h
      simp [binOp, Op.floatArith, hf, Question.forced]
      rfl
    · unfold SumIs
      simp only [Question.cut]
      generalize w.tape w.drawn (Question.nanBits .f64 x y) = t
      have e63 : (2 : Nat) ^ 63 = 9223372036854775808 := by decide +kernel
      have e52 : (2 : Nat) ^ 52 - 1 = 4503599627370495 := by decide +kernel
      rw [e63, e52, isNaNB_eq, decide_eq_true_iff]
      have h1 : t % 2 < 2 := Nat.mod_lt _ (by omega)
      have h2 : t / 2 % 4503599627370495 < 4503599627370495 := Nat.mod_lt _ (by omega)
      unfold W64
      generalize t / 2 % 4503599627370495 = u at *
      generalize t % 2 = v at *
      constructor <;> omega

def Drawn (w w' : World) : Prop := ∃ m, w' = w.drewN m
theorem Drawn.below {w w' : World} (h : Drawn w w') (B : Nat) : Below B w w' := by
  obtain ⟨m, rfl⟩ := h; exact ⟨rfl, rfl, rfl, Nat.le_refl _, fun _ _ => rfl⟩

set_option maxHeartbeats 400000 in
theorem Sum_nil (w : World) :
    Calls Try.prog 14 #[.slice none 0 0] w fun e w' => e = .returned (.float .f64 (sumN [])) ∧ w = w' := by
  have hz : normN 0 = 0 := by decide +kernel
  go_enter Try.func14, Try.ntmps14
  go_wp2
  go_rounds 1
  go_wp2_with (first | (go_at_call 20; (with_reducible refine (Norm_c _ _).mono ?_); rintro e w' ⟨rfl, rfl⟩))
  go_ret
  exact ⟨rfl, rfl⟩

set_option maxHeartbeats 400000 in
theorem Sum_c (b o c : Nat) (fs : List Nat) (w : World) (hlen : fs.length ≤ 9223372036854775807)
    (hcell : ∀ i, i < fs.length → w.cell? ⟨b, o + i, none⟩ = some (.float .f64 (fs.getD i 0))) :
    Calls Try.prog 14 #[.slice (some ⟨b, o, none⟩) fs.length c] w fun e w' => e = .returned (.float .f64 (sumN fs)) ∧ Drawn w w' := by
  have HC := Lib.hid hcell
  clear hcell
  go_enter Try.func14, Try.ntmps14
  go_wp2
  go_loopw [3, 8] (fun s i wr => ∃ k acc m : Nat, k ≤ fs.length ∧ i = .int .i64 k ∧ s = .float .f64 acc ∧ SumIs (sumO (fs.take k)) acc ∧ wr = w.drewN m) (fun _ i _ => fs.length - (intOf i).toNat)
  case atStart => exact ⟨0, 0, 0, by omega, rfl, rfl, ⟨by decide, rfl⟩, rfl⟩
  case round =>
    obtain ⟨k, acc, m, hk, rfl, rfl, hs, rfl⟩ := hrel
    by_cases hlt : k < fs.length
    · have hc := HC.out k hlt
      have ht : fs.take (k + 1) = fs.take k ++ [fs.getD k 0] := by
        rw [List.take_succ_eq_append_getElem hlt]; simp [List.getD, List.getElem?_eq_getElem hlt]
      have he := sumO_snoc (fs.take k) (fs.getD k 0)
      rw [← ht] at he
      clear ht
      generalize fs.getD k 0 = f at *
      obtain ⟨r, m', hadd, hr⟩ := run_fadd 24 acc f (w.drewN m)
      rw [World.drewN_drewN] at hadd
      have hr2 : SumIs (sumO (fs.take (k + 1))) r := by
        rw [he]
        cases hs0 : sumO (fs.take k) with
        | some a =>
          rw [hs0] at hs
          rw [← hs.2]; exact hr
        | none =>
          rw [hs0] at hs
          rw [add_nan_left hs.2] at hr
          exact hr
      have HR := Lib.hid hr2
      clear hr hs he hr2
      go_wp2
      go_roundw
      case rel => exact ⟨k + 1, r, m + m', by omega, by go_num, rfl, HR.out, rfl⟩
      case measure => simp [intOf]; omega
    · have hs2 := norm_sum hs
      rw [List.take_of_length_le (by omega)] at hs2
      have HS := Lib.hid hs2
      clear hs hs2
      go_wp2_with (first | (go_at_call 20; (with_reducible refine (Norm_c _ _).mono ?_); rintro e w' ⟨rfl, rfl⟩))
      go_ret
      exact ⟨by rw [HS.out]; rfl, ⟨m, rfl⟩⟩

set_option maxHeartbeats 400000 in
theorem RSum_nil (w : World) :
    Calls Try.prog 15 #[.slice none 0 0] w fun e w' => e = .returned (.float .f64 (sumN [])) ∧ w = w' := by
  have hz : normN 0 = 0 := by decide +kernel
  go_enter Try.func15, Try.ntmps15
  go_wp2
  go_rounds 1
  go_wp2_with (first | (go_at_call 19; (with_reducible refine (RNorm_c _ _).mono ?_); rintro e w' ⟨rfl, rfl⟩))
  go_ret
  exact ⟨rfl, rfl⟩

set_option maxHeartbeats 400000 in
theorem RSum_c (b o c : Nat) (fs : List Nat) (w : World) (hlen : fs.length ≤ 9223372036854775807)
    (hcell : ∀ i, i < fs.length → w.cell? ⟨b, o + i, none⟩ = some (.float .f64 (fs.getD i 0))) :
    Calls Try.prog 15 #[.slice (some ⟨b, o, none⟩) fs.length c] w fun e w' => e = .returned (.float .f64 (sumN fs)) ∧ Drawn w w' := by
  have HC := Lib.hid hcell
  clear hcell
  go_enter Try.func15, Try.ntmps15
  go_wp2
  go_loopw [3, 4] (fun s i wr => ∃ k acc m : Nat, k ≤ fs.length ∧ i = .int .i64 k ∧ s = .float .f64 acc ∧ SumIs (sumO (fs.take k)) acc ∧ wr = w.drewN m) (fun _ i _ => fs.length - (intOf i).toNat)
  case atStart => exact ⟨0, 0, 0, by omega, rfl, rfl, ⟨by decide, rfl⟩, rfl⟩
  case round =>
    obtain ⟨k, acc, m, hk, rfl, rfl, hs, rfl⟩ := hrel
    by_cases hlt : k < fs.length
    · have hc := HC.out k hlt
      have ht : fs.take (k + 1) = fs.take k ++ [fs.getD k 0] := by
        rw [List.take_succ_eq_append_getElem hlt]; simp [List.getD, List.getElem?_eq_getElem hlt]
      have he := sumO_snoc (fs.take k) (fs.getD k 0)
      rw [← ht] at he
      clear ht
      generalize fs.getD k 0 = f at *
      obtain ⟨r, m', hadd, hr⟩ := run_fadd 24 acc f (w.drewN m)
      rw [World.drewN_drewN] at hadd
      have hr2 : SumIs (sumO (fs.take (k + 1))) r := by
        rw [he]
        cases hs0 : sumO (fs.take k) with
        | some a =>
          rw [hs0] at hs
          rw [← hs.2]; exact hr
        | none =>
          rw [hs0] at hs
          rw [add_nan_left hs.2] at hr
          exact hr
      have HR := Lib.hid hr2
      clear hr hs he hr2
      go_wp2
      go_roundw
      case rel => exact ⟨k + 1, r, m + m', by omega, by go_num, rfl, HR.out, rfl⟩
      case measure => simp [intOf]; omega
    · have hs2 := norm_sum hs
      rw [List.take_of_length_le (by omega)] at hs2
      have HS := Lib.hid hs2
      clear hs hs2
      go_wp2_with (first | (go_at_call 19; (with_reducible refine (RNorm_c _ _).mono ?_); rintro e w' ⟨rfl, rfl⟩))
      go_ret
      exact ⟨by rw [HS.out]; rfl, ⟨m, rfl⟩⟩
end Go.Proofs.Ytbkailelmpbogaa
