/- The laws on package value: ValueReals, ValueOdd, ValueTexts. -/
import Derived.Test.YtbnhepcfjjephaaLaw2b
import Derived.Test.YtbnhepcfjjephaaOddF
namespace Go.Proofs.Ytbnhepcfjjephaa
open Go Go.Proofs Go.RowKit
set_option linter.unusedVariables false
set_option linter.unusedSimpArgs false

set_option maxRecDepth 100000 in
set_option maxHeartbeats 4000000 in
theorem ValueReals_core (a0 : Int) (a1 : Int) (w : World) (w0 : (Lit.int .u64 a0).wf = true) (w1 : (Lit.int .u64 a1).wf = true) :
    Calls Try.prog 11 #[.int .u64 a0, .int .u64 a1] w fun e w' => e = .returned (.bool true) ∧ Below w.heap.size w w' := by
  obtain ⟨f, rfl, hf⟩ := u64_nat w0
  obtain ⟨f', rfl, hf'⟩ := u64_nat w1
  clear w0 w1
  have HM := Lib.hid (fun W B hB => may2_c ⟨3, false, 0, f, []⟩ ⟨3, false, 0, f', []⟩ W B hB (by simp) (by simp))
  have HI := Lib.hid (fun w => Is_c ⟨3, false, 0, f, []⟩ w)
  have HC := Lib.hid (fun w => VCmp_c ⟨3, false, 0, f, []⟩ ⟨3, false, 0, f', []⟩ w hf hf')
  have HXC := Lib.hid (fun w => XCmp_c ⟨3, false, 0, f, []⟩ ⟨3, false, 0, f', []⟩ w hf hf')
  have HS := Lib.hid (fun w => VSame_c ⟨3, false, 0, f, []⟩ ⟨3, false, 0, f', []⟩ w hf hf')
  have HA := Lib.hid (boxes2 w ⟨3, false, 0, f, []⟩ ⟨3, false, 0, f', []⟩)
  have HZ := Lib.hid (real_same f f' hf hf')
  have HO := Lib.hid (real_v f)
  have hse := self_eq f
  clear hf hf'
  generalize (isV ⟨3, false, 0, f, []⟩ && isV ⟨3, false, 0, f', []⟩) = mv at *
  generalize isV ⟨3, false, 0, f, []⟩ = iv at *
  generalize cmpV ⟨3, false, 0, f, []⟩ ⟨3, false, 0, f', []⟩ = c at *
  generalize isNaNB f = nn at *
  unfold V5.v at *
  cases nn
  · have ho := HO.out
    simp only [Bool.not_false, Bool.true_or] at ho
    subst ho
    rw [Bool.not_false] at hse
    clear HO
    go_enter Try.func11, Try.ntmps11
    go_wp2_with (first | (go_at_call 43; (with_reducible refine (HI.out _).mono ?_); rintro e wq ⟨rfl, hq⟩; have HT := Lib.hid (Two2.below (Hid.out (by assumption)) hq); clear hq; have hk := HT.out.all; dsimp only at hk))
    refine (HM.out _ _ (by simp)).mono ?_
    rintro e wq ⟨rfl, hq⟩
    have HT := Lib.hid (Two2.below (Hid.out (by assumption)) hq)
    have hk := HT.out.all
    dsimp only at hk
    clear hq
    cases mv
    · go_wp2_with (first | (go_at_call 42; (with_reducible refine (known2_c _).mono ?_); rintro e wq ⟨rfl, hq⟩; have HT := Lib.hid (Two2.below (Hid.out (by assumption)) hq); clear hq; have hk := HT.out.all; dsimp only at hk))
      go_ret
      exact ⟨rfl, HT.out.2.2⟩
    have hz := HZ.out rfl
    have hcc : (c == c) = true := by simp
    have HT := Lib.hid HT.out.drew
    clear hk
    go_wp2_with fail
    (first | go_region_held3 (fun w' => w'.cell? ⟨w.heap.size, 0, none⟩ = some (.int .i64 3) ∧ w'.cell? ⟨w.heap.size, 1, none⟩ = some (.bool false) ∧ w'.cell? ⟨w.heap.size, 2, none⟩ = some (.int .i64 0) ∧ w'.cell? ⟨w.heap.size, 3, none⟩ = some (.float .f64 f) ∧ w'.cell? ⟨w.heap.size, 4, none⟩ = some (.string ⟨#[]⟩) ∧ w'.cell? ⟨w.heap.size + 1, 0, none⟩ = some (.int .i64 3) ∧ w'.cell? ⟨w.heap.size + 1, 1, none⟩ = some (.bool false) ∧ w'.cell? ⟨w.heap.size + 1, 2, none⟩ = some (.int .i64 0) ∧ w'.cell? ⟨w.heap.size + 1, 3, none⟩ = some (.float .f64 f') ∧ w'.cell? ⟨w.heap.size + 1, 4, none⟩ = some (.string ⟨#[]⟩)) ((refine Two2.all (w0 := w) (x := ⟨3, false, 0, f, []⟩) (y := ⟨3, false, 0, f', []⟩) (Hid.out ?_); assumption)) (first | (go_at_call 39; (with_reducible refine (HC.out _).mono ?_); rintro e wq ⟨rfl, hq⟩; have HT := Lib.hid (Two2.below (Hid.out (by assumption)) hq); clear hq) | (go_at_call 44; (with_reducible refine (HXC.out _).mono ?_); rintro e wq ⟨rfl, hq⟩; have HT := Lib.hid (Two2.below (Hid.out (by assumption)) hq); clear hq) | (go_at_call 41; (with_reducible refine (HS.out _).mono ?_); rintro e wq ⟨rfl, hq⟩; have HT := Lib.hid (Two2.below (Hid.out (by assumption)) hq); clear hq) | (go_at_call 42; (with_reducible refine (known2_c _).mono ?_); rintro e wq ⟨rfl, hq⟩; have HT := Lib.hid (Two2.below (Hid.out (by assumption)) hq); clear hq)) | fail)
    go_wp2_with fail
    go_ret
    exact ⟨rfl, HT.out.2.2⟩
  · have ho := HO.out
    simp only [Bool.not_true, Bool.false_or] at ho
    have ho2 := ho.symm
    rw [Bool.not_true] at hse
    clear HO ho
    cases iv
    all_goals
      go_enter Try.func11, Try.ntmps11
      go_wp2_with (first | (go_at_call 43; (with_reducible refine (HI.out _).mono ?_); rintro e wq ⟨rfl, hq⟩; have HT := Lib.hid (Two2.below (Hid.out (by assumption)) hq); clear hq; have hk := HT.out.all; dsimp only at hk))
      refine (HM.out _ _ (by simp)).mono ?_
      rintro e wq ⟨rfl, hq⟩
      have HT := Lib.hid (Two2.below (Hid.out (by assumption)) hq)
      have hk := HT.out.all
      dsimp only at hk
      clear hq
      cases mv
      · go_wp2_with (first | (go_at_call 42; (with_reducible refine (known2_c _).mono ?_); rintro e wq ⟨rfl, hq⟩; have HT := Lib.hid (Two2.below (Hid.out (by assumption)) hq); clear hq; have hk := HT.out.all; dsimp only at hk))
        go_ret
        exact ⟨rfl, HT.out.2.2⟩
      have hz := HZ.out rfl
      have hcc : (c == c) = true := by simp
      have HT := Lib.hid HT.out.drew
      clear hk
      go_wp2_with fail
      (first | go_region_held3 (fun w' => w'.cell? ⟨w.heap.size, 0, none⟩ = some (.int .i64 3) ∧ w'.cell? ⟨w.heap.size, 1, none⟩ = some (.bool false) ∧ w'.cell? ⟨w.heap.size, 2, none⟩ = some (.int .i64 0) ∧ w'.cell? ⟨w.heap.size, 3, none⟩ = some (.float .f64 f) ∧ w'.cell? ⟨w.heap.size, 4, none⟩ = some (.string ⟨#[]⟩) ∧ w'.cell? ⟨w.heap.size + 1, 0, none⟩ = some (.int .i64 3) ∧ w'.cell? ⟨w.heap.size + 1, 1, none⟩ = some (.bool false) ∧ w'.cell? ⟨w.heap.size + 1, 2, none⟩ = some (.int .i64 0) ∧ w'.cell? ⟨w.heap.size + 1, 3, none⟩ = some (.float .f64 f') ∧ w'.cell? ⟨w.heap.size + 1, 4, none⟩ = some (.string ⟨#[]⟩)) ((refine Two2.all (w0 := w) (x := ⟨3, false, 0, f, []⟩) (y := ⟨3, false, 0, f', []⟩) (Hid.out ?_); assumption)) (first | (go_at_call 39; (with_reducible refine (HC.out _).mono ?_); rintro e wq ⟨rfl, hq⟩; have HT := Lib.hid (Two2.below (Hid.out (by assumption)) hq); clear hq) | (go_at_call 44; (with_reducible refine (HXC.out _).mono ?_); rintro e wq ⟨rfl, hq⟩; have HT := Lib.hid (Two2.below (Hid.out (by assumption)) hq); clear hq) | (go_at_call 41; (with_reducible refine (HS.out _).mono ?_); rintro e wq ⟨rfl, hq⟩; have HT := Lib.hid (Two2.below (Hid.out (by assumption)) hq); clear hq) | (go_at_call 42; (with_reducible refine (known2_c _).mono ?_); rintro e wq ⟨rfl, hq⟩; have HT := Lib.hid (Two2.below (Hid.out (by assumption)) hq); clear hq)) | fail)
      go_wp2_with fail
      go_ret
      exact ⟨rfl, HT.out.2.2⟩
end Go.Proofs.Ytbnhepcfjjephaa
