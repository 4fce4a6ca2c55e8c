/- The laws on package value: ValueOrders. -/
import Derived.Test.YtbnhepcfjjephaaLaw2b
namespace Go.Proofs.Ytbnhepcfjjephaa
open Go Go.Proofs Go.RowKit
set_option linter.unusedVariables false
set_option linter.unusedSimpArgs false

set_option maxRecDepth 100000 in
set_option maxHeartbeats 4000000 in
theorem ValueOrders_core (a0 : V5) (a1 : V5) (a2 : V5) (w : World) (o0 : okV a0) (o1 : okV a1) (o2 : okV a2) :
    Calls Try.prog 10 #[a0.v, a1.v, a2.v] w fun e w' => e = .returned (.bool true) ∧ Below w.heap.size w w' := by
  have HM := Lib.hid (fun W B hB => may3_c a0 a1 a2 W B hB o0.len o1.len o2.len)
  have HC1 := Lib.hid (fun w => VCmp_c a0 a1 w o0.fl o1.fl)
  have HC2 := Lib.hid (fun w => VCmp_c a1 a2 w o1.fl o2.fl)
  have HC3 := Lib.hid (fun w => VCmp_c a0 a2 w o0.fl o2.fl)
  have HC4 := Lib.hid (fun w => VCmp_c a1 a0 w o1.fl o0.fl)
  have HE := Lib.hid (fun w => XExact_c a0 a1 w)
  have HS := Lib.hid (fun w => VSame_c a0 a0 w o0.fl o0.fl)
  have HA := Lib.hid (boxes3 w a0 a1 a2)
  rw [cmpV_self a0] at HS
  have ht := cmpV_turn a0 a1
  rw [ht] at HC4
  have HTR := Lib.hid (@cmpV_trans a0 a1 a2)
  have HBD := Lib.hid (cmpV_bd a0 a1)
  have HZ : Hid ((isV a0 && isV a1 && isV a2) = true → (cmpV a0 a1 == 0) = exactV a0 a1) := Lib.hid (fun h => by
    simp only [Bool.and_eq_true] at h
    have h1 := cmpV_zero h.1.1 h.1.2 o0.fl o1.fl
    have h2 := exactV_iff a0 a1
    rw [Bool.eq_iff_iff, beq_iff_eq, h2]; exact h1)
  clear o0 o1 o2 ht
  generalize (isV a0 && isV a1 && isV a2) = mv at *
  generalize exactV a0 a1 = ev at *
  generalize cmpV a0 a1 = c at *
  generalize cmpV a1 a2 = d at *
  generalize cmpV a0 a2 = g at *
  obtain ⟨k, b, n, f, t⟩ := a0
  obtain ⟨k', b', n', f', t'⟩ := a1
  obtain ⟨k2, b2, n2, f2, t2⟩ := a2
  unfold V5.v at *
  go_enter Try.func10, Try.ntmps10
  go_wp2_with fail
  refine (HM.out _ _ (by simp)).mono ?_
  rintro e w1 ⟨rfl, h1⟩
  have H1 := Lib.hid (HA.out.below h1)
  have H1d := Lib.hid H1.out.drew
  clear h1
  cases mv
  · go_wp2_with fail
    go_ret
    exact ⟨rfl, H1.out.2.2.2⟩
  have hz := HZ.out (by first | rfl | trivial)
  have hbd := HBD.out
  have htr := HTR.out
  have h3 : c = -1 ∨ c = 0 ∨ c = 1 := by omega
  clear HZ HBD HTR hbd
  rcases h3 with rfl | rfl | rfl
  · obtain rfl : ev = false := by simpa using hz.symm
    clear hz
    cases p2 : decide (d ≤ 0) <;> cases p3 : decide (0 < g)
    all_goals try (exfalso; simp at p2 p3; omega)
    all_goals
      clear htr
      go_wp2_with fail
      (first | go_region_held3 (fun w' => w'.cell? ⟨w.heap.size, 0, none⟩ = some (.int .i64 k) ∧ w'.cell? ⟨w.heap.size, 1, none⟩ = some (.bool b) ∧ w'.cell? ⟨w.heap.size, 2, none⟩ = some (.int .i64 n) ∧ w'.cell? ⟨w.heap.size, 3, none⟩ = some (.float .f64 f) ∧ w'.cell? ⟨w.heap.size, 4, none⟩ = some (.string ⟨t.toArray⟩) ∧ w'.cell? ⟨w.heap.size + 1, 0, none⟩ = some (.int .i64 k') ∧ w'.cell? ⟨w.heap.size + 1, 1, none⟩ = some (.bool b') ∧ w'.cell? ⟨w.heap.size + 1, 2, none⟩ = some (.int .i64 n') ∧ w'.cell? ⟨w.heap.size + 1, 3, none⟩ = some (.float .f64 f') ∧ w'.cell? ⟨w.heap.size + 1, 4, none⟩ = some (.string ⟨t'.toArray⟩) ∧ w'.cell? ⟨w.heap.size + 1 + 1, 0, none⟩ = some (.int .i64 k2) ∧ w'.cell? ⟨w.heap.size + 1 + 1, 1, none⟩ = some (.bool b2) ∧ w'.cell? ⟨w.heap.size + 1 + 1, 2, none⟩ = some (.int .i64 n2) ∧ w'.cell? ⟨w.heap.size + 1 + 1, 3, none⟩ = some (.float .f64 f2) ∧ w'.cell? ⟨w.heap.size + 1 + 1, 4, none⟩ = some (.string ⟨t2.toArray⟩)) ((refine Three.all (w0 := w) (x := ⟨k, b, n, f, t⟩) (y := ⟨k', b', n', f', t'⟩) (z := ⟨k2, b2, n2, f2, t2⟩) (Hid.out ?_); assumption)) (first | (go_at_call 39; (with_reducible refine (HC1.out _).mono ?_); rintro e wq ⟨rfl, hq⟩; have HT := Lib.hid (Three.below (Hid.out (by assumption)) hq); clear hq) | (go_at_call 39; (with_reducible refine (HC2.out _).mono ?_); rintro e wq ⟨rfl, hq⟩; have HT := Lib.hid (Three.below (Hid.out (by assumption)) hq); clear hq) | (go_at_call 39; (with_reducible refine (HC3.out _).mono ?_); rintro e wq ⟨rfl, hq⟩; have HT := Lib.hid (Three.below (Hid.out (by assumption)) hq); clear hq)) | fail)
      go_wp2_with (first | (go_at_call 39; (with_reducible refine (HC4.out _).mono ?_); rintro e wq ⟨rfl, hq⟩; have HT := Lib.hid (Three.below (Hid.out (by assumption)) hq); clear hq; have hk := HT.out.all; dsimp only at hk) | (go_at_call 40; (with_reducible refine (HE.out _).mono ?_); rintro e wq ⟨rfl, hq⟩; have HT := Lib.hid (Three.below (Hid.out (by assumption)) hq); clear hq; have hk := HT.out.all; dsimp only at hk) | (go_at_call 41; (with_reducible refine (HS.out _).mono ?_); rintro e wq ⟨rfl, hq⟩; have HT := Lib.hid (Three.below (Hid.out (by assumption)) hq); clear hq; have hk := HT.out.all; dsimp only at hk) | (go_at_call 42; (with_reducible refine (known2_c _).mono ?_); rintro e wq ⟨rfl, hq⟩; have HT := Lib.hid (Three.below (Hid.out (by assumption)) hq); clear hq; have hk := HT.out.all; dsimp only at hk))
      go_ret
      exact ⟨rfl, HT.out.2.2.2⟩
  · obtain rfl : ev = true := by simpa using hz.symm
    clear hz
    cases p2 : decide (d ≤ 0) <;> cases p3 : decide (0 < g)
    all_goals try (exfalso; simp at p2 p3; omega)
    all_goals
      clear htr
      go_wp2_with fail
      (first | go_region_held3 (fun w' => w'.cell? ⟨w.heap.size, 0, none⟩ = some (.int .i64 k) ∧ w'.cell? ⟨w.heap.size, 1, none⟩ = some (.bool b) ∧ w'.cell? ⟨w.heap.size, 2, none⟩ = some (.int .i64 n) ∧ w'.cell? ⟨w.heap.size, 3, none⟩ = some (.float .f64 f) ∧ w'.cell? ⟨w.heap.size, 4, none⟩ = some (.string ⟨t.toArray⟩) ∧ w'.cell? ⟨w.heap.size + 1, 0, none⟩ = some (.int .i64 k') ∧ w'.cell? ⟨w.heap.size + 1, 1, none⟩ = some (.bool b') ∧ w'.cell? ⟨w.heap.size + 1, 2, none⟩ = some (.int .i64 n') ∧ w'.cell? ⟨w.heap.size + 1, 3, none⟩ = some (.float .f64 f') ∧ w'.cell? ⟨w.heap.size + 1, 4, none⟩ = some (.string ⟨t'.toArray⟩) ∧ w'.cell? ⟨w.heap.size + 1 + 1, 0, none⟩ = some (.int .i64 k2) ∧ w'.cell? ⟨w.heap.size + 1 + 1, 1, none⟩ = some (.bool b2) ∧ w'.cell? ⟨w.heap.size + 1 + 1, 2, none⟩ = some (.int .i64 n2) ∧ w'.cell? ⟨w.heap.size + 1 + 1, 3, none⟩ = some (.float .f64 f2) ∧ w'.cell? ⟨w.heap.size + 1 + 1, 4, none⟩ = some (.string ⟨t2.toArray⟩)) ((refine Three.all (w0 := w) (x := ⟨k, b, n, f, t⟩) (y := ⟨k', b', n', f', t'⟩) (z := ⟨k2, b2, n2, f2, t2⟩) (Hid.out ?_); assumption)) (first | (go_at_call 39; (with_reducible refine (HC1.out _).mono ?_); rintro e wq ⟨rfl, hq⟩; have HT := Lib.hid (Three.below (Hid.out (by assumption)) hq); clear hq) | (go_at_call 39; (with_reducible refine (HC2.out _).mono ?_); rintro e wq ⟨rfl, hq⟩; have HT := Lib.hid (Three.below (Hid.out (by assumption)) hq); clear hq) | (go_at_call 39; (with_reducible refine (HC3.out _).mono ?_); rintro e wq ⟨rfl, hq⟩; have HT := Lib.hid (Three.below (Hid.out (by assumption)) hq); clear hq)) | fail)
      go_wp2_with (first | (go_at_call 39; (with_reducible refine (HC4.out _).mono ?_); rintro e wq ⟨rfl, hq⟩; have HT := Lib.hid (Three.below (Hid.out (by assumption)) hq); clear hq; have hk := HT.out.all; dsimp only at hk) | (go_at_call 40; (with_reducible refine (HE.out _).mono ?_); rintro e wq ⟨rfl, hq⟩; have HT := Lib.hid (Three.below (Hid.out (by assumption)) hq); clear hq; have hk := HT.out.all; dsimp only at hk) | (go_at_call 41; (with_reducible refine (HS.out _).mono ?_); rintro e wq ⟨rfl, hq⟩; have HT := Lib.hid (Three.below (Hid.out (by assumption)) hq); clear hq; have hk := HT.out.all; dsimp only at hk) | (go_at_call 42; (with_reducible refine (known2_c _).mono ?_); rintro e wq ⟨rfl, hq⟩; have HT := Lib.hid (Three.below (Hid.out (by assumption)) hq); clear hq; have hk := HT.out.all; dsimp only at hk))
      go_ret
      exact ⟨rfl, HT.out.2.2.2⟩
  · obtain rfl : ev = false := by simpa using hz.symm
    clear hz htr
    go_wp2_with fail
    (first | go_region_held3 (fun w' => w'.cell? ⟨w.heap.size, 0, none⟩ = some (.int .i64 k) ∧ w'.cell? ⟨w.heap.size, 1, none⟩ = some (.bool b) ∧ w'.cell? ⟨w.heap.size, 2, none⟩ = some (.int .i64 n) ∧ w'.cell? ⟨w.heap.size, 3, none⟩ = some (.float .f64 f) ∧ w'.cell? ⟨w.heap.size, 4, none⟩ = some (.string ⟨t.toArray⟩) ∧ w'.cell? ⟨w.heap.size + 1, 0, none⟩ = some (.int .i64 k') ∧ w'.cell? ⟨w.heap.size + 1, 1, none⟩ = some (.bool b') ∧ w'.cell? ⟨w.heap.size + 1, 2, none⟩ = some (.int .i64 n') ∧ w'.cell? ⟨w.heap.size + 1, 3, none⟩ = some (.float .f64 f') ∧ w'.cell? ⟨w.heap.size + 1, 4, none⟩ = some (.string ⟨t'.toArray⟩) ∧ w'.cell? ⟨w.heap.size + 1 + 1, 0, none⟩ = some (.int .i64 k2) ∧ w'.cell? ⟨w.heap.size + 1 + 1, 1, none⟩ = some (.bool b2) ∧ w'.cell? ⟨w.heap.size + 1 + 1, 2, none⟩ = some (.int .i64 n2) ∧ w'.cell? ⟨w.heap.size + 1 + 1, 3, none⟩ = some (.float .f64 f2) ∧ w'.cell? ⟨w.heap.size + 1 + 1, 4, none⟩ = some (.string ⟨t2.toArray⟩)) ((refine Three.all (w0 := w) (x := ⟨k, b, n, f, t⟩) (y := ⟨k', b', n', f', t'⟩) (z := ⟨k2, b2, n2, f2, t2⟩) (Hid.out ?_); assumption)) (first | (go_at_call 39; (with_reducible refine (HC1.out _).mono ?_); rintro e wq ⟨rfl, hq⟩; have HT := Lib.hid (Three.below (Hid.out (by assumption)) hq); clear hq) | (go_at_call 39; (with_reducible refine (HC2.out _).mono ?_); rintro e wq ⟨rfl, hq⟩; have HT := Lib.hid (Three.below (Hid.out (by assumption)) hq); clear hq) | (go_at_call 39; (with_reducible refine (HC3.out _).mono ?_); rintro e wq ⟨rfl, hq⟩; have HT := Lib.hid (Three.below (Hid.out (by assumption)) hq); clear hq)) | fail)
    go_wp2_with (first | (go_at_call 39; (with_reducible refine (HC4.out _).mono ?_); rintro e wq ⟨rfl, hq⟩; have HT := Lib.hid (Three.below (Hid.out (by assumption)) hq); clear hq; have hk := HT.out.all; dsimp only at hk) | (go_at_call 40; (with_reducible refine (HE.out _).mono ?_); rintro e wq ⟨rfl, hq⟩; have HT := Lib.hid (Three.below (Hid.out (by assumption)) hq); clear hq; have hk := HT.out.all; dsimp only at hk) | (go_at_call 41; (with_reducible refine (HS.out _).mono ?_); rintro e wq ⟨rfl, hq⟩; have HT := Lib.hid (Three.below (Hid.out (by assumption)) hq); clear hq; have hk := HT.out.all; dsimp only at hk) | (go_at_call 42; (with_reducible refine (known2_c _).mono ?_); rintro e wq ⟨rfl, hq⟩; have HT := Lib.hid (Three.below (Hid.out (by assumption)) hq); clear hq; have hk := HT.out.all; dsimp only at hk))
    go_ret
    exact ⟨rfl, HT.out.2.2.2⟩
end Go.Proofs.Ytbnhepcfjjephaa
