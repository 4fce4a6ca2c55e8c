/- The laws on package value: ValueOdd. -/
import Derived.Test.YtbnhepcfjjephaaLaw2b
import Derived.Test.YtbnhepcfjjephaaOddF
namespace Go.Proofs.Ytbnhepcfjjephaa
open Go Go.Proofs Go.RowKit
set_option linter.unusedVariables false
set_option linter.unusedSimpArgs false

def One1 (w0 w : World) (x : V5) : Prop := Box w w0.heap.size x ∧ Below w0.heap.size w0 w
theorem One1.below {w0 w w' : World} {x : V5} (h : One1 w0 w x) (hb : Below w.heap.size w w') : One1 w0 w' x := ⟨h.1.below hb, h.2.trans (hb.mono h.2.size)⟩
theorem One1.drew {w0 w : World} {x : V5} (h : One1 w0 w x) : One1 w0 w.drew x := h.below (Below.refl _ w).drew
theorem One1.all {w0 w : World} {x : V5} (h : One1 w0 w x) : w.cell? ⟨w0.heap.size, 0, none⟩ = some (.int .i64 x.k) ∧ w.cell? ⟨w0.heap.size, 1, none⟩ = some (.bool x.b) ∧ w.cell? ⟨w0.heap.size, 2, none⟩ = some (.int .i64 x.n) ∧ w.cell? ⟨w0.heap.size, 3, none⟩ = some (.float .f64 x.f) ∧ w.cell? ⟨w0.heap.size, 4, none⟩ = some (.string ⟨x.t.toArray⟩) := h.1.cells
theorem One1.new (w : World) (x : V5) : One1 w (w.alloc (objV x)) x := ⟨Box.new w x, (Below.refl _ w).alloc (Nat.le_refl _) _⟩
set_option maxRecDepth 100000 in
set_option maxHeartbeats 4000000 in
theorem ValueOdd_core (a0 : Int) (a1 : Int) (a2 : Int) (w : World) (w0 : (Lit.int .i64 a0).wf = true) (w1 : (Lit.int .i64 a1).wf = true) (w2 : (Lit.int .i64 a2).wf = true) :
    Calls Try.prog 14 #[.int .i64 a0, .int .i64 a1, .int .i64 a2] w fun e w' => e = .returned (.bool true) ∧ Below w.heap.size w w' := by
  clear w0 w1 w2
  by_cases hn : a2 = 0
  · subst hn
    go_enter Try.func14, Try.ntmps14
    go_wp2_with fail
    all_goals
      go_ret
      exact ⟨rfl, Below.refl _ w⟩
  have q : (a2 == 0) = false := by simpa using hn
  obtain ⟨HF0, HF1, HF2⟩ := fl_ok a2 hn
  have hn2 := hn
  by_cases h0 : a1 = 0
  · subst h0
    have ho := odd_b a0
    have HI := Lib.hid (fun w => Is_c ⟨a0, true, 0, 0, []⟩ w)
    have HX := Lib.hid (fun w => XIs_c ⟨a0, true, 0, 0, []⟩ w (by simp))
    have HA := Lib.hid (One1.new w ⟨a0, true, 0, 0, []⟩)
    rw [ho] at HI HX
    clear ho
    unfold V5.v at HI HX
    clear hn HF0 HF1 HF2
    cases how : (a0 == 1) <;> rw [how] at HI HX
    all_goals
      go_enter Try.func14, Try.ntmps14
      go_wp2_with (first | (go_at_call 43; (with_reducible refine (HI.out _).mono ?_); rintro e wq ⟨rfl, hq⟩; have HT := Lib.hid (HA.out.below hq); clear hq; have hk := HT.out.all; dsimp only at hk) | (go_at_call 45; (with_reducible refine (HX.out _).mono ?_); rintro e wq ⟨rfl, hq⟩; have HT := Lib.hid (One1.below (Hid.out (by assumption)) hq); clear hq; have hk := HT.out.all; dsimp only at hk) | (go_at_call 42; (with_reducible refine (known2_c _).mono ?_); rintro e wq ⟨rfl, hq⟩; have HT := Lib.hid (One1.below (Hid.out (by assumption)) hq); clear hq; have hk := HT.out.all; dsimp only at hk))
      go_ret
      exact ⟨rfl, HT.out.2⟩
  by_cases h1 : a1 = 1
  · subst h1
    have ho := odd_n a0 a2 hn
    have HI := Lib.hid (fun w => Is_c ⟨a0, false, a2, 0, []⟩ w)
    have HX := Lib.hid (fun w => XIs_c ⟨a0, false, a2, 0, []⟩ w (by simp))
    have HA := Lib.hid (One1.new w ⟨a0, false, a2, 0, []⟩)
    rw [ho] at HI HX
    clear ho
    unfold V5.v at HI HX
    clear hn HF0 HF1 HF2
    cases how : (a0 == 2) <;> rw [how] at HI HX
    all_goals
      go_enter Try.func14, Try.ntmps14
      go_wp2_with (first | (go_at_call 43; (with_reducible refine (HI.out _).mono ?_); rintro e wq ⟨rfl, hq⟩; have HT := Lib.hid (HA.out.below hq); clear hq; have hk := HT.out.all; dsimp only at hk) | (go_at_call 45; (with_reducible refine (HX.out _).mono ?_); rintro e wq ⟨rfl, hq⟩; have HT := Lib.hid (One1.below (Hid.out (by assumption)) hq); clear hq; have hk := HT.out.all; dsimp only at hk) | (go_at_call 42; (with_reducible refine (known2_c _).mono ?_); rintro e wq ⟨rfl, hq⟩; have HT := Lib.hid (One1.below (Hid.out (by assumption)) hq); clear hq; have hk := HT.out.all; dsimp only at hk))
      go_ret
      exact ⟨rfl, HT.out.2⟩
  by_cases h2 : a1 = 2
  · subst h2
    have ho := odd_f a0 (floatOfInt .f64 a2) HF0 HF2
    have HI := Lib.hid (fun w => Is_c ⟨a0, false, 0, floatOfInt .f64 a2, []⟩ w)
    have HX := Lib.hid (fun w => XIs_c ⟨a0, false, 0, floatOfInt .f64 a2, []⟩ w (by simp))
    have HA := Lib.hid (One1.new w ⟨a0, false, 0, floatOfInt .f64 a2, []⟩)
    rw [ho] at HI HX
    clear ho
    unfold V5.v at HI HX
    clear hn HF0 HF1 HF2
    cases how : (a0 == 3) <;> rw [how] at HI HX
    all_goals
      go_enter Try.func14, Try.ntmps14
      go_wp2_with (first | (go_at_call 43; (with_reducible refine (HI.out _).mono ?_); rintro e wq ⟨rfl, hq⟩; have HT := Lib.hid (HA.out.below hq); clear hq; have hk := HT.out.all; dsimp only at hk) | (go_at_call 45; (with_reducible refine (HX.out _).mono ?_); rintro e wq ⟨rfl, hq⟩; have HT := Lib.hid (One1.below (Hid.out (by assumption)) hq); clear hq; have hk := HT.out.all; dsimp only at hk) | (go_at_call 42; (with_reducible refine (known2_c _).mono ?_); rintro e wq ⟨rfl, hq⟩; have HT := Lib.hid (One1.below (Hid.out (by assumption)) hq); clear hq; have hk := HT.out.all; dsimp only at hk))
      go_ret
      exact ⟨rfl, HT.out.2⟩
  by_cases h3 : a1 = 3
  · subst h3
    have ho := odd_t a0
    have HI := Lib.hid (fun w => Is_c ⟨a0, false, 0, 0, [0x78]⟩ w)
    have HX := Lib.hid (fun w => XIs_c ⟨a0, false, 0, 0, [0x78]⟩ w (by simp))
    have HA := Lib.hid (One1.new w ⟨a0, false, 0, 0, [0x78]⟩)
    rw [ho] at HI HX
    clear ho
    unfold V5.v at HI HX
    clear hn HF0 HF1 HF2
    cases how : (a0 == 4) <;> rw [how] at HI HX
    all_goals
      go_enter Try.func14, Try.ntmps14
      go_wp2_with (first | (go_at_call 43; (with_reducible refine (HI.out _).mono ?_); rintro e wq ⟨rfl, hq⟩; have HT := Lib.hid (HA.out.below hq); clear hq; have hk := HT.out.all; dsimp only at hk) | (go_at_call 45; (with_reducible refine (HX.out _).mono ?_); rintro e wq ⟨rfl, hq⟩; have HT := Lib.hid (One1.below (Hid.out (by assumption)) hq); clear hq; have hk := HT.out.all; dsimp only at hk) | (go_at_call 42; (with_reducible refine (known2_c _).mono ?_); rintro e wq ⟨rfl, hq⟩; have HT := Lib.hid (One1.below (Hid.out (by assumption)) hq); clear hq; have hk := HT.out.all; dsimp only at hk))
      go_ret
      exact ⟨rfl, HT.out.2⟩
  · have g0 : a1 < 0 ∨ 3 < a1 := by omega
    rcases g0 with g | g
    all_goals
      go_enter Try.func14, Try.ntmps14
      go_wp2_with fail
      all_goals first | (exfalso; omega) | (go_ret; exact ⟨rfl, Below.refl _ w⟩)
end Go.Proofs.Ytbnhepcfjjephaa
