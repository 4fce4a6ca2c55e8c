/- The walk of LebOfNothing. -/
import Derived.Test.YtbnhepcfjjephaaLaw3
import Derived.Test.YtbnhepcfjjephaaCur2
namespace Go.Proofs.Ytbnhepcfjjephaa
open Go Go.RowKit
set_option linter.unusedVariables false

set_option maxRecDepth 100000 in
set_option maxHeartbeats 1000000 in
theorem LebOfNothing_core (v0 : Value) (x0 : List UInt8) (w : World) (w0 : RowAt w v0 (bytesV x0)) :
    Calls Try.prog 8 #[v0] w fun e w' => e = .returned (.bool true) ∧ Below w.heap.size w w' := by
  obtain ⟨xb, cb, rfl⟩ := w0.shape
  rw [bytesV_length] at w0 ⊢
  by_cases g0 : 100 < x0.length
  · have h' : decide ((100 : Int) < (x0.length : Int)) = true := by simp; omega
    go_enter Try.func8, Try.ntmps8
    go_wp2
    go_ret
    exact ⟨rfl, Below.refl _ _⟩
  have h' : decide ((100 : Int) < (x0.length : Int)) = false := by simp; omega
  have HO := Lib.hid (Open_c _ x0 w w0 (by omega))
  have hd : decide (x0 = []) = ((x0.length : Int) == 0) := by
    cases x0 <;> simp
    omega
  clear w0 g0
  go_enter Try.func8, Try.ntmps8
  go_wp2_with fail
  with_reducible refine HO.out.mono ?_
  rintro e w1 ⟨B, rfl, hB, hc, hb⟩
  have H1 := Lib.hid hc
  have HB := Lib.hid hb
  clear hc hb
  go_wp2_with (first | (go_at_call 27; (with_reducible refine (CInt_nil _).mono ?_); rintro e w' ⟨rfl, rfl⟩) | (go_at_call 33; (with_reducible refine (CStr_nil _).mono ?_); rintro e w' ⟨rfl, rfl⟩) | (go_at_call 31; (with_reducible refine (CReal_nil _).mono ?_); rintro e w' ⟨rfl, rfl⟩) | (go_at_call 28; first | ((with_reducible refine (Good_nil _).mono ?_); rintro e w' ⟨rfl, rfl⟩) | ((with_reducible refine (Good_c B (some x0) _ H1.out).mono ?_); rintro e w' ⟨rfl, rfl⟩)) | (go_at_call 30; first | ((with_reducible refine (Whole_nil _).mono ?_); rintro e w' ⟨rfl, rfl⟩) | ((with_reducible refine (Whole_c B (some x0) _ H1.out).mono ?_); rintro e w' ⟨rfl, rfl⟩)) | (go_at_call 20; (with_reducible refine (known3_c _).mono ?_); rintro e w' ⟨rfl, hk⟩))
  go_ret
  exact ⟨rfl, HB.out.trans (hk.mono HB.out.size)⟩
end Go.Proofs.Ytbnhepcfjjephaa
