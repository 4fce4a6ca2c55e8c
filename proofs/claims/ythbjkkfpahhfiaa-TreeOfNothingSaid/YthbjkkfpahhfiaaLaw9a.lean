
/- The laws on package tree: TreeOfNothing. -/
import Derived.Test.YthbjkkfpahhfiaaTree6
import Derived.Test.YthbjkkfpahhfiaaOpenE
import Derived.Test.YthbjkkfpahhfiaaVal7
namespace Go.Proofs.Ythbjkkfpahhfiaa
open Go Go.Proofs Go.RowKit
set_option linter.unusedVariables false
set_option linter.unusedSimpArgs false

set_option maxRecDepth 100000 in
set_option maxHeartbeats 4000000 in
theorem TreeOfNothing_core (a0 : E6) (w : World) (o0 : okE a0) : Calls Try.prog 8 #[a0.val] w fun e w' => e = .returned (.bool true) ∧ Below w.heap.size w w' := by
  have m9 : maxLen = 9223372036854775807 := by decide
  have HIs := Lib.hid (fun w => XIs_c a0.v w (by have := o0.1.2.2.2; rw [m9] at this; exact this))
  have HA := Lib.hid (fun w => AddNil_c a0 w)
  have HD := Lib.hid (fun w => DelNil_c a0 w)
  have HR := Lib.hid (fun w => RangeNil_c a0.v a0.v w)
  have H0 := Lib.hid (Keep.one w a0.cells 37)
  clear o0 m9
  generalize isV a0.v = iv at *
  obtain ⟨⟨k, b, n, f, t⟩, i⟩ := a0
  unfold E6.val at HA HD ⊢
  unfold V5.v at HIs HR
  unfold E6.cells at H0
  dsimp only at H0 HA HD HR HIs
  have hk := E6.facts H0.out.facts
  cases iv
  all_goals
    go_enter Try.func8, Try.ntmps8
    go_wp2_with (first | (go_at_call 23; (with_reducible refine (HIs.out _).mono ?_); rintro e wq ⟨rfl, hq⟩; have HT := Lib.hid (Keep.on (Hid.out (by assumption)) hq); clear hq; have hk := E6.facts HT.out.facts) | (go_at_call 13; (with_reducible refine (HA.out _).mono ?_); rintro e wq ⟨rfl, hq⟩; have HT := Lib.hid (Keep.on (Hid.out (by assumption)) hq); clear hq; have hk := E6.facts HT.out.facts) | (go_at_call 24; (with_reducible refine (HD.out _).mono ?_); rintro e wq ⟨rfl, hq⟩; have HT := Lib.hid (Keep.on (Hid.out (by assumption)) hq); clear hq; have hk := E6.facts HT.out.facts) | (go_at_call 17; (with_reducible refine (HR.out _).mono ?_); rintro e wq ⟨rfl, hq⟩; have HT := Lib.hid (Keep.on (Hid.out (by assumption)) hq); clear hq; have hk := E6.facts HT.out.facts) | (go_at_call 16; (with_reducible refine (AllNil_c _).mono ?_); rintro e wq ⟨rfl, hq⟩; have HT := Lib.hid (Keep.on (Hid.out (by assumption)) hq); clear hq) | (go_at_call 21; (with_reducible refine (LenNil_c _).mono ?_); rintro e wq ⟨rfl, rfl⟩) | (go_at_call 26; (with_reducible refine (DepthNil_c _).mono ?_); rintro e wq ⟨rfl, rfl⟩) | (go_at_call 19; (with_reducible refine (known9_c _).mono ?_); rintro e wq ⟨rfl, hq⟩; have HT := Lib.hid (Keep.on (Hid.out (by assumption)) hq); clear hq))
    go_ret
    exact ⟨rfl, HT.out.below⟩
end Go.Proofs.Ythbjkkfpahhfiaa
