
/- Contracts of package record: Same with nothing. -/
import Derived.Test.YtmbffncmogpkfaaGreatDoorRec3
import Derived.WalkKit
namespace Go.Proofs.YtmbffncmogpkfaaGreatDoor
open Go Go.Proofs Go.RowKit
set_option linter.unusedVariables false
set_option linter.unusedSimpArgs false

theorem Equal0_c (a : Option Addr) (n c : Nat) (w : World) (hn : n ≤ 9223372036854775807) : Calls Tryz.prog 90 #[.slice a n c, .slice none 0 0] w fun e w' => e = .returned (.bool (decide (n = 0))) ∧ w = w' := by
  by_cases h0 : n = 0
  · subst h0
    go_enter Tryz.func90, Tryz.ntmps90
    go_wp2_with fail
    refine wp_loop_rounds 1 ?_
    rw [rounds_succ]
    go_wp2_with fail
    go_ret
    exact ⟨rfl, by first | rfl | trivial⟩
  · have h1 : ((n : Int) != 0) = true := by simpa using h0
    have h2 : decide (n = 0) = false := decide_eq_false h0
    go_enter Tryz.func90, Tryz.ntmps90
    go_wp2_with fail
    go_ret
    exact ⟨by rw [h2]; rfl, by first | rfl | trivial⟩
theorem EqualFunc0_c (a : Option Addr) (n c : Nat) (f : Value) (w : World) (hn : n ≤ 9223372036854775807) : Calls Tryz.prog 91 #[.slice a n c, .slice none 0 0, f] w fun e w' => e = .returned (.bool (decide (n = 0))) ∧ w = w' := by
  by_cases h0 : n = 0
  · subst h0
    go_enter Tryz.func91, Tryz.ntmps91
    go_wp2_with fail
    refine wp_loop_rounds 1 ?_
    rw [rounds_succ]
    go_wp2_with fail
    go_ret
    exact ⟨rfl, by first | rfl | trivial⟩
  · have h1 : ((n : Int) != 0) = true := by simpa using h0
    have h2 : decide (n = 0) = false := decide_eq_false h0
    go_enter Tryz.func91, Tryz.ntmps91
    go_wp2_with fail
    go_ret
    exact ⟨by rw [h2]; rfl, by first | rfl | trivial⟩
/-- a node is nothing. -/
theorem Same0_c (a : Option Addr) (n c : Nat) (a' : Option Addr) (n' c' : Nat) (w : World) (hn : n ≤ 9223372036854775807) (hn' : n' ≤ 9223372036854775807) :
    Calls Tryz.prog 66 #[.agg #[.slice a n c, .slice a' n' c'], .agg #[.slice none 0 0, .slice none 0 0]] w (Gives w (.bool (decide (n = 0) && decide (n' = 0)))) := by
  have H1 := Lib.hid (fun W => Equal0_c a n c W hn)
  have H2 := Lib.hid (fun f W => EqualFunc0_c a' n' c' f W hn')
  clear hn hn'
  generalize decide (n = 0) = b1 at *
  generalize decide (n' = 0) = b2 at *
  cases b1
  all_goals
    go_enter Tryz.func66, Tryz.ntmps66
    go_wp2_with (first | (go_at_call 90; (with_reducible refine (H1.out _).mono ?_); rintro e wz ⟨rfl, rfl⟩) | (go_at_call 91; (with_reducible refine (H2.out _ _).mono ?_); rintro e wz ⟨rfl, rfl⟩))
    go_ret
    exact ⟨by first | rfl | simp, ((Below.refl _ w).alloc (Nat.le_refl _) _).alloc (by simp) _⟩
end Go.Proofs.YtmbffncmogpkfaaGreatDoor
