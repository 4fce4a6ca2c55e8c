/- Contracts: Joins of package shape and of the reference. -/
import Derived.Test.YtlgglkkafcbikaaDoorShape
namespace Go.Proofs.YtlgglkkafcbikaaDoor
open Go Go.Proofs Go.RowKit
set_option linter.unusedVariables false
set_option linter.unusedSimpArgs false

set_option maxHeartbeats 4000000 in
theorem Joins_c (x : PE) (e : ED) (a b : Int) (w : World) : Calls Tryd.prog 16 #[x.v, e.v, .int .i64 a, .int .i64 b] w (Gives w (.bool (joinsB x e a b))) := by
  obtain ⟨xa, xb, xt, xe⟩ := x
  obtain ⟨ea, eb, et, ew⟩ := e
  have HE : Hid (joinsB ⟨xa, xb, xt, xe⟩ ⟨ea, eb, et, ew⟩ a b = ((xt.isEmpty || xt == et) && ((ea == a && eb == b) || (xe && ea == b && eb == a)))) := Lib.hid rfl
  generalize joinsB ⟨xa, xb, xt, xe⟩ ⟨ea, eb, et, ew⟩ a b = r at *
  unfold PE.v ED.v
  go_enter Tryd.func16, Tryd.ntmps16
  go_wp2_with fail
  all_goals
    go_ret
    exact ⟨by rw [HE.out]; first | (simp [*]; done) | (simp_all; done), ((Below.refl _ w).alloc (Nat.le_refl _) _).alloc (by simp) _⟩
set_option maxHeartbeats 4000000 in
theorem RJoins_c (x : PE) (e : ED) (a b : Int) (w : World) : Calls Tryd.prog 20 #[x.v, e.v, .int .i64 a, .int .i64 b] w (Gives w (.bool (joinsB x e a b))) := by
  obtain ⟨xa, xb, xt, xe⟩ := x
  obtain ⟨ea, eb, et, ew⟩ := e
  have HE : Hid (joinsB ⟨xa, xb, xt, xe⟩ ⟨ea, eb, et, ew⟩ a b = ((xt.isEmpty || xt == et) && ((ea == a && eb == b) || (xe && ea == b && eb == a)))) := Lib.hid rfl
  generalize joinsB ⟨xa, xb, xt, xe⟩ ⟨ea, eb, et, ew⟩ a b = r at *
  unfold PE.v ED.v
  go_enter Tryd.func20, Tryd.ntmps20
  go_wp2_with fail
  all_goals
    go_ret
    exact ⟨by rw [HE.out]; first | (simp [*]; done) | (simp_all; done), ((Below.refl _ w).alloc (Nat.le_refl _) _).alloc (by simp) _⟩
end Go.Proofs.YtlgglkkafcbikaaDoor
