
/- Contract: the reference's IsEdge (chapter 10). -/
import Derived.Test.YtmbffncmogpkfaaGreatDoorTy
import Derived.Test.YtmbffncmogpkfaaGreatDoorName
import Derived.Test.YtmbffncmogpkfaaGreatDoorReal
namespace Go.Proofs.YtmbffncmogpkfaaGreatDoor
open Go Go.Proofs Go.RowKit
set_option linter.unusedVariables false
set_option linter.unusedSimpArgs false

def okED (e : ED) : Bool := decide (1 ≤ e.a) && decide (e.a ≤ 24) && decide (1 ≤ e.b) && decide (e.b ≤ 24) && nameB e.t && weightB e.w
set_option maxHeartbeats 4000000 in
theorem RIsEdge_c (e : ED) (w : World) (hl : e.t.length ≤ 9223372036854775807) : Calls Tryz.prog 69 #[e.v] w (Gives w (.bool (okED e))) := by
  have HN := Lib.hid (fun w => RIsName_c e.t w hl)
  have HE : Hid (okED e = (decide (1 ≤ e.a) && decide (e.a ≤ 24) && decide (1 ≤ e.b) && decide (e.b ≤ 24) && nameB e.t && weightB e.w)) := Lib.hid rfl
  clear hl
  generalize okED e = r at *
  generalize nameB e.t = nb at *
  obtain ⟨a, b, t, x⟩ := e
  unfold ED.v
  cases nb
  all_goals
    go_enter Tryz.func69, Tryz.ntmps69
    go_wp2_with (first | (go_at_call 93; (with_reducible refine (HN.out _).mono ?_); rintro e wq ⟨rfl, rfl⟩) | (go_at_call 94; (with_reducible refine (RWeight_c _ _).mono ?_); rintro e wq ⟨rfl, rfl⟩))
    all_goals
      go_ret
      exact ⟨by rw [HE.out]; first | (simp [*]; done) | (simp_all; done) | (simp_all; omega), (Below.refl _ w).alloc (Nat.le_refl _) _⟩
end Go.Proofs.YtmbffncmogpkfaaGreatDoor
