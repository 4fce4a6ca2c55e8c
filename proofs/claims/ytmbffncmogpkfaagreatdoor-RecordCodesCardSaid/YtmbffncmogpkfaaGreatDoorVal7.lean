
/- The reference's Is, whole; its In and Exact; the laws' may. -/
import Derived.Test.YtmbffncmogpkfaaGreatDoorVal5
import Derived.Test.YtmbffncmogpkfaaGreatDoorVal5b
import Derived.Test.YtmbffncmogpkfaaGreatDoorVal6
import Derived.Test.YtmbffncmogpkfaaGreatDoorVLaw
import Derived.BigQuiet
import Derived.Deep.QuietTactic
namespace Go.Proofs.YtmbffncmogpkfaaGreatDoor
open Go Go.Proofs Go.RowKit
set_option linter.unusedVariables false
set_option linter.unusedSimpArgs false

theorem notV {x : V5} (h : ¬ isV x = true) : isV x = false := by simpa using h
theorem XIs_c (x : V5) (w : World) (hl : x.t.length ≤ 9223372036854775807) : Calls Tryz.prog 96 #[x.v] w (Gives w (.bool (isV x))) := by
  obtain ⟨k, b, n, f, t⟩ := x
  simp only at hl
  have e1 : (∀ m : Int, k ≠ m → (k != m) = true) := fun m h => by simpa using h
  by_cases h1 : k = 1
  · subst h1
    by_cases a2 : n = 0
    · by_cases a3 : f = 0
      · by_cases a4 : t = []
        · subst a2; subst a3; subst a4
          rw [show isV ⟨1, b, 0, 0, []⟩ = true by simp [isV, sameV, namedV, isT]]
          exact XIs_1g b w hnorm0
        · rw [notV (fun hv => a4 ((isV_out hv).2.2.2.1 (by simp)))]
          exact XIs_1_4 1 b n f t w (by decide) (by decide) (by decide) (by decide) (by simpa using a2) (by simpa using a3) (by simpa using a4)
      · rw [notV (fun hv => a3 ((isV_out hv).2.2.1 (by simp)))]
        exact XIs_1_3 1 b n f t w (by decide) (by decide) (by decide) (by simpa using a2) (by simpa using a3)
    · rw [notV (fun hv => a2 ((isV_out hv).2.1 (by simp)))]
      exact XIs_1_2 1 b n f t w (by decide) (by decide) (by simpa using a2)
  cases b with
  | true =>
    rw [notV (fun hv => by have := (isV_out hv).1 h1; simp at this)]
    by_cases h2 : k = 2
    · exact XIs_2_1 k n f t w (e1 1 h1)
    · exact XIs_3_1 k n f t w (e1 1 h1)
  | false =>
  by_cases h2 : k = 2
  · subst h2
    by_cases a3 : f = 0
    · by_cases a4 : t = []
      · subst a3; subst a4
        rw [show isV ⟨2, false, n, 0, []⟩ = true by simp [isV, sameV, namedV, isT]]
        exact XIs_2g n w hnorm0
      · rw [notV (fun hv => a4 ((isV_out hv).2.2.2.1 (by simp)))]
        exact XIs_2_4 2 n f t w (by decide) (by decide) (by decide) (by decide) (by simpa using a3) (by simpa using a4)
    · rw [notV (fun hv => a3 ((isV_out hv).2.2.1 (by simp)))]
      exact XIs_2_3 2 n f t w (by decide) (by decide) (by decide) (by simpa using a3)
  by_cases a2 : n = 0
  case neg =>
    rw [notV (fun hv => a2 ((isV_out hv).2.1 h2))]
    exact XIs_3_2 k n f t w (e1 1 h1) (e1 2 h2) (by simpa using a2)
  by_cases h3 : k = 3
  · subst h3
    by_cases a4 : t = []
    · by_cases a5 : f = normN f
      · subst a2; subst a4
        rw [show isV ⟨3, false, 0, f, []⟩ = true by simp [isV, sameV, namedV, isT, ← a5]]
        exact XIs_3g f w (by simpa using a5)
      · rw [notV (fun hv => a5 ((isV_out hv).2.2.2.2.1 (by simp)).symm)]
        exact XIs_3_5 3 n f t w (by decide) (by decide) (by decide) (by decide) (by simpa using a2) (by simpa using a4) (by simpa using a5)
    · rw [notV (fun hv => a4 ((isV_out hv).2.2.2.1 (by simp)))]
      exact XIs_3_4 3 n f t w (by decide) (by decide) (by decide) (by decide) (by simpa using a2) (by simpa using a4)
  by_cases a3 : f = 0
  case neg =>
    rw [notV (fun hv => a3 ((isV_out hv).2.2.1 h3))]
    exact XIs_4_3 k n f t w (e1 1 h1) (e1 2 h2) (e1 3 h3) (by simpa using a2) (by simpa using a3)
  by_cases h4 : k = 4
  · subst h4; subst a2; subst a3
    rw [show isV ⟨4, false, 0, 0, t⟩ = isT t by simp [isV, sameV, namedV]]
    exact XIs_4g t w hnorm0 hl
  by_cases a4 : t = []
  case neg =>
    rw [notV (fun hv => a4 ((isV_out hv).2.2.2.1 h4))]
    exact XIs_0_4 k n f t w (e1 1 h1) (e1 2 h2) (e1 3 h3) (e1 4 h4) (by simpa using a2) (by simpa using a3) (by simpa using a4)
  subst a2; subst a3; subst a4
  by_cases r1 : 0 ≤ k
  · by_cases r2 : k ≤ 4
    · obtain rfl : k = 0 := by omega
      rw [show isV ⟨0, false, 0, 0, []⟩ = true by simp [isV, sameV, namedV, isT]]
      exact XIs_0g w hnorm0
    · rw [notV (fun hv => r2 (isV_out hv).2.2.2.2.2.2)]
      exact XIs_m2 k w hnorm0 (e1 1 h1) (e1 2 h2) (e1 3 h3) (e1 4 h4) (by simpa using r1) (by simpa using r2)
  · rw [notV (fun hv => r1 (isV_out hv).2.2.2.2.2.1)]
    exact XIs_m1 k w hnorm0 (e1 1 h1) (e1 2 h2) (e1 3 h3) (e1 4 h4) (by simpa using r1)
end Go.Proofs.YtmbffncmogpkfaaGreatDoor
