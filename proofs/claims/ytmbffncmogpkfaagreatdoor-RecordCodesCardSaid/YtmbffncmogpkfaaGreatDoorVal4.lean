
/- Contracts of the reference's Is, Cmp, Exact, In. -/
import Derived.Test.YtmbffncmogpkfaaGreatDoorVal3
import Derived.Sort.Walk0
namespace Go.Proofs.YtmbffncmogpkfaaGreatDoor
open Go Go.Proofs Go.RowKit
set_option linter.unusedVariables false
set_option linter.unusedSimpArgs false

theorem less_irr (l : List UInt8) : Op.bytesLess l l = false := by rw [Go.Proofs.bytesLess_eq]; simp
theorem less_tri {a b : List UInt8} (h : b ≤ a) (e : a ≠ b) : b < a :=
  Classical.byContradiction fun hc => e (List.le_antisymm (List.not_lt.1 hc) h)
theorem cmpT_flip (a b : List UInt8) (h : Op.bytesLess a b = false) : cmpT a b = if Op.bytesLess b a = true then 1 else 0 := by
  unfold cmpT
  rw [h, if_neg (by simp)]
  rw [Go.Proofs.bytesLess_eq] at h ⊢
  simp at h
  by_cases e : a = b
  · subst e; simp
  · have : b < a := less_tri h e
    simp [e, this]
end Go.Proofs.YtmbffncmogpkfaaGreatDoor
