
/- Rows of elements of several cells: apart from one another; one cell set. -/
import Derived.Test.YtmbffncmogpkfaaGreatDoorRowM
namespace Go.Proofs.YtmbffncmogpkfaaGreatDoor
open Go Go.RowKit
set_option linter.unusedVariables false
set_option linter.unusedSimpArgs false

/-- rows of two element types lie in two blocks. -/
theorem owns_apart {w : World} {B B' : Nat} {e e' : TypeId} {k k' n n' : Nat} {v v' : Value} {xs xs' : List Value} (h : w.ownsRow B e k v n xs) (h' : w.ownsRow B' e' k' v' n' xs') (hne : e ≠ e') : v.ownBlock = none ∨ v.ownBlock ≠ v'.ownBlock := by
  rcases h.2 with ⟨rfl, _⟩ | ⟨g, cap, cur, rfl, _, hg, _⟩
  · exact .inl rfl
  · right
    rcases h'.2 with ⟨rfl, _⟩ | ⟨g', cap', cur', rfl, _, hg', _⟩
    · simp [Value.ownBlock]
    · intro he
      simp only [Value.ownBlock, Option.some.injEq] at he
      subst he
      rw [hg] at hg'
      simp only [Option.some.injEq, Obj.cells.injEq] at hg'
      exact hne hg'.2.1
theorem news_blk {w : World} {g : Nat} {cs : List Value} (h : Blk w g cs) : ∀ j u, cs[j]? = some u → w.cell? ((⟨g, 0, none⟩ : Addr).add j) = some u := fun j u hu => by
  rw [addr_add, Nat.zero_add]; exact h.cell j u hu
/-- one cell of one element set. -/
theorem RowK.setCell {w : World} {k B o n c : Nat} {xs : List (List Value)} (h : RowK k w (.slice (some ⟨B, o, none⟩) n c) xs) (i : Nat) (hi : i < xs.length) (j : Nat) (hj : j < k) (v : Value) :
    RowK k (w.setCell ⟨B, o + i * k + j, none⟩ v) (.slice (some ⟨B, o, none⟩) n c) (xs.set i (xs[i].set j v)) := by
  have hl := h.len
  refine ⟨by simpa using h.1, ?_, ?_⟩
  · intro x hx
    rcases List.mem_or_eq_of_mem_set hx with hx | rfl
    · exact h.2.1 x hx
    · rw [List.length_set]; exact h.2.1 _ (List.getElem_mem hi)
  · have hcc : xs.length ≤ c := by
      obtain ⟨a', c', hv, hc'⟩ := h.shape
      simp only [Value.slice.injEq] at hv
      omega
    refine .inr ⟨⟨B, o, none⟩, c, by rw [List.length_set, hl], by rw [List.length_set]; exact hcc, fun q hq => ?_⟩
    rw [List.length_set] at hq
    obtain ⟨B', o', he, hB, hx⟩ := h.cells q hq
    simp only [Option.some.injEq, Addr.mk.injEq, and_true] at he
    obtain ⟨rfl, rfl⟩ := he
    refine ⟨B, o, rfl, by simpa [World.setCell] using hB, fun m hm => ?_⟩
    have hlq : (xs[q]).length = k := h.2.1 _ (List.getElem_mem hq)
    have hli : (xs[i]).length = k := h.2.1 _ (List.getElem_mem hi)
    by_cases hqi : i = q
    · subst hqi
      simp only [List.getElem_set_self, List.length_set] at hm ⊢
      by_cases hmj : j = m
      · subst hmj
        rw [World.cell?_setCell_same (h := hx j hm)]
        simp
      · rw [World.cell?_setCell_other (h := (by intro he; simp only [Addr.mk.injEq, true_and, and_true] at he; omega : (⟨B, o + i * k + j, none⟩ : Addr) ≠ ⟨B, o + i * k + m, none⟩)), hx m hm]
        simp [List.getElem_set_ne hmj]
    · simp only [List.getElem_set_ne hqi] at hm ⊢
      have hne : (⟨B, o + i * k + j, none⟩ : Addr) ≠ ⟨B, o + q * k + m, none⟩ := by
       intro he
       simp only [Addr.mk.injEq, true_and, and_true] at he
       rw [hlq] at hm
       rcases Nat.lt_or_gt_of_ne hqi with hlt | hlt
       · have := Nat.mul_le_mul_right k (show i + 1 ≤ q from hlt); rw [Nat.add_mul] at this; omega
       · have := Nat.mul_le_mul_right k (show q + 1 ≤ i from hlt); rw [Nat.add_mul] at this; omega
      rw [World.cell?_setCell_other (h := hne), hx m hm]
end Go.Proofs.YtmbffncmogpkfaaGreatDoor
