
/- Rows of elements of several cells: what a slice value reads as, and how that stays. -/
import Derived.Test.YtmbffncmogpkfaaGreatDoorRowAt
namespace Go.Proofs.YtmbffncmogpkfaaGreatDoor
open Go Go.RowKit
set_option linter.unusedVariables false

/-- the cells cs lie at o in block B. -/
def CellsAt (w : World) (B o : Nat) (cs : List Value) : Prop := ∀ (j : Nat) (h : j < cs.length), w.cell? ⟨B, o + j, none⟩ = some cs[j]
theorem cell_below' {w w' : World} {B o : Nat} (h : Below w.heap.size w w') (hB : B < w.heap.size) : w'.cell? ⟨B, o, none⟩ = w.cell? ⟨B, o, none⟩ := by
  unfold World.cell?
  simp only [h.block B hB]
theorem CellsAt.below {w w' : World} {B o : Nat} {cs : List Value} (h : CellsAt w B o cs) (hb : Below w.heap.size w w') (hB : B < w.heap.size) : CellsAt w' B o cs :=
  fun j hj => by rw [cell_below' hb hB]; exact h j hj
theorem CellsAt.at {w : World} {B o : Nat} {cs : List Value} (h : CellsAt w B o cs) (j : Nat) (v : Value) (hv : cs[j]? = some v) : w.cell? ⟨B, o + j, none⟩ = some v := by
  obtain ⟨hj, e⟩ := List.getElem?_eq_some_iff.1 hv
  rw [h j hj, e]
/-- the slice v reads as the elements xs, each of k cells (nil, or a row that is there). -/
def RowK (k : Nat) (w : World) (v : Value) (xs : List (List Value)) : Prop :=
  xs.length ≤ maxLen ∧ (∀ x ∈ xs, x.length = k) ∧ ((v = .slice none 0 0 ∧ xs = []) ∨
  ∃ a c, v = .slice (some a) xs.length c ∧ xs.length ≤ c ∧ ∀ i (h : i < xs.length), ∃ B o, a = ⟨B, o, none⟩ ∧ B < w.heap.size ∧ CellsAt w B (o + i * k) xs[i])
theorem RowK.nil (k : Nat) (w : World) : RowK k w (.slice none 0 0) [] := ⟨Nat.zero_le _, by simp, .inl ⟨rfl, rfl⟩⟩
theorem RowK.below {k : Nat} {w w' : World} {v : Value} {xs : List (List Value)} (h : RowK k w v xs) (hb : Below w.heap.size w w') : RowK k w' v xs := by
  refine ⟨h.1, h.2.1, ?_⟩
  rcases h.2.2 with h' | ⟨a, c, rfl, hl, hc⟩
  · exact .inl h'
  · refine .inr ⟨a, c, rfl, hl, fun i hi => ?_⟩
    obtain ⟨B, o, rfl, hB, hx⟩ := hc i hi
    exact ⟨B, o, rfl, Nat.lt_of_lt_of_le hB hb.size, hx.below hb hB⟩
theorem RowK.alloc {k : Nat} {w : World} {v : Value} {xs : List (List Value)} (h : RowK k w v xs) (o : Obj) : RowK k (w.alloc o) v xs := h.below ((Below.refl _ w).alloc (Nat.le_refl _) o)
theorem RowK.drew {k : Nat} {w : World} {v : Value} {xs : List (List Value)} (h : RowK k w v xs) : RowK k w.drew v xs := h.below (Below.refl _ w).drew
theorem RowK.shape {k : Nat} {w : World} {v : Value} {xs : List (List Value)} (h : RowK k w v xs) : ∃ a c, v = .slice a xs.length c ∧ xs.length ≤ c := by
  rcases h.2.2 with ⟨rfl, rfl⟩ | ⟨a, c, rfl, hl, _⟩
  · exact ⟨none, 0, rfl, Nat.le_refl _⟩
  · exact ⟨some a, c, rfl, hl⟩
theorem RowK.cells {k : Nat} {w : World} {a : Option Addr} {n c : Nat} {xs : List (List Value)} (h : RowK k w (.slice a n c) xs) (i : Nat) (hi : i < xs.length) :
    ∃ B o, a = some ⟨B, o, none⟩ ∧ B < w.heap.size ∧ CellsAt w B (o + i * k) xs[i] := by
  rcases h.2.2 with ⟨_, rfl⟩ | ⟨a', c', hv, hl, hc⟩
  · simp at hi
  · simp only [Value.slice.injEq] at hv
    obtain ⟨rfl, _, _⟩ := hv
    obtain ⟨B, o, rfl, hB, hx⟩ := hc i hi
    exact ⟨B, o, rfl, hB, hx⟩
theorem RowK.len {k : Nat} {w : World} {a : Option Addr} {n c : Nat} {xs : List (List Value)} (h : RowK k w (.slice a n c) xs) : n = xs.length := by
  rcases h.2.2 with ⟨hv, rfl⟩ | ⟨a', c', hv, hl, hc⟩
  · simp only [Value.slice.injEq] at hv; simp [hv]
  · simp only [Value.slice.injEq] at hv; exact hv.2.1
/-- one element, in a block of its own. -/
theorem RowK.one (w : World) (cs : List Value) (t : TypeId) : RowK cs.length (w.alloc (.cells cs.toArray t)) (.slice (some ⟨w.heap.size, 0, none⟩) 1 1) [cs] := by
  refine ⟨by simp; decide, by simp, .inr ⟨_, 1, rfl, by simp, fun i hi => ?_⟩⟩
  obtain rfl : i = 0 := by simpa using hi
  refine ⟨w.heap.size, 0, rfl, by simp, fun j hj => ?_⟩
  have hh : (w.alloc (.cells cs.toArray t)).heap[w.heap.size]? = some (.cells cs.toArray t) := by
    show (w.heap.push _)[_]? = _
    rw [Array.getElem?_push, if_pos rfl]
  simp only [Nat.zero_mul, Nat.zero_add, List.getElem_cons_zero] at hj ⊢
  unfold World.cell?
  simp only [hh]
  show cs.toArray[j]? = _
  simp [List.getElem?_eq_getElem hj]
end Go.Proofs.YtmbffncmogpkfaaGreatDoor
