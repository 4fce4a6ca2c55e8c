
/- How a slice of elements of several cells is opened. -/
import Derived.Test.YthbjkkfpahhfiaaOpen2
import Derived.Test.YthbjkkfpahhfiaaRowK
namespace Go.Proofs.Ythbjkkfpahhfiaa
open Go Go.RowKit Go.ChangeShapes Go.WideShapes Go.Deep
set_option linter.unusedVariables false
set_option linter.unusedSimpArgs false

section
variable {H : Type} {enc : TypeId × Value → H} {w : World} {spare : Nat → Bool} {held : Bool}
theorem open_rowK {X : Type} (k : Nat) (cells : X → List Value) (ok : X → Prop) (hk0 : 0 < k) (hcl : ∀ x, (cells x).length = k) {t e : TypeId} (ht : Try.prog.underlying t = some (.slice e)) (hk : Try.prog.cellsOf e = k)
    (hel : ∀ (n : Nat) (cs : List Value) y, DataW.trod enc Try.prog w 0 spare held n e cs = some y → ∃ x, cs = cells x ∧ ok x)
    {cs0 : List Value} {x0 : DataW H × List MemPlace} {fuel : Nat} (hf : DataW.trod enc Try.prog w 0 spare held fuel t cs0 = some x0) :
    ∃ (v : Value) (xs : List X), cs0 = [v] ∧ RowK k w v (xs.map cells) ∧ ∀ x ∈ xs, ok x := by
  rcases open_slice ht hf with ⟨hcs, _⟩ | ⟨a', len', cap', m, n, D, Pl, hcs, _, hl, hm, hmm, _, hi⟩
  · exact ⟨_, [], hcs, RowK.nil k w, by simp⟩
  · rw [hk] at hi
    have hlm : len' ≤ m := by rw [hmm]; split <;> omega
    obtain ⟨xs, hxl, hx⟩ := exists_list len' (fun i x => (∀ j (hj : j < (cells x).length), w.cell? ((a'.add (i * k)).add j) = some (cells x)[j]) ∧ ok x) (fun i hi' => by
      obtain ⟨cs', hc, ht'⟩ := hi i (by omega)
      obtain ⟨_, hcl', hat⟩ := World.cells?_some hc
      obtain ⟨x, rfl, hx⟩ := hel n cs' _ ht'
      exact ⟨x, fun j hj => by rw [hat j (by omega)]; exact List.getElem?_eq_getElem hj, hx⟩)
    refine ⟨_, xs, hcs, ⟨by rw [List.length_map]; omega, by intro y hy; obtain ⟨x, _, rfl⟩ := List.mem_map.1 hy; exact hcl x, .inr ⟨a', cap', by rw [List.length_map, hxl], by rw [List.length_map, hxl]; exact hl, fun i hi' => ?_⟩⟩, fun x hx' => ?_⟩
    · rw [List.length_map] at hi'
      have h := (hx i hi').1
      have h0 := h 0 (by rw [hcl]; exact hk0)
      obtain ⟨b, o, sp⟩ := a'
      have hz := (hx 0 (by omega)).1 0 (by rw [hcl]; exact hk0)
      have hs : sp = none := by simpa [Addr.add] using World.cell?_spot hz
      clear hz
      subst hs
      simp only [addr_add] at h h0
      refine ⟨b, o, rfl, World.block_lt_of_cell? w _ h0, fun j hj => ?_⟩
      rw [List.getElem_map] at hj
      rw [h j hj]
      simp
    · obtain ⟨i, hi', rfl⟩ := List.getElem_of_mem hx'
      exact (hx i hi').2
end
end Go.Proofs.Ythbjkkfpahhfiaa
