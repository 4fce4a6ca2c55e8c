
/- What is held of the memory through calls that only lay new blocks. -/
import Derived.Test.YtmbffncmogpkfaaGreatDoorRowK
namespace Go.Proofs.YtmbffncmogpkfaaGreatDoor
open Go Go.RowKit
set_option linter.unusedVariables false

/-- F holds in w and in whatever comes of it; w comes of w0. -/
structure Keep (w0 : World) (F : World → Prop) (w : World) : Prop where
  facts : F w
  below : Below w0.heap.size w0 w
  stable : ∀ w', Below w.heap.size w w' → F w'
theorem Keep.on {w0 w w' : World} {F : World → Prop} (h : Keep w0 F w) (hb : Below w.heap.size w w') : Keep w0 F w' :=
  ⟨h.stable w' hb, h.below.trans (hb.mono h.below.size), fun w'' h2 => h.stable w'' (hb.trans (h2.mono hb.size))⟩
theorem Keep.drew {w0 w : World} {F : World → Prop} (h : Keep w0 F w) : Keep w0 F w.drew := h.on (Below.refl _ w).drew
theorem Keep.alloc {w0 w : World} {F : World → Prop} (h : Keep w0 F w) (o : Obj) : Keep w0 F (w.alloc o) := h.on ((Below.refl _ w).alloc (Nat.le_refl _) o)
/-- a block of cells. -/
def Blk (w : World) (g : Nat) (cs : List Value) : Prop := g < w.heap.size ∧ ∃ t, w.heap[g]? = some (.cells cs.toArray t)
theorem Blk.below {w w' : World} {g : Nat} {cs : List Value} (h : Blk w g cs) (hb : Below w.heap.size w w') : Blk w' g cs := by
  obtain ⟨h1, t, h2⟩ := h
  exact ⟨Nat.lt_of_lt_of_le h1 hb.size, t, (hb.block g h1).trans h2⟩
theorem Blk.cell {w : World} {g : Nat} {cs : List Value} (h : Blk w g cs) (j : Nat) (v : Value) (hv : cs[j]? = some v) : w.cell? ⟨g, j, none⟩ = some v := by
  obtain ⟨h1, t, h2⟩ := h
  unfold World.cell?
  simp only [h2]
  show cs.toArray[j]? = _
  simpa using hv
theorem Blk.new (w : World) (cs : List Value) (t : TypeId) : Blk (w.alloc (.cells cs.toArray t)) w.heap.size cs :=
  ⟨by simp, t, by show (w.heap.push _)[_]? = _; rw [Array.getElem?_push, if_pos rfl]⟩
theorem Blk.alloc {w : World} {g : Nat} {cs : List Value} (h : Blk w g cs) (o : Obj) : Blk (w.alloc o) g cs := h.below ((Below.refl _ w).alloc (Nat.le_refl _) o)
theorem Blk.lt {w : World} {g : Nat} {cs : List Value} (h : Blk w g cs) : g < w.heap.size := h.1
/-- a block is kept. -/
theorem Keep.one (w0 : World) (cs : List Value) (t : TypeId) : Keep w0 (fun w => Blk w w0.heap.size cs) (w0.alloc (.cells cs.toArray t)) :=
  ⟨Blk.new w0 cs t, (Below.refl _ w0).alloc (Nat.le_refl _) _, fun w' hb => (Blk.new w0 cs t).below hb⟩
theorem Keep.more {w0 w : World} {F : World → Prop} (h : Keep w0 F w) (cs : List Value) (t : TypeId) : Keep w0 (fun W => F W ∧ Blk W w.heap.size cs) (w.alloc (.cells cs.toArray t)) := by
  have h1 := h.alloc (.cells cs.toArray t)
  have b1 := Blk.new w cs t
  exact ⟨⟨h1.facts, b1⟩, h1.below, fun w' hb => ⟨h1.stable w' hb, b1.below hb⟩⟩
theorem Keep.fst {w0 w : World} {F G : World → Prop} (h : Keep w0 (fun W => F W ∧ G W) w) : Keep w0 F w := ⟨h.facts.1, h.below, fun w' hb => (h.stable w' hb).1⟩
theorem Blk.set {w : World} {g : Nat} {cs : List Value} (h : Blk w g cs) (j : Nat) (v : Value) : Blk (w.setCell ⟨g, j, none⟩ v) g (cs.set j v) := by
  obtain ⟨h1, t, h2⟩ := h
  refine ⟨by simpa [World.setCell] using h1, t, ?_⟩
  simp only [World.setCell, Array.getElem?_modify, h2]
  simp
theorem Blk.thaw {w : World} {g : Nat} {cs : List Value} (h : Blk w g cs) (j : Nat) : w.frozen? ⟨g, j, none⟩ = false := by
  obtain ⟨h1, t, h2⟩ := h
  unfold World.frozen?
  simp only [h2]
  simp
theorem Blk.newAt (w : World) (cs : List Value) (t : TypeId) (g : Nat) (hg : g = w.heap.size) : Blk (w.alloc (.cells cs.toArray t)) g cs := by subst hg; exact Blk.new w cs t
theorem any_take {α : Type} (p : α → Bool) (l : List α) (j : Nat) (h : j < l.length) : (l.take (j + 1)).any p = ((l.take j).any p || p l[j]) := by
  rw [List.take_succ_eq_append_getElem h, List.any_append]; simp
theorem any_at {α : Type} (p : α → Bool) (l : List α) (j : Nat) (h : j < l.length) (hb : p l[j] = true) : l.any p = true := by
  rw [List.any_eq_true]; exact ⟨l[j], List.getElem_mem h, hb⟩
end Go.Proofs.YtmbffncmogpkfaaGreatDoor
