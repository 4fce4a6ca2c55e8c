
/- The laws on package value: known, ValueInts. -/
import Derived.Test.YthbjkkfpahhfiaaVal3
import Derived.Deep.RegionHeld3
namespace Go.Proofs.Ythbjkkfpahhfiaa
open Go Go.Proofs Go.RowKit
set_option linter.unusedVariables false

/-- a box, through what was laid since. -/
def Box (w : World) (g : Nat) (x : V5) : Prop :=
  g < w.heap.size ∧ w.heap[g]? = some (.cells #[.int .i64 x.k, .bool x.b, .int .i64 x.n, .float .f64 x.f, .string ⟨x.t.toArray⟩] 32)
theorem Box.below {w w' : World} {g : Nat} {x : V5} (h : Box w g x) (hb : Below w.heap.size w w') : Box w' g x := ⟨Nat.lt_of_lt_of_le h.1 hb.size, (hb.block g h.1).trans h.2⟩
theorem Box.cells {w : World} {g : Nat} {x : V5} (h : Box w g x) :
    w.cell? ⟨g, 0, none⟩ = some (.int .i64 x.k) ∧ w.cell? ⟨g, 1, none⟩ = some (.bool x.b) ∧ w.cell? ⟨g, 2, none⟩ = some (.int .i64 x.n) ∧ w.cell? ⟨g, 3, none⟩ = some (.float .f64 x.f) ∧ w.cell? ⟨g, 4, none⟩ = some (.string ⟨x.t.toArray⟩) :=
  cells5 (Below.refl _ w) h.1 h.2
theorem Box.new (w : World) (x : V5) : Box (w.alloc (.cells #[.int .i64 x.k, .bool x.b, .int .i64 x.n, .float .f64 x.f, .string ⟨x.t.toArray⟩] 32)) w.heap.size x := ⟨by simp, by rw [alloc_at, if_pos rfl]⟩
theorem Box.alloc {w : World} {g : Nat} {x : V5} (h : Box w g x) (o : Obj) : Box (w.alloc o) g x := h.below ((Below.refl _ w).alloc (Nat.le_refl _) o)
theorem topBit_lt : topBit < W64 := by decide +kernel

abbrev objV (x : V5) : Obj := .cells #[.int .i64 x.k, .bool x.b, .int .i64 x.n, .float .f64 x.f, .string ⟨x.t.toArray⟩] 32
def Three (w0 w : World) (x y z : V5) : Prop := Box w w0.heap.size x ∧ Box w (w0.heap.size + 1) y ∧ Box w (w0.heap.size + 1 + 1) z ∧ Below w0.heap.size w0 w
theorem Three.below {w0 w w' : World} {x y z : V5} (h : Three w0 w x y z) (hb : Below w.heap.size w w') : Three w0 w' x y z :=
  ⟨h.1.below hb, h.2.1.below hb, h.2.2.1.below hb, h.2.2.2.trans (hb.mono h.2.2.2.size)⟩
theorem boxes3 (w : World) (x y z : V5) : Three w (((w.alloc (objV x)).alloc (objV y)).alloc (objV z)) x y z := by
  refine ⟨((Box.new w x).alloc _).alloc _, ?_, ?_, (((Below.refl _ w).alloc (Nat.le_refl _) _).alloc (by simp) _).alloc (by simp; omega) _⟩
  · have := (Box.new (w.alloc (objV x)) y).alloc (objV z)
    simpa using this
  · have := Box.new ((w.alloc (objV x)).alloc (objV y)) z
    simpa using this
theorem z64 : (0 : Nat) < W64 := by decide
end Go.Proofs.Ythbjkkfpahhfiaa
