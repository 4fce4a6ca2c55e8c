
/- Contracts of package value: Cmp, Same, In; of the reference's. -/
import Derived.Test.YtmbffncmogpkfaaGreatDoorReal
import Derived.Test.YtmbffncmogpkfaaGreatDoorRowAt
import Derived.Deep.RegionHeld3
namespace Go.Proofs.YtmbffncmogpkfaaGreatDoor
open Go Go.Proofs Go.RowKit
set_option linter.unusedVariables false

/-- a value of the program, plainly. -/
structure V5 where
  k : Int
  b : Bool
  n : Int
  f : Nat
  t : List UInt8
def V5.v (x : V5) : Value := .agg #[.int .i64 x.k, .bool x.b, .int .i64 x.n, .float .f64 x.f, .string ⟨x.t.toArray⟩]
def b2i (b : Bool) : Int := if b then 1 else 0

theorem alloc_at (w : World) (o : Obj) (k : Nat) : (w.alloc o).heap[k]? = if k = w.heap.size then some o else w.heap[k]? := by
  show (w.heap.push o)[k]? = _
  rw [Array.getElem?_push]
/-- a struct's cells, through what was laid since. -/
theorem cells5 {wA w' : World} {g : Nat} {a b c d e : Value} {t : TypeId} (h : Below wA.heap.size wA w') (hk : g < wA.heap.size) (hh : wA.heap[g]? = some (.cells #[a, b, c, d, e] t)) :
    w'.cell? ⟨g, 0, none⟩ = some a ∧ w'.cell? ⟨g, 1, none⟩ = some b ∧ w'.cell? ⟨g, 2, none⟩ = some c ∧ w'.cell? ⟨g, 3, none⟩ = some d ∧ w'.cell? ⟨g, 4, none⟩ = some e := by
  have e1 : w'.heap[g]? = some (.cells #[a, b, c, d, e] t) := (h.block g hk).trans hh
  refine ⟨?_, ?_, ?_, ?_, ?_⟩ <;> simp [World.cell?, e1]
def cmpT (a b : List UInt8) : Int := if Op.bytesLess a b = true then -1 else if (a == b) = true then 0 else 1
/-- how two values stand. -/
def cmpV (x y : V5) : Int := if x.k ≠ y.k then cmpI x.k y.k else if x.k = 1 then b2i x.b - b2i y.b else if x.k = 2 then cmpI x.n y.n else if x.k = 3 then cmpN x.f y.f else if x.k = 4 then cmpT x.t y.t else 0
/-- a call that gives r, and leaves what lay. -/
def Gives (w : World) (r : Value) (e : Ending) (w' : World) : Prop := e = .returned r ∧ Below w.heap.size w w'
end Go.Proofs.YtmbffncmogpkfaaGreatDoor
