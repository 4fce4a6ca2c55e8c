
/- Contracts of package tree: order; the search by halves. -/
import Derived.Test.YthfckbiciddfdaaDoorArr
import Derived.Test.YthfckbiciddfdaaDoorVal4
import Derived.Test.YthfckbiciddfdaaDoorVLaw
import Derived.Test.YthfckbiciddfdaaDoorOpen2
import Derived.Deep.RegionHeld3
import Derived.BigQuiet
namespace Go.Proofs.YthfckbiciddfdaaDoor
open Go Go.Proofs Go.RowKit
set_option linter.unusedVariables false
set_option linter.unusedSimpArgs false

/-- an entry. -/
structure E6 where
  v : V5
  id : Int
def E6.cells (x : E6) : List Value := [.int .i64 x.v.k, .bool x.v.b, .int .i64 x.v.n, .float .f64 x.v.f, .string ⟨x.v.t.toArray⟩, .int .i64 x.id]
def E6.val (x : E6) : Value := .agg #[.int .i64 x.v.k, .bool x.v.b, .int .i64 x.v.n, .float .f64 x.v.f, .string ⟨x.v.t.toArray⟩, .int .i64 x.id]
def ordE (x y : E6) : Int := if cmpV x.v y.v = 0 then cmpI x.id y.id else cmpV x.v y.v
theorem E6.facts {w : World} {g : Nat} {k : Int} {b : Bool} {n : Int} {f : Nat} {t : List UInt8} {i : Int} (h : Blk w g (⟨⟨k, b, n, f, t⟩, i⟩ : E6).cells) :
    w.cell? ⟨g, 0, none⟩ = some (.int .i64 k) ∧ w.cell? ⟨g, 1, none⟩ = some (.bool b) ∧ w.cell? ⟨g, 2, none⟩ = some (.int .i64 n) ∧ w.cell? ⟨g, 3, none⟩ = some (.float .f64 f) ∧ w.cell? ⟨g, 4, none⟩ = some (.string ⟨t.toArray⟩) ∧ w.cell? ⟨g, 5, none⟩ = some (.int .i64 i) :=
  ⟨h.cell 0 _ rfl, h.cell 1 _ rfl, h.cell 2 _ rfl, h.cell 3 _ rfl, h.cell 4 _ rfl, h.cell 5 _ rfl⟩
theorem E6.factsAt {w : World} {g o : Nat} {k : Int} {b : Bool} {n : Int} {f : Nat} {t : List UInt8} {i : Int} (h : CellsAt w g o (⟨⟨k, b, n, f, t⟩, i⟩ : E6).cells) :
    w.cell? ⟨g, o, none⟩ = some (.int .i64 k) ∧ w.cell? ⟨g, o + 1, none⟩ = some (.bool b) ∧ w.cell? ⟨g, o + 2, none⟩ = some (.int .i64 n) ∧ w.cell? ⟨g, o + 3, none⟩ = some (.float .f64 f) ∧ w.cell? ⟨g, o + 4, none⟩ = some (.string ⟨t.toArray⟩) ∧ w.cell? ⟨g, o + 5, none⟩ = some (.int .i64 i) :=
  ⟨h.at 0 _ rfl, h.at 1 _ rfl, h.at 2 _ rfl, h.at 3 _ rfl, h.at 4 _ rfl, h.at 5 _ rfl⟩
def orI (a b : Int) : Int := if a = 0 then b else a
theorem Blk.newAtT (w : World) (cs : List Value) (t : TypeId) (g : Nat) (hg : g = w.heap.size) : Blk (w.alloc (.cells cs.toArray t)) g cs := by subst hg; exact Blk.new w cs t
def okF (x : E6) : Prop := x.v.f < W64
/-- the place of the first that does not stand ahead of x; does it stand with x? -/
def lbE (es : List E6) (x : E6) : Nat := (es.takeWhile (fun e => decide (ordE e x < 0))).length
def foundE (es : List E6) (x : E6) : Bool := match es[lbE es x]? with | some e => ordE e x == 0 | none => false
theorem tw_len {α : Type} (p : α → Bool) : ∀ (l : List α) (i : Nat), (∀ k (h : k < l.length), k < i → p l[k] = true) → i ≤ l.length → (∀ h : i < l.length, p l[i] = false) → (l.takeWhile p).length = i
  | [], i, _, hi, _ => by simp at hi; simp [hi]
  | a :: l, 0, _, _, h2 => by
    have := h2 (by simp)
    simp only [List.getElem_cons_zero] at this
    rw [List.takeWhile_cons_of_neg (by simp [this])]; rfl
  | a :: l, i + 1, h1, hi, h2 => by
    have := h1 0 (by simp) (by omega)
    simp only [List.getElem_cons_zero] at this
    rw [List.takeWhile_cons_of_pos this, List.length_cons, tw_len p l i (fun k hk hki => h1 (k + 1) (by simpa using hk) (by omega)) (by simpa using hi) (fun h => h2 (by simpa using h))]
theorem row_e6 {w : World} {a : Option Addr} {n c : Nat} {es : List E6} (h : RowK 6 w (.slice a n c) (es.map E6.cells)) (j : Nat) (hj : j < es.length) :
    ∃ B o, a = some ⟨B, o, none⟩ ∧ B < w.heap.size ∧ CellsAt w B (o + j * 6) es[j].cells := by
  obtain ⟨B, o, h1, h2, h3⟩ := h.cells j (by simpa using hj)
  exact ⟨B, o, h1, h2, by simpa using h3⟩
theorem e6_at {w : World} {B o n c : Nat} {es : List E6} (h : RowK 6 w (.slice (some ⟨B, o, none⟩) n c) (es.map E6.cells)) (j : Nat) (hj : j < es.length) : CellsAt w B (o + j * 6) es[j].cells := by
  obtain ⟨B', o', h1, h2, h3⟩ := row_e6 h j hj
  simp only [Option.some.injEq, Addr.mk.injEq, and_true] at h1
  obtain ⟨rfl, rfl⟩ := h1
  exact h3
end Go.Proofs.YthfckbiciddfdaaDoor
