/- How the struct arguments of a row are opened: api.Val, api.Edge (by value). -/
import Derived.Test.YtlgglkkafcbikaaDoorOpen2
import Derived.Test.YtlgglkkafcbikaaDoorShape
namespace Go.Proofs.YtlgglkkafcbikaaDoor
open Go Go.RowKit Go.ChangeShapes Go.WideShapes Go.Deep
set_option linter.unusedVariables false
set_option linter.unusedSimpArgs false

def okEdge (x : ED) : Prop := i64R x.a ∧ i64R x.b ∧ x.t.length ≤ maxLen ∧ x.w < W64
section
variable {H : Type} {enc : TypeId × Value → H} {w : World} {base : Nat} {spare : Nat → Bool} {held : Bool} {fuel : Nat} {cs : List Value} {x : DataW H × List MemPlace}
set_option maxRecDepth 100000 in
theorem open_edgeC (h : DataW.trod enc Tryd.prog w base spare held fuel 30 cs = some x) : ∃ y : ED, cs = y.cells ∧ okEdge y := by
  obtain ⟨xs, n, _, _, hl, hlen, hf⟩ := DataW.trod_struct Tryd.underlying30 h
  have h5 : cs.length = 4 := hl.trans (by kernel_rfl)
  have kI : Tryd.prog.cellsOf 3 = 1 := by kernel_rfl
  have kF : Tryd.prog.cellsOf 28 = 1 := by kernel_rfl
  have kS : Tryd.prog.cellsOf 9 = 1 := by kernel_rfl
  match cs, h5 with
  | [c0, c1, c2, c3], _ =>
    match xs, hlen with
    | [y0, y1, y2, y3], _ =>
      have g0 := hf 0 _ rfl
      have g1 := hf 1 _ rfl
      have g2 := hf 2 _ rfl
      have g3 := hf 3 _ rfl
      simp [kI, kF, kS] at g0 g1 g2 g3
      obtain ⟨k, e0, _, w0⟩ := DataW.trod_int Tryd.underlying3 g0
      obtain ⟨m, e1, _, w1⟩ := DataW.trod_int Tryd.underlying3 g1
      obtain ⟨s, e2, _, w2⟩ := DataW.trod_string Tryd.underlying9 g2
      obtain ⟨f, e3, w3⟩ := trod_float64 Tryd.underlying28 g3
      simp at e0 e1 e2 e3
      subst e0 e1 e2 e3
      exact ⟨⟨k, m, s.data.toList, f⟩, by simp [ED.cells, bytes_of], i64_ok w0, i64_ok w1, by rw [Array.length_toList]; exact w2, w3⟩
set_option maxRecDepth 100000 in
theorem open_edge {v : Value} {d : DataW H} {ps : List MemPlace} {b0 : Nat} (hv : Value.okWide Tryd.prog w .any b0 30 v) (h : DataW.Trod enc Tryd.prog w base spare held 30 v d ps) : ∃ y : ED, v = y.v ∧ okEdge y := by
  obtain ⟨cs, rfl, hsz⟩ := okWide_struct Tryd.underlying30 hv
  obtain ⟨fuel, hf⟩ := h
  obtain ⟨y, hy, ho⟩ := open_edgeC hf
  refine ⟨y, ?_, ho⟩
  obtain ⟨l⟩ := cs
  simp [Value.cells] at hy
  subst hy
  rfl
end
end Go.Proofs.YtlgglkkafcbikaaDoor
