/- How a row's argument of type api.Node is opened. -/
import Derived.Test.YtlgglkkafcbikaaDoorOpen4
import Derived.Test.YtlgglkkafcbikaaDoorNode
namespace Go.Proofs.YtlgglkkafcbikaaDoor
open Go Go.RowKit Go.ChangeShapes Go.WideShapes Go.Deep
set_option linter.unusedVariables false
set_option linter.unusedSimpArgs false

theorem rowAt_of_one {X : Type} {w : World} {v : Value} {xs : List X} (f : X → Value) (h : RowK 1 w v (xs.map (fun x => [f x]))) : RowAt w v (xs.map f) := by
  refine ⟨by simpa using h.1, ?_⟩
  rcases h.2.2 with ⟨hv, hn⟩ | ⟨a, c, rfl, hl, hc⟩
  · exact .inl ⟨hv, by simpa using hn⟩
  · refine .inr ⟨a, c, by simp, by simpa using hl, fun i hi => ?_⟩
    obtain ⟨B, o, rfl, hB, hx⟩ := hc i (by simpa using hi)
    have := hx 0 (by simp)
    rw [addr_add]
    simpa using this
def okPR (p : PR) : Prop := p.key.length ≤ maxLen ∧ okV p.v
section
variable {H : Type} {enc : TypeId × Value → H} {w : World} {base : Nat} {spare : Nat → Bool} {held : Bool} {fuel : Nat} {cs : List Value} {x : DataW H × List MemPlace}
set_option maxRecDepth 100000 in
theorem open_prC (h : DataW.trod enc Tryd.prog w base spare held fuel 52 cs = some x) : ∃ y : PR, cs = y.cells ∧ okPR y := by
  obtain ⟨xs, n, _, _, hl, hlen, hf⟩ := DataW.trod_struct Tryd.underlying52 h
  have h5 : cs.length = 6 := hl.trans (by kernel_rfl)
  have kS : Tryd.prog.cellsOf 9 = 1 := by kernel_rfl
  have kV : Tryd.prog.cellsOf 46 = 5 := by kernel_rfl
  match cs, h5 with
  | [c0, c1, c2, c3, c4, c5], _ =>
    match xs, hlen with
    | [y0, y1], _ =>
      have g0 := hf 0 _ rfl
      have g1 := hf 1 _ rfl
      simp [kS, kV] at g0 g1
      obtain ⟨s, e0, _, w0⟩ := DataW.trod_string Tryd.underlying9 g0
      obtain ⟨v, e1, w1⟩ := open_valC g1
      simp [V5.cells] at e0 e1
      obtain ⟨rfl, rfl, rfl, rfl, rfl⟩ := e1
      subst e0
      exact ⟨⟨s.data.toList, v⟩, by simp [PR.cells, bytes_of], by rw [Array.length_toList]; exact w0, w1⟩
end
/-- a node reads as its labels and properties. -/
def NodeAt (w : World) (v : Value) (ss : List (List UInt8)) (ps : List PR) : Prop := ∃ v1 v2, v = .agg #[v1, v2] ∧ RowAt w v1 (ss.map strV) ∧ RowK 6 w v2 (ps.map PR.cells)
section
variable {H : Type} {enc : TypeId × Value → H} {w : World} {spare : Nat → Bool} {held : Bool}
set_option maxRecDepth 100000 in
theorem open_node {v : Value} {d : DataW H} {ps : List MemPlace} {b0 : Nat} (hv : Value.okWide Tryd.prog w .any b0 42 v) (h : DataW.Trod enc Tryd.prog w 0 spare held 42 v d ps) :
    ∃ (ss : List (List UInt8)) (qs : List PR), NodeAt w v ss qs ∧ (∀ s ∈ ss, s.length ≤ maxLen) ∧ (∀ p ∈ qs, okPR p) := by
  obtain ⟨cs, rfl, hsz⟩ := okWide_struct Tryd.underlying42 hv
  obtain ⟨fuel, hf⟩ := h
  obtain ⟨xs, n, _, _, hl, hlen, hg⟩ := DataW.trod_struct Tryd.underlying42 hf
  obtain ⟨l⟩ := cs
  have h2 : l.length = 2 := by have := hl.trans (show Tryd.prog.cellsOf 42 = 2 by kernel_rfl); simpa [Value.cells] using this
  have kN : Tryd.prog.cellsOf 39 = 1 := by kernel_rfl
  have kE : Tryd.prog.cellsOf 40 = 1 := by kernel_rfl
  match l, h2 with
  | [c0, c1], _ =>
    match xs, hlen with
    | [y0, y1], _ =>
      have g0 := hg 0 _ rfl
      have g1 := hg 1 _ rfl
      simp [Value.cells, kN, kE] at g0 g1
      obtain ⟨v1, ss, e1, r1, o1⟩ := open_rowK 1 (fun s : List UInt8 => [strV s]) (fun s => s.length ≤ maxLen) (by decide) (fun _ => rfl) Tryd.underlying39 (by kernel_rfl) (fun n cs y hy => by
        obtain ⟨s, rfl, _, hw⟩ := DataW.trod_string Tryd.underlying9 hy
        exact ⟨s.data.toList, by simp [strV, bytes_of], by rw [Array.length_toList]; exact hw⟩) g0
      obtain ⟨v2, qs, e2, r2, o2⟩ := open_rowK 6 PR.cells okPR (by decide) (fun _ => rfl) Tryd.underlying40 (by kernel_rfl) (fun n cs y hy => open_prC hy) g1
      simp at e1 e2
      subst e1 e2
      exact ⟨ss, qs, ⟨_, _, rfl, rowAt_of_one strV r1, r2⟩, o1, o2⟩
end
end Go.Proofs.YtlgglkkafcbikaaDoor
