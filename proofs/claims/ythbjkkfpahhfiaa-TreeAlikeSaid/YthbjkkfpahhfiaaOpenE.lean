
/- How a row's arguments of types api.Entry, []ligaturelaw9.Act are opened. -/
import Derived.Test.YthbjkkfpahhfiaaOpenR
import Derived.Test.YthbjkkfpahhfiaaTree1
namespace Go.Proofs.Ythbjkkfpahhfiaa
open Go Go.RowKit Go.ChangeShapes Go.WideShapes Go.Deep
set_option linter.unusedVariables false
set_option linter.unusedSimpArgs false

def okE (x : E6) : Prop := okV x.v ∧ i64R x.id
/-- an act. -/
structure AC where
  k : Int
  x : E6
def AC.cells (p : AC) : List Value := .int .i64 p.k :: p.x.cells
def okAC (p : AC) : Prop := i64R p.k ∧ okE p.x
section
variable {H : Type} {enc : TypeId × Value → H} {w : World} {base : Nat} {spare : Nat → Bool} {held : Bool} {fuel : Nat} {cs : List Value} {x : DataW H × List MemPlace}
set_option maxRecDepth 100000 in
theorem open_entryC (h : DataW.trod enc Try.prog w base spare held fuel 37 cs = some x) : ∃ y : E6, cs = y.cells ∧ okE y := by
  obtain ⟨xs, n, _, _, hl, hlen, hf⟩ := DataW.trod_struct Try.underlying37 h
  have h5 : cs.length = 6 := hl.trans (by kernel_rfl)
  have kI : Try.prog.cellsOf 3 = 1 := by kernel_rfl
  have kV : Try.prog.cellsOf 32 = 5 := by kernel_rfl
  match cs, h5 with
  | [c0, c1, c2, c3, c4, c5], _ =>
    match xs, hlen with
    | [y0, y1], _ =>
      have g0 := hf 0 _ rfl
      have g1 := hf 1 _ rfl
      simp [kI, kV] at g0 g1
      obtain ⟨v, e1, w1⟩ := open_valC g0
      obtain ⟨k, e0, _, w0⟩ := DataW.trod_int Try.underlying3 g1
      simp [V5.cells] at e0 e1
      obtain ⟨rfl, rfl, rfl, rfl, rfl⟩ := e1
      subst e0
      exact ⟨⟨v, k⟩, by simp [E6.cells], w1, i64_ok w0⟩
set_option maxRecDepth 100000 in
theorem open_entry {v : Value} {d : DataW H} {ps : List MemPlace} {b0 : Nat} (hv : Value.okWide Try.prog w .any b0 37 v) (h : DataW.Trod enc Try.prog w base spare held 37 v d ps) : ∃ y : E6, v = y.val ∧ okE y := by
  obtain ⟨cs, rfl, hsz⟩ := okWide_struct Try.underlying37 hv
  obtain ⟨fuel, hf⟩ := h
  obtain ⟨y, hy, ho⟩ := open_entryC hf
  refine ⟨y, ?_, ho⟩
  obtain ⟨l⟩ := cs
  simp [Value.cells] at hy
  subst hy
  rfl
set_option maxRecDepth 100000 in
theorem open_actC (h : DataW.trod enc Try.prog w base spare held fuel 53 cs = some x) : ∃ y : AC, cs = y.cells ∧ okAC y := by
  obtain ⟨xs, n, _, _, hl, hlen, hf⟩ := DataW.trod_struct Try.underlying53 h
  have h5 : cs.length = 7 := hl.trans (by kernel_rfl)
  have kI : Try.prog.cellsOf 3 = 1 := by kernel_rfl
  have kV : Try.prog.cellsOf 37 = 6 := by kernel_rfl
  match cs, h5 with
  | [c0, c1, c2, c3, c4, c5, c6], _ =>
    match xs, hlen with
    | [y0, y1], _ =>
      have g0 := hf 0 _ rfl
      have g1 := hf 1 _ rfl
      simp [kI, kV] at g0 g1
      obtain ⟨k, e0, _, w0⟩ := DataW.trod_int Try.underlying3 g0
      obtain ⟨v, e1, w1⟩ := open_entryC g1
      simp at e0
      subst e0
      exact ⟨⟨k, v⟩, by simp [AC.cells, ← e1], i64_ok w0, w1⟩
end
section
variable {H : Type} {enc : TypeId × Value → H} {w : World} {spare : Nat → Bool} {held : Bool}
theorem open_acts {a : Option Addr} {len cap : Nat} {d : DataW H} {ps : List MemPlace} (h : DataW.Trod enc Try.prog w 0 spare held 49 (.slice a len cap) d ps) :
    ∃ xs : List AC, RowK 7 w (.slice a len cap) (xs.map AC.cells) ∧ ∀ x ∈ xs, okAC x := by
  obtain ⟨fuel, hf⟩ := h
  obtain ⟨v, xs, hv, hr, ho⟩ := open_rowK 7 AC.cells okAC (by decide) (fun _ => rfl) Try.underlying49 (by kernel_rfl) (fun n cs y hy => open_actC hy) hf
  simp [Value.cells] at hv
  subst hv
  exact ⟨xs, hr, ho⟩
end
end Go.Proofs.Ythbjkkfpahhfiaa
