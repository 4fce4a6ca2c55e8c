
/- How the struct arguments of a row are opened: api.Val, api.Entry. -/
import Derived.Test.YtmbffncmogpkfaaGreatDoorOpen
import Derived.Test.YtmbffncmogpkfaaGreatDoorVal2
namespace Go.Proofs.YtmbffncmogpkfaaGreatDoor
open Go Go.RowKit Go.ChangeShapes Go.WideShapes Go.Deep
set_option linter.unusedVariables false
set_option linter.unusedSimpArgs false

def i64R (n : Int) : Prop := -9223372036854775808 ≤ n ∧ n ≤ 9223372036854775807
/-- what every value that comes in is. -/
def okV (x : V5) : Prop := i64R x.k ∧ i64R x.n ∧ x.f < W64 ∧ x.t.length ≤ maxLen
def V5.cells (x : V5) : List Value := [.int .i64 x.k, .bool x.b, .int .i64 x.n, .float .f64 x.f, .string ⟨x.t.toArray⟩]
section
variable {H : Type} {enc : TypeId × Value → H} {P : Program} {w : World} {base : Nat} {spare : Nat → Bool} {held : Bool} {t : TypeId} {fuel : Nat} {cs : List Value} {x : DataW H × List MemPlace}
theorem trod_float64 (ht : P.underlying t = some (.float .f64)) (h : DataW.trod enc P w base spare held fuel t cs = some x) : ∃ b, cs = [.float .f64 b] ∧ b < W64 := by
  cases fuel with
  | zero => simp [DataW.trod] at h
  | succ n =>
    unfold DataW.trod at h
    rw [ht] at h
    split at h
    all_goals try simp_all
    rename_i k k' b he
    subst he
    obtain ⟨⟨h1, h2⟩, _⟩ := h
    subst h1
    exact by simpa [Lit.wf, W64] using h2
set_option maxRecDepth 100000 in
theorem open_valC (h : DataW.trod enc Tryz.prog w base spare held fuel 47 cs = some x) : ∃ y : V5, cs = y.cells ∧ okV y := by
  obtain ⟨xs, n, _, _, hl, hlen, hf⟩ := DataW.trod_struct Tryz.underlying47 h
  have h5 : cs.length = 5 := hl.trans (by kernel_rfl)
  have kI : Tryz.prog.cellsOf 3 = 1 := by kernel_rfl
  have kB : Tryz.prog.cellsOf 4 = 1 := by kernel_rfl
  have kF : Tryz.prog.cellsOf 37 = 1 := by kernel_rfl
  have kS : Tryz.prog.cellsOf 9 = 1 := by kernel_rfl
  match cs, h5 with
  | [c0, c1, c2, c3, c4], _ =>
    match xs, hlen with
    | [y0, y1, y2, y3, y4], _ =>
      have g0 := hf 0 _ rfl
      have g1 := hf 1 _ rfl
      have g2 := hf 2 _ rfl
      have g3 := hf 3 _ rfl
      have g4 := hf 4 _ rfl
      simp [kI, kB, kF, kS] at g0 g1 g2 g3 g4
      obtain ⟨k, e0, _, w0⟩ := DataW.trod_int Tryz.underlying3 g0
      obtain ⟨b, e1, _⟩ := DataW.trod_bool Tryz.underlying4 g1
      obtain ⟨m, e2, _, w2⟩ := DataW.trod_int Tryz.underlying3 g2
      obtain ⟨f, e3, w3⟩ := trod_float64 Tryz.underlying37 g3
      obtain ⟨s, e4, _, w4⟩ := DataW.trod_string Tryz.underlying9 g4
      simp at e0 e1 e2 e3 e4
      subst e0 e1 e2 e3 e4
      exact ⟨⟨k, b, m, f, s.data.toList⟩, by simp [V5.cells, bytes_of], i64_ok w0, i64_ok w2, w3, by rw [Array.length_toList]; exact w4⟩
set_option maxRecDepth 100000 in
theorem open_val {v : Value} {d : DataW H} {ps : List MemPlace} {b0 : Nat} (hv : Value.okWide Tryz.prog w .any b0 47 v) (h : DataW.Trod enc Tryz.prog w base spare held 47 v d ps) : ∃ y : V5, v = y.v ∧ okV y := by
  obtain ⟨cs, rfl, hsz⟩ := okWide_struct Tryz.underlying47 hv
  obtain ⟨fuel, hf⟩ := h
  obtain ⟨y, hy, ho⟩ := open_valC hf
  refine ⟨y, ?_, ho⟩
  obtain ⟨l⟩ := cs
  simp [Value.cells] at hy
  subst hy
  rfl
end
end Go.Proofs.YtmbffncmogpkfaaGreatDoor
