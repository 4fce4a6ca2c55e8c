
/- How a row's argument of type []ligaturelaw5.Act is opened. -/
import Derived.Test.YtlllbacjdjllbaaDoorOpenB
namespace Go.Proofs.YtlllbacjdjllbaaDoor
open Go Go.RowKit Go.ChangeShapes Go.WideShapes Go.Deep
set_option linter.unusedVariables false
set_option linter.unusedSimpArgs false

theorem wt_struct {H : Type} {P : Program} {t : TypeId} {fs : Array Field} {parts : List (DataW H)} (ht : P.underlying t = some (.struct fs)) (h : Wt P t (.agg parts)) (i : Nat) (f : Field) (d : DataW H) (hf : fs[i]? = some f) (hd : parts[i]? = some d) : Wt P f.type d := by
  unfold Wt DataW.weights at h
  rw [ht] at h
  exact wt_at i _ _ _ _ (by rw [List.getElem?_map, Array.getElem?_toList, hf]; rfl) hd h
/-- an act that comes in. -/
structure AA where
  k : Int
  i : Int
  pv : Value
  kv : Value
  p : List UInt8
  keep : List Bool
def AA.cells (a : AA) : List Value := [.int .i64 a.k, .int .i64 a.i, a.pv, a.kv]
def AA.at (w : World) (a : AA) : Prop := RowAt w a.pv (bytesV a.p) ∧ RowAt w a.kv (a.keep.map Value.bool)
def okAA (a : AA) : Prop := (-9223372036854775808 ≤ a.i ∧ a.i ≤ 9223372036854775807) ∧ a.p.length ≤ 140737488355328 ∧ a.keep.length ≤ 140737488355328
section
variable {H : Type} {enc : TypeId × Value → H} {w : World} {spare : Nat → Bool} {held : Bool}
theorem open_bls {fuel : Nat} {cs0 : List Value} {x0 : DataW H × List MemPlace} (hf : DataW.trod enc Tryd.prog w 0 spare held fuel 36 cs0 = some x0) (hw : Wt Tryd.prog 36 x0.1) : ∃ (v : Value) (l : List Bool), cs0 = [v] ∧ RowAt w v (l.map Value.bool) ∧ l.length ≤ 140737488355328 := by
  obtain ⟨v, xs, hv, hr, _, hl⟩ := open_rowW 1 1 (fun b : Bool => [Value.bool b]) (fun _ => True) (by decide) (fun _ => rfl) Tryd.underlying36 (by kernel_rfl) (by kernel_rfl) (fun n cs y hy _ => by
    obtain ⟨b, rfl, _⟩ := DataW.trod_bool Tryd.underlying4 hy
    exact ⟨b, rfl, trivial⟩) hf hw
  exact ⟨v, xs, hv, rowAt_of_oneW Value.bool hr, by omega⟩
set_option maxRecDepth 100000 in
theorem open_act5 {fuel : Nat} {cs : List Value} {x : DataW H × List MemPlace} (h : DataW.trod enc Tryd.prog w 0 spare held fuel 51 cs = some x) (hw : Wt Tryd.prog 51 x.1) : ∃ a : AA, cs = a.cells ∧ a.at w ∧ okAA a := by
  obtain ⟨xs, n, _, hx, hl, hlen, hf⟩ := DataW.trod_struct Tryd.underlying51 h
  have h5 : cs.length = 4 := hl.trans (by kernel_rfl)
  have kI : Tryd.prog.cellsOf 3 = 1 := by kernel_rfl
  have kU : Tryd.prog.cellsOf 30 = 1 := by kernel_rfl
  have kB : Tryd.prog.cellsOf 36 = 1 := by kernel_rfl
  match cs, h5 with
  | [c0, c1, c2, c3], _ =>
    match xs, hlen with
    | [y0, y1, y2, y3], _ =>
      have hw2 := wt_struct Tryd.underlying51 (by rw [hx] at hw; exact hw) 2 _ y2.1 rfl rfl
      have hw3 := wt_struct Tryd.underlying51 (by rw [hx] at hw; exact hw) 3 _ y3.1 rfl rfl
      have g0 := hf 0 _ rfl
      have g1 := hf 1 _ rfl
      have g2 := hf 2 _ rfl
      have g3 := hf 3 _ rfl
      simp [kI, kU, kB] at g0 g1 g2 g3
      obtain ⟨k, e0, _, w0⟩ := DataW.trod_int Tryd.underlying3 g0
      obtain ⟨m, e1, _, w1⟩ := DataW.trod_int Tryd.underlying3 g1
      obtain ⟨v2, l2, e2, r2, b2⟩ := open_bs g2 hw2
      obtain ⟨v3, l3, e3, r3, b3⟩ := open_bls g3 hw3
      simp at e0 e1 e2 e3
      subst e0 e1 e2 e3
      exact ⟨⟨k, m, c2, c3, l2, l3⟩, rfl, ⟨r2, r3⟩, i64_ok w1, b2, b3⟩
theorem open_acts5 {a : Option Addr} {len cap : Nat} {d : DataW H} {ps : List MemPlace} (h : DataW.Trod enc Tryd.prog w 0 spare held 43 (.slice a len cap) d ps) (hw : Wt Tryd.prog 43 d) :
    ∃ xs : List AA, RowK 4 w (.slice a len cap) (xs.map AA.cells) ∧ (∀ p ∈ xs, p.at w ∧ okAA p) ∧ xs.length ≤ 2199023255552 := by
  obtain ⟨fuel, hf⟩ := h
  obtain ⟨v, xs, hv, hr, ho, hl⟩ := open_rowW 4 64 AA.cells (fun p => p.at w ∧ okAA p) (by decide) (fun _ => rfl) Tryd.underlying43 (by kernel_rfl) (by kernel_rfl) (fun n cs y hy hwy => open_act5 hy hwy) hf hw
  simp [Value.cells] at hv
  subst hv
  exact ⟨xs, hr, ho, by omega⟩
end
end Go.Proofs.YtlllbacjdjllbaaDoor
