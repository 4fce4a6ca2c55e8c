/- How a row's argument of type api.Pattern is opened: rows of elements of several cells. -/
import Derived.Test.YtlgglkkafcbikaaDoorOpen3
import Derived.Test.YtlgglkkafcbikaaDoorRowK
namespace Go.Proofs.YtlgglkkafcbikaaDoor
open Go Go.RowKit Go.ChangeShapes Go.WideShapes Go.Deep
set_option linter.unusedVariables false
set_option linter.unusedSimpArgs false

section
variable {H : Type} {enc : TypeId × Value → H} {w : World} {spare : Nat → Bool} {held : Bool}
theorem open_rowK {X : Type} (k : Nat) (cells : X → List Value) (ok : X → Prop) (hk0 : 0 < k) (hcl : ∀ x, (cells x).length = k) {t e : TypeId} (ht : Tryd.prog.underlying t = some (.slice e)) (hk : Tryd.prog.cellsOf e = k)
    (hel : ∀ (n : Nat) (cs : List Value) y, DataW.trod enc Tryd.prog w 0 spare held n e cs = some y → ∃ x, cs = cells x ∧ ok x)
    {cs0 : List Value} {x0 : DataW H × List MemPlace} {fuel : Nat} (hf : DataW.trod enc Tryd.prog w 0 spare held fuel t cs0 = some x0) :
    ∃ (v : Value) (xs : List X), cs0 = [v] ∧ RowK k w v (xs.map cells) ∧ ∀ x ∈ xs, ok x := by
  rcases open_slice ht hf with ⟨hcs, _⟩ | ⟨a', len', cap', m, n, D, Pl, hcs, _, hl, hm, hmm, _, hi⟩
  · exact ⟨_, [], hcs, RowK.nil k w, by simp⟩
  · rw [hk] at hi
    have hlm : len' ≤ m := by rw [hmm]; split <;> omega
    obtain ⟨xs, hxl, hx⟩ := exists_list len' (fun i x => (∀ j (hj : j < (cells x).length), w.cell? ((a'.add (i * k)).add j) = some (cells x)[j]) ∧ ok x) (fun i hi' => by
      obtain ⟨cs', hc, ht'⟩ := hi i (by omega)
      obtain ⟨_, hcl', hat⟩ := World.cells?_some hc
      obtain ⟨x, rfl, hx⟩ := hel n cs' _ ht'
      exact ⟨x, fun j hj => by rw [hat j (by omega)]; exact List.getElem?_eq_getElem hj, hx⟩)
    refine ⟨_, xs, hcs, ⟨by rw [List.length_map]; omega, by intro y hy; obtain ⟨x, _, rfl⟩ := List.mem_map.1 hy; exact hcl x, .inr ⟨a', cap', by rw [List.length_map, hxl], by rw [List.length_map, hxl]; exact hl, fun i hi' => ?_⟩⟩, fun x hx' => ?_⟩
    · rw [List.length_map] at hi'
      have h := (hx i hi').1
      have h0 := h 0 (by rw [hcl]; exact hk0)
      obtain ⟨b, o, sp⟩ := a'
      have hz := (hx 0 (by omega)).1 0 (by rw [hcl]; exact hk0)
      have hs : sp = none := by simpa [Addr.add] using World.cell?_spot hz
      clear hz
      subst hs
      simp only [addr_add] at h h0
      refine ⟨b, o, rfl, World.block_lt_of_cell? w _ h0, fun j hj => ?_⟩
      rw [List.getElem_map] at hj
      rw [h j hj]
      simp
    · obtain ⟨i, hi', rfl⟩ := List.getElem_of_mem hx'
      exact (hx i hi').2
end
/-- what a pattern's node, edge that comes in is. -/
def okPNi (p : PN) : Prop := p.l.length ≤ maxLen ∧ p.key.length ≤ maxLen ∧ okV p.lo ∧ okV p.hi
def okPEi (p : PE) : Prop := i64R p.a ∧ i64R p.b ∧ p.t.length ≤ maxLen
section
variable {H : Type} {enc : TypeId × Value → H} {w : World} {base : Nat} {spare : Nat → Bool} {held : Bool} {fuel : Nat} {cs : List Value} {x : DataW H × List MemPlace}
set_option maxRecDepth 100000 in
theorem open_peC (h : DataW.trod enc Tryd.prog w base spare held fuel 34 cs = some x) : ∃ y : PE, cs = y.cells ∧ okPEi y := by
  obtain ⟨xs, n, _, _, hl, hlen, hf⟩ := DataW.trod_struct Tryd.underlying34 h
  have h5 : cs.length = 4 := hl.trans (by kernel_rfl)
  have kI : Tryd.prog.cellsOf 3 = 1 := by kernel_rfl
  have kB : Tryd.prog.cellsOf 4 = 1 := by kernel_rfl
  have kS : Tryd.prog.cellsOf 9 = 1 := by kernel_rfl
  match cs, h5 with
  | [c0, c1, c2, c3], _ =>
    match xs, hlen with
    | [y0, y1, y2, y3], _ =>
      have g0 := hf 0 _ rfl
      have g1 := hf 1 _ rfl
      have g2 := hf 2 _ rfl
      have g3 := hf 3 _ rfl
      simp [kI, kB, kS] at g0 g1 g2 g3
      obtain ⟨k, e0, _, w0⟩ := DataW.trod_int Tryd.underlying3 g0
      obtain ⟨m, e1, _, w1⟩ := DataW.trod_int Tryd.underlying3 g1
      obtain ⟨s, e2, _, w2⟩ := DataW.trod_string Tryd.underlying9 g2
      obtain ⟨b, e3, _⟩ := DataW.trod_bool Tryd.underlying4 g3
      simp at e0 e1 e2 e3
      subst e0 e1 e2 e3
      exact ⟨⟨k, m, s.data.toList, b⟩, by simp [PE.cells, bytes_of], i64_ok w0, i64_ok w1, by rw [Array.length_toList]; exact w2⟩
set_option maxRecDepth 100000 in
theorem open_pnC (h : DataW.trod enc Tryd.prog w base spare held fuel 48 cs = some x) : ∃ y : PN, cs = y.cells ∧ okPNi y := by
  obtain ⟨xs, n, _, _, hl, hlen, hf⟩ := DataW.trod_struct Tryd.underlying48 h
  have h5 : cs.length = 12 := hl.trans (by kernel_rfl)
  have kS : Tryd.prog.cellsOf 9 = 1 := by kernel_rfl
  have kV : Tryd.prog.cellsOf 46 = 5 := by kernel_rfl
  match cs, h5 with
  | [c0, c1, c2, c3, c4, c5, c6, c7, c8, c9, c10, c11], _ =>
    match xs, hlen with
    | [y0, y1, y2, y3], _ =>
      have g0 := hf 0 _ rfl
      have g1 := hf 1 _ rfl
      have g2 := hf 2 _ rfl
      have g3 := hf 3 _ rfl
      simp [kS, kV] at g0 g1 g2 g3
      obtain ⟨s, e0, _, w0⟩ := DataW.trod_string Tryd.underlying9 g0
      obtain ⟨s', e1, _, w1⟩ := DataW.trod_string Tryd.underlying9 g1
      obtain ⟨lo, e2, w2⟩ := open_valC g2
      obtain ⟨hi, e3, w3⟩ := open_valC g3
      simp [V5.cells] at e0 e1 e2 e3
      obtain ⟨rfl, rfl, rfl, rfl, rfl⟩ := e2
      obtain ⟨rfl, rfl, rfl, rfl, rfl⟩ := e3
      subst e0 e1
      exact ⟨⟨s.data.toList, s'.data.toList, lo, hi⟩, by simp [PN.cells, bytes_of], by rw [Array.length_toList]; exact w0, by rw [Array.length_toList]; exact w1, w2, w3⟩
end
section
variable {H : Type} {enc : TypeId × Value → H} {w : World} {spare : Nat → Bool} {held : Bool}
/-- a pattern reads as its nodes and edges. -/
def PatAt (w : World) (v : Value) (ns : List PN) (es : List PE) : Prop := ∃ v1 v2, v = .agg #[v1, v2] ∧ RowK 12 w v1 (ns.map PN.cells) ∧ RowK 4 w v2 (es.map PE.cells)
set_option maxRecDepth 100000 in
theorem open_pattern {v : Value} {d : DataW H} {ps : List MemPlace} {b0 : Nat} (hv : Value.okWide Tryd.prog w .any b0 25 v) (h : DataW.Trod enc Tryd.prog w 0 spare held 25 v d ps) :
    ∃ (ns : List PN) (es : List PE), PatAt w v ns es ∧ (∀ p ∈ ns, okPNi p) ∧ (∀ p ∈ es, okPEi p) := by
  obtain ⟨cs, rfl, hsz⟩ := okWide_struct Tryd.underlying25 hv
  obtain ⟨fuel, hf⟩ := h
  obtain ⟨xs, n, _, _, hl, hlen, hg⟩ := DataW.trod_struct Tryd.underlying25 hf
  obtain ⟨l⟩ := cs
  have h2 : l.length = 2 := by have := hl.trans (show Tryd.prog.cellsOf 25 = 2 by kernel_rfl); simpa [Value.cells] using this
  have kN : Tryd.prog.cellsOf 22 = 1 := by kernel_rfl
  have kE : Tryd.prog.cellsOf 23 = 1 := by kernel_rfl
  match l, h2 with
  | [c0, c1], _ =>
    match xs, hlen with
    | [y0, y1], _ =>
      have g0 := hg 0 _ rfl
      have g1 := hg 1 _ rfl
      simp [Value.cells, kN, kE] at g0 g1
      obtain ⟨v1, ns, e1, r1, o1⟩ := open_rowK 12 PN.cells okPNi (by decide) (fun _ => rfl) Tryd.underlying22 (by kernel_rfl) (fun n cs y hy => open_pnC hy) g0
      obtain ⟨v2, es, e2, r2, o2⟩ := open_rowK 4 PE.cells okPEi (by decide) (fun _ => rfl) Tryd.underlying23 (by kernel_rfl) (fun n cs y hy => open_peC hy) g1
      simp at e1 e2
      subst e1 e2
      exact ⟨ns, es, ⟨_, _, rfl, r1, r2⟩, o1, o2⟩
end
end Go.Proofs.YtlgglkkafcbikaaDoor
