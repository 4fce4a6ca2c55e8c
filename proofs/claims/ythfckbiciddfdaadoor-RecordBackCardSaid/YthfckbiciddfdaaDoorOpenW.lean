
/- How a row's argument of type []api.Write is opened; what the form's own reach says of its parts. -/
import Derived.Test.YthfckbiciddfdaaDoorOpen2
import Derived.Test.YthfckbiciddfdaaDoorDec3
import Derived.Test.YthfckbiciddfdaaDoorRowM
import Derived.Test.YthfckbiciddfdaaDoorWide
namespace Go.Proofs.YthfckbiciddfdaaDoor
open Go Go.RowKit Go.ChangeShapes Go.WideShapes Go.Deep
set_option linter.unusedVariables false
set_option linter.unusedSimpArgs false

theorem rowAt_of_oneW {X : Type} {w : World} {v : Value} {xs : List X} (f : X → Value) (h : RowK 1 w v (xs.map (fun x => [f x]))) : RowAt w v (xs.map f) := by
  refine ⟨by simpa using h.1, ?_⟩
  rcases h.2.2 with ⟨hv, hn⟩ | ⟨a, c, rfl, hl, hc⟩
  · exact .inl ⟨hv, by simpa using hn⟩
  · refine .inr ⟨a, c, by simp, by simpa using hl, fun i hi => ?_⟩
    obtain ⟨B, o, rfl, hB, hx⟩ := hc i (by simpa using hi)
    have := hx 0 (by simp)
    rw [addr_add]
    simpa using this
def okPRw (p : PR) : Prop := p.key.length ≤ maxLen ∧ okV p.v
def okEdgeW (x : ED) : Prop := i64R x.a ∧ i64R x.b ∧ x.t.length ≤ maxLen ∧ x.w < W64
def Wt {H : Type} (P : Program) (t : TypeId) (d : DataW H) : Prop := (d.weights P t).all (· ≤ reachBytes) = true
theorem wt_at {H : Type} {P : Program} : ∀ (j : Nat) (ts : List TypeId) (ds : List (DataW H)) (t : TypeId) (d : DataW H), ts[j]? = some t → ds[j]? = some d → (DataW.weightsEach P ts ds).all (· ≤ reachBytes) = true → Wt P t d
  | 0, t' :: ts, d' :: ds, t, d, ht, hd, h => by
    simp at ht hd; subst ht hd
    simp only [DataW.weightsEach, List.all_append, Bool.and_eq_true] at h
    exact h.1
  | j + 1, t' :: ts, d' :: ds, t, d, ht, hd, h => by
    simp only [DataW.weightsEach, List.all_append, Bool.and_eq_true] at h
    exact wt_at j ts ds t d (by simpa using ht) (by simpa using hd) h.2
  | j, [], _, t, d, ht, _, _ => by simp at ht
  | j, _ :: _, [], t, d, _, hd, _ => by simp at hd
theorem wtAll_mem {H : Type} {P : Program} {e : TypeId} : ∀ {l : List (DataW H)}, (DataW.weightsAll P e l).all (· ≤ reachBytes) = true → ∀ d ∈ l, Wt P e d
  | [], _, d, hd => by simp at hd
  | x :: l, h, d, hd => by
    simp only [DataW.weightsAll, List.all_append, Bool.and_eq_true] at h
    rcases List.mem_cons.1 hd with rfl | hd
    · exact h.1
    · exact wtAll_mem h.2 d hd
theorem wt_slice {H : Type} {P : Program} {t e : TypeId} {elems spare : List (DataW H)} (ht : P.underlying t = some (.slice e)) (h : Wt P t (.slice elems spare)) : (elems.length + spare.length) * P.bytesOf e ≤ reachBytes ∧ ∀ d ∈ elems, Wt P e d := by
  unfold Wt DataW.weights at h
  rw [ht] at h
  simp only [List.all_cons, List.all_append, Bool.and_eq_true, decide_eq_true_eq] at h
  exact ⟨h.1, wtAll_mem h.2.1⟩
theorem wt_struct {H : Type} {P : Program} {t : TypeId} {fs : Array Field} {parts : List (DataW H)} (ht : P.underlying t = some (.struct fs)) (h : Wt P t (.agg parts)) (i : Nat) (f : Field) (d : DataW H) (hf : fs[i]? = some f) (hd : parts[i]? = some d) : Wt P f.type d := by
  unfold Wt DataW.weights at h
  rw [ht] at h
  exact wt_at i _ _ _ _ (by rw [List.getElem?_map, Array.getElem?_toList, hf]; rfl) hd h
theorem wt_string {H : Type} {P : Program} {t : TypeId} {l : List UInt8} (h : Wt P t (DataW.lit (H := H) (.string l))) : l.length ≤ 140737488355328 := by
  unfold Wt DataW.weights at h
  simp only [List.all_cons, List.all_nil, Bool.and_true, decide_eq_true_eq] at h
  have e : reachBytes ≤ 140737488355328 := by decide
  omega
section
variable {H : Type} {enc : TypeId × Value → H} {w : World} {base : Nat} {spare : Nat → Bool} {held : Bool} {fuel : Nat} {cs : List Value} {x : DataW H × List MemPlace}
set_option maxRecDepth 100000 in
theorem open_valW (h : DataW.trod enc Tryd.prog w base spare held fuel 43 cs = some x) (hw : Wt Tryd.prog 43 x.1) : ∃ y : V5, cs = y.cells ∧ okV y ∧ y.t.length ≤ 140737488355328 := by
  obtain ⟨xs, n, _, hx, hl, hlen, hf⟩ := DataW.trod_struct Tryd.underlying43 h
  have h5 : cs.length = 5 := hl.trans (by kernel_rfl)
  have kI : Tryd.prog.cellsOf 3 = 1 := by kernel_rfl
  have kB : Tryd.prog.cellsOf 4 = 1 := by kernel_rfl
  have kF : Tryd.prog.cellsOf 26 = 1 := by kernel_rfl
  have kS : Tryd.prog.cellsOf 9 = 1 := by kernel_rfl
  match cs, h5 with
  | [c0, c1, c2, c3, c4], _ =>
    match xs, hlen with
    | [y0, y1, y2, y3, y4], _ =>
      have hw4 := wt_struct Tryd.underlying43 (by rw [hx] at hw; exact hw) 4 _ y4.1 rfl rfl
      have g0 := hf 0 _ rfl
      have g1 := hf 1 _ rfl
      have g2 := hf 2 _ rfl
      have g3 := hf 3 _ rfl
      have g4 := hf 4 _ rfl
      simp [kI, kB, kF, kS] at g0 g1 g2 g3 g4
      obtain ⟨k, e0, _, w0⟩ := DataW.trod_int Tryd.underlying3 g0
      obtain ⟨b, e1, _⟩ := DataW.trod_bool Tryd.underlying4 g1
      obtain ⟨m, e2, _, w2⟩ := DataW.trod_int Tryd.underlying3 g2
      obtain ⟨f, e3, w3⟩ := trod_float64 Tryd.underlying26 g3
      obtain ⟨s, e4, hs, w4⟩ := DataW.trod_string Tryd.underlying9 g4
      simp at e0 e1 e2 e3 e4
      subst e0 e1 e2 e3 e4
      rw [hs] at hw4
      exact ⟨⟨k, b, m, f, s.data.toList⟩, by simp [V5.cells, bytes_of], ⟨i64_ok w0, i64_ok w2, w3, by rw [Array.length_toList]; exact w4⟩, wt_string hw4⟩
set_option maxRecDepth 100000 in
theorem open_edgeW (h : DataW.trod enc Tryd.prog w base spare held fuel 28 cs = some x) (hw : Wt Tryd.prog 28 x.1) : ∃ y : ED, cs = y.cells ∧ okEdgeW y ∧ y.t.length ≤ 140737488355328 := by
  obtain ⟨xs, n, _, hx, hl, hlen, hf⟩ := DataW.trod_struct Tryd.underlying28 h
  have h5 : cs.length = 4 := hl.trans (by kernel_rfl)
  have kI : Tryd.prog.cellsOf 3 = 1 := by kernel_rfl
  have kF : Tryd.prog.cellsOf 26 = 1 := by kernel_rfl
  have kS : Tryd.prog.cellsOf 9 = 1 := by kernel_rfl
  match cs, h5 with
  | [c0, c1, c2, c3], _ =>
    match xs, hlen with
    | [y0, y1, y2, y3], _ =>
      have hw2 := wt_struct Tryd.underlying28 (by rw [hx] at hw; exact hw) 2 _ y2.1 rfl rfl
      have g0 := hf 0 _ rfl
      have g1 := hf 1 _ rfl
      have g2 := hf 2 _ rfl
      have g3 := hf 3 _ rfl
      simp [kI, kF, kS] at g0 g1 g2 g3
      obtain ⟨k, e0, _, w0⟩ := DataW.trod_int Tryd.underlying3 g0
      obtain ⟨m, e1, _, w1⟩ := DataW.trod_int Tryd.underlying3 g1
      obtain ⟨s, e2, hs, w2⟩ := DataW.trod_string Tryd.underlying9 g2
      obtain ⟨f, e3, w3⟩ := trod_float64 Tryd.underlying26 g3
      simp at e0 e1 e2 e3
      subst e0 e1 e2 e3
      rw [hs] at hw2
      exact ⟨⟨k, m, s.data.toList, f⟩, by simp [ED.cells, bytes_of], ⟨i64_ok w0, i64_ok w1, by rw [Array.length_toList]; exact w2, w3⟩, wt_string hw2⟩
set_option maxRecDepth 100000 in
theorem open_prW (h : DataW.trod enc Tryd.prog w base spare held fuel 45 cs = some x) (hw : Wt Tryd.prog 45 x.1) : ∃ y : PR, cs = y.cells ∧ okPRw y ∧ y.key.length ≤ 140737488355328 ∧ y.v.t.length ≤ 140737488355328 := by
  obtain ⟨xs, n, _, hx, hl, hlen, hf⟩ := DataW.trod_struct Tryd.underlying45 h
  have h5 : cs.length = 6 := hl.trans (by kernel_rfl)
  have kS : Tryd.prog.cellsOf 9 = 1 := by kernel_rfl
  have kV : Tryd.prog.cellsOf 43 = 5 := by kernel_rfl
  match cs, h5 with
  | [c0, c1, c2, c3, c4, c5], _ =>
    match xs, hlen with
    | [y0, y1], _ =>
      have hw0 := wt_struct Tryd.underlying45 (by rw [hx] at hw; exact hw) 0 _ y0.1 rfl rfl
      have hw1 := wt_struct Tryd.underlying45 (by rw [hx] at hw; exact hw) 1 _ y1.1 rfl rfl
      have g0 := hf 0 _ rfl
      have g1 := hf 1 _ rfl
      simp [kS, kV] at g0 g1
      obtain ⟨s, e0, hs, w0⟩ := DataW.trod_string Tryd.underlying9 g0
      obtain ⟨v, e1, w1, w2⟩ := open_valW g1 hw1
      simp [V5.cells] at e0 e1
      obtain ⟨rfl, rfl, rfl, rfl, rfl⟩ := e1
      subst e0
      rw [hs] at hw0
      exact ⟨⟨s.data.toList, v⟩, by simp [PR.cells, bytes_of], ⟨by rw [Array.length_toList]; exact w0, w1⟩, wt_string hw0, w2⟩
end
section
variable {H : Type} {enc : TypeId × Value → H} {w : World} {spare : Nat → Bool} {held : Bool}
theorem open_rowW {X : Type} (k b : Nat) (cells : X → List Value) (ok : X → Prop) (hk0 : 0 < k) (hcl : ∀ x, (cells x).length = k) {t e : TypeId} (ht : Tryd.prog.underlying t = some (.slice e)) (hk : Tryd.prog.cellsOf e = k) (hby : Tryd.prog.bytesOf e = b)
    (hel : ∀ (n : Nat) (cs : List Value) y, DataW.trod enc Tryd.prog w 0 spare held n e cs = some y → Wt Tryd.prog e y.1 → ∃ x, cs = cells x ∧ ok x)
    {cs0 : List Value} {x0 : DataW H × List MemPlace} {fuel : Nat} (hf : DataW.trod enc Tryd.prog w 0 spare held fuel t cs0 = some x0) (hw : Wt Tryd.prog t x0.1) :
    ∃ (v : Value) (xs : List X), cs0 = [v] ∧ RowK k w v (xs.map cells) ∧ (∀ x ∈ xs, ok x) ∧ xs.length * b ≤ 140737488355328 := by
  rcases open_slice ht hf with ⟨hcs, _⟩ | ⟨a', len', cap', m, n, D, Pl, hcs, _, hl, hm, hmm, hx0, hi⟩
  · exact ⟨_, [], hcs, RowK.nil k w, by simp, by simp⟩
  · rw [hk] at hi
    rw [hx0] at hw
    obtain ⟨hw1, hw2⟩ := wt_slice ht hw
    have hlm : len' ≤ m := by rw [hmm]; split <;> omega
    obtain ⟨xs, hxl, hx⟩ := exists_list len' (fun i x => (∀ j (hj : j < (cells x).length), w.cell? ((a'.add (i * k)).add j) = some (cells x)[j]) ∧ ok x) (fun i hi' => by
      obtain ⟨cs', hc, ht'⟩ := hi i (by omega)
      obtain ⟨_, hcl', hat⟩ := World.cells?_some hc
      obtain ⟨x, rfl, hx⟩ := hel n cs' _ ht' (hw2 _ (List.mem_map_of_mem (List.mem_range.2 hi')))
      exact ⟨x, fun j hj => by rw [hat j (by omega)]; exact List.getElem?_eq_getElem hj, hx⟩)
    refine ⟨_, xs, hcs, ⟨by rw [List.length_map]; omega, by intro y hy; obtain ⟨x, _, rfl⟩ := List.mem_map.1 hy; exact hcl x, .inr ⟨a', cap', by rw [List.length_map, hxl], by rw [List.length_map, hxl]; exact hl, fun i hi' => ?_⟩⟩, fun x hx' => ?_, ?_⟩
    · rw [List.length_map] at hi'
      have h := (hx i hi').1
      have h0 := h 0 (by rw [hcl]; exact hk0)
      obtain ⟨b, o, sp⟩ := a'
      have hz := (hx 0 (by omega)).1 0 (by rw [hcl]; exact hk0)
      have hs : sp = none := by simpa [Addr.add] using World.cell?_spot hz
      clear hz
      subst hs
      simp only [addr_add] at h h0
      refine ⟨b, o, rfl, World.block_lt_of_cell? w _ h0, fun j hj => ?_⟩
      rw [List.getElem_map] at hj
      rw [h j hj]
      simp
    · obtain ⟨i, hi', rfl⟩ := List.getElem_of_mem hx'
      exact (hx i hi').2
    · rw [hby] at hw1
      simp only [List.length_map, List.length_range] at hw1
      have e : reachBytes ≤ 140737488355328 := by decide
      rw [hxl]
      have : len' * b ≤ (len' + (m - len')) * b := Nat.mul_le_mul_right _ (by omega)
      omega
/-- a write that comes in. -/
def okWi (p : WV) : Prop := i64R p.x.id ∧ okEdgeW p.x.ed ∧ (∀ q ∈ p.x.ps, okPRw q) ∧ okBig p.x ∧ p.x.ss.length ≤ 8796093022208 ∧ p.x.ps.length ≤ 2199023255552
set_option maxRecDepth 100000 in
set_option maxHeartbeats 1000000 in
theorem open_writeW {fuel : Nat} {cs : List Value} {x : DataW H × List MemPlace} (h : DataW.trod enc Tryd.prog w 0 spare held fuel 30 cs = some x) (hw : Wt Tryd.prog 30 x.1) : ∃ p : WV, cs = p.cells ∧ p.rows w ∧ okWi p := by
  obtain ⟨xs, n, _, hx, hl, hlen, hf⟩ := DataW.trod_struct Tryd.underlying30 h
  have h5 : cs.length = 9 := hl.trans (by kernel_rfl)
  have kI : Tryd.prog.cellsOf 3 = 1 := by kernel_rfl
  have kB : Tryd.prog.cellsOf 4 = 1 := by kernel_rfl
  have kN : Tryd.prog.cellsOf 25 = 2 := by kernel_rfl
  have kE : Tryd.prog.cellsOf 28 = 4 := by kernel_rfl
  have kS : Tryd.prog.cellsOf 22 = 1 := by kernel_rfl
  have kP : Tryd.prog.cellsOf 23 = 1 := by kernel_rfl
  match cs, h5 with
  | [c0, c1, c2, c3, c4, c5, c6, c7, c8], _ =>
    match xs, hlen with
    | [y0, y1, y2, y3, y4], _ =>
      have hw3 := wt_struct Tryd.underlying30 (by rw [hx] at hw; exact hw) 3 _ y3.1 rfl rfl
      have hw4 := wt_struct Tryd.underlying30 (by rw [hx] at hw; exact hw) 4 _ y4.1 rfl rfl
      have g0 := hf 0 _ rfl
      have g1 := hf 1 _ rfl
      have g2 := hf 2 _ rfl
      have g3 := hf 3 _ rfl
      have g4 := hf 4 _ rfl
      simp [kI, kB, kN, kE] at g0 g1 g2 g3 g4
      obtain ⟨b0, e0, _⟩ := DataW.trod_bool Tryd.underlying4 g0
      obtain ⟨k, e1, _, w1⟩ := DataW.trod_int Tryd.underlying3 g1
      obtain ⟨b2, e2, _⟩ := DataW.trod_bool Tryd.underlying4 g2
      obtain ⟨ed, e4, w4, w5⟩ := open_edgeW g4 hw4
      obtain ⟨xs', n', _, hx', hl', hlen', hf'⟩ := DataW.trod_struct Tryd.underlying25 g3
      match xs', hlen' with
      | [z0, z1], _ =>
        have hv0 := wt_struct Tryd.underlying25 (by rw [hx'] at hw3; exact hw3) 0 _ z0.1 rfl rfl
        have hv1 := wt_struct Tryd.underlying25 (by rw [hx'] at hw3; exact hw3) 1 _ z1.1 rfl rfl
        have q0 := hf' 0 _ rfl
        have q1 := hf' 1 _ rfl
        simp [kS, kP] at q0 q1
        obtain ⟨v1, ss, e5, r1, o1, l1⟩ := open_rowW 1 16 (fun s : List UInt8 => [strV s]) (fun s => s.length ≤ 140737488355328) (by decide) (fun _ => rfl) Tryd.underlying22 (by kernel_rfl) (by kernel_rfl) (fun n cs y hy hwy => by
          obtain ⟨s, rfl, hs, hw'⟩ := DataW.trod_string Tryd.underlying9 hy
          rw [hs] at hwy
          exact ⟨s.data.toList, by simp [strV, bytes_of], wt_string hwy⟩) q0 hv0
        obtain ⟨v2, qs, e6, r2, o2, l2⟩ := open_rowW 6 64 PR.cells (fun q => okPRw q ∧ q.key.length ≤ 140737488355328 ∧ q.v.t.length ≤ 140737488355328) (by decide) (fun _ => rfl) Tryd.underlying23 (by kernel_rfl) (by kernel_rfl) (fun n cs y hy hwy => open_prW hy hwy) q1 hv1
        simp [ED.cells] at e0 e1 e2 e4 e5 e6
        obtain ⟨rfl, rfl, rfl, rfl⟩ := e4
        subst e0 e1 e2 e5 e6
        have r1' := rowAt_of_oneW strV r1
        obtain ⟨a1, n1, c1', rfl⟩ := r1'.sh
        have hn1 := r1'.len
        obtain ⟨a2, c2', e7, _⟩ := r2.shape
        rw [List.length_map] at e7 hn1
        subst e7 hn1
        refine ⟨⟨⟨b0, k, b2, ss, qs, ed⟩, a1, c1', a2, c2'⟩, rfl, ⟨r1', r2⟩, i64_ok w1, w4, fun q hq => (o2 q hq).1, ⟨w5, ?_, ?_, o1, fun q hq => (o2 q hq).2⟩, ?_, ?_⟩
        · show ss.length ≤ _; omega
        · show qs.length ≤ _; omega
        · show ss.length ≤ _; omega
        · show qs.length ≤ _; omega
theorem open_writes {a : Option Addr} {len cap : Nat} {d : DataW H} {ps : List MemPlace} (h : DataW.Trod enc Tryd.prog w 0 spare held 31 (.slice a len cap) d ps) (hw : Wt Tryd.prog 31 d) :
    ∃ xs : List WV, RowK 9 w (.slice a len cap) (xs.map WV.cells) ∧ (∀ p ∈ xs, p.rows w ∧ okWi p) ∧ xs.length ≤ 1256584717458 := by
  obtain ⟨fuel, hf⟩ := h
  obtain ⟨v, xs, hv, hr, ho, hl⟩ := open_rowW 9 112 WV.cells (fun p => p.rows w ∧ okWi p) (by decide) (fun _ => rfl) Tryd.underlying31 (by kernel_rfl) (by kernel_rfl) (fun n cs y hy hwy => open_writeW hy hwy) hf hw
  simp [Value.cells] at hv
  subst hv
  exact ⟨xs, hr, ho, by omega⟩
end
end Go.Proofs.YthfckbiciddfdaaDoor
