
/- How a row's argument of type [][]uint8 is opened: rows of bytes in a row. -/
import Derived.Test.YtlllbacjdjllbaaDoorOpen
import Derived.Test.YtlllbacjdjllbaaDoorRowM
namespace Go.Proofs.YtlllbacjdjllbaaDoor
open Go Go.RowKit Go.ChangeShapes Go.WideShapes Go.Deep
set_option linter.unusedVariables false
set_option linter.unusedSimpArgs false

theorem rowAt_of_oneW {X : Type} {w : World} {v : Value} {xs : List X} (f : X → Value) (h : RowK 1 w v (xs.map (fun x => [f x]))) : RowAt w v (xs.map f) := by
  refine ⟨by simpa using h.1, ?_⟩
  rcases h.2.2 with ⟨hv, hn⟩ | ⟨a, c, rfl, hl, hc⟩
  · exact .inl ⟨hv, by simpa using hn⟩
  · refine .inr ⟨a, c, by simp, by simpa using hl, fun i hi => ?_⟩
    obtain ⟨B, o, rfl, hB, hx⟩ := hc i (by simpa using hi)
    have := hx 0 (by simp)
    rw [addr_add]
    simpa using this
def Wt {H : Type} (P : Program) (t : TypeId) (d : DataW H) : Prop := (d.weights P t).all (· ≤ reachBytes) = true
theorem wt_at {H : Type} {P : Program} : ∀ (j : Nat) (ts : List TypeId) (ds : List (DataW H)) (t : TypeId) (d : DataW H), ts[j]? = some t → ds[j]? = some d → (DataW.weightsEach P ts ds).all (· ≤ reachBytes) = true → Wt P t d
  | 0, t' :: ts, d' :: ds, t, d, ht, hd, h => by
    simp at ht hd; subst ht hd
    simp only [DataW.weightsEach, List.all_append, Bool.and_eq_true] at h
    exact h.1
  | j + 1, t' :: ts, d' :: ds, t, d, ht, hd, h => by
    simp only [DataW.weightsEach, List.all_append, Bool.and_eq_true] at h
    exact wt_at j ts ds t d (by simpa using ht) (by simpa using hd) h.2
  | j, [], _, t, d, ht, _, _ => by simp at ht
  | j, _ :: _, [], t, d, _, hd, _ => by simp at hd
theorem wtAll_mem {H : Type} {P : Program} {e : TypeId} : ∀ {l : List (DataW H)}, (DataW.weightsAll P e l).all (· ≤ reachBytes) = true → ∀ d ∈ l, Wt P e d
  | [], _, d, hd => by simp at hd
  | x :: l, h, d, hd => by
    simp only [DataW.weightsAll, List.all_append, Bool.and_eq_true] at h
    rcases List.mem_cons.1 hd with rfl | hd
    · exact h.1
    · exact wtAll_mem h.2 d hd
theorem wt_slice {H : Type} {P : Program} {t e : TypeId} {elems spare : List (DataW H)} (ht : P.underlying t = some (.slice e)) (h : Wt P t (.slice elems spare)) : (elems.length + spare.length) * P.bytesOf e ≤ reachBytes ∧ ∀ d ∈ elems, Wt P e d := by
  unfold Wt DataW.weights at h
  rw [ht] at h
  simp only [List.all_cons, List.all_append, Bool.and_eq_true, decide_eq_true_eq] at h
  exact ⟨h.1, wtAll_mem h.2.1⟩
/-- the slice v reads as rows of bytes. -/
def BRows (w : World) (v : Value) (xs : List (List UInt8)) : Prop := ∃ cells : List Value, RowAt w v cells ∧ cells.length = xs.length ∧ ∀ (i : Nat) x c, xs[i]? = some x → cells[i]? = some c → RowAt w c (bytesV x)
theorem BRows.below {w w' : World} {v : Value} {xs : List (List UInt8)} (h : BRows w v xs) (hb : Below w.heap.size w w') : BRows w' v xs := by
  obtain ⟨cells, h1, h2, h3⟩ := h
  exact ⟨cells, h1.below hb, h2, fun i x c hx hc => (h3 i x c hx hc).below hb⟩
section
variable {H : Type} {enc : TypeId × Value → H} {w : World} {spare : Nat → Bool} {held : Bool}
theorem open_rowW {X : Type} (k b : Nat) (cells : X → List Value) (ok : X → Prop) (hk0 : 0 < k) (hcl : ∀ x, (cells x).length = k) {t e : TypeId} (ht : Tryd.prog.underlying t = some (.slice e)) (hk : Tryd.prog.cellsOf e = k) (hby : Tryd.prog.bytesOf e = b)
    (hel : ∀ (n : Nat) (cs : List Value) y, DataW.trod enc Tryd.prog w 0 spare held n e cs = some y → Wt Tryd.prog e y.1 → ∃ x, cs = cells x ∧ ok x)
    {cs0 : List Value} {x0 : DataW H × List MemPlace} {fuel : Nat} (hf : DataW.trod enc Tryd.prog w 0 spare held fuel t cs0 = some x0) (hw : Wt Tryd.prog t x0.1) :
    ∃ (v : Value) (xs : List X), cs0 = [v] ∧ RowK k w v (xs.map cells) ∧ (∀ x ∈ xs, ok x) ∧ xs.length * b ≤ 140737488355328 := by
  rcases open_slice ht hf with ⟨hcs, _⟩ | ⟨a', len', cap', m, n, D, Pl, hcs, _, hl, hm, hmm, hx0, hi⟩
  · exact ⟨_, [], hcs, RowK.nil k w, by simp, by simp⟩
  · rw [hk] at hi
    rw [hx0] at hw
    obtain ⟨hw1, hw2⟩ := wt_slice ht hw
    have hlm : len' ≤ m := by rw [hmm]; split <;> omega
    obtain ⟨xs, hxl, hx⟩ := exists_list len' (fun i x => (∀ j (hj : j < (cells x).length), w.cell? ((a'.add (i * k)).add j) = some (cells x)[j]) ∧ ok x) (fun i hi' => by
      obtain ⟨cs', hc, ht'⟩ := hi i (by omega)
      obtain ⟨_, hcl', hat⟩ := World.cells?_some hc
      obtain ⟨x, rfl, hx⟩ := hel n cs' _ ht' (hw2 _ (List.mem_map_of_mem (List.mem_range.2 hi')))
      exact ⟨x, fun j hj => by rw [hat j (by omega)]; exact List.getElem?_eq_getElem hj, hx⟩)
    refine ⟨_, xs, hcs, ⟨by rw [List.length_map]; omega, by intro y hy; obtain ⟨x, _, rfl⟩ := List.mem_map.1 hy; exact hcl x, .inr ⟨a', cap', by rw [List.length_map, hxl], by rw [List.length_map, hxl]; exact hl, fun i hi' => ?_⟩⟩, fun x hx' => ?_, ?_⟩
    · rw [List.length_map] at hi'
      have h := (hx i hi').1
      have h0 := h 0 (by rw [hcl]; exact hk0)
      obtain ⟨b, o, sp⟩ := a'
      have hz := (hx 0 (by omega)).1 0 (by rw [hcl]; exact hk0)
      have hs : sp = none := by simpa [Addr.add] using World.cell?_spot hz
      clear hz
      subst hs
      simp only [addr_add] at h h0
      refine ⟨b, o, rfl, World.block_lt_of_cell? w _ h0, fun j hj => ?_⟩
      rw [List.getElem_map] at hj
      rw [h j hj]
      simp
    · obtain ⟨i, hi', rfl⟩ := List.getElem_of_mem hx'
      exact (hx i hi').2
    · rw [hby] at hw1
      simp only [List.length_map, List.length_range] at hw1
      have e : reachBytes ≤ 140737488355328 := by decide
      rw [hxl]
      have : len' * b ≤ (len' + (m - len')) * b := Nat.mul_le_mul_right _ (by omega)
      omega
/-- a write that comes in. -/
theorem open_bs {fuel : Nat} {cs0 : List Value} {x0 : DataW H × List MemPlace} (hf : DataW.trod enc Tryd.prog w 0 spare held fuel 30 cs0 = some x0) (hw : Wt Tryd.prog 30 x0.1) : ∃ (v : Value) (l : List UInt8), cs0 = [v] ∧ RowAt w v (bytesV l) ∧ l.length ≤ 140737488355328 := by
  obtain ⟨v, xs, hv, hr, _, hl⟩ := open_rowW 1 1 (fun b : UInt8 => [byteV b]) (fun _ => True) (by decide) (fun _ => rfl) Tryd.underlying30 (by kernel_rfl) (by kernel_rfl) (fun n cs y hy _ => by
    obtain ⟨m, rfl, _, hw⟩ := DataW.trod_int Tryd.underlying5 hy
    obtain ⟨b, rfl⟩ := u8_ok hw
    exact ⟨b, rfl, trivial⟩) hf hw
  exact ⟨v, xs, hv, rowAt_of_oneW byteV hr, by omega⟩
theorem open_bss {a : Option Addr} {len cap : Nat} {d : DataW H} {ps : List MemPlace} (h : DataW.Trod enc Tryd.prog w 0 spare held 22 (.slice a len cap) d ps) (hw : Wt Tryd.prog 22 d) :
    ∃ xs : List (List UInt8), BRows w (.slice a len cap) xs ∧ (∀ x ∈ xs, x.length ≤ 140737488355328) ∧ xs.length ≤ 5864062014805 := by
  obtain ⟨fuel, hf⟩ := h
  obtain ⟨v, xs, hv, hr, ho, hl⟩ := open_rowW 1 24 (fun p : Value × List UInt8 => [p.1]) (fun p => RowAt w p.1 (bytesV p.2) ∧ p.2.length ≤ 140737488355328) (by decide) (fun _ => rfl) Tryd.underlying22 (by kernel_rfl) (by kernel_rfl) (fun n cs y hy hwy => by
    obtain ⟨v, l, rfl, h1, h2⟩ := open_bs hy hwy
    exact ⟨(v, l), rfl, h1, h2⟩) hf hw
  simp [Value.cells] at hv
  subst hv
  refine ⟨xs.map (·.2), ⟨xs.map (·.1), rowAt_of_oneW (fun p : Value × List UInt8 => p.1) hr, by simp, fun i x c hx hc => ?_⟩, ?_, by rw [List.length_map]; omega⟩
  · rw [List.getElem?_map] at hx hc
    cases hi : xs[i]? with
    | none => rw [hi] at hx; cases hx
    | some p =>
      rw [hi] at hx hc
      simp at hx hc
      subst hx hc
      exact (ho p (List.mem_of_getElem? hi)).1
  · intro x hx
    obtain ⟨p, hp, rfl⟩ := List.mem_map.1 hx
    exact (ho p hp).2
end
end Go.Proofs.YtlllbacjdjllbaaDoor
