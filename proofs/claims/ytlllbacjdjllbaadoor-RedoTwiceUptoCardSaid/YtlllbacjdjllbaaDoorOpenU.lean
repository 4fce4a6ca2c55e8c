
/- How a row's argument of type [][]uint8 is opened where the whole is of small bulk. -/
import Derived.Test.YtlllbacjdjllbaaDoorRows
import Derived.Test.YtlllbacjdjllbaaDoorOpenB
import Derived.Test.YtlllbacjdjllbaaDoorLaw5e
namespace Go.Proofs.YtlllbacjdjllbaaDoor
open Go Go.RowKit Go.ChangeShapes Go.WideShapes Go.Deep
set_option linter.unusedVariables false
set_option linter.unusedSimpArgs false

theorem bulk_pos {H : Type} (d : DataW H) : 1 ≤ Rows.uptoBulk d := by
  cases d with
  | lit x => cases x <;> simp [Rows.uptoBulk]
  | _ => simp [Rows.uptoBulk]
theorem bulk_all {H : Type} : ∀ l : List (DataW H), Rows.uptoBulkAll l = (l.map Rows.uptoBulk).sum
  | [] => rfl
  | d :: r => by simp [Rows.uptoBulkAll, bulk_all r]
theorem sum_range {X : Type} (f : X → Nat) : ∀ (xs : List X) (g : Nat → Nat), (∀ i (h : i < xs.length), f xs[i] ≤ g i) → (xs.map f).sum ≤ ((List.range xs.length).map g).sum
  | [], g, _ => Nat.zero_le _
  | x :: r, g, h => by
    have h0 := h 0 (by simp)
    have ih := sum_range f r (fun i => g (i + 1)) (fun i hi => h (i + 1) (by simpa using hi))
    rw [List.map_cons, List.sum_cons, List.length_cons, List.range_succ_eq_map, List.map_cons, List.sum_cons, List.map_map]
    exact Nat.add_le_add h0 ih
section
variable {H : Type} {enc : TypeId × Value → H} {w : World} {spare : Nat → Bool} {held : Bool}
theorem open_rowU {X : Type} (k b : Nat) (cells : X → List Value) (ok : X → Prop) (f : X → Nat) (hk0 : 0 < k) (hcl : ∀ x, (cells x).length = k) {t e : TypeId} (ht : Tryd.prog.underlying t = some (.slice e)) (hk : Tryd.prog.cellsOf e = k) (hby : Tryd.prog.bytesOf e = b)
    (hel : ∀ (n : Nat) (cs : List Value) y, DataW.trod enc Tryd.prog w 0 spare held n e cs = some y → Wt Tryd.prog e y.1 → ∃ x, cs = cells x ∧ ok x ∧ f x ≤ Rows.uptoBulk y.1)
    {cs0 : List Value} {x0 : DataW H × List MemPlace} {fuel : Nat} (hf : DataW.trod enc Tryd.prog w 0 spare held fuel t cs0 = some x0) (hw : Wt Tryd.prog t x0.1) :
    ∃ (v : Value) (xs : List X), cs0 = [v] ∧ RowK k w v (xs.map cells) ∧ (∀ x ∈ xs, ok x) ∧ xs.length * b ≤ 140737488355328 ∧ (xs.map f).sum + 1 ≤ Rows.uptoBulk x0.1 := by
  rcases open_slice ht hf with ⟨hcs, _⟩ | ⟨a', len', cap', m, n, D, Pl, hcs, _, hl, hm, hmm, hx0, hi⟩
  · exact ⟨_, [], hcs, RowK.nil k w, by simp, by simp, by simpa using bulk_pos x0.1⟩
  · rw [hk] at hi
    rw [hx0] at hw
    obtain ⟨hw1, hw2⟩ := wt_slice ht hw
    have hlm : len' ≤ m := by rw [hmm]; split <;> omega
    obtain ⟨xs, hxl, hx⟩ := exists_list len' (fun i x => (∀ j (hj : j < (cells x).length), w.cell? ((a'.add (i * k)).add j) = some (cells x)[j]) ∧ ok x ∧ f x ≤ Rows.uptoBulk (D i)) (fun i hi' => by
      obtain ⟨cs', hc, ht'⟩ := hi i (by omega)
      obtain ⟨_, hcl', hat⟩ := World.cells?_some hc
      obtain ⟨x, rfl, hx⟩ := hel n cs' _ ht' (hw2 _ (List.mem_map_of_mem (List.mem_range.2 hi')))
      exact ⟨x, fun j hj => by rw [hat j (by omega)]; exact List.getElem?_eq_getElem hj, hx⟩)
    refine ⟨_, xs, hcs, ⟨by rw [List.length_map]; omega, by intro y hy; obtain ⟨x, _, rfl⟩ := List.mem_map.1 hy; exact hcl x, .inr ⟨a', cap', by rw [List.length_map, hxl], by rw [List.length_map, hxl]; exact hl, fun i hi' => ?_⟩⟩, fun x hx' => ?_, ?_, ?_⟩
    · rw [List.length_map] at hi'
      have h := (hx i hi').1
      have h0 := h 0 (by rw [hcl]; exact hk0)
      obtain ⟨b, o, sp⟩ := a'
      have hz := (hx 0 (by omega)).1 0 (by rw [hcl]; exact hk0)
      have hs : sp = none := by simpa [Addr.add] using World.cell?_spot hz
      clear hz
      subst hs
      simp only [addr_add] at h h0
      refine ⟨b, o, rfl, World.block_lt_of_cell? w _ h0, fun j hj => ?_⟩
      rw [List.getElem_map] at hj
      rw [h j hj]
      simp
    · obtain ⟨i, hi', rfl⟩ := List.getElem_of_mem hx'
      exact (hx i (by omega)).2.1
    · rw [hby] at hw1
      simp only [List.length_map, List.length_range] at hw1
      have e : reachBytes ≤ 140737488355328 := by decide
      rw [hxl]
      have : len' * b ≤ (len' + (m - len')) * b := Nat.mul_le_mul_right _ (by omega)
      omega
    · rw [hx0]
      have h1 := sum_range f xs (fun i => Rows.uptoBulk (D i)) (fun i hi' => (hx i hi').2.2)
      have h2 : Rows.uptoBulkAll ((List.range len').map D) = ((List.range xs.length).map (fun i => Rows.uptoBulk (D i))).sum := by
        rw [bulk_all, List.map_map, hxl]
        rfl
      simp only [Rows.uptoBulk]
      rw [h2]
      omega
theorem open_bsU {fuel : Nat} {cs0 : List Value} {x0 : DataW H × List MemPlace} (hf : DataW.trod enc Tryd.prog w 0 spare held fuel 30 cs0 = some x0) (hw : Wt Tryd.prog 30 x0.1) : ∃ (v : Value) (l : List UInt8), cs0 = [v] ∧ RowAt w v (bytesV l) ∧ l.length + 1 ≤ Rows.uptoBulk x0.1 := by
  obtain ⟨v, xs, hv, hr, _, hl, hs⟩ := open_rowU 1 1 (fun b : UInt8 => [byteV b]) (fun _ => True) (fun _ => 1) (by decide) (fun _ => rfl) Tryd.underlying30 (by kernel_rfl) (by kernel_rfl) (fun n cs y hy _ => by
    obtain ⟨m, rfl, _, hw⟩ := DataW.trod_int Tryd.underlying5 hy
    obtain ⟨b, rfl⟩ := u8_ok hw
    exact ⟨b, rfl, trivial, bulk_pos _⟩) hf hw
  refine ⟨v, xs, hv, rowAt_of_oneW byteV hr, ?_⟩
  have : (xs.map (fun _ : UInt8 => 1)).sum = xs.length := by
    rw [List.map_const', List.sum_replicate_nat, Nat.mul_one]
  omega
theorem open_bssU {a : Option Addr} {len cap : Nat} {d : DataW H} {ps : List MemPlace} (h : DataW.Trod enc Tryd.prog w 0 spare held 22 (.slice a len cap) d ps) (hw : Wt Tryd.prog 22 d) :
    ∃ xs : List (List UInt8), BRows w (.slice a len cap) xs ∧ sumL xs + 1 ≤ Rows.uptoBulk d := by
  obtain ⟨fuel, hf⟩ := h
  obtain ⟨v, xs, hv, hr, ho, hl, hs⟩ := open_rowU 1 24 (fun p : Value × List UInt8 => [p.1]) (fun p => RowAt w p.1 (bytesV p.2)) (fun p => p.2.length + 1) (by decide) (fun _ => rfl) Tryd.underlying22 (by kernel_rfl) (by kernel_rfl) (fun n cs y hy hwy => by
    obtain ⟨v, l, rfl, h1, h2⟩ := open_bsU hy hwy
    exact ⟨(v, l), rfl, h1, h2⟩) hf hw
  simp [Value.cells] at hv
  subst hv
  refine ⟨xs.map (·.2), ⟨xs.map (·.1), rowAt_of_oneW (fun p : Value × List UInt8 => p.1) hr, by simp, fun i x c hx hc => ?_⟩, ?_⟩
  · rw [List.getElem?_map] at hx hc
    cases hi : xs[i]? with
    | none => rw [hi] at hx; cases hx
    | some p =>
      rw [hi] at hx hc
      simp at hx hc
      subst hx hc
      exact ho p (List.mem_of_getElem? hi)
  · unfold sumL
    rw [List.map_map]
    exact hs
/-- a row of bytes, and its bulk. -/
theorem open_bytesU {a : Option Addr} {len cap : Nat} {d : DataW H} {ps : List MemPlace} (h : DataW.Trod enc Tryd.prog w 0 spare held 30 (.slice a len cap) d ps) (hw : Wt Tryd.prog 30 d) :
    ∃ l : List UInt8, RowAt w (.slice a len cap) (bytesV l) ∧ l.length + 1 ≤ Rows.uptoBulk d := by
  obtain ⟨fuel, hf⟩ := h
  obtain ⟨v, l, hv, h1, h2⟩ := open_bsU hf hw
  simp [Value.cells] at hv
  subst hv
  exact ⟨l, h1, h2⟩
end
end Go.Proofs.YtlllbacjdjllbaaDoor
