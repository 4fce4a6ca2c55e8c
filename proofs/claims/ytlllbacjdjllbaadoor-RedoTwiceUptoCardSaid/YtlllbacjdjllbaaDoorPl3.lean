
/- Package redo, plainly: views: what a drum reads as stays under writes that touch other places, and turns to the new head's. -/
import Derived.Test.YtlllbacjdjllbaaDoorPl2
namespace Go.Proofs.YtlllbacjdjllbaaDoor
open Go Go.Proofs Go.Shelf Go.RowKit Go.Great
set_option linter.unusedVariables false
set_option linter.unusedSimpArgs false

/-- sectors of n in all that read as a head, and as its bytes. -/
structure Vw (n : Nat) (now : List UInt8) (hd : HD3) (b : List UInt8) : Prop where
  len : now.length = 64 * n
  rg : 4 ≤ n ∧ n ≤ 200
  new : newestP (mkD n now) = hd
  bytes : hd.bytes = b.length
  fits : b.length ≤ 64 * ((n - 2) / 2)
  no : 0 ≤ hd.number ∧ hd.number ≤ 1099511627776
  bank : hd.bank = 0 ∨ hd.bank = 1
  start : ∀ i, 64 * i < b.length → ∃ t, sec now (2 + hd.bank.toNat * ((n - 2) / 2) + i) = sec b i ++ t
theorem Vw.zero {n : Nat} (h4 : 4 ≤ n) (h2 : n ≤ 200) : Vw n (List.replicate (64 * n) 0) ⟨0, 0, 0⟩ [] :=
  ⟨by simp, ⟨h4, h2⟩, newest_new n h4, rfl, Nat.zero_le _, ⟨by decide, by decide⟩, .inl rfl, fun i hi => by simp at hi⟩
theorem sec_drop (b : List UInt8) (i : Nat) : sec (b.drop 64) i = sec b (i + 1) := by
  unfold sec
  rw [List.drop_drop]
  congr 2
  omega
theorem sec_len_of {b : List UInt8} {i : Nat} (h : 64 * i + 64 ≤ b.length) : (sec b i).length = 64 := by
  unfold sec; rw [List.length_take, List.length_drop]; omega
theorem flat_take : ∀ (q : Nat) (f : Nat → List UInt8) (b : List UInt8), (∀ i, i < q → (f i).length = 64) → (∀ i, 64 * i < b.length → ∃ t, f i = sec b i ++ t) → b.length ≤ 64 * q → (((List.range q).map f).flatten).take b.length = b
  | 0, f, b, _, _, hb => by
    have : b = [] := List.length_eq_zero_iff.1 (by omega)
    subst this; rfl
  | q + 1, f, b, hf, hs, hb => by
    rw [List.range_succ_eq_map, List.map_cons, List.map_map, List.flatten_cons]
    have h0 := hf 0 (by omega)
    by_cases hl : b.length ≤ 64
    · cases b with
      | nil => rfl
      | cons x r =>
        obtain ⟨t, ht⟩ := hs 0 (by simp)
        have e : sec (x :: r) 0 = x :: r := by unfold sec; rw [Nat.mul_zero, List.drop_zero, List.take_of_length_le hl]
        rw [e] at ht
        rw [ht, List.append_assoc, List.take_left]
    · obtain ⟨t, ht⟩ := hs 0 (by omega)
      have e1 : (sec b 0).length = 64 := sec_len_of (by omega)
      have e2 : t = [] := by
        have := congrArg List.length ht
        rw [h0, List.length_append, e1] at this
        exact List.length_eq_zero_iff.1 (by omega)
      subst e2
      rw [List.append_nil] at ht
      have ih := flat_take q (f ∘ Nat.succ) (b.drop 64) (fun i hi => hf (i + 1) (by omega)) (fun i hi => by
        rw [List.length_drop] at hi
        rw [sec_drop]
        exact hs (i + 1) (by omega)) (by rw [List.length_drop]; omega)
      have e3 : b = sec b 0 ++ b.drop 64 := by unfold sec; rw [Nat.mul_zero, List.drop_zero, List.take_append_drop]
      have e4 : b.length = (f 0).length + (b.drop 64).length := by rw [h0, List.length_drop]; omega
      rw [e4, List.take_length_add_append, ih, ht]
      exact e3.symm
theorem Vw.reads {d : PD} {hd : HD3} {b : List UInt8} (h : Vw d.n d.now hd b) : newestP d = hd ∧ logB d = b := by
  have h1 : newestP d = hd := h.new
  refine ⟨h1, ?_⟩
  have hq : bankP d = (d.n - 2) / 2 := rfl
  have hbk := h.bank
  unfold logB bankB
  rw [h1, h.bytes, Int.toNat_natCast, hq]
  refine flat_take _ _ _ (fun i hi => sec_len h.len ?_) h.start h.fits
  have := h.rg.1
  have hk : hd.bank.toNat * ((d.n - 2) / 2) ≤ 1 * ((d.n - 2) / 2) := Nat.mul_le_mul_right _ (by omega)
  omega
theorem headOf_sec {n : Nat} {now now' : List UInt8} {i : Nat} (h : sec now' i = sec now i) : headOfP (mkD n now') i = headOfP (mkD n now) i := by
  unfold headOfP
  show ((headRd (sec now' i)).1, headOk (mkD n now') (headRd (sec now' i)).1 (headRd (sec now' i)).2 (sec now' i)) = ((headRd (sec now i)).1, headOk (mkD n now) (headRd (sec now i)).1 (headRd (sec now i)).2 (sec now i))
  rw [h]
  rfl
theorem Vw.keep {n : Nat} {now now' : List UInt8} {hd : HD3} {b : List UInt8} (h : Vw n now hd b) (hl : now'.length = 64 * n) (h0 : sec now' 0 = sec now 0) (h1 : sec now' 1 = sec now 1)
    (hs : ∀ i, 64 * i < b.length → sec now' (2 + hd.bank.toNat * ((n - 2) / 2) + i) = sec now (2 + hd.bank.toNat * ((n - 2) / 2) + i) ∨ ∃ t, sec now' (2 + hd.bank.toNat * ((n - 2) / 2) + i) = sec b i ++ t) : Vw n now' hd b := by
  refine ⟨hl, h.rg, ?_, h.bytes, h.fits, h.no, h.bank, fun i hi => ?_⟩
  · rw [← h.new]
    unfold newestP
    rw [headOf_sec h0, headOf_sec h1]
  · rcases hs i hi with e | e
    · rw [e]; exact h.start i hi
    · exact e
theorem newest_le (d : PD) (i : Nat) (hi : i < 2) (h : (headOfP d i).2 = true) : (headOfP d i).1.number ≤ (newestP d).number := by
  have hpos : ∀ j, (headOfP d j).2 = true → 1 ≤ (headOfP d j).1.number := fun j hj => by
    unfold headOfP headOk at hj ⊢
    simp only [Bool.and_eq_true, decide_eq_true_eq] at hj
    exact hj.1.1.1.1.2
  unfold newestP newestOf
  rcases (by omega : i = 0 ∨ i = 1) with rfl | rfl
  · split
    · exact Int.le_refl _
    · next hn =>
      split
      · rw [h] at hn
        simp only [Bool.true_and, Bool.or_eq_true, decide_eq_true_eq, not_or] at hn
        omega
      · next hb =>
        rw [h] at hn
        simp [hb] at hn
  · split
    · next hn =>
      rw [h] at hn
      simp only [Bool.not_true, Bool.false_or, Bool.and_eq_true, decide_eq_true_eq] at hn
      exact hn.2
    · exact Int.le_refl _
theorem Vw.next {n : Nat} {now now' : List UInt8} {hd : HD3} {b bb : List UInt8} (h : Vw n now hd b) (hl : now'.length = 64 * n) {k : Nat} (hk : k ≤ 1) (hno : hd.number + 1 ≤ 1099511627776) (hb : bb.length ≤ 64 * ((n - 2) / 2))
    (hw : sec now' ((hd.number + 1) % 2).toNat = pad (headB (hd.number + 1) k bb.length)) (ho : sec now' (hd.number % 2).toNat = sec now (hd.number % 2).toNat)
    (hs : ∀ i, 64 * i < bb.length → ∃ t, sec now' (2 + k * ((n - 2) / 2) + i) = sec bb i ++ t) : Vw n now' ⟨hd.number + 1, k, bb.length⟩ bb := by
  have h0 := h.no
  have hn2 := h.rg.2
  refine ⟨hl, h.rg, ?_, rfl, hb, ⟨by show (0 : Int) ≤ hd.number + 1; omega, hno⟩, by show ((k : Int) = 0 ∨ (k : Int) = 1); omega, hs⟩
  have a := headOf_back (n := n) (now := now') (i := ((hd.number + 1) % 2).toNat) (by omega) hno hk hb hn2 hw
  have c := headOf_sec (n := n) ho
  have e : newestP (mkD n now) = hd := h.new
  have d := newest_le (mkD n now) (hd.number % 2).toNat (by omega)
  rw [← c, e] at d
  rcases (by omega : hd.number % 2 = 0 ∨ hd.number % 2 = 1) with h2 | h2
  · have h3 : (hd.number + 1) % 2 = 1 := by omega
    rw [h3] at a
    rw [h2] at d
    have a' : headOfP (mkD n now') 1 = (⟨hd.number + 1, k, bb.length⟩, true) := a
    have d' : (headOfP (mkD n now') 0).2 = true → (headOfP (mkD n now') 0).1.number ≤ hd.number := d
    unfold newestP newestOf
    rw [a']
    rw [if_neg, if_pos rfl]
    simp only [Bool.not_true, Bool.false_or, Bool.and_eq_true, decide_eq_true_eq, not_and]
    intro hx
    have := d' hx
    omega
  · have h3 : (hd.number + 1) % 2 = 0 := by omega
    rw [h3] at a
    rw [h2] at d
    have a' : headOfP (mkD n now') 0 = (⟨hd.number + 1, k, bb.length⟩, true) := a
    have d' : (headOfP (mkD n now') 1).2 = true → (headOfP (mkD n now') 1).1.number ≤ hd.number := d
    unfold newestP newestOf
    rw [a']
    rw [if_pos]
    simp only [Bool.true_and, Bool.or_eq_true, Bool.not_eq_true', decide_eq_true_eq]
    cases hx : (headOfP (mkD n now') 1).2
    · exact .inl rfl
    · have := d' hx
      exact .inr (by omega)
end Go.Proofs.YtlllbacjdjllbaaDoor
