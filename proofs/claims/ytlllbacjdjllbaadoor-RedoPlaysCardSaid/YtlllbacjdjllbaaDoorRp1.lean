
/- The reference's head, plainly: what is read is what the program reads. -/
import Derived.Test.YtlllbacjdjllbaaDoorRedo3
namespace Go.Proofs.YtlllbacjdjllbaaDoor
open Go Go.Proofs Go.Shelf Go.RowKit Go.Great
set_option linter.unusedVariables false
set_option linter.unusedSimpArgs false

theorem curInt_inv {l r : List UInt8} (h : (curInt (some l)).2 = some r) : l = lebInt (curInt (some l)).1 ++ r := by
  have hd := decU_dec l
  simp only [curInt] at h ⊢
  cases hq : decU l with
  | none => rw [hq] at h; simp at h
  | some zr =>
    obtain ⟨z, q⟩ := zr
    rw [hq] at h hd
    simp only [Option.some.injEq] at h
    subst h
    simp only
    unfold lebInt
    rw [zig_unzig]
    exact hd.2
theorem curInt_isSome {c : Cur} {r : List UInt8} (h : (curInt c).2 = some r) : ∃ l, c = some l := by
  cases c with
  | none => simp [curInt] at h
  | some l => exact ⟨l, rfl⟩
theorem headRd_inv {b r : List UInt8} (h : (headRd b).2 = some r) : b = (headRd b).1.laid ++ r := by
  unfold headRd at h ⊢
  simp only at h ⊢
  obtain ⟨l2, h2⟩ := curInt_isSome h
  obtain ⟨l1, h1⟩ := curInt_isSome h2
  have e1 := curInt_inv h1
  rw [h1] at h2
  have e2 := curInt_inv h2
  rw [h1, h2] at h
  have e3 := curInt_inv h
  rw [h1, h2]
  unfold HD3.laid lebInts
  simp only [List.flatMap_cons, List.flatMap_nil, List.append_nil, List.append_assoc]
  rw [← e3, ← e2, ← e1]
theorem dw_nil {p : UInt8 → Bool} : ∀ {l : List UInt8}, l.dropWhile p = [] ↔ ∀ x ∈ l, p x = true
  | [] => by simp
  | a :: l => by
    rw [List.dropWhile_cons]
    cases h : p a with
    | true => simp [h, dw_nil (l := l)]
    | false => simp [h]
theorem tw_mem {p : UInt8 → Bool} : ∀ {l : List UInt8} {x : UInt8}, x ∈ l.takeWhile p → p x = true
  | [], x, h => by simp at h
  | a :: l, x, h => by
    rw [List.takeWhile_cons] at h
    cases ha : p a with
    | true =>
      rw [ha] at h
      rcases List.mem_cons.1 h with rfl | h
      · exact ha
      · exact tw_mem h
    | false => rw [ha] at h; simp at h
theorem trimB_nil_iff (l : List UInt8) : (Lib.trimB l 0).isEmpty = decide (∀ x ∈ l, x = 0) := by
  have key : Lib.trimB l 0 = [] ↔ ∀ x ∈ l, x = 0 := by
    unfold Lib.trimB Lib.trimLeftB Lib.trimRightB
    rw [dw_nil]
    constructor
    · intro h x hx
      have e : l.reverse = l.reverse.takeWhile (· == 0) ++ l.reverse.dropWhile (· == 0) := (List.takeWhile_append_dropWhile).symm
      have hm : x ∈ l.reverse := by simpa using hx
      rw [e, List.mem_append] at hm
      rcases hm with hm | hm
      · have := tw_mem hm
        simpa using this
      · have := h x (by simpa using hm)
        simpa using this
    · intro h x hx
      have : x ∈ l.reverse.dropWhile (· == 0) := by simpa using hx
      have h2 := (List.dropWhile_sublist _).mem this
      have h3 := h x (by simpa using h2)
      simp [h3]
  cases hq : Lib.trimB l 0 with
  | nil => have := key.1 hq; simp only [List.isEmpty_nil]; symm; simpa using this
  | cons a t =>
    have hn : ¬ ∀ x ∈ l, x = 0 := fun h => by rw [key.2 h] at hq; simp at hq
    simp only [List.isEmpty_cons]; symm; simpa using hn
theorem restOf_of {b r : List UInt8} (h : (headRd b).2 = some r) : restOf (headRd b).1 b = Lib.trimB r 0 := by
  have e := headRd_inv h
  have e2 : b.drop (headRd b).1.laid.length = r := by
    conv => lhs; arg 2; rw [e]
    rw [List.drop_left]
  unfold restOf
  rw [e2]
/-- the reference's head: noughts where it is none. -/
def readH (d : PD) (i : Nat) : HD3 := if (headOfP d i).2 = true then (headOfP d i).1 else ⟨0, 0, 0⟩
def okRd (q : Nat) (h : HD3) : Prop := 1 ≤ h.number ∧ h.number ≤ 1099511627776 ∧ 0 ≤ h.bank ∧ h.bank ≤ 1 ∧ 0 ≤ h.bytes ∧ h.bytes ≤ (q : Int) * 64
instance (q : Nat) (h : HD3) : Decidable (okRd q h) := by unfold okRd; infer_instance
theorem readH_none {d : PD} {i : Nat} (h : (headRd (sec d.now i)).2 = none) : readH d i = ⟨0, 0, 0⟩ := by
  unfold readH headOfP headOk
  simp only [h]
  simp
theorem readH_some {d : PD} {i : Nat} {r : List UInt8} (h : (headRd (sec d.now i)).2 = some r) : readH d i = if (∀ x ∈ r, x = 0) ∧ okRd (bankP d) (headRd (sec d.now i)).1 then (headRd (sec d.now i)).1 else ⟨0, 0, 0⟩ := by
  have hr := restOf_of h
  have ht := trimB_nil_iff r
  rw [← hr] at ht
  unfold readH headOfP headOk
  simp only [h, ht, Option.isSome_some, Bool.true_and]
  generalize (headRd (sec d.now i)).1 = hd at *
  by_cases hz : ∀ x ∈ r, x = 0
  · by_cases ho : okRd (bankP d) hd
    · rw [if_pos (c := (∀ x ∈ r, x = 0) ∧ okRd (bankP d) hd) ⟨hz, ho⟩, if_pos]
      obtain ⟨o1, o2, o3, o4, o5, o6⟩ := ho
      simp only [Bool.and_eq_true, Bool.or_eq_true, decide_eq_true_eq]
      exact ⟨⟨⟨⟨⟨hz, o1⟩, o2⟩, by omega⟩, o5⟩, o6⟩
    · rw [if_neg (c := (∀ x ∈ r, x = 0) ∧ okRd (bankP d) hd) (fun h => ho h.2), if_neg]
      intro hh
      simp only [Bool.and_eq_true, Bool.or_eq_true, decide_eq_true_eq] at hh
      exact ho ⟨hh.1.1.1.1.2, hh.1.1.1.2, by omega, by omega, hh.1.2, hh.2⟩
  · rw [if_neg (c := (∀ x ∈ r, x = 0) ∧ okRd (bankP d) hd) (fun h => hz h.1), if_neg]
    intro hh
    simp only [Bool.and_eq_true, Bool.or_eq_true, decide_eq_true_eq] at hh
    exact hz hh.1.1.1.1.1
theorem headOf_pos {d : PD} {i : Nat} (h : (headOfP d i).2 = true) : 1 ≤ (headOfP d i).1.number := by
  unfold headOfP headOk at h ⊢
  simp only [Bool.and_eq_true, Bool.or_eq_true, decide_eq_true_eq] at h
  exact h.1.1.1.1.2
theorem newest_read (d : PD) : newestP d = if (readH d 0).number < (readH d 1).number then readH d 1 else readH d 0 := by
  have h0 := fun h => headOf_pos (d := d) (i := 0) h
  have h1 := fun h => headOf_pos (d := d) (i := 1) h
  unfold newestP newestOf readH
  cases e0 : (headOfP d 0).2 <;> cases e1 : (headOfP d 1).2
  · simp
  · have := h1 e1; simp; intro hh; omega
  · have := h0 e0; simp; intro hh; omega
  · simp only [Bool.not_true, Bool.false_or, Bool.true_and, decide_eq_true_eq, if_true]
    by_cases hk : (headOfP d 1).1.number ≤ (headOfP d 0).1.number
    · rw [if_pos hk, if_neg (by omega)]
    · rw [if_neg hk, if_pos (by omega)]
theorem readH_ok (d : PD) (i : Nat) : (readH d i).okIn d := by
  unfold readH
  split
  · rename_i h
    unfold headOfP headOk at h
    simp only [Bool.and_eq_true, Bool.or_eq_true, decide_eq_true_eq] at h
    obtain ⟨⟨⟨⟨⟨⟨_, _⟩, h1⟩, h2⟩, h3⟩, h4⟩, h5⟩ := h
    exact ⟨h3, h4, h5, by show 0 ≤ (headRd (sec d.now i)).1.number; omega, h2⟩
  · exact ⟨.inl rfl, Int.le_refl _, by show (0 : Int) ≤ _; omega, Int.le_refl _, by decide⟩
end Go.Proofs.YtlllbacjdjllbaaDoor
