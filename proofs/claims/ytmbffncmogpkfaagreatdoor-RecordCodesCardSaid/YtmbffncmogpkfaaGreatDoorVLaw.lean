
/- The plain laws on how values stand (no program in sight). -/
import Derived.Test.YtmbffncmogpkfaaGreatDoorVal4
namespace Go.Proofs.YtmbffncmogpkfaaGreatDoor
open Go Go.Proofs Go.RowKit
set_option linter.unusedVariables false
set_option linter.unusedSimpArgs false

theorem cmpT_le (a b : List UInt8) : cmpT a b ≤ 0 ↔ ¬ b < a := by
  unfold cmpT
  rw [Go.Proofs.bytesLess_eq]
  by_cases h : a < b
  · have : ¬ b < a := fun h2 => absurd (List.lt_trans h h2) (List.lt_irrefl _)
    simp [h, this]
  · by_cases e : a = b
    · subst e; simp [h]
    · have hb : b < a := less_tri (List.not_lt.1 h) (fun x => e x)
      simp [h, e, hb]
theorem cmpT_turn (a b : List UInt8) : cmpT b a = -cmpT a b := by
  unfold cmpT
  rw [Go.Proofs.bytesLess_eq, Go.Proofs.bytesLess_eq]
  by_cases h : a < b
  · have : ¬ b < a := fun h2 => absurd (List.lt_trans h h2) (List.lt_irrefl _)
    have e : ¬ b = a := fun e => by subst e; exact List.lt_irrefl _ h
    simp [h, this, e]
  · by_cases e : a = b
    · subst e; simp [h]
    · have hb : b < a := less_tri (List.not_lt.1 h) (fun x => e x)
      simp [h, e, hb]
theorem cmpT_bd (a b : List UInt8) : -1 ≤ cmpT a b ∧ cmpT a b ≤ 1 := by unfold cmpT; split <;> (try split) <;> omega
theorem cmpT_self (a : List UInt8) : cmpT a a = 0 := by unfold cmpT; rw [Go.Proofs.bytesLess_eq]; simp
theorem cmpT_trans {a b c : List UInt8} (h1 : cmpT a b ≤ 0) (h2 : cmpT b c ≤ 0) : cmpT a c ≤ 0 := by
  rw [cmpT_le] at *
  intro h
  have h12 : a ≤ b := List.not_lt.1 h1
  have h23 : b ≤ c := List.not_lt.1 h2
  exact absurd h (List.not_lt.2 (List.le_trans h12 h23))
theorem cmpT_zero {a b : List UInt8} (h : cmpT a b = 0) : a = b := by
  have h1 : cmpT a b ≤ 0 := by omega
  have h2 : cmpT b a ≤ 0 := by rw [cmpT_turn]; omega
  rw [cmpT_le] at h1 h2
  exact Classical.byContradiction fun e => h1 (less_tri (List.not_lt.1 h2) (fun x => e x))
theorem cmpI_turn (a b : Int) : cmpI b a = -cmpI a b := by unfold cmpI; (repeat' split) <;> omega
theorem cmpI_le (a b : Int) : cmpI a b ≤ 0 ↔ a ≤ b := by unfold cmpI; (repeat' split) <;> omega
theorem cmpI_eq0 {a b : Int} : cmpI a b = 0 ↔ a = b := by unfold cmpI; (repeat' split) <;> omega
theorem b2i_cases (b : Bool) : b2i b = 0 ∨ b2i b = 1 := by cases b <;> simp [b2i]
theorem cmpV_same {x y : V5} (h : x.k = y.k) : cmpV x y = if x.k = 1 then b2i x.b - b2i y.b else if x.k = 2 then cmpI x.n y.n else if x.k = 3 then cmpN x.f y.f else if x.k = 4 then cmpT x.t y.t else 0 := by
  unfold cmpV; rw [if_neg (by simp [h])]
theorem cmpV_kind {x y : V5} (h : x.k ≠ y.k) : cmpV x y = cmpI x.k y.k := by unfold cmpV; rw [if_pos h]
theorem cmpV_bd (x y : V5) : -1 ≤ cmpV x y ∧ cmpV x y ≤ 1 := by
  by_cases h : x.k = y.k
  · rw [cmpV_same h]
    have h1 := b2i_cases x.b
    have h2 := b2i_cases y.b
    have h3 := cmpI_bd x.n y.n
    have h4 := cmpN_bd x.f y.f
    have h5 := cmpT_bd x.t y.t
    (repeat' split) <;> omega
  · rw [cmpV_kind h]; exact cmpI_bd _ _
theorem cmpV_turn (x y : V5) : cmpV y x = -cmpV x y := by
  by_cases h : x.k = y.k
  · rw [cmpV_same h, cmpV_same h.symm, ← h]
    have h3 := cmpI_turn x.n y.n
    have h4 := cmpN_turn x.f y.f
    have h5 := cmpT_turn x.t y.t
    (repeat' split) <;> omega
  · rw [cmpV_kind h, cmpV_kind (fun e => h e.symm)]; exact cmpI_turn _ _
theorem cmpV_self (x : V5) : cmpV x x = 0 := by
  rw [cmpV_same rfl]
  have h3 := cmpI_self x.n
  have h4 := cmpN_self x.f
  have h5 := cmpT_self x.t
  (repeat' split) <;> omega
theorem cmpV_kind_le {x y : V5} (h : cmpV x y ≤ 0) : x.k ≤ y.k := by
  by_cases e : x.k = y.k
  · omega
  · rw [cmpV_kind e] at h; exact (cmpI_le _ _).1 h
theorem cmpV_trans {x y z : V5} (h1 : cmpV x y ≤ 0) (h2 : cmpV y z ≤ 0) : cmpV x z ≤ 0 := by
  have k1 := cmpV_kind_le h1
  have k2 := cmpV_kind_le h2
  by_cases e : x.k = z.k
  · have e1 : x.k = y.k := by omega
    have e2 : y.k = z.k := by omega
    rw [cmpV_same e1] at h1
    rw [cmpV_same e2, ← e1] at h2
    rw [cmpV_same e]
    have g1 := b2i_cases x.b
    have g2 := b2i_cases y.b
    have g3 := b2i_cases z.b
    split
    · simp_all; omega
    · rename_i n1
      rw [if_neg n1] at h1 h2
      split
      · rename_i c; rw [if_pos c] at h1 h2; exact cmpI_trans h1 h2
      · rename_i n2
        rw [if_neg n2] at h1 h2
        split
        · rename_i c; rw [if_pos c] at h1 h2; exact cmpN_trans h1 h2
        · rename_i n3
          rw [if_neg n3] at h1 h2
          split
          · rename_i c; rw [if_pos c] at h1 h2; exact cmpT_trans h1 h2
          · omega
  · rw [cmpV_kind e, cmpI_le]; omega
/-- all fields but the kind's are nought. -/
theorem isV_out {x : V5} (h : isV x = true) : (x.k ≠ 1 → x.b = false) ∧ (x.k ≠ 2 → x.n = 0) ∧ (x.k ≠ 3 → x.f = 0) ∧ (x.k ≠ 4 → x.t = []) ∧ (x.k = 3 → normN x.f = x.f) ∧ 0 ≤ x.k ∧ x.k ≤ 4 := by
  unfold isV sameV namedV at h
  simp only [Bool.and_eq_true, beq_iff_eq, decide_eq_true_eq] at h
  obtain ⟨⟨⟨⟨⟨⟨h1, h2⟩, h3⟩, h4⟩, h5⟩, h6⟩, h7⟩ := h
  refine ⟨fun k => ?_, fun k => ?_, fun k => ?_, fun k => ?_, fun k => ?_, h5, h6⟩
  · rw [if_neg k] at h1; exact h1.symm
  · rw [if_neg k] at h2; exact h2.symm
  · rw [if_neg k] at h4; omega
  · rw [if_neg k] at h3; exact h3.symm
  · rw [if_pos k] at h4; omega
theorem cmpV_zero {x y : V5} (hx : isV x = true) (hy : isV y = true) (fx : x.f < W64) (fy : y.f < W64) : cmpV x y = 0 ↔ x = y := by
  constructor
  · intro h
    have k1 := cmpV_kind_le (x := x) (y := y) (by omega)
    have k2 := cmpV_kind_le (x := y) (y := x) (by rw [cmpV_turn]; omega)
    have e : x.k = y.k := by omega
    rw [cmpV_same e] at h
    obtain ⟨a1, a2, a3, a4, a5, _, _⟩ := isV_out hx
    obtain ⟨b1, b2, b3, b4, b5, _, _⟩ := isV_out hy
    obtain ⟨k, b, n, f, t⟩ := x
    obtain ⟨k', b', n', f', t'⟩ := y
    simp only at *
    subst e
    have eb : b = b' := by
      by_cases c : k = 1
      · rw [if_pos c] at h
        cases b <;> cases b' <;> simp_all [b2i]
      · rw [a1 c, b1 c]
    have en : n = n' := by
      by_cases c : k = 2
      · rw [if_neg (by omega), if_pos c] at h; exact cmpI_eq0.1 h
      · rw [a2 c, b2 c]
    have ef : f = f' := by
      by_cases c : k = 3
      · rw [if_neg (by omega), if_neg (by omega), if_pos c] at h
        have hk : (keyN f : Int) = keyN f' := cmpI_eq0.1 h
        have := key_inj fx fy (by omega)
        rw [a5 c, b5 c] at this
        exact this
      · rw [a3 c, b3 c]
    have et : t = t' := by
      by_cases c : k = 4
      · rw [if_neg (by omega), if_neg (by omega), if_neg (by omega), if_pos c] at h; exact cmpT_zero h
      · rw [a4 c, b4 c]
    rw [eb, en, ef, et]
  · rintro rfl; exact cmpV_self x
end Go.Proofs.YtmbffncmogpkfaaGreatDoor
