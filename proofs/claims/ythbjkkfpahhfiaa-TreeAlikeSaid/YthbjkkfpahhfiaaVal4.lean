
/- Contracts of the reference's Is, Cmp, Exact, In. -/
import Derived.Test.YthbjkkfpahhfiaaVal3
import Derived.Sort.Walk0
namespace Go.Proofs.Ythbjkkfpahhfiaa
open Go Go.Proofs Go.RowKit
set_option linter.unusedVariables false
set_option linter.unusedSimpArgs false

theorem less_irr (l : List UInt8) : Op.bytesLess l l = false := by rw [Go.Proofs.bytesLess_eq]; simp
theorem less_tri {a b : List UInt8} (h : b ≤ a) (e : a ≠ b) : b < a :=
  Classical.byContradiction fun hc => e (List.le_antisymm (List.not_lt.1 hc) h)
theorem cmpT_flip (a b : List UInt8) (h : Op.bytesLess a b = false) : cmpT a b = if Op.bytesLess b a = true then 1 else 0 := by
  unfold cmpT
  rw [h, if_neg (by simp)]
  rw [Go.Proofs.bytesLess_eq] at h ⊢
  simp at h
  by_cases e : a = b
  · subst e; simp
  · have : b < a := less_tri h e
    simp [e, this]
set_option maxHeartbeats 1000000 in
theorem XCmp_c (x y : V5) (w : World) (hx : x.f < W64) (hy : y.f < W64) : Calls Try.prog 46 #[x.v, y.v] w (Gives w (.int .i64 (cmpV x y))) := by
  obtain ⟨k, b, n, f, t⟩ := x
  obtain ⟨k', b', n', f', t'⟩ := y
  have HX := Lib.hid hx
  have HY := Lib.hid hy
  clear hx hy
  unfold V5.v
  by_cases hk : k = k'
  · subst hk
    by_cases h1 : k = 1
    · subst h1
      have H : Hid (cmpV ⟨1, b, n, f, t⟩ ⟨1, b', n', f', t'⟩ = b2i b - b2i b') := Lib.hid (by simp [cmpV])
      cases b <;> cases b'
      all_goals
        go_enter Try.func46, Try.ntmps46
        go_wp2_with fail
        go_ret
        exact ⟨by rw [H.out]; rfl, ((Below.refl _ w).alloc (Nat.le_refl _) _).alloc (by simp) _⟩
    by_cases h2 : k = 2
    · subst h2
      have H : Hid (cmpV ⟨2, b, n, f, t⟩ ⟨2, b', n', f', t'⟩ = cmpI n n') := Lib.hid (by simp [cmpV])
      go_enter Try.func46, Try.ntmps46
      go_wp2_with (first | (go_at_call 55; (with_reducible refine (order_c _ _ _).mono ?_); rintro e w' ⟨rfl, rfl⟩))
      go_ret
      exact ⟨by rw [H.out]; rfl, ((Below.refl _ w).alloc (Nat.le_refl _) _).alloc (by simp) _⟩
    by_cases h3 : k = 3
    · subst h3
      have H : Hid (cmpV ⟨3, b, n, f, t⟩ ⟨3, b', n', f', t'⟩ = cmpN f f') := Lib.hid (by simp [cmpV])
      have HX2 : Hid (f < W64) := HX
      have HY2 : Hid (f' < W64) := HY
      go_enter Try.func46, Try.ntmps46
      go_wp2_with (first | (go_at_call 56; (with_reducible refine (RCmp_c _ _ HX2.out HY2.out _).mono ?_); rintro e w' ⟨rfl, rfl⟩))
      go_ret
      exact ⟨by rw [H.out]; rfl, ((Below.refl _ w).alloc (Nat.le_refl _) _).alloc (by simp) _⟩
    by_cases h4 : k = 4
    · subst h4
      have H : Hid (cmpV ⟨4, b, n, f, t⟩ ⟨4, b', n', f', t'⟩ = cmpT t t') := Lib.hid (by simp [cmpV])
      cases r1 : Op.bytesLess t t'
      · have H2 := Lib.hid (cmpT_flip t t' r1)
        cases r2 : Op.bytesLess t' t
        all_goals
          have H3 := Lib.hid H2.out
          have r2h := Lib.hid r2
          have hgt : (!(Op.bytesLess t t' || t == t')) = Op.bytesLess t' t := by
            rw [r1, Bool.false_or]
            have e1 := Go.Proofs.bytesLess_eq t t'
            have e2 := Go.Proofs.bytesLess_eq t' t
            rw [r1] at e1
            simp at e1
            rw [e2]
            by_cases e : t = t'
            · subst e; simp
            · have : t' < t := less_tri e1 e
              simp [e, this]
          rw [r1, Bool.false_or] at hgt
          try rw [r2] at hgt
          clear H2 r2
          go_enter Try.func46, Try.ntmps46
          go_wp2_with fail
          go_ret
          exact ⟨by rw [H.out, H3.out, r2h.out]; rfl, ((Below.refl _ w).alloc (Nat.le_refl _) _).alloc (by simp) _⟩
      · have H3 : Hid (cmpT t t' = -1) := Lib.hid (by unfold cmpT; rw [r1]; rfl)
        go_enter Try.func46, Try.ntmps46
        go_wp2_with fail
        go_ret
        exact ⟨by rw [H.out, H3.out]; rfl, ((Below.refl _ w).alloc (Nat.le_refl _) _).alloc (by simp) _⟩
    · have H : Hid (cmpV ⟨k, b, n, f, t⟩ ⟨k, b', n', f', t'⟩ = 0) := Lib.hid (by simp [cmpV, h1, h2, h3, h4])
      have g1 : (k == 1) = false := by simpa using h1
      have g2 : (k == 2) = false := by simpa using h2
      have g3 : (k == 3) = false := by simpa using h3
      have g4 : (k == 4) = false := by simpa using h4
      clear h1 h2 h3 h4
      go_enter Try.func46, Try.ntmps46
      go_wp2_with fail
      go_ret
      exact ⟨by rw [H.out]; rfl, ((Below.refl _ w).alloc (Nat.le_refl _) _).alloc (by simp) _⟩
  · have H : Hid (cmpV ⟨k, b, n, f, t⟩ ⟨k', b', n', f', t'⟩ = cmpI k k') := Lib.hid (by simp [cmpV, hk])
    have g : (k != k') = true := by simpa using hk
    clear hk
    go_enter Try.func46, Try.ntmps46
    go_wp2_with (first | (go_at_call 55; (with_reducible refine (order_c _ _ _).mono ?_); rintro e w' ⟨rfl, rfl⟩))
    go_ret
    exact ⟨by rw [H.out]; rfl, ((Below.refl _ w).alloc (Nat.le_refl _) _).alloc (by simp) _⟩
end Go.Proofs.Ythbjkkfpahhfiaa
