
/- The reference's In and Exact; the laws' may. -/
import Derived.Test.YthbjkkfpahhfiaaVal4
import Derived.Test.YthbjkkfpahhfiaaLaw2
import Derived.BigQuiet
import Derived.Deep.QuietTactic
namespace Go.Proofs.Ythbjkkfpahhfiaa
open Go Go.Proofs Go.RowKit
set_option linter.unusedVariables false
set_option linter.unusedSimpArgs false

set_option maxHeartbeats 1000000 in
theorem XIn_c (x y z : V5) (w : World) (hx : x.f < W64) (hy : y.f < W64) (hz : z.f < W64) : Calls Try.prog 36 #[x.v, y.v, z.v] w (Gives w (.bool (decide (0 ≤ cmpV x y) && decide (cmpV x z ≤ 0)))) := by
  have HC := Lib.hid (fun w => XCmp_c x y w hx hy)
  have HD := Lib.hid (fun w => XCmp_c x z w hx hz)
  clear hx hy hz
  generalize cmpV x y = c at *
  generalize cmpV x z = d at *
  obtain ⟨k, b, n, f, t⟩ := x
  obtain ⟨k', b', n', f', t'⟩ := y
  obtain ⟨k2, b2, n2, f2, t2⟩ := z
  unfold V5.v at *
  go_enter Try.func36, Try.ntmps36
  go_wp2_with fail
  refine (HC.out _).mono ?_
  rintro e w' ⟨rfl, hb⟩
  have HB := Lib.hid hb
  have hs := hb.size
  simp at hs
  obtain ⟨c0, c1, c2, c3, c4⟩ := cells5 (g := w.heap.size) hb (by simp; omega) (by rw [alloc_at, if_neg (by simp; omega), alloc_at, if_neg (by simp), alloc_at, if_pos rfl])
  obtain ⟨d0, d1, d2, d3, d4⟩ := cells5 (g := w.heap.size + 2) hb (by simp) (by rw [alloc_at, if_pos (by simp)])
  clear hb
  by_cases hc : 0 ≤ c
  · have h1 : decide (0 ≤ c) = true := by simp [hc]
    clear hc
    go_wp2_with (go_at_call 46; refine (HD.out _).mono ?_; rintro e w2 ⟨rfl, hb2⟩)
    go_ret
    exact ⟨by first | (rw [h1, Bool.true_and]; rfl) | (rw [h1, Bool.false_and]; rfl), ((((Below.refl _ w).alloc (Nat.le_refl _) _).alloc (by simp) _).alloc (by simp; omega) _).trans ((HB.out.mono (by simp; omega)).trans (hb2.mono (by omega)))⟩
  · have h1 : decide (0 ≤ c) = false := by simp [hc]
    clear hc
    go_wp2_with fail
    go_ret
    exact ⟨by first | (rw [h1, Bool.true_and]; rfl) | (rw [h1, Bool.false_and]; rfl), ((((Below.refl _ w).alloc (Nat.le_refl _) _).alloc (by simp) _).alloc (by simp; omega) _).trans (HB.out.mono (by simp; omega))⟩
/-- a row of values, five cells each. -/
def CellsV (w : World) (B o : Nat) (x : V5) : Prop := w.cell? ⟨B, o, none⟩ = some (.int .i64 x.k) ∧ w.cell? ⟨B, o + 1, none⟩ = some (.bool x.b) ∧ w.cell? ⟨B, o + 2, none⟩ = some (.int .i64 x.n) ∧ w.cell? ⟨B, o + 3, none⟩ = some (.float .f64 x.f) ∧ w.cell? ⟨B, o + 4, none⟩ = some (.string ⟨x.t.toArray⟩)
theorem cell_below {w w' : World} {B o : Nat} (h : Below w.heap.size w w') (hB : B < w.heap.size) : w'.cell? ⟨B, o, none⟩ = w.cell? ⟨B, o, none⟩ := by
  unfold World.cell?
  simp only [h.block B hB]
theorem CellsV.below {w w' : World} {B o : Nat} {x : V5} (h : CellsV w B o x) (hb : Below w.heap.size w w') (hB : B < w.heap.size) : CellsV w' B o x := by
  unfold CellsV
  rw [cell_below hb hB, cell_below hb hB, cell_below hb hB, cell_below hb hB, cell_below hb hB]
  exact h
def exactV (x y : V5) : Bool := (x.k == y.k) && (x.b == y.b) && (x.n == y.n) && (x.t == y.t) && decide (x.f = y.f)
theorem exactV_iff (x y : V5) : exactV x y = true ↔ x = y := by
  obtain ⟨k, b, n, f, t⟩ := x
  obtain ⟨k', b', n', f', t'⟩ := y
  simp only [exactV, V5.mk.injEq, Bool.and_eq_true, beq_iff_eq, decide_eq_true_eq]
  constructor
  · rintro ⟨⟨⟨⟨h1, h2⟩, h3⟩, h4⟩, h5⟩; exact ⟨h1, h2, h3, h5, h4⟩
  · rintro ⟨h1, h2, h3, h5, h4⟩; exact ⟨⟨⟨⟨h1, h2⟩, h3⟩, h4⟩, h5⟩
set_option maxHeartbeats 4000000 in
theorem XExact_c (x y : V5) (w : World) : Calls Try.prog 33 #[x.v, y.v] w (Gives w (.bool (exactV x y))) := by
  obtain ⟨k, b, n, f, t⟩ := x
  obtain ⟨k', b', n', f', t'⟩ := y
  have HE : Hid (exactV ⟨k, b, n, f, t⟩ ⟨k', b', n', f', t'⟩ = ((k == k') && (b == b') && (n == n') && (t == t') && decide (f = f'))) := Lib.hid rfl
  generalize exactV ⟨k, b, n, f, t⟩ ⟨k', b', n', f', t'⟩ = ev at *
  unfold V5.v
  cases q1 : (k == k')
  case false =>
    have HV := Lib.hid (HE.out.trans (show _ = false by simp only [q1, Bool.false_and]))
    go_enter Try.func33, Try.ntmps33
    go_wp2_with fail
    go_ret
    exact ⟨by rw [HV.out]; rfl, ((Below.refl _ w).alloc (Nat.le_refl _) _).alloc (by simp) _⟩
  cases q2 : (b == b')
  case false =>
    have HV := Lib.hid (HE.out.trans (show _ = false by simp only [q2, Bool.false_and, Bool.and_false]))
    go_enter Try.func33, Try.ntmps33
    go_wp2_with fail
    go_ret
    exact ⟨by rw [HV.out]; rfl, ((Below.refl _ w).alloc (Nat.le_refl _) _).alloc (by simp) _⟩
  cases q3 : (n == n')
  case false =>
    have HV := Lib.hid (HE.out.trans (show _ = false by simp only [q3, Bool.false_and, Bool.and_false]))
    go_enter Try.func33, Try.ntmps33
    go_wp2_with fail
    go_ret
    exact ⟨by rw [HV.out]; rfl, ((Below.refl _ w).alloc (Nat.le_refl _) _).alloc (by simp) _⟩
  cases q4 : (t == t')
  case false =>
    have HV := Lib.hid (HE.out.trans (show _ = false by simp only [q4, Bool.false_and, Bool.and_false]))
    go_enter Try.func33, Try.ntmps33
    go_wp2_with fail
    go_ret
    exact ⟨by rw [HV.out]; rfl, ((Below.refl _ w).alloc (Nat.le_refl _) _).alloc (by simp) _⟩
  have HV := Lib.hid (HE.out.trans (show _ = decide (f = f') by simp only [q1, q2, q3, q4, Bool.true_and]))
  go_enter Try.func33, Try.ntmps33
  go_wp2_with (first | (go_at_call 37; (with_reducible refine (Same_c _ _ _).mono ?_); rintro e w' ⟨rfl, rfl⟩))
  go_ret
  exact ⟨by rw [HV.out]; rfl, ((Below.refl _ w).alloc (Nat.le_refl _) _).alloc (by simp) _⟩
end Go.Proofs.Ythbjkkfpahhfiaa
