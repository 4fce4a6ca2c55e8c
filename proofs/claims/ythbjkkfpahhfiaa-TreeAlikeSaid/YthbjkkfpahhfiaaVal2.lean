
/- Contracts of package value: Cmp, Same, In; of the reference's. -/
import Derived.Test.YthbjkkfpahhfiaaReal
import Derived.Test.YthbjkkfpahhfiaaRowAt
import Derived.Deep.RegionHeld3
namespace Go.Proofs.Ythbjkkfpahhfiaa
open Go Go.Proofs Go.RowKit
set_option linter.unusedVariables false

/-- a value of the program, plainly. -/
structure V5 where
  k : Int
  b : Bool
  n : Int
  f : Nat
  t : List UInt8
def V5.v (x : V5) : Value := .agg #[.int .i64 x.k, .bool x.b, .int .i64 x.n, .float .f64 x.f, .string ⟨x.t.toArray⟩]
def b2i (b : Bool) : Int := if b then 1 else 0

theorem Compare_int (a b : Int) (w : World) :
    Calls Try.prog 42 #[.int .i64 a, .int .i64 b] w fun e w' => e = .returned (.int .i64 (cmpI a b)) ∧ w = w' := by
  by_cases h1 : a < b
  · have H := Lib.hid (show cmpI a b = -1 by simp [cmpI, h1])
    go_enter Try.func42, Try.ntmps42
    go_wp2
    go_ret
    exact ⟨by rw [H.out]; rfl, rfl⟩
  · by_cases h2 : b < a
    · have H := Lib.hid (show cmpI a b = 1 by simp [cmpI, h1, h2])
      go_enter Try.func42, Try.ntmps42
      go_wp2
      go_ret
      exact ⟨by rw [H.out]; rfl, rfl⟩
    · have H := Lib.hid (show cmpI a b = 0 by simp [cmpI, h1, h2])
      go_enter Try.func42, Try.ntmps42
      go_wp2
      go_ret
      exact ⟨by rw [H.out]; rfl, rfl⟩
theorem order_c (a b : Int) (w : World) :
    Calls Try.prog 55 #[.int .i64 a, .int .i64 b] w fun e w' => e = .returned (.int .i64 (cmpI a b)) ∧ w = w' := by
  by_cases h1 : a < b
  · have H := Lib.hid (show cmpI a b = -1 by simp [cmpI, h1])
    go_enter Try.func55, Try.ntmps55
    go_wp2
    go_ret
    exact ⟨by rw [H.out]; rfl, rfl⟩
  · by_cases h2 : b < a
    · have H := Lib.hid (show cmpI a b = 1 by simp [cmpI, h1, h2])
      go_enter Try.func55, Try.ntmps55
      go_wp2
      go_ret
      exact ⟨by rw [H.out]; rfl, rfl⟩
    · have H := Lib.hid (show cmpI a b = 0 by simp [cmpI, h1, h2])
      go_enter Try.func55, Try.ntmps55
      go_wp2
      go_ret
      exact ⟨by rw [H.out]; rfl, rfl⟩
theorem number_b (b : Bool) (w : World) :
    Calls Try.prog 50 #[.bool b] w fun e w' => e = .returned (.int .i64 (b2i b)) ∧ w = w' := by
  cases b
  all_goals
    go_enter Try.func50, Try.ntmps50
    go_wp2
    go_ret
    exact ⟨rfl, rfl⟩
theorem alloc_at (w : World) (o : Obj) (k : Nat) : (w.alloc o).heap[k]? = if k = w.heap.size then some o else w.heap[k]? := by
  show (w.heap.push o)[k]? = _
  rw [Array.getElem?_push]
/-- a struct's cells, through what was laid since. -/
theorem cells5 {wA w' : World} {g : Nat} {a b c d e : Value} {t : TypeId} (h : Below wA.heap.size wA w') (hk : g < wA.heap.size) (hh : wA.heap[g]? = some (.cells #[a, b, c, d, e] t)) :
    w'.cell? ⟨g, 0, none⟩ = some a ∧ w'.cell? ⟨g, 1, none⟩ = some b ∧ w'.cell? ⟨g, 2, none⟩ = some c ∧ w'.cell? ⟨g, 3, none⟩ = some d ∧ w'.cell? ⟨g, 4, none⟩ = some e := by
  have e1 : w'.heap[g]? = some (.cells #[a, b, c, d, e] t) := (h.block g hk).trans hh
  refine ⟨?_, ?_, ?_, ?_, ?_⟩ <;> simp [World.cell?, e1]
def cmpT (a b : List UInt8) : Int := if Op.bytesLess a b = true then -1 else if (a == b) = true then 0 else 1
theorem Compare_str (a b : List UInt8) (w : World) :
    Calls Try.prog 52 #[.string ⟨a.toArray⟩, .string ⟨b.toArray⟩] w fun e w' => e = .returned (.int .i64 (cmpT a b)) ∧ w = w' := by
  cases h1 : Op.bytesLess a b
  · cases h2 : (a == b)
    all_goals
      first
      | (have H := Lib.hid (show cmpT a b = 0 by (unfold cmpT; rw [h1, h2]; rfl)))
      | (have H := Lib.hid (show cmpT a b = 1 by (unfold cmpT; rw [h1, h2]; rfl)))
      go_enter Try.func52, Try.ntmps52
      go_wp2
      go_ret
      exact ⟨by rw [H.out]; rfl, rfl⟩
  · have H := Lib.hid (show cmpT a b = -1 by unfold cmpT; rw [h1]; rfl)
    go_enter Try.func52, Try.ntmps52
    go_wp2
    go_ret
    exact ⟨by rw [H.out]; rfl, rfl⟩
/-- how two values stand. -/
def cmpV (x y : V5) : Int := if x.k ≠ y.k then cmpI x.k y.k else if x.k = 1 then b2i x.b - b2i y.b else if x.k = 2 then cmpI x.n y.n else if x.k = 3 then cmpN x.f y.f else if x.k = 4 then cmpT x.t y.t else 0
/-- a call that gives r, and leaves what lay. -/
def Gives (w : World) (r : Value) (e : Ending) (w' : World) : Prop := e = .returned r ∧ Below w.heap.size w w'
set_option maxHeartbeats 1000000 in
theorem VCmp_c (x y : V5) (w : World) (hx : x.f < W64) (hy : y.f < W64) : Calls Try.prog 41 #[x.v, y.v] w (Gives w (.int .i64 (cmpV x y))) := by
  obtain ⟨k, b, n, f, t⟩ := x
  obtain ⟨k', b', n', f', t'⟩ := y
  have HX := Lib.hid hx
  have HY := Lib.hid hy
  clear hx hy
  unfold V5.v
  by_cases hk : k = k'
  · subst hk
    by_cases h1 : k = 1
    · subst h1
      have H : Hid (cmpV ⟨1, b, n, f, t⟩ ⟨1, b', n', f', t'⟩ = b2i b - b2i b') := Lib.hid (by simp [cmpV])
      have hw2 : (b2i b - b2i b' + 9223372036854775808) % 18446744073709551616 - 9223372036854775808 = b2i b - b2i b' := by cases b <;> cases b' <;> simp [b2i]
      have hw : wrap64 (b2i b - b2i b') = b2i b - b2i b' := by cases b <;> cases b' <;> simp [b2i, wrap64]
      go_enter Try.func41, Try.ntmps41
      go_wp2_with fail
      go_region_with (go_at_call 50; refine (number_b _ _).mono ?_; rintro e w' ⟨rfl, rfl⟩)
      all_goals
        go_wp2_with fail
        go_ret
        exact ⟨by (rw [H.out]; first | rfl | (show Ending.returned (Value.int .i64 (IntKind.i64.wrap (b2i b - b2i b'))) = _; rw [IntKind.wrap_i64]; exact congrArg (fun z => Ending.returned (Value.int .i64 z)) hw2)), (((Below.refl _ w).alloc (Nat.le_refl _) _).alloc (by simp) _).drew⟩
    by_cases h2 : k = 2
    · subst h2
      have H : Hid (cmpV ⟨2, b, n, f, t⟩ ⟨2, b', n', f', t'⟩ = cmpI n n') := Lib.hid (by simp [cmpV])
      go_enter Try.func41, Try.ntmps41
      go_wp2_with (first | (go_at_call 42; (with_reducible refine (Compare_int _ _ _).mono ?_); rintro e w' ⟨rfl, rfl⟩))
      go_ret
      exact ⟨by rw [H.out]; rfl, ((Below.refl _ w).alloc (Nat.le_refl _) _).alloc (by simp) _⟩
    by_cases h3 : k = 3
    · subst h3
      have H : Hid (cmpV ⟨3, b, n, f, t⟩ ⟨3, b', n', f', t'⟩ = cmpN f f') := Lib.hid (by simp [cmpV])
      have HX2 : Hid (f < W64) := HX
      have HY2 : Hid (f' < W64) := HY
      go_enter Try.func41, Try.ntmps41
      go_wp2_with (first | (go_at_call 51; (with_reducible refine (Cmp_c _ _ HX2.out HY2.out _).mono ?_); rintro e w' ⟨rfl, rfl⟩))
      go_ret
      exact ⟨by rw [H.out]; rfl, ((Below.refl _ w).alloc (Nat.le_refl _) _).alloc (by simp) _⟩
    by_cases h4 : k = 4
    · subst h4
      have H : Hid (cmpV ⟨4, b, n, f, t⟩ ⟨4, b', n', f', t'⟩ = cmpT t t') := Lib.hid (by simp [cmpV])
      go_enter Try.func41, Try.ntmps41
      go_wp2_with (first | (go_at_call 52; (with_reducible refine (Compare_str _ _ _).mono ?_); rintro e w' ⟨rfl, rfl⟩))
      go_ret
      exact ⟨by rw [H.out]; rfl, ((Below.refl _ w).alloc (Nat.le_refl _) _).alloc (by simp) _⟩
    · have H : Hid (cmpV ⟨k, b, n, f, t⟩ ⟨k, b', n', f', t'⟩ = 0) := Lib.hid (by simp [cmpV, h1, h2, h3, h4])
      have g1 : (k == 1) = false := by simpa using h1
      have g2 : (k == 2) = false := by simpa using h2
      have g3 : (k == 3) = false := by simpa using h3
      have g4 : (k == 4) = false := by simpa using h4
      clear h1 h2 h3 h4
      go_enter Try.func41, Try.ntmps41
      go_wp2_with fail
      go_ret
      exact ⟨by rw [H.out]; rfl, ((Below.refl _ w).alloc (Nat.le_refl _) _).alloc (by simp) _⟩
  · have H : Hid (cmpV ⟨k, b, n, f, t⟩ ⟨k', b', n', f', t'⟩ = cmpI k k') := Lib.hid (by simp [cmpV, hk])
    have g : (k != k') = true := by simpa using hk
    clear hk
    go_enter Try.func41, Try.ntmps41
    go_wp2_with (first | (go_at_call 42; (with_reducible refine (Compare_int _ _ _).mono ?_); rintro e w' ⟨rfl, rfl⟩))
    go_ret
    exact ⟨by rw [H.out]; rfl, ((Below.refl _ w).alloc (Nat.le_refl _) _).alloc (by simp) _⟩
set_option maxHeartbeats 1000000 in
theorem VIn_c (x y z : V5) (w : World) (hx : x.f < W64) (hy : y.f < W64) (hz : z.f < W64) : Calls Try.prog 35 #[x.v, y.v, z.v] w (Gives w (.bool (decide (0 ≤ cmpV x y) && decide (cmpV x z ≤ 0)))) := by
  have HC := Lib.hid (fun w => VCmp_c x y w hx hy)
  have HD := Lib.hid (fun w => VCmp_c x z w hx hz)
  clear hx hy hz
  generalize cmpV x y = c at *
  generalize cmpV x z = d at *
  obtain ⟨k, b, n, f, t⟩ := x
  obtain ⟨k', b', n', f', t'⟩ := y
  obtain ⟨k2, b2, n2, f2, t2⟩ := z
  unfold V5.v at *
  go_enter Try.func35, Try.ntmps35
  go_wp2_with fail
  refine (HC.out _).mono ?_
  rintro e w' ⟨rfl, hb⟩
  have HB := Lib.hid hb
  have hs := hb.size
  simp at hs
  obtain ⟨c0, c1, c2, c3, c4⟩ := cells5 (g := w.heap.size) hb (by simp; omega) (by rw [alloc_at, if_neg (by simp; omega), alloc_at, if_neg (by simp), alloc_at, if_pos rfl])
  obtain ⟨d0, d1, d2, d3, d4⟩ := cells5 (g := w.heap.size + 2) hb (by simp) (by rw [alloc_at, if_pos (by simp)])
  clear hb
  by_cases hc : 0 ≤ c
  · have h1 : decide (0 ≤ c) = true := by simp [hc]
    clear hc
    go_wp2_with (go_at_call 41; refine (HD.out _).mono ?_; rintro e w2 ⟨rfl, hb2⟩)
    go_ret
    exact ⟨by first | (rw [h1, Bool.true_and]; rfl) | (rw [h1, Bool.false_and]; rfl), ((((Below.refl _ w).alloc (Nat.le_refl _) _).alloc (by simp) _).alloc (by simp; omega) _).trans ((HB.out.mono (by simp; omega)).trans (hb2.mono (by omega)))⟩
  · have h1 : decide (0 ≤ c) = false := by simp [hc]
    clear hc
    go_wp2_with fail
    go_ret
    exact ⟨by first | (rw [h1, Bool.true_and]; rfl) | (rw [h1, Bool.false_and]; rfl), ((((Below.refl _ w).alloc (Nat.le_refl _) _).alloc (by simp) _).alloc (by simp; omega) _).trans (HB.out.mono (by simp; omega))⟩
end Go.Proofs.Ythbjkkfpahhfiaa
