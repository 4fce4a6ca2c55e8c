/- The laws on package value: known, ValueInts. -/
import Derived.Test.YtbnhepcfjjephaaVal3
import Derived.Deep.RegionHeld3
namespace Go.Proofs.Ytbnhepcfjjephaa
open Go Go.Proofs Go.RowKit
set_option linter.unusedVariables false

/-- a box, through what was laid since. -/
def Box (w : World) (g : Nat) (x : V5) : Prop :=
  g < w.heap.size ∧ w.heap[g]? = some (.cells #[.int .i64 x.k, .bool x.b, .int .i64 x.n, .float .f64 x.f, .string ⟨x.t.toArray⟩] 53)
theorem Box.below {w w' : World} {g : Nat} {x : V5} (h : Box w g x) (hb : Below w.heap.size w w') : Box w' g x := ⟨Nat.lt_of_lt_of_le h.1 hb.size, (hb.block g h.1).trans h.2⟩
theorem Box.cells {w : World} {g : Nat} {x : V5} (h : Box w g x) :
    w.cell? ⟨g, 0, none⟩ = some (.int .i64 x.k) ∧ w.cell? ⟨g, 1, none⟩ = some (.bool x.b) ∧ w.cell? ⟨g, 2, none⟩ = some (.int .i64 x.n) ∧ w.cell? ⟨g, 3, none⟩ = some (.float .f64 x.f) ∧ w.cell? ⟨g, 4, none⟩ = some (.string ⟨x.t.toArray⟩) :=
  cells5 (Below.refl _ w) h.1 h.2
theorem Box.new (w : World) (x : V5) : Box (w.alloc (.cells #[.int .i64 x.k, .bool x.b, .int .i64 x.n, .float .f64 x.f, .string ⟨x.t.toArray⟩] 53)) w.heap.size x := ⟨by simp, by rw [alloc_at, if_pos rfl]⟩
theorem Box.alloc {w : World} {g : Nat} {x : V5} (h : Box w g x) (o : Obj) : Box (w.alloc o) g x := h.below ((Below.refl _ w).alloc (Nat.le_refl _) o)
theorem topBit_lt : topBit < W64 := by decide +kernel

set_option maxRecDepth 100000 in
set_option maxHeartbeats 4000000 in
theorem known2_c (w : World) : Calls Try.prog 42 #[] w (Gives w (.bool true)) := by
  have hv : isV ⟨3, false, 0, topBit, []⟩ = true := by decide +kernel
  have hc : cmpV ⟨3, false, 0, topBit, []⟩ ⟨3, false, 0, 0, []⟩ = -1 := by decide +kernel
  have HI : Hid (∀ w : World, Calls Try.prog 43 #[.agg #[.int .i64 3, .bool false, .int .i64 0, .float .f64 topBit, .string ⟨#[]⟩]] w (Gives w (.bool true))) := Lib.hid (fun w => by have := Is_c ⟨3, false, 0, topBit, []⟩ w; rw [hv] at this; exact this)
  have HC : Hid (∀ w : World, Calls Try.prog 39 #[.agg #[.int .i64 3, .bool false, .int .i64 0, .float .f64 topBit, .string ⟨#[]⟩], .agg #[.int .i64 3, .bool false, .int .i64 0, .float .f64 0, .string ⟨#[]⟩]] w (Gives w (.int .i64 (-1)))) := Lib.hid (fun w => by have := VCmp_c ⟨3, false, 0, topBit, []⟩ ⟨3, false, 0, 0, []⟩ w topBit_lt (by decide); rw [hc] at this; exact this)
  have HS : Hid (∀ w : World, Calls Try.prog 41 #[.agg #[.int .i64 3, .bool false, .int .i64 0, .float .f64 topBit, .string ⟨#[]⟩], .agg #[.int .i64 3, .bool false, .int .i64 0, .float .f64 0, .string ⟨#[]⟩]] w (Gives w (.bool false))) := Lib.hid (fun w => by have := VSame_c ⟨3, false, 0, topBit, []⟩ ⟨3, false, 0, 0, []⟩ w topBit_lt (by decide); rw [hc] at this; exact this)
  clear hv hc
  have hbx : Box ((w.alloc (.cells #[.int .i64 3, .bool false, .int .i64 0, .float .f64 topBit, .string ⟨#[]⟩] 53)).alloc (.cells #[.int .i64 3, .bool false, .int .i64 0, .float .f64 0, .string ⟨#[]⟩] 53)) w.heap.size ⟨3, false, 0, topBit, []⟩ := (Box.new w ⟨3, false, 0, topBit, []⟩).alloc _
  have hby : Box ((w.alloc (.cells #[.int .i64 3, .bool false, .int .i64 0, .float .f64 topBit, .string ⟨#[]⟩] 53)).alloc (.cells #[.int .i64 3, .bool false, .int .i64 0, .float .f64 0, .string ⟨#[]⟩] 53)) (w.heap.size + 1) ⟨3, false, 0, 0, []⟩ := by
    have := Box.new (w.alloc (.cells #[.int .i64 3, .bool false, .int .i64 0, .float .f64 topBit, .string ⟨#[]⟩] 53)) ⟨3, false, 0, 0, []⟩
    simpa using this
  have hb0 : Below w.heap.size w ((w.alloc (.cells #[.int .i64 3, .bool false, .int .i64 0, .float .f64 topBit, .string ⟨#[]⟩] 53)).alloc (.cells #[.int .i64 3, .bool false, .int .i64 0, .float .f64 0, .string ⟨#[]⟩] 53)) := ((Below.refl _ w).alloc (Nat.le_refl _) _).alloc (by simp) _
  have HX := Lib.hid hbx
  have HY := Lib.hid hby
  have HB := Lib.hid hb0
  clear hbx hby hb0
  go_enter Try.func42, Try.ntmps42
  go_wp2_with (first | (go_at_call 64; (with_reducible refine (Copysign_c _).mono ?_); rintro e w' ⟨rfl, rfl⟩))
  refine (HI.out _).mono ?_
  rintro e w1 ⟨rfl, h1⟩
  have HX1 := Lib.hid (HX.out.below h1)
  have HY1 := Lib.hid (HY.out.below h1)
  have HB1 := Lib.hid (HB.out.trans (h1.mono HB.out.size))
  obtain ⟨c0, c1, c2, c3, c4⟩ := HX1.out.cells
  obtain ⟨d0, d1, d2, d3, d4⟩ := HY1.out.cells
  clear h1
  go_wp2_with fail
  refine (HC.out _).mono ?_
  rintro e w2 ⟨rfl, h2⟩
  have HX2 := Lib.hid (HX1.out.below h2)
  have HY2 := Lib.hid (HY1.out.below h2)
  have HB2 := Lib.hid (HB1.out.trans (h2.mono HB1.out.size))
  clear c0 c1 c2 c3 c4 d0 d1 d2 d3 d4 h2
  obtain ⟨c0, c1, c2, c3, c4⟩ := HX2.out.cells
  obtain ⟨d0, d1, d2, d3, d4⟩ := HY2.out.cells
  go_wp2_with fail
  refine (HS.out _).mono ?_
  rintro e w3 ⟨rfl, h3⟩
  go_wp2_with fail
  go_ret
  exact ⟨rfl, HB2.out.trans (h3.mono HB2.out.size)⟩
abbrev objV (x : V5) : Obj := .cells #[.int .i64 x.k, .bool x.b, .int .i64 x.n, .float .f64 x.f, .string ⟨x.t.toArray⟩] 53
def Three (w0 w : World) (x y z : V5) : Prop := Box w w0.heap.size x ∧ Box w (w0.heap.size + 1) y ∧ Box w (w0.heap.size + 1 + 1) z ∧ Below w0.heap.size w0 w
theorem Three.below {w0 w w' : World} {x y z : V5} (h : Three w0 w x y z) (hb : Below w.heap.size w w') : Three w0 w' x y z :=
  ⟨h.1.below hb, h.2.1.below hb, h.2.2.1.below hb, h.2.2.2.trans (hb.mono h.2.2.2.size)⟩
theorem boxes3 (w : World) (x y z : V5) : Three w (((w.alloc (objV x)).alloc (objV y)).alloc (objV z)) x y z := by
  refine ⟨((Box.new w x).alloc _).alloc _, ?_, ?_, (((Below.refl _ w).alloc (Nat.le_refl _) _).alloc (by simp) _).alloc (by simp; omega) _⟩
  · have := (Box.new (w.alloc (objV x)) y).alloc (objV z)
    simpa using this
  · have := Box.new ((w.alloc (objV x)).alloc (objV y)) z
    simpa using this
theorem z64 : (0 : Nat) < W64 := by decide
theorem isV_int (a : Int) : isV ⟨2, false, a, 0, []⟩ = true := by simp [isV, sameV, namedV, isT]
theorem cmpV_int (a b : Int) : cmpV ⟨2, false, a, 0, []⟩ ⟨2, false, b, 0, []⟩ = cmpI a b := by simp [cmpV]
set_option maxRecDepth 100000 in
set_option maxHeartbeats 4000000 in
theorem ValueInts_core (a0 : Int) (a1 : Int) (a2 : Int) (w : World) (w0 : (Lit.int .i64 a0).wf = true) (w1 : (Lit.int .i64 a1).wf = true) (w2 : (Lit.int .i64 a2).wf = true) :
    Calls Try.prog 17 #[.int .i64 a0, .int .i64 a1, .int .i64 a2] w fun e w' => e = .returned (.bool true) ∧ Below w.heap.size w w' := by
  clear w0 w1 w2
  have HI : Hid (∀ w : World, Calls Try.prog 43 #[(⟨2, false, a0, 0, []⟩ : V5).v] w (Gives w (.bool true))) := Lib.hid (fun w => by have := Is_c ⟨2, false, a0, 0, []⟩ w; rw [isV_int] at this; exact this)
  have HC : Hid (∀ w : World, Calls Try.prog 39 #[(⟨2, false, a0, 0, []⟩ : V5).v, (⟨2, false, a1, 0, []⟩ : V5).v] w (Gives w (.int .i64 (cmpI a0 a1)))) := Lib.hid (fun w => by have := VCmp_c ⟨2, false, a0, 0, []⟩ ⟨2, false, a1, 0, []⟩ w z64 z64; rw [cmpV_int] at this; exact this)
  have HS : Hid (∀ w : World, Calls Try.prog 41 #[(⟨2, false, a0, 0, []⟩ : V5).v, (⟨2, false, a1, 0, []⟩ : V5).v] w (Gives w (.bool (cmpI a0 a1 == 0)))) := Lib.hid (fun w => by have := VSame_c ⟨2, false, a0, 0, []⟩ ⟨2, false, a1, 0, []⟩ w z64 z64; rw [cmpV_int] at this; exact this)
  have HN : Hid (∀ w : World, Calls Try.prog 46 #[(⟨2, false, a0, 0, []⟩ : V5).v, (⟨2, false, a1, 0, []⟩ : V5).v, (⟨2, false, a2, 0, []⟩ : V5).v] w (Gives w (.bool (decide (a1 ≤ a0) && decide (a0 ≤ a2))))) := Lib.hid (fun w => by
    have := VIn_c ⟨2, false, a0, 0, []⟩ ⟨2, false, a1, 0, []⟩ ⟨2, false, a2, 0, []⟩ w z64 z64 z64
    rw [cmpV_int, cmpV_int] at this
    have e1 : decide (0 ≤ cmpI a0 a1) = decide (a1 ≤ a0) := by unfold cmpI; (repeat' split) <;> simp <;> omega
    have e2 : decide (cmpI a0 a2 ≤ 0) = decide (a0 ≤ a2) := by unfold cmpI; (repeat' split) <;> simp <;> omega
    rw [e1, e2] at this
    exact this)
  have q1 : decide (cmpI a0 a1 < 0) = decide (a0 < a1) := by unfold cmpI; (repeat' split) <;> simp <;> omega
  have q2 : (cmpI a0 a1 == 0) = (a0 == a1) := by
    unfold cmpI
    by_cases h : a0 < a1
    · have : ¬ a0 = a1 := by omega
      simp [h, this]
    · by_cases h2 : a1 < a0
      · have : ¬ a0 = a1 := by omega
        simp [h, h2, this]
      · have : a0 = a1 := by omega
        simp [this]
  generalize cmpI a0 a1 = cc at *
  unfold V5.v at HI HC HS HN
  have HA := Lib.hid (boxes3 w ⟨2, false, a0, 0, []⟩ ⟨2, false, a1, 0, []⟩ ⟨2, false, a2, 0, []⟩)
  go_enter Try.func17, Try.ntmps17
  go_wp2_with fail
  refine (HI.out _).mono ?_
  rintro e w1 ⟨rfl, h1⟩
  have H1 := Lib.hid (HA.out.below h1)
  obtain ⟨c0, c1, c2, c3, c4⟩ := H1.out.1.cells
  obtain ⟨d0, d1, d2, d3, d4⟩ := H1.out.2.1.cells
  clear h1
  go_wp2_with fail
  refine (HC.out _).mono ?_
  rintro e w2 ⟨rfl, h2⟩
  have H2 := Lib.hid (H1.out.below h2)
  clear c0 c1 c2 c3 c4 d0 d1 d2 d3 d4 h2
  obtain ⟨c0, c1, c2, c3, c4⟩ := H2.out.1.cells
  obtain ⟨d0, d1, d2, d3, d4⟩ := H2.out.2.1.cells
  go_wp2_with fail
  refine (HS.out _).mono ?_
  rintro e w3 ⟨rfl, h3⟩
  have H3 := Lib.hid (H2.out.below h3)
  clear c0 c1 c2 c3 c4 d0 d1 d2 d3 d4 h3
  obtain ⟨c0, c1, c2, c3, c4⟩ := H3.out.1.cells
  obtain ⟨d0, d1, d2, d3, d4⟩ := H3.out.2.1.cells
  obtain ⟨e0, e1, e2, e3, e4⟩ := H3.out.2.2.1.cells
  go_wp2_with fail
  refine (HN.out _).mono ?_
  rintro e w4 ⟨rfl, h4⟩
  have H4 := Lib.hid (H3.out.below h4)
  clear c0 c1 c2 c3 c4 d0 d1 d2 d3 d4 e0 e1 e2 e3 e4 h4
  cases r1 : decide (a1 ≤ a0) <;> cases r2 : decide (a0 ≤ a2)
  all_goals
    go_wp2_with (go_at_call 42; refine (known2_c _).mono ?_; rintro e w5 ⟨rfl, h5⟩)
    go_ret
    exact ⟨rfl, H4.out.2.2.2.trans (h5.mono H4.out.2.2.2.size)⟩
end Go.Proofs.Ytbnhepcfjjephaa
