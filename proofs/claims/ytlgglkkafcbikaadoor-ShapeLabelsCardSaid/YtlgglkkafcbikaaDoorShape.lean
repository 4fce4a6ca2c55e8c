/- Contracts of package shape: isName, isNode, the closures, Is, Joins; the laws' known. -/
import Derived.Test.YtlgglkkafcbikaaDoorName
import Derived.Test.YtlgglkkafcbikaaDoorKeep
import Derived.Test.YtlgglkkafcbikaaDoorVal3
import Derived.Test.YtlgglkkafcbikaaDoorLaw2
import Derived.Deep.RegionHeld3
namespace Go.Proofs.YtlgglkkafcbikaaDoor
open Go Go.Proofs Go.RowKit
set_option linter.unusedVariables false
set_option linter.unusedSimpArgs false

/-- a pattern's node, plainly. -/
structure PN where
  l : List UInt8
  key : List UInt8
  lo : V5
  hi : V5
/-- a pattern's edge. -/
structure PE where
  a : Int
  b : Int
  t : List UInt8
  e : Bool
/-- an edge. -/
structure ED where
  a : Int
  b : Int
  t : List UInt8
  w : Nat
def PN.cells (p : PN) : List Value := [.string ⟨p.l.toArray⟩, .string ⟨p.key.toArray⟩, .int .i64 p.lo.k, .bool p.lo.b, .int .i64 p.lo.n, .float .f64 p.lo.f, .string ⟨p.lo.t.toArray⟩, .int .i64 p.hi.k, .bool p.hi.b, .int .i64 p.hi.n, .float .f64 p.hi.f, .string ⟨p.hi.t.toArray⟩]
def PE.cells (p : PE) : List Value := [.int .i64 p.a, .int .i64 p.b, .string ⟨p.t.toArray⟩, .bool p.e]
def ED.cells (p : ED) : List Value := [.int .i64 p.a, .int .i64 p.b, .string ⟨p.t.toArray⟩, .float .f64 p.w]
def PN.v (p : PN) : Value := .agg #[.string ⟨p.l.toArray⟩, .string ⟨p.key.toArray⟩, .int .i64 p.lo.k, .bool p.lo.b, .int .i64 p.lo.n, .float .f64 p.lo.f, .string ⟨p.lo.t.toArray⟩, .int .i64 p.hi.k, .bool p.hi.b, .int .i64 p.hi.n, .float .f64 p.hi.f, .string ⟨p.hi.t.toArray⟩]
def PE.v (p : PE) : Value := .agg #[.int .i64 p.a, .int .i64 p.b, .string ⟨p.t.toArray⟩, .bool p.e]
def ED.v (p : ED) : Value := .agg #[.int .i64 p.a, .int .i64 p.b, .string ⟨p.t.toArray⟩, .float .f64 p.w]
def optB (s : List UInt8) : Bool := s.isEmpty || nameB s
def okPN (p : PN) : Bool := optB p.l && optB p.key && isV p.lo && isV p.hi && (!p.key.isEmpty || (p.lo.k == 0 && p.hi.k == 0))
def okPE (n : Nat) (p : PE) : Bool := optB p.t && (decide (0 ≤ p.a) && decide (p.a < n)) && (decide (0 ≤ p.b) && decide (p.b < n))
def joinsB (x : PE) (e : ED) (a b : Int) : Bool := (x.t.isEmpty || x.t == e.t) && ((e.a == a && e.b == b) || (x.e && e.a == b && e.b == a))
def PN.len (p : PN) : Prop := p.l.length ≤ 9223372036854775807 ∧ p.key.length ≤ 9223372036854775807

theorem isName_c (t : List UInt8) (w : World) (hl : t.length ≤ 9223372036854775807) : Calls Tryd.prog 27 #[.string ⟨t.toArray⟩] w (Gives w (.bool (optB t))) := by
  have HN := Lib.hid (fun w => IsName_c t w hl)
  cases h0 : t.isEmpty
  · have HV : Hid (optB t = nameB t) := Lib.hid (by unfold optB; rw [h0, Bool.false_or])
    go_enter Tryd.func27, Tryd.ntmps27
    go_wp2_with (first | (go_at_call 41; (with_reducible refine (HN.out _).mono ?_); rintro e wq ⟨rfl, hq⟩))
    go_ret
    exact ⟨by rw [HV.out]; rfl, hq⟩
  · have HV : Hid (optB t = true) := Lib.hid (by unfold optB; rw [h0, Bool.true_or])
    go_enter Tryd.func27, Tryd.ntmps27
    go_wp2_with fail
    go_ret
    exact ⟨by rw [HV.out]; rfl, Below.refl _ w⟩
theorem PN.facts {w : World} {g : Nat} {l key : List UInt8} {k : Int} {b : Bool} {n : Int} {f : Nat} {t : List UInt8} {k' : Int} {b' : Bool} {n' : Int} {f' : Nat} {t' : List UInt8} (h : Blk w g (⟨l, key, ⟨k, b, n, f, t⟩, ⟨k', b', n', f', t'⟩⟩ : PN).cells) :
    w.cell? ⟨g, 0, none⟩ = some (.string ⟨l.toArray⟩) ∧ w.cell? ⟨g, 1, none⟩ = some (.string ⟨key.toArray⟩) ∧
    w.cell? ⟨g, 2, none⟩ = some (.int .i64 k) ∧ w.cell? ⟨g, 3, none⟩ = some (.bool b) ∧ w.cell? ⟨g, 4, none⟩ = some (.int .i64 n) ∧ w.cell? ⟨g, 5, none⟩ = some (.float .f64 f) ∧ w.cell? ⟨g, 6, none⟩ = some (.string ⟨t.toArray⟩) ∧
    w.cell? ⟨g, 7, none⟩ = some (.int .i64 k') ∧ w.cell? ⟨g, 8, none⟩ = some (.bool b') ∧ w.cell? ⟨g, 9, none⟩ = some (.int .i64 n') ∧ w.cell? ⟨g, 10, none⟩ = some (.float .f64 f') ∧ w.cell? ⟨g, 11, none⟩ = some (.string ⟨t'.toArray⟩) :=
  ⟨h.cell 0 _ rfl, h.cell 1 _ rfl, h.cell 2 _ rfl, h.cell 3 _ rfl, h.cell 4 _ rfl, h.cell 5 _ rfl, h.cell 6 _ rfl, h.cell 7 _ rfl, h.cell 8 _ rfl, h.cell 9 _ rfl, h.cell 10 _ rfl, h.cell 11 _ rfl⟩
set_option maxRecDepth 100000 in
set_option maxHeartbeats 4000000 in
theorem isNode_c (p : PN) (w : World) (hl : p.len) : Calls Tryd.prog 25 #[p.v] w (Gives w (.bool (okPN p))) := by
  have HL := Lib.hid (fun w => isName_c p.l w hl.1)
  have HK := Lib.hid (fun w => isName_c p.key w hl.2)
  have HA := Lib.hid (fun w => Is_c p.lo w)
  have HB := Lib.hid (fun w => Is_c p.hi w)
  have HE : Hid (okPN p = (optB p.l && optB p.key && isV p.lo && isV p.hi && (!p.key.isEmpty || (p.lo.k == 0 && p.hi.k == 0)))) := Lib.hid rfl
  have H0 := Lib.hid (Keep.one w p.cells 48)
  clear hl
  generalize okPN p = r at *
  generalize optB p.l = o1 at *
  generalize optB p.key = o2 at *
  generalize isV p.lo = o3 at *
  generalize isV p.hi = o4 at *
  obtain ⟨l, key, ⟨k, b, n, f, t⟩, ⟨k', b', n', f', t'⟩⟩ := p
  unfold PN.v
  unfold V5.v at *
  have hq : ((k == 0) = false ∧ True) ∨ ((k == 0) = true ∧ (k' == 0) = false) ∨ ((k == 0) = true ∧ (k' == 0) = true) := by cases (k == 0) <;> cases (k' == 0) <;> simp
  rcases hq with ⟨q1, q2⟩ | ⟨q1, q2⟩ | ⟨q1, q2⟩
  · cases q0 : key.isEmpty
    all_goals
      cases o1
      case false =>
        have HV : Hid (r = false) := Lib.hid (by rw [HE.out]; simp [q0, q1, q2])
        go_enter Tryd.func25, Tryd.ntmps25
        go_wp2_with (first | (go_at_call 27; (with_reducible refine (HL.out _).mono ?_); rintro e wq ⟨rfl, hq⟩; have HT := Lib.hid (Keep.on (Hid.out (by assumption)) hq); clear hq; have hk := PN.facts HT.out.facts) | (go_at_call 27; (with_reducible refine (HK.out _).mono ?_); rintro e wq ⟨rfl, hq⟩; have HT := Lib.hid (Keep.on (Hid.out (by assumption)) hq); clear hq; have hk := PN.facts HT.out.facts) | (go_at_call 40; (with_reducible refine (HA.out _).mono ?_); rintro e wq ⟨rfl, hq⟩; have HT := Lib.hid (Keep.on (Hid.out (by assumption)) hq); clear hq; have hk := PN.facts HT.out.facts) | (go_at_call 40; (with_reducible refine (HB.out _).mono ?_); rintro e wq ⟨rfl, hq⟩; have HT := Lib.hid (Keep.on (Hid.out (by assumption)) hq); clear hq; have hk := PN.facts HT.out.facts))
        go_ret
        exact ⟨by rw [HV.out]; rfl, HT.out.below⟩
      cases o2
      case false =>
        have HV : Hid (r = false) := Lib.hid (by rw [HE.out]; simp [q0, q1, q2])
        go_enter Tryd.func25, Tryd.ntmps25
        go_wp2_with (first | (go_at_call 27; (with_reducible refine (HL.out _).mono ?_); rintro e wq ⟨rfl, hq⟩; have HT := Lib.hid (Keep.on (Hid.out (by assumption)) hq); clear hq; have hk := PN.facts HT.out.facts) | (go_at_call 27; (with_reducible refine (HK.out _).mono ?_); rintro e wq ⟨rfl, hq⟩; have HT := Lib.hid (Keep.on (Hid.out (by assumption)) hq); clear hq; have hk := PN.facts HT.out.facts) | (go_at_call 40; (with_reducible refine (HA.out _).mono ?_); rintro e wq ⟨rfl, hq⟩; have HT := Lib.hid (Keep.on (Hid.out (by assumption)) hq); clear hq; have hk := PN.facts HT.out.facts) | (go_at_call 40; (with_reducible refine (HB.out _).mono ?_); rintro e wq ⟨rfl, hq⟩; have HT := Lib.hid (Keep.on (Hid.out (by assumption)) hq); clear hq; have hk := PN.facts HT.out.facts))
        go_ret
        exact ⟨by rw [HV.out]; rfl, HT.out.below⟩
      cases o3
      case false =>
        have HV : Hid (r = false) := Lib.hid (by rw [HE.out]; simp [q0, q1, q2])
        go_enter Tryd.func25, Tryd.ntmps25
        go_wp2_with (first | (go_at_call 27; (with_reducible refine (HL.out _).mono ?_); rintro e wq ⟨rfl, hq⟩; have HT := Lib.hid (Keep.on (Hid.out (by assumption)) hq); clear hq; have hk := PN.facts HT.out.facts) | (go_at_call 27; (with_reducible refine (HK.out _).mono ?_); rintro e wq ⟨rfl, hq⟩; have HT := Lib.hid (Keep.on (Hid.out (by assumption)) hq); clear hq; have hk := PN.facts HT.out.facts) | (go_at_call 40; (with_reducible refine (HA.out _).mono ?_); rintro e wq ⟨rfl, hq⟩; have HT := Lib.hid (Keep.on (Hid.out (by assumption)) hq); clear hq; have hk := PN.facts HT.out.facts) | (go_at_call 40; (with_reducible refine (HB.out _).mono ?_); rintro e wq ⟨rfl, hq⟩; have HT := Lib.hid (Keep.on (Hid.out (by assumption)) hq); clear hq; have hk := PN.facts HT.out.facts))
        go_ret
        exact ⟨by rw [HV.out]; rfl, HT.out.below⟩
      cases o4
      case false =>
        have HV : Hid (r = false) := Lib.hid (by rw [HE.out]; simp [q0, q1, q2])
        go_enter Tryd.func25, Tryd.ntmps25
        go_wp2_with (first | (go_at_call 27; (with_reducible refine (HL.out _).mono ?_); rintro e wq ⟨rfl, hq⟩; have HT := Lib.hid (Keep.on (Hid.out (by assumption)) hq); clear hq; have hk := PN.facts HT.out.facts) | (go_at_call 27; (with_reducible refine (HK.out _).mono ?_); rintro e wq ⟨rfl, hq⟩; have HT := Lib.hid (Keep.on (Hid.out (by assumption)) hq); clear hq; have hk := PN.facts HT.out.facts) | (go_at_call 40; (with_reducible refine (HA.out _).mono ?_); rintro e wq ⟨rfl, hq⟩; have HT := Lib.hid (Keep.on (Hid.out (by assumption)) hq); clear hq; have hk := PN.facts HT.out.facts) | (go_at_call 40; (with_reducible refine (HB.out _).mono ?_); rintro e wq ⟨rfl, hq⟩; have HT := Lib.hid (Keep.on (Hid.out (by assumption)) hq); clear hq; have hk := PN.facts HT.out.facts))
        go_ret
        exact ⟨by rw [HV.out]; rfl, HT.out.below⟩
      first
      | (have HV : Hid (r = true) := Lib.hid (by rw [HE.out]; simp [q0, q1, q2])
         go_enter Tryd.func25, Tryd.ntmps25
         go_wp2_with (first | (go_at_call 27; (with_reducible refine (HL.out _).mono ?_); rintro e wq ⟨rfl, hq⟩; have HT := Lib.hid (Keep.on (Hid.out (by assumption)) hq); clear hq; have hk := PN.facts HT.out.facts) | (go_at_call 27; (with_reducible refine (HK.out _).mono ?_); rintro e wq ⟨rfl, hq⟩; have HT := Lib.hid (Keep.on (Hid.out (by assumption)) hq); clear hq; have hk := PN.facts HT.out.facts) | (go_at_call 40; (with_reducible refine (HA.out _).mono ?_); rintro e wq ⟨rfl, hq⟩; have HT := Lib.hid (Keep.on (Hid.out (by assumption)) hq); clear hq; have hk := PN.facts HT.out.facts) | (go_at_call 40; (with_reducible refine (HB.out _).mono ?_); rintro e wq ⟨rfl, hq⟩; have HT := Lib.hid (Keep.on (Hid.out (by assumption)) hq); clear hq; have hk := PN.facts HT.out.facts))
         go_ret
         exact ⟨by rw [HV.out]; rfl, HT.out.below⟩)
      | (have HV : Hid (r = false) := Lib.hid (by rw [HE.out]; simp [q0, q1, q2])
         go_enter Tryd.func25, Tryd.ntmps25
         go_wp2_with (first | (go_at_call 27; (with_reducible refine (HL.out _).mono ?_); rintro e wq ⟨rfl, hq⟩; have HT := Lib.hid (Keep.on (Hid.out (by assumption)) hq); clear hq; have hk := PN.facts HT.out.facts) | (go_at_call 27; (with_reducible refine (HK.out _).mono ?_); rintro e wq ⟨rfl, hq⟩; have HT := Lib.hid (Keep.on (Hid.out (by assumption)) hq); clear hq; have hk := PN.facts HT.out.facts) | (go_at_call 40; (with_reducible refine (HA.out _).mono ?_); rintro e wq ⟨rfl, hq⟩; have HT := Lib.hid (Keep.on (Hid.out (by assumption)) hq); clear hq; have hk := PN.facts HT.out.facts) | (go_at_call 40; (with_reducible refine (HB.out _).mono ?_); rintro e wq ⟨rfl, hq⟩; have HT := Lib.hid (Keep.on (Hid.out (by assumption)) hq); clear hq; have hk := PN.facts HT.out.facts))
         go_ret
         exact ⟨by rw [HV.out]; rfl, HT.out.below⟩)
  · cases q0 : key.isEmpty
    all_goals
      cases o1
      case false =>
        have HV : Hid (r = false) := Lib.hid (by rw [HE.out]; simp [q0, q1, q2])
        go_enter Tryd.func25, Tryd.ntmps25
        go_wp2_with (first | (go_at_call 27; (with_reducible refine (HL.out _).mono ?_); rintro e wq ⟨rfl, hq⟩; have HT := Lib.hid (Keep.on (Hid.out (by assumption)) hq); clear hq; have hk := PN.facts HT.out.facts) | (go_at_call 27; (with_reducible refine (HK.out _).mono ?_); rintro e wq ⟨rfl, hq⟩; have HT := Lib.hid (Keep.on (Hid.out (by assumption)) hq); clear hq; have hk := PN.facts HT.out.facts) | (go_at_call 40; (with_reducible refine (HA.out _).mono ?_); rintro e wq ⟨rfl, hq⟩; have HT := Lib.hid (Keep.on (Hid.out (by assumption)) hq); clear hq; have hk := PN.facts HT.out.facts) | (go_at_call 40; (with_reducible refine (HB.out _).mono ?_); rintro e wq ⟨rfl, hq⟩; have HT := Lib.hid (Keep.on (Hid.out (by assumption)) hq); clear hq; have hk := PN.facts HT.out.facts))
        go_ret
        exact ⟨by rw [HV.out]; rfl, HT.out.below⟩
      cases o2
      case false =>
        have HV : Hid (r = false) := Lib.hid (by rw [HE.out]; simp [q0, q1, q2])
        go_enter Tryd.func25, Tryd.ntmps25
        go_wp2_with (first | (go_at_call 27; (with_reducible refine (HL.out _).mono ?_); rintro e wq ⟨rfl, hq⟩; have HT := Lib.hid (Keep.on (Hid.out (by assumption)) hq); clear hq; have hk := PN.facts HT.out.facts) | (go_at_call 27; (with_reducible refine (HK.out _).mono ?_); rintro e wq ⟨rfl, hq⟩; have HT := Lib.hid (Keep.on (Hid.out (by assumption)) hq); clear hq; have hk := PN.facts HT.out.facts) | (go_at_call 40; (with_reducible refine (HA.out _).mono ?_); rintro e wq ⟨rfl, hq⟩; have HT := Lib.hid (Keep.on (Hid.out (by assumption)) hq); clear hq; have hk := PN.facts HT.out.facts) | (go_at_call 40; (with_reducible refine (HB.out _).mono ?_); rintro e wq ⟨rfl, hq⟩; have HT := Lib.hid (Keep.on (Hid.out (by assumption)) hq); clear hq; have hk := PN.facts HT.out.facts))
        go_ret
        exact ⟨by rw [HV.out]; rfl, HT.out.below⟩
      cases o3
      case false =>
        have HV : Hid (r = false) := Lib.hid (by rw [HE.out]; simp [q0, q1, q2])
        go_enter Tryd.func25, Tryd.ntmps25
        go_wp2_with (first | (go_at_call 27; (with_reducible refine (HL.out _).mono ?_); rintro e wq ⟨rfl, hq⟩; have HT := Lib.hid (Keep.on (Hid.out (by assumption)) hq); clear hq; have hk := PN.facts HT.out.facts) | (go_at_call 27; (with_reducible refine (HK.out _).mono ?_); rintro e wq ⟨rfl, hq⟩; have HT := Lib.hid (Keep.on (Hid.out (by assumption)) hq); clear hq; have hk := PN.facts HT.out.facts) | (go_at_call 40; (with_reducible refine (HA.out _).mono ?_); rintro e wq ⟨rfl, hq⟩; have HT := Lib.hid (Keep.on (Hid.out (by assumption)) hq); clear hq; have hk := PN.facts HT.out.facts) | (go_at_call 40; (with_reducible refine (HB.out _).mono ?_); rintro e wq ⟨rfl, hq⟩; have HT := Lib.hid (Keep.on (Hid.out (by assumption)) hq); clear hq; have hk := PN.facts HT.out.facts))
        go_ret
        exact ⟨by rw [HV.out]; rfl, HT.out.below⟩
      cases o4
      case false =>
        have HV : Hid (r = false) := Lib.hid (by rw [HE.out]; simp [q0, q1, q2])
        go_enter Tryd.func25, Tryd.ntmps25
        go_wp2_with (first | (go_at_call 27; (with_reducible refine (HL.out _).mono ?_); rintro e wq ⟨rfl, hq⟩; have HT := Lib.hid (Keep.on (Hid.out (by assumption)) hq); clear hq; have hk := PN.facts HT.out.facts) | (go_at_call 27; (with_reducible refine (HK.out _).mono ?_); rintro e wq ⟨rfl, hq⟩; have HT := Lib.hid (Keep.on (Hid.out (by assumption)) hq); clear hq; have hk := PN.facts HT.out.facts) | (go_at_call 40; (with_reducible refine (HA.out _).mono ?_); rintro e wq ⟨rfl, hq⟩; have HT := Lib.hid (Keep.on (Hid.out (by assumption)) hq); clear hq; have hk := PN.facts HT.out.facts) | (go_at_call 40; (with_reducible refine (HB.out _).mono ?_); rintro e wq ⟨rfl, hq⟩; have HT := Lib.hid (Keep.on (Hid.out (by assumption)) hq); clear hq; have hk := PN.facts HT.out.facts))
        go_ret
        exact ⟨by rw [HV.out]; rfl, HT.out.below⟩
      first
      | (have HV : Hid (r = true) := Lib.hid (by rw [HE.out]; simp [q0, q1, q2])
         go_enter Tryd.func25, Tryd.ntmps25
         go_wp2_with (first | (go_at_call 27; (with_reducible refine (HL.out _).mono ?_); rintro e wq ⟨rfl, hq⟩; have HT := Lib.hid (Keep.on (Hid.out (by assumption)) hq); clear hq; have hk := PN.facts HT.out.facts) | (go_at_call 27; (with_reducible refine (HK.out _).mono ?_); rintro e wq ⟨rfl, hq⟩; have HT := Lib.hid (Keep.on (Hid.out (by assumption)) hq); clear hq; have hk := PN.facts HT.out.facts) | (go_at_call 40; (with_reducible refine (HA.out _).mono ?_); rintro e wq ⟨rfl, hq⟩; have HT := Lib.hid (Keep.on (Hid.out (by assumption)) hq); clear hq; have hk := PN.facts HT.out.facts) | (go_at_call 40; (with_reducible refine (HB.out _).mono ?_); rintro e wq ⟨rfl, hq⟩; have HT := Lib.hid (Keep.on (Hid.out (by assumption)) hq); clear hq; have hk := PN.facts HT.out.facts))
         go_ret
         exact ⟨by rw [HV.out]; rfl, HT.out.below⟩)
      | (have HV : Hid (r = false) := Lib.hid (by rw [HE.out]; simp [q0, q1, q2])
         go_enter Tryd.func25, Tryd.ntmps25
         go_wp2_with (first | (go_at_call 27; (with_reducible refine (HL.out _).mono ?_); rintro e wq ⟨rfl, hq⟩; have HT := Lib.hid (Keep.on (Hid.out (by assumption)) hq); clear hq; have hk := PN.facts HT.out.facts) | (go_at_call 27; (with_reducible refine (HK.out _).mono ?_); rintro e wq ⟨rfl, hq⟩; have HT := Lib.hid (Keep.on (Hid.out (by assumption)) hq); clear hq; have hk := PN.facts HT.out.facts) | (go_at_call 40; (with_reducible refine (HA.out _).mono ?_); rintro e wq ⟨rfl, hq⟩; have HT := Lib.hid (Keep.on (Hid.out (by assumption)) hq); clear hq; have hk := PN.facts HT.out.facts) | (go_at_call 40; (with_reducible refine (HB.out _).mono ?_); rintro e wq ⟨rfl, hq⟩; have HT := Lib.hid (Keep.on (Hid.out (by assumption)) hq); clear hq; have hk := PN.facts HT.out.facts))
         go_ret
         exact ⟨by rw [HV.out]; rfl, HT.out.below⟩)
  · cases q0 : key.isEmpty
    all_goals
      cases o1
      case false =>
        have HV : Hid (r = false) := Lib.hid (by rw [HE.out]; simp [q0, q1, q2])
        go_enter Tryd.func25, Tryd.ntmps25
        go_wp2_with (first | (go_at_call 27; (with_reducible refine (HL.out _).mono ?_); rintro e wq ⟨rfl, hq⟩; have HT := Lib.hid (Keep.on (Hid.out (by assumption)) hq); clear hq; have hk := PN.facts HT.out.facts) | (go_at_call 27; (with_reducible refine (HK.out _).mono ?_); rintro e wq ⟨rfl, hq⟩; have HT := Lib.hid (Keep.on (Hid.out (by assumption)) hq); clear hq; have hk := PN.facts HT.out.facts) | (go_at_call 40; (with_reducible refine (HA.out _).mono ?_); rintro e wq ⟨rfl, hq⟩; have HT := Lib.hid (Keep.on (Hid.out (by assumption)) hq); clear hq; have hk := PN.facts HT.out.facts) | (go_at_call 40; (with_reducible refine (HB.out _).mono ?_); rintro e wq ⟨rfl, hq⟩; have HT := Lib.hid (Keep.on (Hid.out (by assumption)) hq); clear hq; have hk := PN.facts HT.out.facts))
        go_ret
        exact ⟨by rw [HV.out]; rfl, HT.out.below⟩
      cases o2
      case false =>
        have HV : Hid (r = false) := Lib.hid (by rw [HE.out]; simp [q0, q1, q2])
        go_enter Tryd.func25, Tryd.ntmps25
        go_wp2_with (first | (go_at_call 27; (with_reducible refine (HL.out _).mono ?_); rintro e wq ⟨rfl, hq⟩; have HT := Lib.hid (Keep.on (Hid.out (by assumption)) hq); clear hq; have hk := PN.facts HT.out.facts) | (go_at_call 27; (with_reducible refine (HK.out _).mono ?_); rintro e wq ⟨rfl, hq⟩; have HT := Lib.hid (Keep.on (Hid.out (by assumption)) hq); clear hq; have hk := PN.facts HT.out.facts) | (go_at_call 40; (with_reducible refine (HA.out _).mono ?_); rintro e wq ⟨rfl, hq⟩; have HT := Lib.hid (Keep.on (Hid.out (by assumption)) hq); clear hq; have hk := PN.facts HT.out.facts) | (go_at_call 40; (with_reducible refine (HB.out _).mono ?_); rintro e wq ⟨rfl, hq⟩; have HT := Lib.hid (Keep.on (Hid.out (by assumption)) hq); clear hq; have hk := PN.facts HT.out.facts))
        go_ret
        exact ⟨by rw [HV.out]; rfl, HT.out.below⟩
      cases o3
      case false =>
        have HV : Hid (r = false) := Lib.hid (by rw [HE.out]; simp [q0, q1, q2])
        go_enter Tryd.func25, Tryd.ntmps25
        go_wp2_with (first | (go_at_call 27; (with_reducible refine (HL.out _).mono ?_); rintro e wq ⟨rfl, hq⟩; have HT := Lib.hid (Keep.on (Hid.out (by assumption)) hq); clear hq; have hk := PN.facts HT.out.facts) | (go_at_call 27; (with_reducible refine (HK.out _).mono ?_); rintro e wq ⟨rfl, hq⟩; have HT := Lib.hid (Keep.on (Hid.out (by assumption)) hq); clear hq; have hk := PN.facts HT.out.facts) | (go_at_call 40; (with_reducible refine (HA.out _).mono ?_); rintro e wq ⟨rfl, hq⟩; have HT := Lib.hid (Keep.on (Hid.out (by assumption)) hq); clear hq; have hk := PN.facts HT.out.facts) | (go_at_call 40; (with_reducible refine (HB.out _).mono ?_); rintro e wq ⟨rfl, hq⟩; have HT := Lib.hid (Keep.on (Hid.out (by assumption)) hq); clear hq; have hk := PN.facts HT.out.facts))
        go_ret
        exact ⟨by rw [HV.out]; rfl, HT.out.below⟩
      cases o4
      case false =>
        have HV : Hid (r = false) := Lib.hid (by rw [HE.out]; simp [q0, q1, q2])
        go_enter Tryd.func25, Tryd.ntmps25
        go_wp2_with (first | (go_at_call 27; (with_reducible refine (HL.out _).mono ?_); rintro e wq ⟨rfl, hq⟩; have HT := Lib.hid (Keep.on (Hid.out (by assumption)) hq); clear hq; have hk := PN.facts HT.out.facts) | (go_at_call 27; (with_reducible refine (HK.out _).mono ?_); rintro e wq ⟨rfl, hq⟩; have HT := Lib.hid (Keep.on (Hid.out (by assumption)) hq); clear hq; have hk := PN.facts HT.out.facts) | (go_at_call 40; (with_reducible refine (HA.out _).mono ?_); rintro e wq ⟨rfl, hq⟩; have HT := Lib.hid (Keep.on (Hid.out (by assumption)) hq); clear hq; have hk := PN.facts HT.out.facts) | (go_at_call 40; (with_reducible refine (HB.out _).mono ?_); rintro e wq ⟨rfl, hq⟩; have HT := Lib.hid (Keep.on (Hid.out (by assumption)) hq); clear hq; have hk := PN.facts HT.out.facts))
        go_ret
        exact ⟨by rw [HV.out]; rfl, HT.out.below⟩
      first
      | (have HV : Hid (r = true) := Lib.hid (by rw [HE.out]; simp [q0, q1, q2])
         go_enter Tryd.func25, Tryd.ntmps25
         go_wp2_with (first | (go_at_call 27; (with_reducible refine (HL.out _).mono ?_); rintro e wq ⟨rfl, hq⟩; have HT := Lib.hid (Keep.on (Hid.out (by assumption)) hq); clear hq; have hk := PN.facts HT.out.facts) | (go_at_call 27; (with_reducible refine (HK.out _).mono ?_); rintro e wq ⟨rfl, hq⟩; have HT := Lib.hid (Keep.on (Hid.out (by assumption)) hq); clear hq; have hk := PN.facts HT.out.facts) | (go_at_call 40; (with_reducible refine (HA.out _).mono ?_); rintro e wq ⟨rfl, hq⟩; have HT := Lib.hid (Keep.on (Hid.out (by assumption)) hq); clear hq; have hk := PN.facts HT.out.facts) | (go_at_call 40; (with_reducible refine (HB.out _).mono ?_); rintro e wq ⟨rfl, hq⟩; have HT := Lib.hid (Keep.on (Hid.out (by assumption)) hq); clear hq; have hk := PN.facts HT.out.facts))
         go_ret
         exact ⟨by rw [HV.out]; rfl, HT.out.below⟩)
      | (have HV : Hid (r = false) := Lib.hid (by rw [HE.out]; simp [q0, q1, q2])
         go_enter Tryd.func25, Tryd.ntmps25
         go_wp2_with (first | (go_at_call 27; (with_reducible refine (HL.out _).mono ?_); rintro e wq ⟨rfl, hq⟩; have HT := Lib.hid (Keep.on (Hid.out (by assumption)) hq); clear hq; have hk := PN.facts HT.out.facts) | (go_at_call 27; (with_reducible refine (HK.out _).mono ?_); rintro e wq ⟨rfl, hq⟩; have HT := Lib.hid (Keep.on (Hid.out (by assumption)) hq); clear hq; have hk := PN.facts HT.out.facts) | (go_at_call 40; (with_reducible refine (HA.out _).mono ?_); rintro e wq ⟨rfl, hq⟩; have HT := Lib.hid (Keep.on (Hid.out (by assumption)) hq); clear hq; have hk := PN.facts HT.out.facts) | (go_at_call 40; (with_reducible refine (HB.out _).mono ?_); rintro e wq ⟨rfl, hq⟩; have HT := Lib.hid (Keep.on (Hid.out (by assumption)) hq); clear hq; have hk := PN.facts HT.out.facts))
         go_ret
         exact ⟨by rw [HV.out]; rfl, HT.out.below⟩)
end Go.Proofs.YtlgglkkafcbikaaDoor
