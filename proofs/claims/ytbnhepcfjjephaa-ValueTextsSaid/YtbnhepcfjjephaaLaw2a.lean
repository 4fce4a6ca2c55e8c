/- The laws on package value: ValueKinds .. -/
import Derived.Test.YtbnhepcfjjephaaVal7
import Derived.Test.YtbnhepcfjjephaaVal8
import Derived.Test.YtbnhepcfjjephaaVLaw
import Derived.Test.YtbnhepcfjjephaaLaw2
import Derived.Test.YtbnhepcfjjephaaOpen2
import Derived.Deep.RegionHeld3
namespace Go.Proofs.Ytbnhepcfjjephaa
open Go Go.Proofs Go.RowKit
set_option linter.unusedVariables false
set_option linter.unusedSimpArgs false

theorem HIs : Hid (∀ (x : V5) (w : World), x.t.length ≤ 9223372036854775807 → Calls Try.prog 45 #[x.v] w (Gives w (.bool (isV x)))) := Lib.hid (fun x w h => XIs_c x w h)
theorem okV.len {x : V5} (h : okV x) : x.t.length ≤ 9223372036854775807 := Nat.le_trans h.2.2.2 (by decide)
theorem okV.fl {x : V5} (h : okV x) : x.f < W64 := h.2.2.1
abbrev objV2 (x y : V5) : Obj := .cells #[.int .i64 x.k, .bool x.b, .int .i64 x.n, .float .f64 x.f, .string ⟨x.t.toArray⟩, .int .i64 y.k, .bool y.b, .int .i64 y.n, .float .f64 y.f, .string ⟨y.t.toArray⟩] 53
abbrev objV3 (x y z : V5) : Obj := .cells #[.int .i64 x.k, .bool x.b, .int .i64 x.n, .float .f64 x.f, .string ⟨x.t.toArray⟩, .int .i64 y.k, .bool y.b, .int .i64 y.n, .float .f64 y.f, .string ⟨y.t.toArray⟩, .int .i64 z.k, .bool z.b, .int .i64 z.n, .float .f64 z.f, .string ⟨z.t.toArray⟩] 53
theorem may2_c (x y : V5) (W : World) (B : Nat) (hB : B = W.heap.size) (lx : x.t.length ≤ 9223372036854775807) (ly : y.t.length ≤ 9223372036854775807) :
    Calls Try.prog 38 #[.slice (some ⟨B, 0, none⟩) 2 2] (W.alloc (objV2 x y)) fun e w' => e = .returned (.bool (isV x && isV y)) ∧ Below W.heap.size W w' := by
  subst hB
  have hh : (W.alloc (objV2 x y)).heap[W.heap.size]? = some (objV2 x y) := by rw [alloc_at, if_pos rfl]
  have h := may_c [x, y] W.heap.size 0 (W.alloc (objV2 x y)) (by simp) (fun z hz => by simp at hz; rcases hz with rfl | rfl <;> assumption)
    (fun i hi => by
      match i, hi with
      | 0, _ => unfold CellsV World.cell?; simp only [hh]; exact ⟨rfl, rfl, rfl, rfl, rfl⟩
      | 1, _ => unfold CellsV World.cell?; simp only [hh]; exact ⟨rfl, rfl, rfl, rfl, rfl⟩) (by simp) HIs
  refine h.mono ?_
  rintro e w' ⟨rfl, hb⟩
  exact ⟨by simp, ((Below.refl _ W).alloc (Nat.le_refl _) _).trans (hb.mono (by simp))⟩
theorem may3_c (x y z : V5) (W : World) (B : Nat) (hB : B = W.heap.size) (lx : x.t.length ≤ 9223372036854775807) (ly : y.t.length ≤ 9223372036854775807) (lz : z.t.length ≤ 9223372036854775807) :
    Calls Try.prog 38 #[.slice (some ⟨B, 0, none⟩) 3 3] (W.alloc (objV3 x y z)) fun e w' => e = .returned (.bool (isV x && isV y && isV z)) ∧ Below W.heap.size W w' := by
  subst hB
  have hh : (W.alloc (objV3 x y z)).heap[W.heap.size]? = some (objV3 x y z) := by rw [alloc_at, if_pos rfl]
  have h := may_c [x, y, z] W.heap.size 0 (W.alloc (objV3 x y z)) (by simp) (fun z hz => by simp at hz; rcases hz with rfl | rfl | rfl <;> assumption)
    (fun i hi => by
      match i, hi with
      | 0, _ => unfold CellsV World.cell?; simp only [hh]; exact ⟨rfl, rfl, rfl, rfl, rfl⟩
      | 1, _ => unfold CellsV World.cell?; simp only [hh]; exact ⟨rfl, rfl, rfl, rfl, rfl⟩
      | 2, _ => unfold CellsV World.cell?; simp only [hh]; exact ⟨rfl, rfl, rfl, rfl, rfl⟩) (by simp) HIs
  refine h.mono ?_
  rintro e w' ⟨rfl, hb⟩
  exact ⟨by simp [Bool.and_assoc], ((Below.refl _ W).alloc (Nat.le_refl _) _).trans (hb.mono (by simp))⟩
def Two2 (w0 w : World) (x y : V5) : Prop := Box w w0.heap.size x ∧ Box w (w0.heap.size + 1) y ∧ Below w0.heap.size w0 w
theorem Two2.below {w0 w w' : World} {x y : V5} (h : Two2 w0 w x y) (hb : Below w.heap.size w w') : Two2 w0 w' x y :=
  ⟨h.1.below hb, h.2.1.below hb, h.2.2.trans (hb.mono h.2.2.size)⟩
theorem Two2.drew {w0 w : World} {x y : V5} (h : Two2 w0 w x y) : Two2 w0 w.drew x y := h.below (Below.refl _ w).drew
theorem Two2.all {w0 w : World} {x y : V5} (h : Two2 w0 w x y) : w.cell? ⟨w0.heap.size, 0, none⟩ = some (.int .i64 x.k) ∧ w.cell? ⟨w0.heap.size, 1, none⟩ = some (.bool x.b) ∧ w.cell? ⟨w0.heap.size, 2, none⟩ = some (.int .i64 x.n) ∧ w.cell? ⟨w0.heap.size, 3, none⟩ = some (.float .f64 x.f) ∧ w.cell? ⟨w0.heap.size, 4, none⟩ = some (.string ⟨x.t.toArray⟩) ∧
    w.cell? ⟨w0.heap.size + 1, 0, none⟩ = some (.int .i64 y.k) ∧ w.cell? ⟨w0.heap.size + 1, 1, none⟩ = some (.bool y.b) ∧ w.cell? ⟨w0.heap.size + 1, 2, none⟩ = some (.int .i64 y.n) ∧ w.cell? ⟨w0.heap.size + 1, 3, none⟩ = some (.float .f64 y.f) ∧ w.cell? ⟨w0.heap.size + 1, 4, none⟩ = some (.string ⟨y.t.toArray⟩) := by
  obtain ⟨a0, a1, a2, a3, a4⟩ := h.1.cells
  obtain ⟨b0, b1, b2, b3, b4⟩ := h.2.1.cells
  exact ⟨a0, a1, a2, a3, a4, b0, b1, b2, b3, b4⟩
theorem boxes2 (w : World) (x y : V5) : Two2 w ((w.alloc (objV x)).alloc (objV y)) x y := by
  refine ⟨(Box.new w x).alloc _, ?_, ((Below.refl _ w).alloc (Nat.le_refl _) _).alloc (by simp) _⟩
  have := Box.new (w.alloc (objV x)) y
  simpa using this
set_option maxRecDepth 100000 in
set_option maxHeartbeats 4000000 in
theorem ValueKinds_core (a0 : V5) (a1 : V5) (w : World) (o0 : okV a0) (o1 : okV a1) :
    Calls Try.prog 12 #[a0.v, a1.v] w fun e w' => e = .returned (.bool true) ∧ Below w.heap.size w w' := by
  have HM := Lib.hid (fun W B hB => may2_c a0 a1 W B hB o0.len o1.len)
  have HC := Lib.hid (fun w => VCmp_c a0 a1 w o0.fl o1.fl)
  have HS := Lib.hid (fun w => VSame_c a0 a1 w o0.fl o1.fl)
  have HA := Lib.hid (boxes2 w a0 a1)
  have HK := Lib.hid (@cmpV_kind a0 a1)
  clear o0 o1
  generalize (isV a0 && isV a1) = mv at *
  generalize cmpV a0 a1 = c at *
  obtain ⟨k, b, n, f, t⟩ := a0
  obtain ⟨k', b', n', f', t'⟩ := a1
  unfold V5.v at *
  go_enter Try.func12, Try.ntmps12
  go_wp2_with fail
  refine (HM.out _ _ (by simp)).mono ?_
  rintro e w1 ⟨rfl, h1⟩
  have H1 := Lib.hid (HA.out.below h1)
  obtain ⟨c0, c1, c2, c3, c4⟩ := H1.out.1.cells
  obtain ⟨d0, d1, d2, d3, d4⟩ := H1.out.2.1.cells
  clear h1
  cases mv
  · go_wp2_with fail
    go_ret
    exact ⟨rfl, H1.out.2.2⟩
  by_cases hk : k = k'
  · subst hk
    go_wp2_with fail
    go_ret
    exact ⟨rfl, H1.out.2.2⟩
  have hc := HK.out hk
  (try simp only at hc)
  have q1 : (c == -1) = decide (k < k') := by rw [hc]; unfold cmpI; (repeat' split) <;> simp <;> omega
  have q2 : (c == 0) = false := by rw [hc]; unfold cmpI; (repeat' split) <;> simp <;> omega
  have q0 : (k == k') = false := by simpa using hk
  clear hc hk
  go_wp2_with fail
  have H1d := Lib.hid H1.out.drew
  clear c0 c1 c2 c3 c4 d0 d1 d2 d3 d4
  go_region_held3 (fun w' => w'.cell? ⟨w.heap.size, 0, none⟩ = some (.int .i64 k) ∧ w'.cell? ⟨w.heap.size, 1, none⟩ = some (.bool b) ∧ w'.cell? ⟨w.heap.size, 2, none⟩ = some (.int .i64 n) ∧ w'.cell? ⟨w.heap.size, 3, none⟩ = some (.float .f64 f) ∧ w'.cell? ⟨w.heap.size, 4, none⟩ = some (.string ⟨t.toArray⟩) ∧
      w'.cell? ⟨w.heap.size + 1, 0, none⟩ = some (.int .i64 k') ∧ w'.cell? ⟨w.heap.size + 1, 1, none⟩ = some (.bool b') ∧ w'.cell? ⟨w.heap.size + 1, 2, none⟩ = some (.int .i64 n') ∧ w'.cell? ⟨w.heap.size + 1, 3, none⟩ = some (.float .f64 f') ∧ w'.cell? ⟨w.heap.size + 1, 4, none⟩ = some (.string ⟨t'.toArray⟩))
    (first | exact H1d.out.all | exact H2.out.all | exact H3.out.all | exact H4.out.all)
    (first | (go_at_call 39; refine (HC.out _).mono ?_; rintro e w2 ⟨rfl, h2⟩; have H2 := Lib.hid (H1d.out.below h2); clear h2) | (go_at_call 41; refine (HS.out _).mono ?_; rintro e w3 ⟨rfl, h3⟩; have H3 := Lib.hid (H2.out.below h3); clear h3) | (go_at_call 42; refine (known2_c _).mono ?_; rintro e w4 ⟨rfl, h4⟩; have H4 := Lib.hid (H3.out.below h4); clear h4))
  all_goals go_wp2_with fail
  all_goals go_ret
  all_goals exact ⟨rfl, H4.out.2.2⟩
end Go.Proofs.Ytbnhepcfjjephaa
