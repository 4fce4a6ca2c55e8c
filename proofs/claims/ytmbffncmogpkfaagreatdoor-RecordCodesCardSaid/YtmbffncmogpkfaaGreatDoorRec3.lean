
/- Contracts of package record: SameEdge, sameVal. -/
import Derived.Test.YtmbffncmogpkfaaGreatDoorRec2
import Derived.Test.YtmbffncmogpkfaaGreatDoorReal
namespace Go.Proofs.YtmbffncmogpkfaaGreatDoor
open Go Go.Proofs Go.RowKit
set_option linter.unusedVariables false
set_option linter.unusedSimpArgs false

def sameED (x y : ED) : Bool := (x.a == y.a) && (x.b == y.b) && (x.t == y.t) && (cmpN x.w y.w == 0)
set_option maxHeartbeats 4000000 in
theorem SameEdge_c (x y : ED) (w : World) (hx : x.w < W64) (hy : y.w < W64) : Calls Tryz.prog 64 #[x.v, y.v] w (Gives w (.bool (sameED x y))) := by
  have HC := Lib.hid (fun W => Cmp_c x.w y.w hx hy W)
  have HE : Hid (sameED x y = ((x.a == y.a) && (x.b == y.b) && (x.t == y.t) && (cmpN x.w y.w == 0))) := Lib.hid rfl
  clear hx hy
  generalize sameED x y = ev at *
  generalize cmpN x.w y.w = cc at *
  obtain ⟨a, b, t, f⟩ := x
  obtain ⟨a', b', t', f'⟩ := y
  unfold ED.v
  dsimp only at HE HC
  cases q1 : (a == a')
  case false =>
    have HV := Lib.hid (HE.out.trans (show _ = false by simp only [q1, Bool.false_and]))
    go_enter Tryz.func64, Tryz.ntmps64
    go_wp2_with fail
    go_ret
    exact ⟨by rw [HV.out]; rfl, ((Below.refl _ w).alloc (Nat.le_refl _) _).alloc (by simp) _⟩
  cases q2 : (b == b')
  case false =>
    have HV := Lib.hid (HE.out.trans (show _ = false by simp only [q2, Bool.false_and, Bool.and_false]))
    go_enter Tryz.func64, Tryz.ntmps64
    go_wp2_with fail
    go_ret
    exact ⟨by rw [HV.out]; rfl, ((Below.refl _ w).alloc (Nat.le_refl _) _).alloc (by simp) _⟩
  cases q3 : (t == t')
  case false =>
    have HV := Lib.hid (HE.out.trans (show _ = false by simp only [q3, Bool.false_and, Bool.and_false]))
    go_enter Tryz.func64, Tryz.ntmps64
    go_wp2_with fail
    go_ret
    exact ⟨by rw [HV.out]; rfl, ((Below.refl _ w).alloc (Nat.le_refl _) _).alloc (by simp) _⟩
  have HV := Lib.hid (HE.out.trans (show _ = (cc == 0) by simp only [q1, q2, q3, Bool.true_and]))
  go_enter Tryz.func64, Tryz.ntmps64
  go_wp2_with (first | (go_at_call 86; (with_reducible refine (HC.out _).mono ?_); rintro e wz ⟨rfl, rfl⟩))
  go_ret
  exact ⟨by rw [HV.out]; rfl, ((Below.refl _ w).alloc (Nat.le_refl _) _).alloc (by simp) _⟩
def sameVB (x y : V5) : Bool := (x.k == y.k) && (x.b == y.b) && (x.n == y.n) && (cmpN x.f y.f == 0) && (x.t == y.t)
set_option maxHeartbeats 4000000 in
theorem sameVal_c (x y : V5) (w : World) (hx : x.f < W64) (hy : y.f < W64) : Calls Tryz.prog 89 #[x.v, y.v] w (Gives w (.bool (sameVB x y))) := by
  have HC := Lib.hid (fun W => Cmp_c x.f y.f hx hy W)
  have HE : Hid (sameVB x y = ((x.k == y.k) && (x.b == y.b) && (x.n == y.n) && (cmpN x.f y.f == 0) && (x.t == y.t))) := Lib.hid rfl
  clear hx hy
  generalize sameVB x y = ev at *
  generalize cmpN x.f y.f = cc at *
  obtain ⟨k, b, n, f, t⟩ := x
  obtain ⟨k', b', n', f', t'⟩ := y
  have H0 : Hid (Keep w (fun W => Blk W w.heap.size (⟨k, b, n, f, t⟩ : V5).cells ∧ Blk W (w.heap.size + 1) (⟨k', b', n', f', t'⟩ : V5).cells) ((w.alloc (.cells (⟨k, b, n, f, t⟩ : V5).cells.toArray 47)).alloc (.cells (⟨k', b', n', f', t'⟩ : V5).cells.toArray 47))) := by
    have b1 := (Blk.new w (⟨k, b, n, f, t⟩ : V5).cells 47).alloc (.cells (⟨k', b', n', f', t'⟩ : V5).cells.toArray 47)
    have b2 := Blk.newAt (w.alloc (.cells (⟨k, b, n, f, t⟩ : V5).cells.toArray 47)) (⟨k', b', n', f', t'⟩ : V5).cells 47 (w.heap.size + 1) (by simp)
    exact Lib.hid ⟨⟨b1, b2⟩, ((Below.refl _ w).alloc (Nat.le_refl _) _).alloc (by simp) _, fun w' hb => ⟨b1.below hb, b2.below hb⟩⟩
  unfold V5.v
  dsimp only at HE HC
  cases q1 : (k == k') <;> cases q2 : (b == b') <;> cases q3 : (n == n') <;> cases q5 : (cc == 0) <;> cases q4 : (t == t')
  all_goals
    have HV := HE.out
    simp only [q1, q2, q3, q4, q5, Bool.and_true, Bool.and_false, Bool.true_and, Bool.false_and, Bool.and_self] at HV
    have HV := Lib.hid HV
    go_enter Tryz.func89, Tryz.ntmps89
    go_wp2_with (first | (go_at_call 86; (with_reducible refine (HC.out _).mono ?_); rintro e wz ⟨rfl, rfl⟩))
    go_ret
    exact ⟨by rw [HV.out]; rfl, H0.out.below⟩
end Go.Proofs.YtmbffncmogpkfaaGreatDoor
