
/- Contracts of package value: named, Is; the laws' known. -/
import Derived.Test.YtmbffncmogpkfaaGreatDoorVal
import Derived.Test.YtmbffncmogpkfaaGreatDoorVal2
import Derived.BigQuiet
import Derived.Deep.QuietTactic
namespace Go.Proofs.YtmbffncmogpkfaaGreatDoor
open Go Go.Proofs Go.RowKit
set_option linter.unusedVariables false
set_option linter.unusedSimpArgs false


def namedV (x : V5) : V5 := ⟨x.k, if x.k = 1 then x.b else false, if x.k = 2 then x.n else 0, if x.k = 3 then normN x.f else 0, if x.k = 4 then x.t else []⟩
theorem infoVal : (Tryz.prog.info? 47).map (·.size) = some 5 := by kernel_rfl
set_option maxHeartbeats 1000000 in
theorem named_c (x : V5) (w : World) : Calls Tryz.prog 84 #[x.v] w (Gives w (namedV x).v) := by
  obtain ⟨k, b, n, f, t⟩ := x
  unfold V5.v
  by_cases h1 : k = 1
  · subst h1
    have H : Hid ((namedV ⟨1, b, n, f, t⟩) = ⟨1, b, 0, 0, []⟩) := Lib.hid (by simp [namedV])
    rw [H.out]
    go_enter Tryz.func84, Tryz.ntmps84
    go_wp2_with (fail)
    (try simp only [Exit.inBlock, Exit.then])
    refine bodyPost_ret (results_cell_row rfl _ _ (w.heap.size + 1) 47 #[_, _, _, _, _] (0, 0) _ rfl (by rw [alloc_at, if_neg (by simp), alloc_at, if_pos (by simp)]) Tryz.underlying47 rfl infoVal) rfl ?_
    exact ⟨rfl, (((Below.refl _ w).alloc (Nat.le_refl _) _).alloc (by simp) _).alloc (by simp; omega) _⟩
  by_cases h2 : k = 2
  · subst h2
    have H : Hid ((namedV ⟨2, b, n, f, t⟩) = ⟨2, false, n, 0, []⟩) := Lib.hid (by simp [namedV])
    rw [H.out]
    go_enter Tryz.func84, Tryz.ntmps84
    go_wp2_with (fail)
    (try simp only [Exit.inBlock, Exit.then])
    refine bodyPost_ret (results_cell_row rfl _ _ (w.heap.size + 1) 47 #[_, _, _, _, _] (0, 0) _ rfl (by rw [alloc_at, if_neg (by simp), alloc_at, if_pos (by simp)]) Tryz.underlying47 rfl infoVal) rfl ?_
    exact ⟨rfl, (((Below.refl _ w).alloc (Nat.le_refl _) _).alloc (by simp) _).alloc (by simp; omega) _⟩
  by_cases h3 : k = 3
  · subst h3
    have H : Hid ((namedV ⟨3, b, n, f, t⟩) = ⟨3, false, 0, normN f, []⟩) := Lib.hid (by simp [namedV])
    rw [H.out]
    go_enter Tryz.func84, Tryz.ntmps84
    go_wp2_with (first | (go_at_call 68; (with_reducible refine (Norm_c _ _).mono ?_); rintro e w' ⟨rfl, rfl⟩))
    (try simp only [Exit.inBlock, Exit.then])
    refine bodyPost_ret (results_cell_row rfl _ _ (w.heap.size + 1) 47 #[_, _, _, _, _] (0, 0) _ rfl (by rw [alloc_at, if_neg (by simp), alloc_at, if_pos (by simp)]) Tryz.underlying47 rfl infoVal) rfl ?_
    exact ⟨rfl, (((Below.refl _ w).alloc (Nat.le_refl _) _).alloc (by simp) _).alloc (by simp; omega) _⟩
  by_cases h4 : k = 4
  · subst h4
    have H : Hid ((namedV ⟨4, b, n, f, t⟩) = ⟨4, false, 0, 0, t⟩) := Lib.hid (by simp [namedV])
    rw [H.out]
    go_enter Tryz.func84, Tryz.ntmps84
    go_wp2_with (fail)
    (try simp only [Exit.inBlock, Exit.then])
    refine bodyPost_ret (results_cell_row rfl _ _ (w.heap.size + 1) 47 #[_, _, _, _, _] (0, 0) _ rfl (by rw [alloc_at, if_neg (by simp), alloc_at, if_pos (by simp)]) Tryz.underlying47 rfl infoVal) rfl ?_
    exact ⟨rfl, (((Below.refl _ w).alloc (Nat.le_refl _) _).alloc (by simp) _).alloc (by simp; omega) _⟩
  have H : Hid ((namedV ⟨k, b, n, f, t⟩) = ⟨k, false, 0, 0, []⟩) := Lib.hid (by simp [namedV, h1, h2, h3, h4])
  rw [H.out]
  have g1 : (k == 1) = false := by simpa using h1
  have g2 : (k == 2) = false := by simpa using h2
  have g3 : (k == 3) = false := by simpa using h3
  have g4 : (k == 4) = false := by simpa using h4
  clear h1 h2 h3 h4
  go_enter Tryz.func84, Tryz.ntmps84
  go_wp2_with fail
  (try simp only [Exit.inBlock, Exit.then])
  refine bodyPost_ret (results_cell_row rfl _ _ (w.heap.size + 1) 47 #[_, _, _, _, _] (0, 0) _ rfl (by rw [alloc_at, if_neg (by simp), alloc_at, if_pos (by simp)]) Tryz.underlying47 rfl infoVal) rfl ?_
  exact ⟨rfl, (((Below.refl _ w).alloc (Nat.le_refl _) _).alloc (by simp) _).alloc (by simp; omega) _⟩
/-- has the value just the fields that its kind names? -/
def sameV (x : V5) : Bool := ((namedV x).b == x.b) && ((namedV x).n == x.n) && ((namedV x).t == x.t) && (((namedV x).f : Int) == (x.f : Int))
def isV (x : V5) : Bool := sameV x && decide (0 ≤ x.k) && decide (x.k ≤ 4) && isT x.t
set_option maxHeartbeats 1000000 in
theorem Is_c (x : V5) (w : World) : Calls Tryz.prog 62 #[x.v] w (Gives w (.bool (isV x))) := by
  have HN := Lib.hid (fun w => named_c x w)
  have HS : Hid (sameV x = (((namedV x).b == x.b) && ((namedV x).n == x.n) && ((namedV x).t == x.t) && (((namedV x).f : Int) == (x.f : Int)))) := Lib.hid rfl
  have HI : Hid (isV x = (sameV x && decide (0 ≤ x.k) && decide (x.k ≤ 4) && isT x.t)) := Lib.hid rfl
  have HT := Lib.hid (fun w => isText_c x.t w)
  generalize isT x.t = it at *
  generalize isV x = iv at *
  generalize sameV x = sv at *
  generalize namedV x = y at *
  obtain ⟨k, b, n, f, t⟩ := x
  obtain ⟨k', b', n', f', t'⟩ := y
  unfold V5.v at *
  go_enter Tryz.func62, Tryz.ntmps62
  go_wp2_with fail
  refine (HN.out _).mono ?_
  rintro e w' ⟨rfl, hb⟩
  have HB := Lib.hid hb
  have hs := hb.size
  simp at hs
  have hbz := hb.alloc (by simp; omega) (.cells #[.int .i64 k', .bool b', .int .i64 n', .float .f64 f', .string ⟨t'.toArray⟩] 47)
  obtain ⟨c0, c1, c2, c3, c4⟩ := cells5 (g := w.heap.size) hbz (by simp) (by rw [alloc_at, if_pos rfl])
  obtain ⟨d0, d1, d2, d3, d4⟩ := cells5 (g := w'.heap.size) (Below.refl _ (w'.alloc (.cells #[.int .i64 k', .bool b', .int .i64 n', .float .f64 f', .string ⟨t'.toArray⟩] 47))) (by simp) (by rw [alloc_at, if_pos rfl])
  have HZ : Hid (Below w.heap.size w (w'.alloc (.cells #[.int .i64 k', .bool b', .int .i64 n', .float .f64 f', .string ⟨t'.toArray⟩] 47))) := Lib.hid (((Below.refl _ w).alloc (Nat.le_refl _) _).trans (hbz.mono (by simp)))
  clear hb hbz
  go_wp2_with fail
  generalize w'.alloc (.cells #[.int .i64 k', .bool b', .int .i64 n', .float .f64 f', .string ⟨t'.toArray⟩] 47) = wz at *
  have e0 : ∀ n, (wz.drewN n).cell? ⟨w.heap.size, 0, none⟩ = _ := fun _ => c0
  have e1 : ∀ n, (wz.drewN n).cell? ⟨w.heap.size, 1, none⟩ = _ := fun _ => c1
  have e2 : ∀ n, (wz.drewN n).cell? ⟨w.heap.size, 2, none⟩ = _ := fun _ => c2
  have e3 : ∀ n, (wz.drewN n).cell? ⟨w.heap.size, 3, none⟩ = _ := fun _ => c3
  have e4 : ∀ n, (wz.drewN n).cell? ⟨w.heap.size, 4, none⟩ = _ := fun _ => c4
  have g1 : ∀ n, (wz.drewN n).cell? ⟨w'.heap.size, 1, none⟩ = _ := fun _ => d1
  have g2 : ∀ n, (wz.drewN n).cell? ⟨w'.heap.size, 2, none⟩ = _ := fun _ => d2
  have g3 : ∀ n, (wz.drewN n).cell? ⟨w'.heap.size, 3, none⟩ = _ := fun _ => d3
  have g4 : ∀ n, (wz.drewN n).cell? ⟨w'.heap.size, 4, none⟩ = _ := fun _ => d4
  clear c0 c1 c2 c3 c4 d0 d1 d2 d3 d4
  cases q1 : (b' == b)
  case false =>
    have HV : Hid (iv = false) := Lib.hid (by rw [HI.out, HS.out]; simp only [q1, Bool.and_false, Bool.false_and, Bool.true_and])
    go_quiet (fail)
    go_wp2_with fail
    go_ret
    rw [HV.out]
    exact ⟨rfl, below_drewN HZ.out _⟩
  case true =>
    cases q2 : (n' == n)
    case false =>
      have HV : Hid (iv = false) := Lib.hid (by rw [HI.out, HS.out]; simp only [q1, q2, Bool.and_false, Bool.false_and, Bool.true_and])
      go_quiet (fail)
      go_wp2_with fail
      go_ret
      rw [HV.out]
      exact ⟨rfl, below_drewN HZ.out _⟩
    case true =>
      cases q3 : (t' == t)
      case false =>
        have HV : Hid (iv = false) := Lib.hid (by rw [HI.out, HS.out]; simp only [q1, q2, q3, Bool.and_false, Bool.false_and, Bool.true_and])
        go_quiet (fail)
        go_wp2_with fail
        go_ret
        rw [HV.out]
        exact ⟨rfl, below_drewN HZ.out _⟩
      case true =>
        cases q4 : ((f' : Int) == (f : Int))
        case false =>
          have HV : Hid (iv = false) := Lib.hid (by rw [HI.out, HS.out]; simp only [q1, q2, q3, q4, Bool.and_false, Bool.false_and, Bool.true_and])
          go_quiet (fail)
          go_wp2_with fail
          go_ret
          rw [HV.out]
          exact ⟨rfl, below_drewN HZ.out _⟩
        case true =>
          cases r1 : decide (0 ≤ k)
          case false =>
            have HV : Hid (iv = false) := Lib.hid (by rw [HI.out, HS.out]; simp only [q1, q2, q3, q4, r1, Bool.and_false, Bool.false_and, Bool.true_and])
            go_quiet (fail)
            go_wp2_with fail
            go_ret
            rw [HV.out]
            exact ⟨rfl, below_drewN HZ.out _⟩
          case true =>
            cases r2 : decide (k ≤ 4)
            case false =>
              have HV : Hid (iv = false) := Lib.hid (by rw [HI.out, HS.out]; simp only [q1, q2, q3, q4, r1, r2, Bool.and_false, Bool.false_and, Bool.true_and])
              go_quiet (fail)
              go_wp2_with fail
              go_ret
              rw [HV.out]
              exact ⟨rfl, below_drewN HZ.out _⟩
            case true =>
              have HV : Hid (iv = it) := Lib.hid (by rw [HI.out, HS.out]; simp only [q1, q2, q3, q4, r1, r2, Bool.and_false, Bool.false_and, Bool.true_and])
              go_quiet (fail)
              go_wp2_with (go_at_call 85; refine (HT.out _).mono ?_; rintro e w2 ⟨rfl, hb2⟩)
              go_ret
              rw [HV.out]
              exact ⟨rfl, (below_drewN HZ.out nq).trans (hb2.mono (below_drewN HZ.out nq).size)⟩
end Go.Proofs.YtmbffncmogpkfaaGreatDoor
