
/- The reference's Is: the ways on which its first statement says no (by wip/py/genis.py). -/
import Derived.Test.YtmbffncmogpkfaaGreatDoorVal4
import Derived.BigQuiet
import Derived.Deep.QuietTactic
namespace Go.Proofs.YtmbffncmogpkfaaGreatDoor
open Go Go.Proofs Go.RowKit
set_option linter.unusedVariables false
set_option linter.unusedSimpArgs false

set_option maxRecDepth 100000 in
set_option maxHeartbeats 4000000 in
theorem XIs_1_2 (k : Int) (b : Bool) (n : Int) (f : Nat) (t : List UInt8) (w : World) (p1 : (k != 1) = false) (p2 : (k != 2) = true) (q2 : (n != 0) = true) : Calls Tryz.prog 96 #[(⟨k, b, n, f, t⟩ : V5).v] w (Gives w (.bool false)) := by
  unfold V5.v
  go_enter Tryz.func96, Tryz.ntmps96
  go_wp2_with fail
  have hb : Below w.heap.size w (w.alloc (.cells #[.int .i64 k, .bool b, .int .i64 n, .float .f64 f, .string ⟨t.toArray⟩] 47)) := (Below.refl _ w).alloc (Nat.le_refl _) _
  obtain ⟨c0, c1, c2, c3, c4⟩ := cells5 (g := w.heap.size) (Below.refl _ (w.alloc (.cells #[.int .i64 k, .bool b, .int .i64 n, .float .f64 f, .string ⟨t.toArray⟩] 47))) (by simp) (by rw [alloc_at, if_pos rfl])
  generalize w.alloc (.cells #[.int .i64 k, .bool b, .int .i64 n, .float .f64 f, .string ⟨t.toArray⟩] 47) = wz at *
  have HB := Lib.hid hb
  clear hb
  go_quiet (first | (go_at_call 95; exact Calls.quiet_of_same ((Same_c _ _ _).mono fun _ _ h => ⟨h.1, h.2.symm⟩)) | (go_at_call 72; exact Calls.quiet_of_same ((RNorm_c _ _).mono fun _ _ h => ⟨h.1, h.2.symm⟩)))
  go_wp2_with fail
  go_ret
  exact ⟨rfl, below_drewN HB.out _⟩
set_option maxRecDepth 100000 in
set_option maxHeartbeats 4000000 in
theorem XIs_1_3 (k : Int) (b : Bool) (n : Int) (f : Nat) (t : List UInt8) (w : World) (p1 : (k != 1) = false) (p2 : (k != 2) = true) (p3 : (k != 3) = true) (q2 : (n != 0) = false) (q3 : decide (f = 0) = false) : Calls Tryz.prog 96 #[(⟨k, b, n, f, t⟩ : V5).v] w (Gives w (.bool false)) := by
  unfold V5.v
  go_enter Tryz.func96, Tryz.ntmps96
  go_wp2_with fail
  have hb : Below w.heap.size w (w.alloc (.cells #[.int .i64 k, .bool b, .int .i64 n, .float .f64 f, .string ⟨t.toArray⟩] 47)) := (Below.refl _ w).alloc (Nat.le_refl _) _
  obtain ⟨c0, c1, c2, c3, c4⟩ := cells5 (g := w.heap.size) (Below.refl _ (w.alloc (.cells #[.int .i64 k, .bool b, .int .i64 n, .float .f64 f, .string ⟨t.toArray⟩] 47))) (by simp) (by rw [alloc_at, if_pos rfl])
  generalize w.alloc (.cells #[.int .i64 k, .bool b, .int .i64 n, .float .f64 f, .string ⟨t.toArray⟩] 47) = wz at *
  have HB := Lib.hid hb
  clear hb
  go_quiet (first | (go_at_call 95; exact Calls.quiet_of_same ((Same_c _ _ _).mono fun _ _ h => ⟨h.1, h.2.symm⟩)) | (go_at_call 72; exact Calls.quiet_of_same ((RNorm_c _ _).mono fun _ _ h => ⟨h.1, h.2.symm⟩)))
  go_wp2_with fail
  go_ret
  exact ⟨rfl, below_drewN HB.out _⟩
set_option maxRecDepth 100000 in
set_option maxHeartbeats 4000000 in
theorem XIs_1_4 (k : Int) (b : Bool) (n : Int) (f : Nat) (t : List UInt8) (w : World) (p1 : (k != 1) = false) (p2 : (k != 2) = true) (p3 : (k != 3) = true) (p4 : (k != 4) = true) (q2 : (n != 0) = false) (q3 : decide (f = 0) = true) (q4 : t.isEmpty = false) : Calls Tryz.prog 96 #[(⟨k, b, n, f, t⟩ : V5).v] w (Gives w (.bool false)) := by
  unfold V5.v
  go_enter Tryz.func96, Tryz.ntmps96
  go_wp2_with fail
  have hb : Below w.heap.size w (w.alloc (.cells #[.int .i64 k, .bool b, .int .i64 n, .float .f64 f, .string ⟨t.toArray⟩] 47)) := (Below.refl _ w).alloc (Nat.le_refl _) _
  obtain ⟨c0, c1, c2, c3, c4⟩ := cells5 (g := w.heap.size) (Below.refl _ (w.alloc (.cells #[.int .i64 k, .bool b, .int .i64 n, .float .f64 f, .string ⟨t.toArray⟩] 47))) (by simp) (by rw [alloc_at, if_pos rfl])
  generalize w.alloc (.cells #[.int .i64 k, .bool b, .int .i64 n, .float .f64 f, .string ⟨t.toArray⟩] 47) = wz at *
  have HB := Lib.hid hb
  clear hb
  go_quiet (first | (go_at_call 95; exact Calls.quiet_of_same ((Same_c _ _ _).mono fun _ _ h => ⟨h.1, h.2.symm⟩)) | (go_at_call 72; exact Calls.quiet_of_same ((RNorm_c _ _).mono fun _ _ h => ⟨h.1, h.2.symm⟩)))
  go_wp2_with fail
  go_ret
  exact ⟨rfl, below_drewN HB.out _⟩
set_option maxRecDepth 100000 in
set_option maxHeartbeats 4000000 in
theorem XIs_2_1 (k : Int) (n : Int) (f : Nat) (t : List UInt8) (w : World) (p1 : (k != 1) = true) : Calls Tryz.prog 96 #[(⟨k, true, n, f, t⟩ : V5).v] w (Gives w (.bool false)) := by
  unfold V5.v
  go_enter Tryz.func96, Tryz.ntmps96
  go_wp2_with fail
  have hb : Below w.heap.size w (w.alloc (.cells #[.int .i64 k, .bool true, .int .i64 n, .float .f64 f, .string ⟨t.toArray⟩] 47)) := (Below.refl _ w).alloc (Nat.le_refl _) _
  obtain ⟨c0, c1, c2, c3, c4⟩ := cells5 (g := w.heap.size) (Below.refl _ (w.alloc (.cells #[.int .i64 k, .bool true, .int .i64 n, .float .f64 f, .string ⟨t.toArray⟩] 47))) (by simp) (by rw [alloc_at, if_pos rfl])
  generalize w.alloc (.cells #[.int .i64 k, .bool true, .int .i64 n, .float .f64 f, .string ⟨t.toArray⟩] 47) = wz at *
  have HB := Lib.hid hb
  clear hb
  go_quiet (first | (go_at_call 95; exact Calls.quiet_of_same ((Same_c _ _ _).mono fun _ _ h => ⟨h.1, h.2.symm⟩)) | (go_at_call 72; exact Calls.quiet_of_same ((RNorm_c _ _).mono fun _ _ h => ⟨h.1, h.2.symm⟩)))
  go_wp2_with fail
  go_ret
  exact ⟨rfl, below_drewN HB.out _⟩
set_option maxRecDepth 100000 in
set_option maxHeartbeats 4000000 in
theorem XIs_2_3 (k : Int) (n : Int) (f : Nat) (t : List UInt8) (w : World) (p1 : (k != 1) = true) (p2 : (k != 2) = false) (p3 : (k != 3) = true) (q3 : decide (f = 0) = false) : Calls Tryz.prog 96 #[(⟨k, false, n, f, t⟩ : V5).v] w (Gives w (.bool false)) := by
  unfold V5.v
  go_enter Tryz.func96, Tryz.ntmps96
  go_wp2_with fail
  have hb : Below w.heap.size w (w.alloc (.cells #[.int .i64 k, .bool false, .int .i64 n, .float .f64 f, .string ⟨t.toArray⟩] 47)) := (Below.refl _ w).alloc (Nat.le_refl _) _
  obtain ⟨c0, c1, c2, c3, c4⟩ := cells5 (g := w.heap.size) (Below.refl _ (w.alloc (.cells #[.int .i64 k, .bool false, .int .i64 n, .float .f64 f, .string ⟨t.toArray⟩] 47))) (by simp) (by rw [alloc_at, if_pos rfl])
  generalize w.alloc (.cells #[.int .i64 k, .bool false, .int .i64 n, .float .f64 f, .string ⟨t.toArray⟩] 47) = wz at *
  have HB := Lib.hid hb
  clear hb
  go_quiet (first | (go_at_call 95; exact Calls.quiet_of_same ((Same_c _ _ _).mono fun _ _ h => ⟨h.1, h.2.symm⟩)) | (go_at_call 72; exact Calls.quiet_of_same ((RNorm_c _ _).mono fun _ _ h => ⟨h.1, h.2.symm⟩)))
  go_wp2_with fail
  go_ret
  exact ⟨rfl, below_drewN HB.out _⟩
set_option maxRecDepth 100000 in
set_option maxHeartbeats 4000000 in
theorem XIs_2_4 (k : Int) (n : Int) (f : Nat) (t : List UInt8) (w : World) (p1 : (k != 1) = true) (p2 : (k != 2) = false) (p3 : (k != 3) = true) (p4 : (k != 4) = true) (q3 : decide (f = 0) = true) (q4 : t.isEmpty = false) : Calls Tryz.prog 96 #[(⟨k, false, n, f, t⟩ : V5).v] w (Gives w (.bool false)) := by
  unfold V5.v
  go_enter Tryz.func96, Tryz.ntmps96
  go_wp2_with fail
  have hb : Below w.heap.size w (w.alloc (.cells #[.int .i64 k, .bool false, .int .i64 n, .float .f64 f, .string ⟨t.toArray⟩] 47)) := (Below.refl _ w).alloc (Nat.le_refl _) _
  obtain ⟨c0, c1, c2, c3, c4⟩ := cells5 (g := w.heap.size) (Below.refl _ (w.alloc (.cells #[.int .i64 k, .bool false, .int .i64 n, .float .f64 f, .string ⟨t.toArray⟩] 47))) (by simp) (by rw [alloc_at, if_pos rfl])
  generalize w.alloc (.cells #[.int .i64 k, .bool false, .int .i64 n, .float .f64 f, .string ⟨t.toArray⟩] 47) = wz at *
  have HB := Lib.hid hb
  clear hb
  go_quiet (first | (go_at_call 95; exact Calls.quiet_of_same ((Same_c _ _ _).mono fun _ _ h => ⟨h.1, h.2.symm⟩)) | (go_at_call 72; exact Calls.quiet_of_same ((RNorm_c _ _).mono fun _ _ h => ⟨h.1, h.2.symm⟩)))
  go_wp2_with fail
  go_ret
  exact ⟨rfl, below_drewN HB.out _⟩
set_option maxRecDepth 100000 in
set_option maxHeartbeats 4000000 in
theorem XIs_3_1 (k : Int) (n : Int) (f : Nat) (t : List UInt8) (w : World) (p1 : (k != 1) = true) : Calls Tryz.prog 96 #[(⟨k, true, n, f, t⟩ : V5).v] w (Gives w (.bool false)) := by
  unfold V5.v
  go_enter Tryz.func96, Tryz.ntmps96
  go_wp2_with fail
  have hb : Below w.heap.size w (w.alloc (.cells #[.int .i64 k, .bool true, .int .i64 n, .float .f64 f, .string ⟨t.toArray⟩] 47)) := (Below.refl _ w).alloc (Nat.le_refl _) _
  obtain ⟨c0, c1, c2, c3, c4⟩ := cells5 (g := w.heap.size) (Below.refl _ (w.alloc (.cells #[.int .i64 k, .bool true, .int .i64 n, .float .f64 f, .string ⟨t.toArray⟩] 47))) (by simp) (by rw [alloc_at, if_pos rfl])
  generalize w.alloc (.cells #[.int .i64 k, .bool true, .int .i64 n, .float .f64 f, .string ⟨t.toArray⟩] 47) = wz at *
  have HB := Lib.hid hb
  clear hb
  go_quiet (first | (go_at_call 95; exact Calls.quiet_of_same ((Same_c _ _ _).mono fun _ _ h => ⟨h.1, h.2.symm⟩)) | (go_at_call 72; exact Calls.quiet_of_same ((RNorm_c _ _).mono fun _ _ h => ⟨h.1, h.2.symm⟩)))
  go_wp2_with fail
  go_ret
  exact ⟨rfl, below_drewN HB.out _⟩
set_option maxRecDepth 100000 in
set_option maxHeartbeats 4000000 in
theorem XIs_3_2 (k : Int) (n : Int) (f : Nat) (t : List UInt8) (w : World) (p1 : (k != 1) = true) (p2 : (k != 2) = true) (q2 : (n != 0) = true) : Calls Tryz.prog 96 #[(⟨k, false, n, f, t⟩ : V5).v] w (Gives w (.bool false)) := by
  unfold V5.v
  go_enter Tryz.func96, Tryz.ntmps96
  go_wp2_with fail
  have hb : Below w.heap.size w (w.alloc (.cells #[.int .i64 k, .bool false, .int .i64 n, .float .f64 f, .string ⟨t.toArray⟩] 47)) := (Below.refl _ w).alloc (Nat.le_refl _) _
  obtain ⟨c0, c1, c2, c3, c4⟩ := cells5 (g := w.heap.size) (Below.refl _ (w.alloc (.cells #[.int .i64 k, .bool false, .int .i64 n, .float .f64 f, .string ⟨t.toArray⟩] 47))) (by simp) (by rw [alloc_at, if_pos rfl])
  generalize w.alloc (.cells #[.int .i64 k, .bool false, .int .i64 n, .float .f64 f, .string ⟨t.toArray⟩] 47) = wz at *
  have HB := Lib.hid hb
  clear hb
  go_quiet (first | (go_at_call 95; exact Calls.quiet_of_same ((Same_c _ _ _).mono fun _ _ h => ⟨h.1, h.2.symm⟩)) | (go_at_call 72; exact Calls.quiet_of_same ((RNorm_c _ _).mono fun _ _ h => ⟨h.1, h.2.symm⟩)))
  go_wp2_with fail
  go_ret
  exact ⟨rfl, below_drewN HB.out _⟩
end Go.Proofs.YtmbffncmogpkfaaGreatDoor
