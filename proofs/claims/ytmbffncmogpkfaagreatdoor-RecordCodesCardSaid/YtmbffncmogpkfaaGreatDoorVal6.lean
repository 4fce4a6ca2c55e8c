
/- The reference's Is: the good way (under way). -/
import Derived.Test.YtmbffncmogpkfaaGreatDoorVal4
import Derived.BigQuiet
import Derived.Deep.QuietTactic
namespace Go.Proofs.YtmbffncmogpkfaaGreatDoor
open Go Go.Proofs Go.RowKit
set_option linter.unusedVariables false
set_option linter.unusedSimpArgs false

theorem run_at_list (w : World) (l : List UInt8) (j : Nat) (h : j < l.length) :
    (Instr.index 9 (.string ⟨l.toArray⟩) (.int .i64 (j : Int))).run Tryz.prog w = .ok (.int .u8 ((l[j]).toNat : Int)) w := by
  rw [run_index_string w 9 _ _ _ Tryz.underlying9, dif_pos ⟨by omega, by simp [ByteArray.size]; omega⟩]
  rfl
theorem all_take_succ (l : List UInt8) (j : Nat) (h : j < l.length) : (l.take (j + 1)).all okB = ((l.take j).all okB && okB l[j]) := by
  rw [List.take_succ_eq_append_getElem h, List.all_append]; simp
theorem all_bad (l : List UInt8) (j : Nat) (h : j < l.length) (hb : okB l[j] = false) : l.all okB = false := by
  rw [List.all_eq_false]; exact ⟨l[j], List.getElem_mem h, by simp [hb]⟩
theorem isT_eq (t : List UInt8) : isT t = (decide (t.length ≤ 12) && t.all okB) := rfl
theorem hnorm0 : normN 0 = 0 := by decide +kernel
set_option maxRecDepth 100000 in
set_option maxHeartbeats 4000000 in
theorem XIs_1g (b : Bool) (w : World) (q6 : normN 0 = 0) : Calls Tryz.prog 96 #[(⟨1, b, 0, 0, []⟩ : V5).v] w (Gives w (.bool true)) := by
  unfold V5.v
  go_enter Tryz.func96, Tryz.ntmps96
  go_wp2_with fail
  have hb : Below w.heap.size w (w.alloc (.cells #[.int .i64 1, .bool b, .int .i64 0, .float .f64 0, .string ⟨#[]⟩] 47)) := (Below.refl _ w).alloc (Nat.le_refl _) _
  obtain ⟨c0, c1, c2, c3, c4⟩ := cells5 (g := w.heap.size) (Below.refl _ (w.alloc (.cells #[.int .i64 1, .bool b, .int .i64 0, .float .f64 0, .string ⟨#[]⟩] 47))) (by simp) (by rw [alloc_at, if_pos rfl])
  generalize w.alloc (.cells #[.int .i64 1, .bool b, .int .i64 0, .float .f64 0, .string ⟨#[]⟩] 47) = wz at *
  have HB := Lib.hid hb
  clear hb
  go_quiet (first | (go_at_call 95; exact Calls.quiet_of_same ((Same_c _ _ _).mono fun _ _ h => ⟨h.1, h.2.symm⟩)) | (go_at_call 72; exact Calls.quiet_of_same ((RNorm_c _ _).mono fun _ _ h => ⟨h.1, h.2.symm⟩)))
  go_wp2_with fail
  go_loopw [3] (fun i wr => i = .int .i64 0 ∧ ∃ q, wr = wz.drewN q) (fun i _ => 0)
  case atStart => exact ⟨rfl, _, rfl⟩
  case round =>
    obtain ⟨rfl, q, rfl⟩ := hrel
    have e0 : ∀ n, (wz.drewN n).cell? ⟨w.heap.size, 0, none⟩ = _ := fun _ => c0
    have e4 : ∀ n, (wz.drewN n).cell? ⟨w.heap.size, 4, none⟩ = _ := fun _ => c4
    clear c0 c1 c2 c3 c4
    go_wp2_with fail
    go_ret
    exact ⟨rfl, below_drewN HB.out _⟩
set_option maxRecDepth 100000 in
set_option maxHeartbeats 4000000 in
theorem XIs_2g (n : Int) (w : World) (q6 : normN 0 = 0) : Calls Tryz.prog 96 #[(⟨2, false, n, 0, []⟩ : V5).v] w (Gives w (.bool true)) := by
  unfold V5.v
  go_enter Tryz.func96, Tryz.ntmps96
  go_wp2_with fail
  have hb : Below w.heap.size w (w.alloc (.cells #[.int .i64 2, .bool false, .int .i64 n, .float .f64 0, .string ⟨#[]⟩] 47)) := (Below.refl _ w).alloc (Nat.le_refl _) _
  obtain ⟨c0, c1, c2, c3, c4⟩ := cells5 (g := w.heap.size) (Below.refl _ (w.alloc (.cells #[.int .i64 2, .bool false, .int .i64 n, .float .f64 0, .string ⟨#[]⟩] 47))) (by simp) (by rw [alloc_at, if_pos rfl])
  generalize w.alloc (.cells #[.int .i64 2, .bool false, .int .i64 n, .float .f64 0, .string ⟨#[]⟩] 47) = wz at *
  have HB := Lib.hid hb
  clear hb
  go_quiet (first | (go_at_call 95; exact Calls.quiet_of_same ((Same_c _ _ _).mono fun _ _ h => ⟨h.1, h.2.symm⟩)) | (go_at_call 72; exact Calls.quiet_of_same ((RNorm_c _ _).mono fun _ _ h => ⟨h.1, h.2.symm⟩)))
  go_wp2_with fail
  go_loopw [3] (fun i wr => i = .int .i64 0 ∧ ∃ q, wr = wz.drewN q) (fun i _ => 0)
  case atStart => exact ⟨rfl, _, rfl⟩
  case round =>
    obtain ⟨rfl, q, rfl⟩ := hrel
    have e0 : ∀ n, (wz.drewN n).cell? ⟨w.heap.size, 0, none⟩ = _ := fun _ => c0
    have e4 : ∀ n, (wz.drewN n).cell? ⟨w.heap.size, 4, none⟩ = _ := fun _ => c4
    clear c0 c1 c2 c3 c4
    go_wp2_with fail
    go_ret
    exact ⟨rfl, below_drewN HB.out _⟩
set_option maxRecDepth 100000 in
set_option maxHeartbeats 4000000 in
theorem XIs_3g (f : Nat) (w : World) (q5 : decide (f = normN f) = true) : Calls Tryz.prog 96 #[(⟨3, false, 0, f, []⟩ : V5).v] w (Gives w (.bool true)) := by
  unfold V5.v
  go_enter Tryz.func96, Tryz.ntmps96
  go_wp2_with fail
  have hb : Below w.heap.size w (w.alloc (.cells #[.int .i64 3, .bool false, .int .i64 0, .float .f64 f, .string ⟨#[]⟩] 47)) := (Below.refl _ w).alloc (Nat.le_refl _) _
  obtain ⟨c0, c1, c2, c3, c4⟩ := cells5 (g := w.heap.size) (Below.refl _ (w.alloc (.cells #[.int .i64 3, .bool false, .int .i64 0, .float .f64 f, .string ⟨#[]⟩] 47))) (by simp) (by rw [alloc_at, if_pos rfl])
  generalize w.alloc (.cells #[.int .i64 3, .bool false, .int .i64 0, .float .f64 f, .string ⟨#[]⟩] 47) = wz at *
  have HB := Lib.hid hb
  clear hb
  go_quiet (first | (go_at_call 95; exact Calls.quiet_of_same ((Same_c _ _ _).mono fun _ _ h => ⟨h.1, h.2.symm⟩)) | (go_at_call 72; exact Calls.quiet_of_same ((RNorm_c _ _).mono fun _ _ h => ⟨h.1, h.2.symm⟩)))
  go_wp2_with fail
  go_loopw [3] (fun i wr => i = .int .i64 0 ∧ ∃ q, wr = wz.drewN q) (fun i _ => 0)
  case atStart => exact ⟨rfl, _, rfl⟩
  case round =>
    obtain ⟨rfl, q, rfl⟩ := hrel
    have e0 : ∀ n, (wz.drewN n).cell? ⟨w.heap.size, 0, none⟩ = _ := fun _ => c0
    have e4 : ∀ n, (wz.drewN n).cell? ⟨w.heap.size, 4, none⟩ = _ := fun _ => c4
    clear c0 c1 c2 c3 c4
    go_wp2_with fail
    go_ret
    exact ⟨rfl, below_drewN HB.out _⟩
set_option maxRecDepth 100000 in
set_option maxHeartbeats 4000000 in
theorem XIs_4g (t : List UInt8) (w : World) (q6 : normN 0 = 0) (hl : t.length ≤ 9223372036854775807) : Calls Tryz.prog 96 #[(⟨4, false, 0, 0, t⟩ : V5).v] w (Gives w (.bool (isT t))) := by
  unfold V5.v
  go_enter Tryz.func96, Tryz.ntmps96
  go_wp2_with fail
  have hb : Below w.heap.size w (w.alloc (.cells #[.int .i64 4, .bool false, .int .i64 0, .float .f64 0, .string ⟨t.toArray⟩] 47)) := (Below.refl _ w).alloc (Nat.le_refl _) _
  obtain ⟨c0, c1, c2, c3, c4⟩ := cells5 (g := w.heap.size) (Below.refl _ (w.alloc (.cells #[.int .i64 4, .bool false, .int .i64 0, .float .f64 0, .string ⟨t.toArray⟩] 47))) (by simp) (by rw [alloc_at, if_pos rfl])
  generalize w.alloc (.cells #[.int .i64 4, .bool false, .int .i64 0, .float .f64 0, .string ⟨t.toArray⟩] 47) = wz at *
  have HB := Lib.hid hb
  clear hb
  go_quiet (first | (go_at_call 95; exact Calls.quiet_of_same ((Same_c _ _ _).mono fun _ _ h => ⟨h.1, h.2.symm⟩)) | (go_at_call 72; exact Calls.quiet_of_same ((RNorm_c _ _).mono fun _ _ h => ⟨h.1, h.2.symm⟩)))
  go_wp2_with fail
  (try simp only [decide_true, q6])
  go_loopw [3] (fun i wr => ∃ (j q : Nat), j ≤ t.length ∧ i = .int .i64 (j : Int) ∧ (t.take j).all okB = true ∧ wr = wz.drewN q) (fun i _ => t.length - (intOf i).toNat)
  case atStart => exact ⟨0, _, by omega, rfl, rfl, rfl⟩
  case round =>
    obtain ⟨j, q, hj, rfl, ht, rfl⟩ := hrel
    have e0 : ∀ n, (wz.drewN n).cell? ⟨w.heap.size, 0, none⟩ = _ := fun _ => c0
    have e4 : ∀ n, (wz.drewN n).cell? ⟨w.heap.size, 4, none⟩ = _ := fun _ => c4
    clear c0 c1 c2 c3 c4
    by_cases hlt : j < t.length
    · have hat := fun w => run_at_list w t j hlt
      have hs := all_take_succ t j hlt
      rw [ht, Bool.true_and] at hs
      have hbd := all_bad t j hlt
      have hok : okB t[j] = (decide (32 ≤ t[j].toNat) && decide (t[j].toNat ≤ 126)) := rfl
      rw [hok] at hs hbd
      have HS := Lib.hid hs
      have HD : Hid (_ → isT t = false) := Lib.hid (fun h => by rw [isT_eq, hbd h, Bool.and_false])
      clear hs hbd hok ht
      go_wp2_with fail
      all_goals
        first
        | (go_ret; exact ⟨by rw [HD.out (by simp; omega)]; rfl, below_drewN HB.out _⟩)
        | (go_roundw
           case rel => exact ⟨j + 1, _, by omega, by go_num, by rw [HS.out]; simp; omega, rfl⟩
           case measure => simp [intOf]; omega)
    · rw [List.take_of_length_le (by omega)] at ht
      have HT : Hid (isT t = decide ((t.length : Int) ≤ 12)) := Lib.hid (by rw [isT_eq, ht, Bool.and_true]; exact decide_eq_decide.2 (by omega))
      clear ht
      go_wp2_with fail
      go_ret
      exact ⟨by rw [HT.out]; rfl, below_drewN HB.out _⟩
set_option maxRecDepth 100000 in
set_option maxHeartbeats 4000000 in
theorem XIs_0g  (w : World) (q6 : normN 0 = 0) : Calls Tryz.prog 96 #[(⟨0, false, 0, 0, []⟩ : V5).v] w (Gives w (.bool true)) := by
  unfold V5.v
  go_enter Tryz.func96, Tryz.ntmps96
  go_wp2_with fail
  have hb : Below w.heap.size w (w.alloc (.cells #[.int .i64 0, .bool false, .int .i64 0, .float .f64 0, .string ⟨#[]⟩] 47)) := (Below.refl _ w).alloc (Nat.le_refl _) _
  obtain ⟨c0, c1, c2, c3, c4⟩ := cells5 (g := w.heap.size) (Below.refl _ (w.alloc (.cells #[.int .i64 0, .bool false, .int .i64 0, .float .f64 0, .string ⟨#[]⟩] 47))) (by simp) (by rw [alloc_at, if_pos rfl])
  generalize w.alloc (.cells #[.int .i64 0, .bool false, .int .i64 0, .float .f64 0, .string ⟨#[]⟩] 47) = wz at *
  have HB := Lib.hid hb
  clear hb
  go_quiet (first | (go_at_call 95; exact Calls.quiet_of_same ((Same_c _ _ _).mono fun _ _ h => ⟨h.1, h.2.symm⟩)) | (go_at_call 72; exact Calls.quiet_of_same ((RNorm_c _ _).mono fun _ _ h => ⟨h.1, h.2.symm⟩)))
  go_wp2_with fail
  go_loopw [3] (fun i wr => i = .int .i64 0 ∧ ∃ q, wr = wz.drewN q) (fun i _ => 0)
  case atStart => exact ⟨rfl, _, rfl⟩
  case round =>
    obtain ⟨rfl, q, rfl⟩ := hrel
    have e0 : ∀ n, (wz.drewN n).cell? ⟨w.heap.size, 0, none⟩ = _ := fun _ => c0
    have e4 : ∀ n, (wz.drewN n).cell? ⟨w.heap.size, 4, none⟩ = _ := fun _ => c4
    clear c0 c1 c2 c3 c4
    go_wp2_with fail
    go_ret
    exact ⟨rfl, below_drewN HB.out _⟩
set_option maxRecDepth 100000 in
set_option maxHeartbeats 4000000 in
theorem XIs_m1 (k : Int) (w : World) (q6 : normN 0 = 0) (p1 : (k != 1) = true) (p2 : (k != 2) = true) (p3 : (k != 3) = true) (p4 : (k != 4) = true) (r1 : decide (0 ≤ k) = false) : Calls Tryz.prog 96 #[(⟨k, false, 0, 0, []⟩ : V5).v] w (Gives w (.bool false)) := by
  unfold V5.v
  go_enter Tryz.func96, Tryz.ntmps96
  go_wp2_with fail
  have hb : Below w.heap.size w (w.alloc (.cells #[.int .i64 k, .bool false, .int .i64 0, .float .f64 0, .string ⟨#[]⟩] 47)) := (Below.refl _ w).alloc (Nat.le_refl _) _
  obtain ⟨c0, c1, c2, c3, c4⟩ := cells5 (g := w.heap.size) (Below.refl _ (w.alloc (.cells #[.int .i64 k, .bool false, .int .i64 0, .float .f64 0, .string ⟨#[]⟩] 47))) (by simp) (by rw [alloc_at, if_pos rfl])
  generalize w.alloc (.cells #[.int .i64 k, .bool false, .int .i64 0, .float .f64 0, .string ⟨#[]⟩] 47) = wz at *
  have HB := Lib.hid hb
  clear hb
  go_quiet (first | (go_at_call 95; exact Calls.quiet_of_same ((Same_c _ _ _).mono fun _ _ h => ⟨h.1, h.2.symm⟩)) | (go_at_call 72; exact Calls.quiet_of_same ((RNorm_c _ _).mono fun _ _ h => ⟨h.1, h.2.symm⟩)))
  go_wp2_with fail
  go_loopw [3] (fun i wr => i = .int .i64 0 ∧ ∃ q, wr = wz.drewN q) (fun i _ => 0)
  case atStart => exact ⟨rfl, _, rfl⟩
  case round =>
    obtain ⟨rfl, q, rfl⟩ := hrel
    have e0 : ∀ n, (wz.drewN n).cell? ⟨w.heap.size, 0, none⟩ = _ := fun _ => c0
    have e4 : ∀ n, (wz.drewN n).cell? ⟨w.heap.size, 4, none⟩ = _ := fun _ => c4
    clear c0 c1 c2 c3 c4
    go_wp2_with fail
    go_ret
    exact ⟨rfl, below_drewN HB.out _⟩
set_option maxRecDepth 100000 in
set_option maxHeartbeats 4000000 in
theorem XIs_m2 (k : Int) (w : World) (q6 : normN 0 = 0) (p1 : (k != 1) = true) (p2 : (k != 2) = true) (p3 : (k != 3) = true) (p4 : (k != 4) = true) (r1 : decide (0 ≤ k) = true) (r2 : decide (k ≤ 4) = false) : Calls Tryz.prog 96 #[(⟨k, false, 0, 0, []⟩ : V5).v] w (Gives w (.bool false)) := by
  unfold V5.v
  go_enter Tryz.func96, Tryz.ntmps96
  go_wp2_with fail
  have hb : Below w.heap.size w (w.alloc (.cells #[.int .i64 k, .bool false, .int .i64 0, .float .f64 0, .string ⟨#[]⟩] 47)) := (Below.refl _ w).alloc (Nat.le_refl _) _
  obtain ⟨c0, c1, c2, c3, c4⟩ := cells5 (g := w.heap.size) (Below.refl _ (w.alloc (.cells #[.int .i64 k, .bool false, .int .i64 0, .float .f64 0, .string ⟨#[]⟩] 47))) (by simp) (by rw [alloc_at, if_pos rfl])
  generalize w.alloc (.cells #[.int .i64 k, .bool false, .int .i64 0, .float .f64 0, .string ⟨#[]⟩] 47) = wz at *
  have HB := Lib.hid hb
  clear hb
  go_quiet (first | (go_at_call 95; exact Calls.quiet_of_same ((Same_c _ _ _).mono fun _ _ h => ⟨h.1, h.2.symm⟩)) | (go_at_call 72; exact Calls.quiet_of_same ((RNorm_c _ _).mono fun _ _ h => ⟨h.1, h.2.symm⟩)))
  go_wp2_with fail
  go_loopw [3] (fun i wr => i = .int .i64 0 ∧ ∃ q, wr = wz.drewN q) (fun i _ => 0)
  case atStart => exact ⟨rfl, _, rfl⟩
  case round =>
    obtain ⟨rfl, q, rfl⟩ := hrel
    have e0 : ∀ n, (wz.drewN n).cell? ⟨w.heap.size, 0, none⟩ = _ := fun _ => c0
    have e4 : ∀ n, (wz.drewN n).cell? ⟨w.heap.size, 4, none⟩ = _ := fun _ => c4
    clear c0 c1 c2 c3 c4
    go_wp2_with fail
    go_ret
    exact ⟨rfl, below_drewN HB.out _⟩
end Go.Proofs.YtmbffncmogpkfaaGreatDoor
