
/- Contracts: the laws' known (chapter 10): nothing encoded. -/
import Derived.Test.YtmbffncmogpkfaaGreatDoorRec1
import Derived.Test.YtmbffncmogpkfaaGreatDoorLeb2
namespace Go.Proofs.YtmbffncmogpkfaaGreatDoor
open Go Go.Proofs Go.RowKit
set_option linter.unusedVariables false
set_option linter.unusedSimpArgs false

set_option maxHeartbeats 4000000 in
theorem areWrites_0 (w : World) : Calls Tryz.prog 11 #[.int .i64 0, .int .i64 0, .slice none 0 0] w (Gives w (.bool true)) := by
  have I1 := Lib.hid (fun w => isIn_c 0 0 24 w)
  have I2 := Lib.hid (fun w => isIn_c 0 0 32 w)
  rw [show (decide ((0 : Int) ≤ 0) && decide ((0 : Int) ≤ 24)) = true by decide] at I1
  rw [show (decide ((0 : Int) ≤ 0) && decide ((0 : Int) ≤ 32)) = true by decide] at I2
  have hmm := @run_makeMap Tryz.prog
  go_enter Tryz.func11, Tryz.ntmps11
  go_wp2_with fail
  go_loopw [14] (fun i wr => i = .int .i64 0 ∧ Below w.heap.size w wr) (fun i _ => 0)
  case atStart => exact ⟨rfl, (Below.refl _ w).alloc (Nat.le_refl _) _⟩
  case round =>
    obtain ⟨rfl, hb⟩ := hrel
    clear hmm
    go_wp2_with (first | (go_at_call 40; (with_reducible refine (I1.out _).mono ?_); rintro e wq ⟨rfl, rfl⟩) | (go_at_call 40; (with_reducible refine (I2.out _).mono ?_); rintro e wq ⟨rfl, rfl⟩))
    go_ret
    exact ⟨rfl, hb⟩
set_option maxHeartbeats 4000000 in
theorem Encode_0 (w : World) : Calls Tryz.prog 5 #[.int .i64 0, .int .i64 0, .slice none 0 0] w fun e w' => ∃ v', e = .returned (.tuple #[v', .int .i64 0]) ∧ RowAt w' v' (bytesV [0, 0, 0]) ∧ Below w.heap.size w w' := by
  have HW := Lib.hid (fun w => areWrites_0 w)
  have HI : Hid (∀ W : World, Calls Tryz.prog 12 #[.slice none 0 0, .slice (some ⟨W.heap.size, 0, none⟩) 3 3] (W.alloc (.cells #[.int .i64 0, .int .i64 0, .int .i64 0] 3)) (OwnB (W.alloc (.cells #[.int .i64 0, .int .i64 0, .int .i64 0] 3)) [0, 0, 0])) := Lib.hid (fun W => by
    have := Int_c (.slice none 0 0) (.slice (some ⟨W.heap.size, 0, none⟩) 3 3) [] [0, 0, 0] (W.alloc (.cells (intsV [0, 0, 0]).toArray 3)) (RowAt.nil _) (RowAt.new W (intsV [0, 0, 0]) _ 3 (by decide)) (by intro n hn; simp at hn; subst hn; decide) (by decide)
    rw [show ([] : List UInt8) ++ lebInts [0, 0, 0] = [0, 0, 0] by decide +kernel] at this
    exact this)
  go_enter Tryz.func5, Tryz.ntmps5
  go_wp2_with (first | (go_at_call 11; (with_reducible refine (HW.out _).mono ?_); rintro e wq ⟨rfl, hq⟩))
  refine (HI.out wq).mono ?_
  rintro e w2 ⟨v', rfl, hown, hb⟩
  have hb2 : Below w.heap.size w w2 := (hq.alloc hq.size _).trans (hb.mono (by have := hq.size; simp; omega))
  have hrow := RowAt.ofOwns hown
  obtain ⟨a, c, rfl⟩ := hrow.shape
  have HR := Lib.hid hrow
  clear hown hb hq hrow
  go_wp2_with fail
  go_loopw [8, 24] (fun b i wr => b = .slice a 3 c ∧ i = .int .i64 0 ∧ wr = w2) (fun _ i _ => 0)
  case atStart => exact ⟨rfl, rfl, rfl⟩
  case round =>
    obtain ⟨rfl, rfl, rfl⟩ := hrel
    go_wp2_with fail
    go_ret2
    exact ⟨_, rfl, HR.out, hb2⟩
set_option maxHeartbeats 4000000 in
theorem known10_c (w : World) : Calls Tryz.prog 10 #[] w (Gives w (.bool true)) := by
  have HN : Hid (∀ w, Calls Tryz.prog 37 #[.string ⟨#[97]⟩] w (Gives w (.bool true))) := Lib.hid (fun w => by
    have := IsName_c [97] w (by decide)
    rw [show nameB [97] = true by decide] at this
    exact this)
  have HI : Hid (∀ w, Calls Tryz.prog 38 #[.agg #[.slice none 0 0, .slice none 0 0]] w (Gives w (.bool true))) := Lib.hid (fun w => by
    have := IsNode_c [] [] _ _ w (RowAt.nil w) (RowK.nil 6 w) (by simp) (by simp) (by simp)
    rw [show nodeB [] [] = true by decide] at this
    exact this)
  go_enter Tryz.func10, Tryz.ntmps10
  go_wp2_with fail
  refine (Encode_0 w).mono ?_
  rintro e w2 ⟨v', rfl, hrow, hb⟩
  have hcv := hrow.toStr 23 9 5 Tryz.underlying23 Tryz.underlying5 Tryz.underlying9
  clear hrow
  go_wp2_with (first | (go_at_call 37; (with_reducible refine (HN.out _).mono ?_); rintro e wq ⟨rfl, hq⟩; have hb := hb.trans (hq.mono hb.size); clear hq) | (go_at_call 38; (with_reducible refine (HI.out _).mono ?_); rintro e wq ⟨rfl, hq⟩; have hb := hb.trans (hq.mono hb.size); clear hq))
  go_ret
  exact ⟨rfl, hb⟩
end Go.Proofs.YtmbffncmogpkfaaGreatDoor
