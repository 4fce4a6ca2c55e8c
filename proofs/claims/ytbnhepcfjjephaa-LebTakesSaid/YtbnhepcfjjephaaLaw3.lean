/- The walks of the laws on package leb (writers). -/
import Derived.Test.YtbnhepcfjjephaaLeb2
import Derived.Deep.RegionHeld3
namespace Go.Proofs.Ytbnhepcfjjephaa
open Go Go.RowKit
set_option linter.unusedVariables false

set_option maxRecDepth 100000 in
set_option maxHeartbeats 1000000 in
theorem known3_c (w : World) : Calls Try.prog 20 #[] w fun e w' => e = .returned (.bool true) ∧ Below w.heap.size w w' := by
  have HI := Lib.hid (Int_c (.slice none 0 0) (.slice (some ⟨w.heap.size, 0, none⟩) 4 4) [] [0, -1, 1, 64] (w.alloc (.cells #[.int .i64 0, .int .i64 (-1), .int .i64 1, .int .i64 64] 3)) (RowAt.nil _) (RowAt.new w [.int .i64 0, .int .i64 (-1), .int .i64 1, .int .i64 64] 3 4 (by unfold maxLen; simp)) (by intro n hn; simp at hn; omega) (by simp))
  have e1 : [] ++ lebInts [0, -1, 1, 64] = [0, 1, 2, 128, 1] := by decide +kernel
  have HE := Lib.hid e1
  clear e1
  go_enter Try.func20, Try.ntmps20
  go_wp2_with fail
  with_reducible refine HI.out.mono ?_
  rintro e w1 ⟨v1, rfl, hown1, hb1⟩
  rw [HE.out] at hown1
  have hcv := (RowAt.ofOwns hown1).toStr (P := Try.prog) 24 9 5 Try.underlying24 Try.underlying5 Try.underlying9
  have hbb : Below w.heap.size w w1 := ((Below.refl _ w).alloc (Nat.le_refl _) _).trans (hb1.mono (by simp))
  clear hown1 hb1
  go_wp2_with fail
  go_ret
  exact ⟨rfl, hbb⟩
/-- a slice of bytes, and what 'string(v)' gives of it. -/
theorem toS {w : World} {v : Value} {l : List UInt8} (h : RowAt w v (bytesV l)) : (convert 24 9 v).run Try.prog w = .ok (.string ⟨l.toArray⟩) w :=
  h.toStr 24 9 5 Try.underlying24 Try.underlying5 Try.underlying9
theorem keep3 {w w' : World} {a b c : Value} {x y z : List UInt8}
    (h : ((convert 24 9 a).run Try.prog w = .ok (.string ⟨x.toArray⟩) w ∧ (convert 24 9 b).run Try.prog w = .ok (.string ⟨y.toArray⟩) w ∧ (convert 24 9 c).run Try.prog w = .ok (.string ⟨z.toArray⟩) w) ∧ Hid (RowAt w a (bytesV x) ∧ RowAt w b (bytesV y) ∧ RowAt w c (bytesV z)))
    (hb : Below w.heap.size w w') :
    ((convert 24 9 a).run Try.prog w' = .ok (.string ⟨x.toArray⟩) w' ∧ (convert 24 9 b).run Try.prog w' = .ok (.string ⟨y.toArray⟩) w' ∧ (convert 24 9 c).run Try.prog w' = .ok (.string ⟨z.toArray⟩) w') ∧ Hid (RowAt w' a (bytesV x) ∧ RowAt w' b (bytesV y) ∧ RowAt w' c (bytesV z)) := by
  obtain ⟨h1, h2, h3⟩ := h.2.out
  exact ⟨⟨toS (h1.below hb), toS (h2.below hb), toS (h3.below hb)⟩, Lib.hid ⟨h1.below hb, h2.below hb, h3.below hb⟩⟩
theorem mk3 {w : World} {a b c : Value} {x y z : List UInt8} (h1 : RowAt w a (bytesV x)) (h2 : RowAt w b (bytesV y)) (h3 : RowAt w c (bytesV z)) :
    ((convert 24 9 a).run Try.prog w = .ok (.string ⟨x.toArray⟩) w ∧ (convert 24 9 b).run Try.prog w = .ok (.string ⟨y.toArray⟩) w ∧ (convert 24 9 c).run Try.prog w = .ok (.string ⟨z.toArray⟩) w) ∧ Hid (RowAt w a (bytesV x) ∧ RowAt w b (bytesV y) ∧ RowAt w c (bytesV z)) :=
  ⟨⟨toS h1, toS h2, toS h3⟩, Lib.hid ⟨h1, h2, h3⟩⟩
theorem intsV_append (a b : List Int) : intsV (a ++ b) = intsV a ++ intsV b := by simp [intsV]
theorem intsV_one : ∀ l : List Int, ∀ u ∈ intsV l, u.oneCell' = true := by
  intro l u hu
  simp only [intsV, List.mem_map] at hu
  obtain ⟨b, _, rfl⟩ := hu
  rfl
theorem infoI : (Try.prog.info? 3).map (fun i => (i.zero, i.size, i.bytes)) = some (some (.int .i64 0), 1, 8) := by kernel_rfl
theorem elemI : Elem1 22 3 8 := elem1_of Try.underlying22 infoI rfl
theorem lebInts_append (a b : List Int) : lebInts (a ++ b) = lebInts a ++ lebInts b := by simp [lebInts]
theorem IntsOk.append {a b : List Int} (ha : IntsOk a) (hb : IntsOk b) : IntsOk (a ++ b) := fun n hn => (List.mem_append.1 hn).elim (ha n) (hb n)
theorem IntsOk.nil : IntsOk [] := fun _ h => by cases h
end Go.Proofs.Ytbnhepcfjjephaa
