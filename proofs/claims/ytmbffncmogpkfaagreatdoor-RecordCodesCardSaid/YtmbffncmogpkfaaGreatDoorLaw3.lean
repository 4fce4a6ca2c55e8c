
/- The walks of the laws on package leb (writers). -/
import Derived.Test.YtmbffncmogpkfaaGreatDoorLeb2
import Derived.Deep.RegionHeld3
namespace Go.Proofs.YtmbffncmogpkfaaGreatDoor
open Go Go.RowKit
set_option linter.unusedVariables false

/-- a slice of bytes, and what 'string(v)' gives of it. -/
theorem toS {w : World} {v : Value} {l : List UInt8} (h : RowAt w v (bytesV l)) : (convert 23 9 v).run Tryz.prog w = .ok (.string ⟨l.toArray⟩) w :=
  h.toStr 23 9 5 Tryz.underlying23 Tryz.underlying5 Tryz.underlying9
theorem keep3 {w w' : World} {a b c : Value} {x y z : List UInt8}
    (h : ((convert 23 9 a).run Tryz.prog w = .ok (.string ⟨x.toArray⟩) w ∧ (convert 23 9 b).run Tryz.prog w = .ok (.string ⟨y.toArray⟩) w ∧ (convert 23 9 c).run Tryz.prog w = .ok (.string ⟨z.toArray⟩) w) ∧ Hid (RowAt w a (bytesV x) ∧ RowAt w b (bytesV y) ∧ RowAt w c (bytesV z)))
    (hb : Below w.heap.size w w') :
    ((convert 23 9 a).run Tryz.prog w' = .ok (.string ⟨x.toArray⟩) w' ∧ (convert 23 9 b).run Tryz.prog w' = .ok (.string ⟨y.toArray⟩) w' ∧ (convert 23 9 c).run Tryz.prog w' = .ok (.string ⟨z.toArray⟩) w') ∧ Hid (RowAt w' a (bytesV x) ∧ RowAt w' b (bytesV y) ∧ RowAt w' c (bytesV z)) := by
  obtain ⟨h1, h2, h3⟩ := h.2.out
  exact ⟨⟨toS (h1.below hb), toS (h2.below hb), toS (h3.below hb)⟩, Lib.hid ⟨h1.below hb, h2.below hb, h3.below hb⟩⟩
theorem mk3 {w : World} {a b c : Value} {x y z : List UInt8} (h1 : RowAt w a (bytesV x)) (h2 : RowAt w b (bytesV y)) (h3 : RowAt w c (bytesV z)) :
    ((convert 23 9 a).run Tryz.prog w = .ok (.string ⟨x.toArray⟩) w ∧ (convert 23 9 b).run Tryz.prog w = .ok (.string ⟨y.toArray⟩) w ∧ (convert 23 9 c).run Tryz.prog w = .ok (.string ⟨z.toArray⟩) w) ∧ Hid (RowAt w a (bytesV x) ∧ RowAt w b (bytesV y) ∧ RowAt w c (bytesV z)) :=
  ⟨⟨toS h1, toS h2, toS h3⟩, Lib.hid ⟨h1, h2, h3⟩⟩
theorem intsV_append (a b : List Int) : intsV (a ++ b) = intsV a ++ intsV b := by simp [intsV]
theorem intsV_one : ∀ l : List Int, ∀ u ∈ intsV l, u.oneCell' = true := by
  intro l u hu
  simp only [intsV, List.mem_map] at hu
  obtain ⟨b, _, rfl⟩ := hu
  rfl
theorem infoI : (Tryz.prog.info? 3).map (fun i => (i.zero, i.size, i.bytes)) = some (some (.int .i64 0), 1, 8) := by kernel_rfl
theorem elemI : Elem1 85 3 8 := elem1_of Tryz.underlying85 infoI rfl
theorem lebInts_append (a b : List Int) : lebInts (a ++ b) = lebInts a ++ lebInts b := by simp [lebInts]
theorem IntsOk.append {a b : List Int} (ha : IntsOk a) (hb : IntsOk b) : IntsOk (a ++ b) := fun n hn => (List.mem_append.1 hn).elim (ha n) (hb n)
theorem IntsOk.nil : IntsOk [] := fun _ h => by cases h
end Go.Proofs.YtmbffncmogpkfaaGreatDoor
