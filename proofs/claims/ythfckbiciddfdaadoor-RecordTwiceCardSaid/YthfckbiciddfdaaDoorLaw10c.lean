
/- The laws on package record: RecordTwice. -/
import Derived.Test.YthfckbiciddfdaaDoorEnc3
import Derived.Test.YthfckbiciddfdaaDoorTree1
namespace Go.Proofs.YthfckbiciddfdaaDoor
open Go Go.Proofs Go.RowKit
set_option linter.unusedVariables false
set_option linter.unusedSimpArgs false

/-- what is no more. -/
def goneV (e : Bool) (i : Int) : WV := ⟨⟨e, i, true, [], [], ⟨0, 0, [], 0⟩⟩, none, 0, none, 0⟩
theorem writeB_gone (e : Bool) (i : Int) : writeB 20 20 (goneV e i).x = (decide (1 ≤ i) && decide (i ≤ 20)) := by
  have h1 : sameED (⟨0, 0, [], 0⟩ : ED) ⟨0, 0, [], 0⟩ = true := by simp [sameED, cmpN_self]
  have h2 : nothingB (goneV e i).x = true := by simp [nothingB, goneV]
  unfold writeB
  rw [h2]
  cases e <;> simp [goneV, h1] <;> rfl
theorem areW_twice (e : Bool) (a b : Int) : areW 20 20 [] ([goneV e a, goneV e b, goneV (!e) 1].map WV.x) = (decide (1 ≤ a) && decide (a ≤ 20) && (decide (1 ≤ b) && decide (b ≤ 20)) && !decide (a = b)) := by
  simp only [List.map_cons, List.map_nil, areW, writeB_gone]
  have h1 : (goneV e a).x.e = e := rfl
  have h2 : (goneV e a).x.id = a := rfl
  have h3 : (goneV e b).x.e = e := rfl
  have h4 : (goneV e b).x.id = b := rfl
  have h5 : (goneV (!e) 1).x.e = !e := rfl
  have h6 : (goneV (!e) 1).x.id = 1 := rfl
  rw [h1, h2, h3, h4, h5, h6]
  by_cases ha : 1 ≤ a ∧ a ≤ 20
  · by_cases hb : 1 ≤ b ∧ b ≤ 20
    · by_cases hab : a = b
      · subst hab; simp [ha]
      · have hba : ¬ b = a := fun h => hab h.symm
        cases e <;> simp [ha, hb, hab, hba, List.contains_cons]
    · have : (decide (1 ≤ b) && decide (b ≤ 20)) = false := by simp; omega
      rw [this]; simp
  · have : (decide (1 ≤ a) && decide (a ≤ 20)) = false := by simp; omega
    rw [this]; simp
theorem goneV_ok (e : Bool) (i : Int) (hi : i64R i) : okW2 (goneV e i).x := by
  have z : i64R 0 := ⟨by decide, by decide⟩
  refine ⟨hi, z, z, (show 0 < W64 by decide), by simp [goneV], ?_⟩
  simp [goneV, roomWr, roomNd, strsRoom, sumR]
theorem gone_rows (W : World) (e : Bool) (i : Int) : (goneV e i).rows W := ⟨RowAt.nil W, RowK.nil 6 W⟩
set_option maxRecDepth 100000 in
set_option maxHeartbeats 4000000 in
theorem RecordTwice_core (a0 : Bool) (a1 : Int) (a2 : Int) (w : World) (w1 : (Lit.int .i64 a1).wf = true) (w2 : (Lit.int .i64 a2).wf = true) :
    Calls Tryd.prog 3 #[.bool a0, .int .i64 a1, .int .i64 a2] w fun e w' => e = .returned (.bool true) ∧ Below w.heap.size w w' := by
  have hi1 : i64R a1 := i64_ok w1
  have hi2 : i64R a2 := i64_ok w2
  have z1 : i64R 1 := ⟨by decide, by decide⟩
  have z20 : i64R 20 := ⟨by decide, by decide⟩
  have HV := Lib.hid (areW_twice a0 a1 a2)
  have HE : Hid (∀ W : World, Calls Tryd.prog 9 #[.int .i64 20, .int .i64 20, .slice (some ⟨W.heap.size, 0, none⟩) 3 3] (W.alloc (.cells #[.bool a0, .int .i64 a1, .bool true, .slice none 0 0, .slice none 0 0, .int .i64 0, .int .i64 0, .string ⟨#[]⟩, .float .f64 0, .bool a0, .int .i64 a2, .bool true, .slice none 0 0, .slice none 0 0, .int .i64 0, .int .i64 0, .string ⟨#[]⟩, .float .f64 0, .bool (!a0), .int .i64 1, .bool true, .slice none 0 0, .slice none 0 0, .int .i64 0, .int .i64 0, .string ⟨#[]⟩, .float .f64 0] 30)) (EncB (W.alloc (.cells #[.bool a0, .int .i64 a1, .bool true, .slice none 0 0, .slice none 0 0, .int .i64 0, .int .i64 0, .string ⟨#[]⟩, .float .f64 0, .bool a0, .int .i64 a2, .bool true, .slice none 0 0, .slice none 0 0, .int .i64 0, .int .i64 0, .string ⟨#[]⟩, .float .f64 0, .bool (!a0), .int .i64 1, .bool true, .slice none 0 0, .slice none 0 0, .int .i64 0, .int .i64 0, .string ⟨#[]⟩, .float .f64 0] 30)) (areW 20 20 [] ([goneV a0 a1, goneV a0 a2, goneV (!a0) 1].map WV.x)) (lebAll 20 20 ([goneV a0 a1, goneV a0 a2, goneV (!a0) 1].map WV.x)))) := Lib.hid (fun W => by
    refine Encode_c 20 20 [goneV a0 a1, goneV a0 a2, goneV (!a0) 1] _ _ ?_ ?_ ?_ ?_ z20 z20
    · exact RowK.ofBlk (xs := [(goneV a0 a1).cells, (goneV a0 a2).cells, (goneV (!a0) 1).cells]) (Blk.new W _ _) (by intro x hx; simp only [List.mem_cons, List.not_mem_nil, or_false] at hx; rcases hx with rfl | rfl | rfl <;> rfl) rfl (by simp [maxLen]) (by simp)
    · intro p hp
      simp only [List.mem_cons, List.not_mem_nil, or_false] at hp
      rcases hp with rfl | rfl | rfl <;> exact gone_rows _ _ _
    · intro p hp
      simp only [List.mem_cons, List.not_mem_nil, or_false] at hp
      rcases hp with rfl | rfl | rfl
      · exact goneV_ok _ _ hi1
      · exact goneV_ok _ _ hi2
      · exact goneV_ok _ _ z1
    · simp [sumR, goneV, roomWr, roomNd, strsRoom])
  clear hi1 hi2 z1 z20 w1 w2
  have HR : areW 20 20 [] ([goneV a0 a1, goneV a0 a2, goneV (!a0) 1].map WV.x) = decide ((1 ≤ a1 ∧ a1 ≤ 20) ∧ (1 ≤ a2 ∧ a2 ≤ 20) ∧ a1 ≠ a2) := by
    rw [HV.out, Bool.eq_iff_iff]; simp only [Bool.and_eq_true, decide_eq_true_eq, Bool.not_eq_true', decide_eq_false_iff_not]; omega
  rw [HR] at HE
  clear HR HV
  generalize lebAll 20 20 ([goneV a0 a1, goneV a0 a2, goneV (!a0) 1].map WV.x) = bs at *
  have hc : a1 < 0 ∨ (0 ≤ a1 ∧ 40 < a1) ∨ (0 ≤ a1 ∧ a1 ≤ 40 ∧ a2 < 0) ∨ (0 ≤ a1 ∧ a1 ≤ 40 ∧ 0 ≤ a2 ∧ 40 < a2) ∨ ((0 ≤ a1 ∧ a1 ≤ 40 ∧ 0 ≤ a2 ∧ a2 ≤ 40) ∧ (a1 = 0 ∨ (1 ≤ a1 ∧ 20 < a1) ∨ (1 ≤ a1 ∧ a1 ≤ 20 ∧ a2 = 0) ∨ (1 ≤ a1 ∧ a1 ≤ 20 ∧ 1 ≤ a2 ∧ 20 < a2) ∨ (1 ≤ a1 ∧ a1 ≤ 20 ∧ 1 ≤ a2 ∧ a2 ≤ 20 ∧ a1 = a2) ∨ (1 ≤ a1 ∧ a1 ≤ 20 ∧ 1 ≤ a2 ∧ a2 ≤ 20 ∧ a1 ≠ a2))) := by omega
  rcases hc with h | ⟨h, h'⟩ | ⟨h, h', h2⟩ | ⟨h, h', h2, h2'⟩ | ⟨⟨h1, h2, h3, h4⟩, hd⟩
  · go_enter Tryd.func3, Tryd.ntmps3
    go_wp2_with fail
    go_ret
    exact ⟨rfl, Below.refl _ w⟩
  · go_enter Tryd.func3, Tryd.ntmps3
    go_wp2_with fail
    go_ret
    exact ⟨rfl, Below.refl _ w⟩
  · go_enter Tryd.func3, Tryd.ntmps3
    go_wp2_with fail
    go_ret
    exact ⟨rfl, Below.refl _ w⟩
  · go_enter Tryd.func3, Tryd.ntmps3
    go_wp2_with fail
    go_ret
    exact ⟨rfl, Below.refl _ w⟩
  · rcases hd with rfl | ⟨g1, g2⟩ | ⟨g1, g2, rfl⟩ | ⟨g1, g2, g3, g4⟩ | ⟨g1, g2, g3, g4, rfl⟩ | ⟨g1, g2, g3, g4, g5⟩
    all_goals
      (try (have hne : (a1 != a2) = true := by (first | (simpa using g5) | fail)))
      first
      | rw [decide_eq_true (by omega)] at HE
      | rw [decide_eq_false (by omega)] at HE
      unfold EncB at HE
      simp only [Bool.false_eq_true, if_false, if_true] at HE
      go_enter Tryd.func3, Tryd.ntmps3
      go_wp2_with (first | (go_at_call 9; (with_reducible refine (HE.out _).mono ?_); rintro e wq ⟨v', rfl, hr', hq⟩; have HB := Lib.hid (((Below.refl _ w).alloc (Nat.le_refl _) _).trans (hq.mono (by simp))); clear hq hr') | (go_at_call 10; (with_reducible refine (known10_c _).mono ?_); rintro e wq ⟨rfl, hq⟩; have HB2 := Lib.hid (HB.out.trans (hq.mono HB.out.size)); clear hq))
      go_ret
      exact ⟨rfl, HB2.out⟩
end Go.Proofs.YthfckbiciddfdaaDoor
