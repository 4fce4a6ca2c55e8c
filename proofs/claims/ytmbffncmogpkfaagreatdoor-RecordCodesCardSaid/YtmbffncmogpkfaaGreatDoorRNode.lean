
/- Contract: the reference's IsNode (chapter 10) tells what record's does. -/
import Derived.Test.YtmbffncmogpkfaaGreatDoorRec1
import Derived.Test.YtmbffncmogpkfaaGreatDoorVal7
import Derived.Test.YtmbffncmogpkfaaGreatDoorRSame
import Derived.BigQuiet
import Derived.Deep.QuietTactic
namespace Go.Proofs.YtmbffncmogpkfaaGreatDoor
open Go Go.Proofs Go.RowKit
set_option linter.unusedVariables false
set_option linter.unusedSimpArgs false
abbrev R_IsNode2d_0 : Oper := { dst := some 50, op := Op.fieldAddr 49 (Operand.tmp 5) 0, type := 0, pos := "record.go:30", after := #[], guard := none }
abbrev R_IsNode2d_1 : Oper := { dst := some 51, op := Op.load 9 (Operand.tmp 50), type := 9, pos := "record.go:30", after := #[{ on := 0, ground := Ground.data }], guard := none }
abbrev R_IsNode2d_10 : Oper := { dst := some 60, op := Op.move (Operand.tmp 4), type := 3, pos := "record.go:30", after := #[{ on := 7, ground := Ground.guard }], guard := some (7, true) }
abbrev R_IsNode2d_11 : Oper := { dst := some 61, op := Op.binOp BinOp.sub 3 (Operand.tmp 60) (Operand.const (Value.int IntKind.i64 1)) 3, type := 3, pos := "record.go:30", after := #[{ on := 10, ground := Ground.data }, { on := 7, ground := Ground.guard }], guard := some (7, true) }
abbrev R_IsNode2d_12 : Oper := { dst := some 62, op := Op.indexAddr 41 (Operand.tmp 59) (Operand.tmp 61), type := 0, pos := "record.go:30", after := #[{ on := 9, ground := Ground.data }, { on := 11, ground := Ground.data }, { on := 7, ground := Ground.guard }], guard := some (7, true) }
abbrev R_IsNode2d_13 : Oper := { dst := some 63, op := Op.fieldAddr 49 (Operand.tmp 62) 0, type := 0, pos := "record.go:30", after := #[{ on := 12, ground := Ground.data }, { on := 7, ground := Ground.guard }], guard := some (7, true) }
abbrev R_IsNode2d_14 : Oper := { dst := some 64, op := Op.load 9 (Operand.tmp 63), type := 9, pos := "record.go:30", after := #[{ on := 13, ground := Ground.data }, { on := 7, ground := Ground.guard }], guard := some (7, true) }
abbrev R_IsNode2d_15 : Oper := { dst := some 65, op := Op.fieldAddr 49 (Operand.tmp 5) 0, type := 0, pos := "record.go:30", after := #[{ on := 7, ground := Ground.guard }], guard := some (7, true) }
abbrev R_IsNode2d_16 : Oper := { dst := some 66, op := Op.load 9 (Operand.tmp 65), type := 9, pos := "record.go:30", after := #[{ on := 15, ground := Ground.data }, { on := 7, ground := Ground.guard }], guard := some (7, true) }
abbrev R_IsNode2d_17 : Oper := { dst := some 67, op := Op.binOp BinOp.geq 9 (Operand.tmp 64) (Operand.tmp 66) 9, type := 4, pos := "record.go:30", after := #[{ on := 14, ground := Ground.data }, { on := 16, ground := Ground.data }, { on := 7, ground := Ground.guard }], guard := some (7, true) }
abbrev R_IsNode2d_18 : Oper := { dst := some 68, op := Op.pick (Operand.tmp 57) (Operand.tmp 67) (Operand.const (Value.bool false)), type := 4, pos := "record.go:30", after := #[{ on := 7, ground := Ground.data }, { on := 17, ground := Ground.data }, { on := 4, ground := Ground.guard }], guard := some (4, false) }
abbrev R_IsNode2d_19 : Oper := { dst := some 69, op := Op.pick (Operand.tmp 54) (Operand.const (Value.bool true)) (Operand.tmp 68), type := 4, pos := "record.go:30", after := #[{ on := 4, ground := Ground.data }, { on := 18, ground := Ground.data }], guard := none }
abbrev R_IsNode2d_2 : Oper := { dst := some 52, op := Op.call { callee := Callee.value (Operand.func 93), args := #[Operand.tmp 51], argTypes := #[9] }, type := 4, pos := "record.go:30", after := #[{ on := 1, ground := Ground.data }], guard := none }
abbrev R_IsNode2d_20 : Oper := { dst := some 70, op := Op.move (Operand.tmp 69), type := 4, pos := "record.go:30", after := #[{ on := 19, ground := Ground.data }, { on := 7, ground := Ground.chain }], guard := none }
abbrev R_IsNode2d_21 : Oper := { dst := some 71, op := Op.fieldAddr 49 (Operand.tmp 5) 1, type := 0, pos := "record.go:30", after := #[{ on := 20, ground := Ground.guard }], guard := some (20, false) }
abbrev R_IsNode2d_22 : Oper := { dst := some 72, op := Op.load 47 (Operand.tmp 71), type := 47, pos := "record.go:30", after := #[{ on := 21, ground := Ground.data }, { on := 20, ground := Ground.guard }], guard := some (20, false) }
abbrev R_IsNode2d_23 : Oper := { dst := some 73, op := Op.call { callee := Callee.value (Operand.func 96), args := #[Operand.tmp 72], argTypes := #[47] }, type := 4, pos := "record.go:30", after := #[{ on := 22, ground := Ground.data }, { on := 20, ground := Ground.chain }, { on := 20, ground := Ground.guard }], guard := some (20, false) }
abbrev R_IsNode2d_24 : Oper := { dst := some 74, op := Op.unOp UnOp.not 4 (Operand.tmp 73), type := 4, pos := "record.go:30", after := #[{ on := 23, ground := Ground.data }, { on := 20, ground := Ground.guard }], guard := some (20, false) }
abbrev R_IsNode2d_25 : Oper := { dst := some 75, op := Op.pick (Operand.tmp 70) (Operand.const (Value.bool true)) (Operand.tmp 74), type := 4, pos := "record.go:30", after := #[{ on := 20, ground := Ground.data }, { on := 24, ground := Ground.data }], guard := none }
abbrev R_IsNode2d_26 : Oper := { dst := some 76, op := Op.move (Operand.tmp 75), type := 4, pos := "record.go:30", after := #[{ on := 25, ground := Ground.data }, { on := 23, ground := Ground.chain }], guard := none }
abbrev R_IsNode2d_27 : Oper := { dst := some 77, op := Op.fieldAddr 49 (Operand.tmp 5) 1, type := 0, pos := "record.go:30", after := #[{ on := 26, ground := Ground.guard }], guard := some (26, false) }
abbrev R_IsNode2d_28 : Oper := { dst := some 78, op := Op.fieldAddr 47 (Operand.tmp 77) 0, type := 0, pos := "record.go:30", after := #[{ on := 27, ground := Ground.data }, { on := 26, ground := Ground.guard }], guard := some (26, false) }
abbrev R_IsNode2d_29 : Oper := { dst := some 79, op := Op.load 3 (Operand.tmp 78), type := 3, pos := "record.go:30", after := #[{ on := 28, ground := Ground.data }, { on := 26, ground := Ground.guard }], guard := some (26, false) }
abbrev R_IsNode2d_3 : Oper := { dst := some 53, op := Op.unOp UnOp.not 4 (Operand.tmp 52), type := 4, pos := "record.go:30", after := #[{ on := 2, ground := Ground.data }], guard := none }
abbrev R_IsNode2d_30 : Oper := { dst := some 80, op := Op.binOp BinOp.eql 3 (Operand.tmp 79) (Operand.const (Value.int IntKind.i64 0)) 3, type := 4, pos := "record.go:30", after := #[{ on := 29, ground := Ground.data }, { on := 26, ground := Ground.guard }], guard := some (26, false) }
abbrev R_IsNode2d_31 : Oper := { dst := some 81, op := Op.pick (Operand.tmp 76) (Operand.const (Value.bool true)) (Operand.tmp 80), type := 4, pos := "record.go:30", after := #[{ on := 26, ground := Ground.data }, { on := 30, ground := Ground.data }], guard := none }
abbrev R_IsNode2d_4 : Oper := { dst := some 54, op := Op.move (Operand.tmp 53), type := 4, pos := "record.go:30", after := #[{ on := 3, ground := Ground.data }, { on := 2, ground := Ground.chain }], guard := none }
abbrev R_IsNode2d_5 : Oper := { dst := some 55, op := Op.move (Operand.tmp 4), type := 3, pos := "record.go:30", after := #[{ on := 4, ground := Ground.guard }], guard := some (4, false) }
abbrev R_IsNode2d_6 : Oper := { dst := some 56, op := Op.binOp BinOp.gtr 3 (Operand.tmp 55) (Operand.const (Value.int IntKind.i64 0)) 3, type := 4, pos := "record.go:30", after := #[{ on := 5, ground := Ground.data }, { on := 4, ground := Ground.guard }], guard := some (4, false) }
abbrev R_IsNode2d_7 : Oper := { dst := some 57, op := Op.move (Operand.tmp 56), type := 4, pos := "record.go:30", after := #[{ on := 6, ground := Ground.data }, { on := 4, ground := Ground.chain }, { on := 4, ground := Ground.guard }], guard := some (4, false) }
abbrev R_IsNode2d_8 : Oper := { dst := some 58, op := Op.fieldAddr 43 (Operand.tmp 1) 1, type := 0, pos := "record.go:30", after := #[{ on := 7, ground := Ground.guard }], guard := some (7, true) }
abbrev R_IsNode2d_9 : Oper := { dst := some 59, op := Op.load 41 (Operand.tmp 58), type := 41, pos := "record.go:30", after := #[{ on := 8, ground := Ground.data }, { on := 7, ground := Ground.guard }], guard := some (7, true) }

theorem propB_step (ps : List PR) (m : Nat) (h : m < ps.length) : (ps.take (m + 1)).all (fun p => isV p.v && !(p.v.k == 0)) = ((ps.take m).all (fun p => isV p.v && !(p.v.k == 0)) && (isV ps[m].v && !(ps[m].v.k == 0))) := all_take' _ ps m h
/-- why a node may not be: a label; a property. -/
theorem node_bad1 {ss : List (List UInt8)} {ps : List PR} {j : Nat} (h : j < ss.length) (hb : stepB ss j = false) : nodeB ss ps = false := by
  unfold nodeB namesB
  rw [range_bad (stepB ss) ss.length j h hb]; simp
theorem node_bad2 {ss : List (List UInt8)} {ps : List PR} {j : Nat} (h : j < ps.length) (hb : stepB (ps.map PR.key) j = false ∨ (isV ps[j].v && !(ps[j].v.k == 0)) = false) : nodeB ss ps = false := by
  unfold nodeB namesB
  rcases hb with hb | hb
  · rw [range_bad (stepB (ps.map PR.key)) (ps.map PR.key).length j (by simpa using h) hb]; simp
  · rw [all_bad' (fun p : PR => isV p.v && !(p.v.k == 0)) ps j h hb]; simp
set_option maxRecDepth 100000 in
set_option maxHeartbeats 40000000 in
theorem RIsNode_c (ss : List (List UInt8)) (ps : List PR) (sv pv : Value) (w : World) (hs : RowAt w sv (ss.map strV)) (hp : RowK 6 w pv (ps.map PR.cells)) (hl : ∀ s ∈ ss, s.length ≤ 9223372036854775807)
    (hq : ∀ p ∈ ps, p.key.length ≤ 9223372036854775807 ∧ p.v.t.length ≤ 9223372036854775807) :
    Calls Tryz.prog 71 #[.agg #[sv, pv]] w (Gives w (.bool (nodeB ss ps))) := by
  have HNB : Hid (nodeB ss ps = (ps.all (fun p => isV p.v && !(p.v.k == 0)) && (namesB ss && decide ((ss.length : Int) ≤ 3)) && (namesB (ps.map PR.key) && decide ((ps.length : Int) ≤ 3)))) := Lib.hid rfl
  have HB1 := Lib.hid (fun j h hb => node_bad1 (ss := ss) (ps := ps) (j := j) h hb)
  have HB2 := Lib.hid (fun j h hb => node_bad2 (ss := ss) (ps := ps) (j := j) h hb)
  generalize nodeB ss ps = r at *
  obtain ⟨a1, c1, rfl⟩ := hs.shape
  obtain ⟨a2, c2, rfl, _⟩ := hp.shape
  have m1 := hs.1
  have m2 := hp.1
  have m9 : maxLen = 9223372036854775807 := by decide
  rw [m9, List.length_map] at m1 m2
  rw [List.length_map] at hs hp ⊢
  rw [List.length_map]
  have hst0 : Keep w (fun W => Blk W w.heap.size [.slice a1 ss.length c1, .slice a2 ps.length c2] ∧ RowAt W (.slice a1 ss.length c1) (ss.map strV) ∧ RowK 6 W (.slice a2 ps.length c2) (ps.map PR.cells)) (w.alloc (.cells #[.slice a1 ss.length c1, .slice a2 ps.length c2] 43)) :=
    ⟨⟨Blk.new w [.slice a1 ss.length c1, .slice a2 ps.length c2] _, hs.alloc _, hp.alloc _⟩, (Below.refl _ w).alloc (Nat.le_refl _) _, fun w' hb => ⟨(Blk.new w [.slice a1 ss.length c1, .slice a2 ps.length c2] _).below hb, (hs.alloc _).below hb, (hp.alloc _).below hb⟩⟩
  have HST := Lib.hid hst0
  have HL := Lib.hid hl
  have HQ := Lib.hid hq
  clear hs hp hst0 m9 hl hq
  go_enter Tryz.func71, Tryz.ntmps71
  go_wp2_with fail
  go_loopw [3] (fun i wr => ∃ j : Nat, j ≤ ss.length ∧ i = .int .i64 (j : Int) ∧ (List.range j).all (stepB ss) = true ∧ Keep w (fun W => Blk W w.heap.size [.slice a1 ss.length c1, .slice a2 ps.length c2] ∧ RowAt W (.slice a1 ss.length c1) (ss.map strV) ∧ RowK 6 W (.slice a2 ps.length c2) (ps.map PR.cells)) wr) (fun i _ => ss.length - (intOf i).toNat)
  case atStart => exact ⟨0, by omega, rfl, rfl, HST.out⟩
  case round =>
    obtain ⟨j, hj, rfl, hall, hkp⟩ := hrel
    have HALL := Lib.hid hall
    clear hall
    have hb0 := hkp.facts.1.cell 0 _ rfl
    have hb1 := hkp.facts.1.cell 1 _ rfl
    have HK := Lib.hid hkp
    by_cases hlt : j < ss.length
    · obtain ⟨B, o, rfl, hx⟩ := str_at hkp.facts.2.1 j hlt
      have HN := Lib.hid (fun w => RIsName_c ss[j] w (HL.out _ (List.getElem_mem hlt)))
      have HSB := Lib.hid (stepB_at ss j hlt)
      have HBJ := Lib.hid (HB1.out j hlt)
      have HRA := Lib.hid (range_all (stepB ss) j)
      generalize hy : ss[j] = y at *
      generalize nameB y = nb at *
      cases j with
      | zero =>
        clear hkp hy
        rw [show ((0 : Nat) : Int) = 0 from rfl]
        have hx0 : wr.cell? ⟨B, o, none⟩ = _ := hx
        have hj2 : (0 : Int) < (ss.length : Int) := by omega
        have hw2 : IntKind.i64.wrap (0 : Int) = 0 := by decide
        have hp1 : decide ((0 : Int) < 0) = false := by decide
        have HF : Hid (nb = false → r = false) := Lib.hid (fun h => HBJ.out (by rw [HSB.out, h]; rfl))
        have HTR : Hid (nb = true → (List.range 1).all (stepB ss) = true) := Lib.hid (fun h => by rw [HRA.out, HSB.out, h]; rfl)
        clear HSB HBJ HRA HALL
        cases nb
        all_goals
          (try have HF0 := Lib.hid (HF.out rfl))
          (try have HT0 := Lib.hid (HTR.out rfl))
          clear HF HTR
          go_wp2_with fail
          go_quiet (first | (go_at_call 93; exact Calls.quiet_of_same ((HN.out _).mono fun _ _ h => ⟨h.1, h.2.symm⟩)))
          go_wp2_with fail
          all_goals
            first
            | (go_ret; exact ⟨by rw [HF0.out]; rfl, below_drewN HK.out.below _⟩)
            | (go_roundw
               case rel => exact ⟨1, by omega, by first | rfl | go_num, HT0.out, HK.out.on (below_drewN (Below.refl _ _) _)⟩
               case measure => simp [intOf]; omega)
      | succ m =>
        obtain ⟨B', o', he, hz⟩ := str_at hkp.facts.2.1 m (by omega)
        simp only [Option.some.injEq, Addr.mk.injEq, and_true] at he
        obtain ⟨rfl, rfl⟩ := he
        have HS2 : Hid (stepB ss (m + 1) = (nb && Op.bytesLess (ss[m]'(by omega)) y)) := Lib.hid (by rw [HSB.out]; simp [List.getD_eq_getElem?_getD, List.getElem?_eq_getElem (show m < ss.length by omega)])
        generalize ss[m] = z at *
        have HF : Hid ((nb && Op.bytesLess z y) = false → r = false) := Lib.hid (fun h => HBJ.out (by rw [HS2.out, h]))
        have HTR : Hid ((nb && Op.bytesLess z y) = true → (List.range (m + 1 + 1)).all (stepB ss) = true) := Lib.hid (fun h => by rw [HRA.out, HS2.out, h, HALL.out]; rfl)
        clear hkp hy HSB HBJ HRA HALL HS2
        rw [show ((m + 1 : Nat) : Int) = (m : Int) + 1 by simp]
        have hj2 : (m : Int) + 1 < (ss.length : Int) := by omega
        have hj3 : (m : Int) < (ss.length : Int) := by omega
        have hj0 : (0 : Int) ≤ (m : Int) + 1 := by omega
        have hp0 : decide ((0 : Int) < (m : Int) + 1) = true := decide_eq_true (by omega)
        have hw1 : IntKind.i64.wrap ((m : Int) + 1 - 1) = (m : Int) := by rw [IntKind.wrap_i64]; omega
        have hw2 : IntKind.i64.wrap (m : Int) = (m : Int) := by rw [IntKind.wrap_i64]; omega
        cases nb
        case false =>
          go_wp2_with fail
          go_quiet (first | (go_at_call 93; exact Calls.quiet_of_same ((HN.out _).mono fun _ _ h => ⟨h.1, h.2.symm⟩)))
          go_wp2_with fail
          go_ret
          exact ⟨by rw [HF.out rfl]; rfl, below_drewN HK.out.below _⟩
        cases hzy : Op.bytesLess z y
        all_goals
          go_wp2_with fail
          go_quiet (first | (go_at_call 93; exact Calls.quiet_of_same ((HN.out _).mono fun _ _ h => ⟨h.1, h.2.symm⟩)))
          go_wp2_with fail
          all_goals
            first
            | (go_ret; exact ⟨by rw [HF.out (by rw [hzy]; rfl)]; rfl, below_drewN HK.out.below _⟩)
            | (go_roundw
               case rel => exact ⟨m + 1 + 1, by omega, by first | rfl | go_num, HTR.out (by rw [hzy]; rfl), HK.out.on (below_drewN (Below.refl _ _) _)⟩
               case measure => simp [intOf]; omega)
    · obtain rfl : j = ss.length := by omega
      have HNS : Hid (namesB ss = true) := HALL
      clear hkp HALL HB1
      go_wp2_with fail
      go_loopw [4] (fun i wr => ∃ j : Nat, j ≤ ps.length ∧ i = .int .i64 (j : Int) ∧ ((ps.take j).all (fun p => isV p.v && !(p.v.k == 0)) = true ∧ (List.range j).all (stepB (ps.map PR.key)) = true) ∧ Keep w (fun W => Blk W w.heap.size [.slice a1 ss.length c1, .slice a2 ps.length c2] ∧ RowAt W (.slice a1 ss.length c1) (ss.map strV) ∧ RowK 6 W (.slice a2 ps.length c2) (ps.map PR.cells)) wr) (fun i _ => ps.length - (intOf i).toNat)
      case atStart => exact ⟨0, by omega, rfl, ⟨rfl, rfl⟩, HK.out⟩
      case round =>
        obtain ⟨m, hm, rfl, hall, hkp⟩ := hrel
        have HALL := Lib.hid hall
        clear hall
        have hc0 := hkp.facts.1.cell 0 _ rfl
        have hc1 := hkp.facts.1.cell 1 _ rfl
        have hd1 := fun o => (hkp.facts.1.alloc o).cell 1 _ rfl
        have HK2 := Lib.hid hkp
        clear hb0 hb1
        by_cases hlt2 : m < ps.length
        · obtain ⟨B, o, rfl, hB, hx⟩ := row_pr hkp.facts.2.2 m hlt2
          have hmem := List.getElem_mem hlt2
          have HN := Lib.hid (fun w => RIsName_c ps[m].key w (HQ.out _ hmem).1)
          have HI := Lib.hid (fun w => XIs_c ps[m].v w (HQ.out _ hmem).2)
          have HSB := Lib.hid (stepB_at (ps.map PR.key) m (by simpa using hlt2))
          rw [List.getElem_map] at HSB
          have HBJ := Lib.hid (HB2.out m hlt2)
          have HRA := Lib.hid (range_all (stepB (ps.map PR.key)) m)
          have HPA := Lib.hid (propB_step ps m hlt2)
          have K3 := Lib.hid (HK2.out.more ps[m].cells 49)
          clear hmem
          generalize isV ps[m].v = iv at *
          generalize hy : ps[m] = y at *
          generalize nameB y.key = nb at *
          clear hy
          obtain ⟨key, ⟨k, b, n, f, t⟩⟩ := y
          have hk := PR.factsAt hx
          unfold V5.v at HI
          dsimp only at HSB HBJ HPA
          clear hx hkp
          have HT := Lib.hid K3.out.drew
          cases m with
          | zero =>
            rw [show ((0 : Nat) : Int) = 0 from rfl]
            simp only [Nat.zero_mul, Nat.add_zero] at hk
            have hp1 : decide ((0 : Int) < 0) = false := by decide
            have hj2 : (0 : Int) < (ps.length : Int) := by omega
            have HF : Hid ((nb && (iv && !(k == 0))) = false → r = false) := Lib.hid (fun h => HBJ.out (by
              cases nb
              · exact .inl (by rw [HSB.out]; rfl)
              · exact .inr (by simpa using h)))
            have HTR : Hid ((nb && (iv && !(k == 0))) = true → (ps.take 1).all (fun p => isV p.v && !(p.v.k == 0)) = true ∧ (List.range 1).all (stepB (ps.map PR.key)) = true) := Lib.hid (fun h => by
              simp only [Bool.and_eq_true] at h
              refine ⟨?_, ?_⟩
              · rw [HPA.out, h.2.1, h.2.2]; rfl
              · rw [HRA.out, HSB.out, h.1]; rfl)
            clear HSB HBJ HRA HPA HALL
            cases nb <;> cases iv <;> cases hk0 : (k == 0)
            all_goals
              rw [hk0] at HF HTR
              go_wp2_with fail
              refine wp_region_held_drew (S := (fun w' => (w'.cell? ⟨wr.heap.size, 0, none⟩ = some (.string ⟨key.toArray⟩) ∧ w'.cell? ⟨wr.heap.size, 1, none⟩ = some (.int .i64 k) ∧ w'.cell? ⟨wr.heap.size, 2, none⟩ = some (.bool b) ∧ w'.cell? ⟨wr.heap.size, 3, none⟩ = some (.int .i64 n) ∧ w'.cell? ⟨wr.heap.size, 4, none⟩ = some (.float .f64 f) ∧ w'.cell? ⟨wr.heap.size, 5, none⟩ = some (.string ⟨t.toArray⟩)) ∧ w'.cell? ⟨w.heap.size, 1, none⟩ = some (.slice (some ⟨B, o, none⟩) ps.length c2))) (by kernel_rfl) ?_ (fun hHeld => ?_)
              · (exact ⟨PR.facts HT.out.facts.2, HT.out.facts.1.1.cell 1 _ rfl⟩)
              (refine wpAnyH_take (i := 0) (oi := R_IsNode2d_0) (v := ?_) rfl (by kernel_rfl) (by kernel_rfl) (by kernel_rfl) (fun _ _ _ h => h) (Or.inl ⟨by rfl, ?_⟩) (by assumption) ?_; rotate_left; next => (intro w hSw; (try dsimp only at hSw); (try delta R_IsNode2d_0); go_simp; try with_reducible rfl))
              (try simp only [Act.put, List.setIfInBounds_toArray, List.set_cons_zero, List.set_cons_succ])
              (refine wpAnyH_take (i := 1) (oi := R_IsNode2d_1) (v := ?_) rfl (by kernel_rfl) (by kernel_rfl) (by kernel_rfl) (fun _ _ _ h => h) (Or.inl ⟨by rfl, ?_⟩) (by assumption) ?_; rotate_left; next => (intro w hSw; (try dsimp only at hSw); (try delta R_IsNode2d_1); go_simp; try with_reducible rfl))
              (try simp only [Act.put, List.setIfInBounds_toArray, List.set_cons_zero, List.set_cons_succ])
              refine wpAnyH_ready (rs := [2]) (by kernel_rfl) (by simp) ?_
              refine AllReadyH.cons (o := R_IsNode2d_2) rfl (fun K hK => ?_) AllReadyH.nil
              (try delta R_IsNode2d_2)
              go_simp
              (first | (go_at_call 93; (with_reducible refine (HN.out _).mono ?_); rintro e wz ⟨rfl, rfl⟩) | (go_at_call 96; (with_reducible refine (HI.out _).mono ?_); rintro e wz ⟨rfl, hq2⟩; have HT := Lib.hid (Keep.on HT.out hq2); clear hq2))
              (try go_wp2_with fail)
              refine hK.out _ _ ?_ (fun hHeld => ?_)
              · (exact ⟨PR.facts HT.out.facts.2, HT.out.facts.1.1.cell 1 _ rfl⟩)
              clear hK K
              (try simp only [Act.put, List.setIfInBounds_toArray, List.set_cons_zero, List.set_cons_succ])
              (refine wpAnyH_take (i := 3) (oi := R_IsNode2d_3) (v := ?_) rfl (by kernel_rfl) (by kernel_rfl) (by kernel_rfl) (fun _ _ _ h => h) (Or.inl ⟨by rfl, ?_⟩) (by assumption) ?_; rotate_left; next => (intro w hSw; (try dsimp only at hSw); (try delta R_IsNode2d_3); go_simp; try with_reducible rfl))
              (try simp only [Act.put, List.setIfInBounds_toArray, List.set_cons_zero, List.set_cons_succ])
              (refine wpAnyH_take (i := 4) (oi := R_IsNode2d_4) (v := ?_) rfl (by kernel_rfl) (by kernel_rfl) (by kernel_rfl) (fun _ _ _ h => h) (Or.inl ⟨by rfl, ?_⟩) (by assumption) ?_; rotate_left; next => (intro w hSw; (try dsimp only at hSw); (try delta R_IsNode2d_4); go_simp; try with_reducible rfl))
              (try simp only [Act.put, List.setIfInBounds_toArray, List.set_cons_zero, List.set_cons_succ])
              first | (refine wpAnyH_take (i := 5) (oi := R_IsNode2d_5) (v := undef) rfl (by kernel_rfl) (by kernel_rfl) (by kernel_rfl) (fun _ _ _ h => h) (Or.inr ⟨by rfl, rfl⟩) (by assumption) ?_) | (refine wpAnyH_take (i := 5) (oi := R_IsNode2d_5) (v := ?_) rfl (by kernel_rfl) (by kernel_rfl) (by kernel_rfl) (fun _ _ _ h => h) (Or.inl ⟨by rfl, ?_⟩) (by assumption) ?_; rotate_left; next => (intro w hSw; (try dsimp only at hSw); (try delta R_IsNode2d_5); go_simp; try with_reducible rfl))
              (try simp only [Act.put, List.setIfInBounds_toArray, List.set_cons_zero, List.set_cons_succ])
              first | (refine wpAnyH_take (i := 6) (oi := R_IsNode2d_6) (v := undef) rfl (by kernel_rfl) (by kernel_rfl) (by kernel_rfl) (fun _ _ _ h => h) (Or.inr ⟨by rfl, rfl⟩) (by assumption) ?_) | (refine wpAnyH_take (i := 6) (oi := R_IsNode2d_6) (v := ?_) rfl (by kernel_rfl) (by kernel_rfl) (by kernel_rfl) (fun _ _ _ h => h) (Or.inl ⟨by rfl, ?_⟩) (by assumption) ?_; rotate_left; next => (intro w hSw; (try dsimp only at hSw); (try delta R_IsNode2d_6); go_simp; try with_reducible rfl))
              (try simp only [Act.put, List.setIfInBounds_toArray, List.set_cons_zero, List.set_cons_succ])
              first | (refine wpAnyH_take (i := 7) (oi := R_IsNode2d_7) (v := undef) rfl (by kernel_rfl) (by kernel_rfl) (by kernel_rfl) (fun _ _ _ h => h) (Or.inr ⟨by rfl, rfl⟩) (by assumption) ?_) | (refine wpAnyH_take (i := 7) (oi := R_IsNode2d_7) (v := ?_) rfl (by kernel_rfl) (by kernel_rfl) (by kernel_rfl) (fun _ _ _ h => h) (Or.inl ⟨by rfl, ?_⟩) (by assumption) ?_; rotate_left; next => (intro w hSw; (try dsimp only at hSw); (try delta R_IsNode2d_7); go_simp; try with_reducible rfl))
              (try simp only [Act.put, List.setIfInBounds_toArray, List.set_cons_zero, List.set_cons_succ])
              first | (refine wpAnyH_take (i := 8) (oi := R_IsNode2d_8) (v := undef) rfl (by kernel_rfl) (by kernel_rfl) (by kernel_rfl) (fun _ _ _ h => h) (Or.inr ⟨by rfl, rfl⟩) (by assumption) ?_) | (refine wpAnyH_take (i := 8) (oi := R_IsNode2d_8) (v := ?_) rfl (by kernel_rfl) (by kernel_rfl) (by kernel_rfl) (fun _ _ _ h => h) (Or.inl ⟨by rfl, ?_⟩) (by assumption) ?_; rotate_left; next => (intro w hSw; (try dsimp only at hSw); (try delta R_IsNode2d_8); go_simp; try with_reducible rfl))
              (try simp only [Act.put, List.setIfInBounds_toArray, List.set_cons_zero, List.set_cons_succ])
              first | (refine wpAnyH_take (i := 9) (oi := R_IsNode2d_9) (v := undef) rfl (by kernel_rfl) (by kernel_rfl) (by kernel_rfl) (fun _ _ _ h => h) (Or.inr ⟨by rfl, rfl⟩) (by assumption) ?_) | (refine wpAnyH_take (i := 9) (oi := R_IsNode2d_9) (v := ?_) rfl (by kernel_rfl) (by kernel_rfl) (by kernel_rfl) (fun _ _ _ h => h) (Or.inl ⟨by rfl, ?_⟩) (by assumption) ?_; rotate_left; next => (intro w hSw; (try dsimp only at hSw); (try delta R_IsNode2d_9); go_simp; try with_reducible rfl))
              (try simp only [Act.put, List.setIfInBounds_toArray, List.set_cons_zero, List.set_cons_succ])
              first | (refine wpAnyH_take (i := 10) (oi := R_IsNode2d_10) (v := undef) rfl (by kernel_rfl) (by kernel_rfl) (by kernel_rfl) (fun _ _ _ h => h) (Or.inr ⟨by rfl, rfl⟩) (by assumption) ?_) | (refine wpAnyH_take (i := 10) (oi := R_IsNode2d_10) (v := ?_) rfl (by kernel_rfl) (by kernel_rfl) (by kernel_rfl) (fun _ _ _ h => h) (Or.inl ⟨by rfl, ?_⟩) (by assumption) ?_; rotate_left; next => (intro w hSw; (try dsimp only at hSw); (try delta R_IsNode2d_10); go_simp; try with_reducible rfl))
              (try simp only [Act.put, List.setIfInBounds_toArray, List.set_cons_zero, List.set_cons_succ])
              first | (refine wpAnyH_take (i := 11) (oi := R_IsNode2d_11) (v := undef) rfl (by kernel_rfl) (by kernel_rfl) (by kernel_rfl) (fun _ _ _ h => h) (Or.inr ⟨by rfl, rfl⟩) (by assumption) ?_) | (refine wpAnyH_take (i := 11) (oi := R_IsNode2d_11) (v := ?_) rfl (by kernel_rfl) (by kernel_rfl) (by kernel_rfl) (fun _ _ _ h => h) (Or.inl ⟨by rfl, ?_⟩) (by assumption) ?_; rotate_left; next => (intro w hSw; (try dsimp only at hSw); (try delta R_IsNode2d_11); go_simp; try with_reducible rfl))
              (try simp only [Act.put, List.setIfInBounds_toArray, List.set_cons_zero, List.set_cons_succ])
              first | (refine wpAnyH_take (i := 12) (oi := R_IsNode2d_12) (v := undef) rfl (by kernel_rfl) (by kernel_rfl) (by kernel_rfl) (fun _ _ _ h => h) (Or.inr ⟨by rfl, rfl⟩) (by assumption) ?_) | (refine wpAnyH_take (i := 12) (oi := R_IsNode2d_12) (v := ?_) rfl (by kernel_rfl) (by kernel_rfl) (by kernel_rfl) (fun _ _ _ h => h) (Or.inl ⟨by rfl, ?_⟩) (by assumption) ?_; rotate_left; next => (intro w hSw; (try dsimp only at hSw); (try delta R_IsNode2d_12); go_simp; try with_reducible rfl))
              (try simp only [Act.put, List.setIfInBounds_toArray, List.set_cons_zero, List.set_cons_succ])
              first | (refine wpAnyH_take (i := 13) (oi := R_IsNode2d_13) (v := undef) rfl (by kernel_rfl) (by kernel_rfl) (by kernel_rfl) (fun _ _ _ h => h) (Or.inr ⟨by rfl, rfl⟩) (by assumption) ?_) | (refine wpAnyH_take (i := 13) (oi := R_IsNode2d_13) (v := ?_) rfl (by kernel_rfl) (by kernel_rfl) (by kernel_rfl) (fun _ _ _ h => h) (Or.inl ⟨by rfl, ?_⟩) (by assumption) ?_; rotate_left; next => (intro w hSw; (try dsimp only at hSw); (try delta R_IsNode2d_13); go_simp; try with_reducible rfl))
              (try simp only [Act.put, List.setIfInBounds_toArray, List.set_cons_zero, List.set_cons_succ])
              first | (refine wpAnyH_take (i := 14) (oi := R_IsNode2d_14) (v := undef) rfl (by kernel_rfl) (by kernel_rfl) (by kernel_rfl) (fun _ _ _ h => h) (Or.inr ⟨by rfl, rfl⟩) (by assumption) ?_) | (refine wpAnyH_take (i := 14) (oi := R_IsNode2d_14) (v := ?_) rfl (by kernel_rfl) (by kernel_rfl) (by kernel_rfl) (fun _ _ _ h => h) (Or.inl ⟨by rfl, ?_⟩) (by assumption) ?_; rotate_left; next => (intro w hSw; (try dsimp only at hSw); (try delta R_IsNode2d_14); go_simp; try with_reducible rfl))
              (try simp only [Act.put, List.setIfInBounds_toArray, List.set_cons_zero, List.set_cons_succ])
              first | (refine wpAnyH_take (i := 15) (oi := R_IsNode2d_15) (v := undef) rfl (by kernel_rfl) (by kernel_rfl) (by kernel_rfl) (fun _ _ _ h => h) (Or.inr ⟨by rfl, rfl⟩) (by assumption) ?_) | (refine wpAnyH_take (i := 15) (oi := R_IsNode2d_15) (v := ?_) rfl (by kernel_rfl) (by kernel_rfl) (by kernel_rfl) (fun _ _ _ h => h) (Or.inl ⟨by rfl, ?_⟩) (by assumption) ?_; rotate_left; next => (intro w hSw; (try dsimp only at hSw); (try delta R_IsNode2d_15); go_simp; try with_reducible rfl))
              (try simp only [Act.put, List.setIfInBounds_toArray, List.set_cons_zero, List.set_cons_succ])
              first | (refine wpAnyH_take (i := 16) (oi := R_IsNode2d_16) (v := undef) rfl (by kernel_rfl) (by kernel_rfl) (by kernel_rfl) (fun _ _ _ h => h) (Or.inr ⟨by rfl, rfl⟩) (by assumption) ?_) | (refine wpAnyH_take (i := 16) (oi := R_IsNode2d_16) (v := ?_) rfl (by kernel_rfl) (by kernel_rfl) (by kernel_rfl) (fun _ _ _ h => h) (Or.inl ⟨by rfl, ?_⟩) (by assumption) ?_; rotate_left; next => (intro w hSw; (try dsimp only at hSw); (try delta R_IsNode2d_16); go_simp; try with_reducible rfl))
              (try simp only [Act.put, List.setIfInBounds_toArray, List.set_cons_zero, List.set_cons_succ])
              first | (refine wpAnyH_take (i := 17) (oi := R_IsNode2d_17) (v := undef) rfl (by kernel_rfl) (by kernel_rfl) (by kernel_rfl) (fun _ _ _ h => h) (Or.inr ⟨by rfl, rfl⟩) (by assumption) ?_) | (refine wpAnyH_take (i := 17) (oi := R_IsNode2d_17) (v := ?_) rfl (by kernel_rfl) (by kernel_rfl) (by kernel_rfl) (fun _ _ _ h => h) (Or.inl ⟨by rfl, ?_⟩) (by assumption) ?_; rotate_left; next => (intro w hSw; (try dsimp only at hSw); (try delta R_IsNode2d_17); go_simp; try with_reducible rfl))
              (try simp only [Act.put, List.setIfInBounds_toArray, List.set_cons_zero, List.set_cons_succ])
              first | (refine wpAnyH_take (i := 18) (oi := R_IsNode2d_18) (v := undef) rfl (by kernel_rfl) (by kernel_rfl) (by kernel_rfl) (fun _ _ _ h => h) (Or.inr ⟨by rfl, rfl⟩) (by assumption) ?_) | (refine wpAnyH_take (i := 18) (oi := R_IsNode2d_18) (v := ?_) rfl (by kernel_rfl) (by kernel_rfl) (by kernel_rfl) (fun _ _ _ h => h) (Or.inl ⟨by rfl, ?_⟩) (by assumption) ?_; rotate_left; next => (intro w hSw; (try dsimp only at hSw); (try delta R_IsNode2d_18); go_simp; try with_reducible rfl))
              (try simp only [Act.put, List.setIfInBounds_toArray, List.set_cons_zero, List.set_cons_succ])
              (refine wpAnyH_take (i := 19) (oi := R_IsNode2d_19) (v := ?_) rfl (by kernel_rfl) (by kernel_rfl) (by kernel_rfl) (fun _ _ _ h => h) (Or.inl ⟨by rfl, ?_⟩) (by assumption) ?_; rotate_left; next => (intro w hSw; (try dsimp only at hSw); (try delta R_IsNode2d_19); go_simp; try with_reducible rfl))
              (try simp only [Act.put, List.setIfInBounds_toArray, List.set_cons_zero, List.set_cons_succ])
              (refine wpAnyH_take (i := 20) (oi := R_IsNode2d_20) (v := ?_) rfl (by kernel_rfl) (by kernel_rfl) (by kernel_rfl) (fun _ _ _ h => h) (Or.inl ⟨by rfl, ?_⟩) (by assumption) ?_; rotate_left; next => (intro w hSw; (try dsimp only at hSw); (try delta R_IsNode2d_20); go_simp; try with_reducible rfl))
              (try simp only [Act.put, List.setIfInBounds_toArray, List.set_cons_zero, List.set_cons_succ])
              first | (refine wpAnyH_take (i := 21) (oi := R_IsNode2d_21) (v := undef) rfl (by kernel_rfl) (by kernel_rfl) (by kernel_rfl) (fun _ _ _ h => h) (Or.inr ⟨by rfl, rfl⟩) (by assumption) ?_) | (refine wpAnyH_take (i := 21) (oi := R_IsNode2d_21) (v := ?_) rfl (by kernel_rfl) (by kernel_rfl) (by kernel_rfl) (fun _ _ _ h => h) (Or.inl ⟨by rfl, ?_⟩) (by assumption) ?_; rotate_left; next => (intro w hSw; (try dsimp only at hSw); (try delta R_IsNode2d_21); go_simp; try with_reducible rfl))
              (try simp only [Act.put, List.setIfInBounds_toArray, List.set_cons_zero, List.set_cons_succ])
              first | (refine wpAnyH_take (i := 22) (oi := R_IsNode2d_22) (v := undef) rfl (by kernel_rfl) (by kernel_rfl) (by kernel_rfl) (fun _ _ _ h => h) (Or.inr ⟨by rfl, rfl⟩) (by assumption) ?_) | (refine wpAnyH_take (i := 22) (oi := R_IsNode2d_22) (v := ?_) rfl (by kernel_rfl) (by kernel_rfl) (by kernel_rfl) (fun _ _ _ h => h) (Or.inl ⟨by rfl, ?_⟩) (by assumption) ?_; rotate_left; next => (intro w hSw; (try dsimp only at hSw); (try delta R_IsNode2d_22); go_simp; try with_reducible rfl))
              (try simp only [Act.put, List.setIfInBounds_toArray, List.set_cons_zero, List.set_cons_succ])
              first
              | (refine wpAnyH_take (i := 23) (oi := R_IsNode2d_23) (v := undef) rfl (by kernel_rfl) (by kernel_rfl) (by kernel_rfl) (fun _ _ _ h => h) (Or.inr ⟨by rfl, rfl⟩) (by assumption) ?_
                 (try simp only [Act.put, List.setIfInBounds_toArray, List.set_cons_zero, List.set_cons_succ]))
              | (refine wpAnyH_ready (rs := [23]) (by kernel_rfl) (by simp) ?_
                 refine AllReadyH.cons (o := R_IsNode2d_23) rfl (fun K hK => ?_) AllReadyH.nil
                 (try delta R_IsNode2d_23)
                 go_simp
                 (first | (go_at_call 93; (with_reducible refine (HN.out _).mono ?_); rintro e wz ⟨rfl, rfl⟩) | (go_at_call 96; (with_reducible refine (HI.out _).mono ?_); rintro e wz ⟨rfl, hq2⟩; have HT := Lib.hid (Keep.on HT.out hq2); clear hq2))
                 (try go_wp2_with fail)
                 refine hK.out _ _ ?_ (fun hHeld => ?_)
                 · (exact ⟨PR.facts HT.out.facts.2, HT.out.facts.1.1.cell 1 _ rfl⟩)
                 clear hK K
                 (try simp only [Act.put, List.setIfInBounds_toArray, List.set_cons_zero, List.set_cons_succ]))
              first | (refine wpAnyH_take (i := 24) (oi := R_IsNode2d_24) (v := undef) rfl (by kernel_rfl) (by kernel_rfl) (by kernel_rfl) (fun _ _ _ h => h) (Or.inr ⟨by rfl, rfl⟩) (by assumption) ?_) | (refine wpAnyH_take (i := 24) (oi := R_IsNode2d_24) (v := ?_) rfl (by kernel_rfl) (by kernel_rfl) (by kernel_rfl) (fun _ _ _ h => h) (Or.inl ⟨by rfl, ?_⟩) (by assumption) ?_; rotate_left; next => (intro w hSw; (try dsimp only at hSw); (try delta R_IsNode2d_24); go_simp; try with_reducible rfl))
              (try simp only [Act.put, List.setIfInBounds_toArray, List.set_cons_zero, List.set_cons_succ])
              (refine wpAnyH_take (i := 25) (oi := R_IsNode2d_25) (v := ?_) rfl (by kernel_rfl) (by kernel_rfl) (by kernel_rfl) (fun _ _ _ h => h) (Or.inl ⟨by rfl, ?_⟩) (by assumption) ?_; rotate_left; next => (intro w hSw; (try dsimp only at hSw); (try delta R_IsNode2d_25); go_simp; try with_reducible rfl))
              (try simp only [Act.put, List.setIfInBounds_toArray, List.set_cons_zero, List.set_cons_succ])
              (refine wpAnyH_take (i := 26) (oi := R_IsNode2d_26) (v := ?_) rfl (by kernel_rfl) (by kernel_rfl) (by kernel_rfl) (fun _ _ _ h => h) (Or.inl ⟨by rfl, ?_⟩) (by assumption) ?_; rotate_left; next => (intro w hSw; (try dsimp only at hSw); (try delta R_IsNode2d_26); go_simp; try with_reducible rfl))
              (try simp only [Act.put, List.setIfInBounds_toArray, List.set_cons_zero, List.set_cons_succ])
              first | (refine wpAnyH_take (i := 27) (oi := R_IsNode2d_27) (v := undef) rfl (by kernel_rfl) (by kernel_rfl) (by kernel_rfl) (fun _ _ _ h => h) (Or.inr ⟨by rfl, rfl⟩) (by assumption) ?_) | (refine wpAnyH_take (i := 27) (oi := R_IsNode2d_27) (v := ?_) rfl (by kernel_rfl) (by kernel_rfl) (by kernel_rfl) (fun _ _ _ h => h) (Or.inl ⟨by rfl, ?_⟩) (by assumption) ?_; rotate_left; next => (intro w hSw; (try dsimp only at hSw); (try delta R_IsNode2d_27); go_simp; try with_reducible rfl))
              (try simp only [Act.put, List.setIfInBounds_toArray, List.set_cons_zero, List.set_cons_succ])
              first | (refine wpAnyH_take (i := 28) (oi := R_IsNode2d_28) (v := undef) rfl (by kernel_rfl) (by kernel_rfl) (by kernel_rfl) (fun _ _ _ h => h) (Or.inr ⟨by rfl, rfl⟩) (by assumption) ?_) | (refine wpAnyH_take (i := 28) (oi := R_IsNode2d_28) (v := ?_) rfl (by kernel_rfl) (by kernel_rfl) (by kernel_rfl) (fun _ _ _ h => h) (Or.inl ⟨by rfl, ?_⟩) (by assumption) ?_; rotate_left; next => (intro w hSw; (try dsimp only at hSw); (try delta R_IsNode2d_28); go_simp; try with_reducible rfl))
              (try simp only [Act.put, List.setIfInBounds_toArray, List.set_cons_zero, List.set_cons_succ])
              first | (refine wpAnyH_take (i := 29) (oi := R_IsNode2d_29) (v := undef) rfl (by kernel_rfl) (by kernel_rfl) (by kernel_rfl) (fun _ _ _ h => h) (Or.inr ⟨by rfl, rfl⟩) (by assumption) ?_) | (refine wpAnyH_take (i := 29) (oi := R_IsNode2d_29) (v := ?_) rfl (by kernel_rfl) (by kernel_rfl) (by kernel_rfl) (fun _ _ _ h => h) (Or.inl ⟨by rfl, ?_⟩) (by assumption) ?_; rotate_left; next => (intro w hSw; (try dsimp only at hSw); (try delta R_IsNode2d_29); go_simp; try with_reducible rfl))
              (try simp only [Act.put, List.setIfInBounds_toArray, List.set_cons_zero, List.set_cons_succ])
              first | (refine wpAnyH_take (i := 30) (oi := R_IsNode2d_30) (v := undef) rfl (by kernel_rfl) (by kernel_rfl) (by kernel_rfl) (fun _ _ _ h => h) (Or.inr ⟨by rfl, rfl⟩) (by assumption) ?_) | (refine wpAnyH_take (i := 30) (oi := R_IsNode2d_30) (v := ?_) rfl (by kernel_rfl) (by kernel_rfl) (by kernel_rfl) (fun _ _ _ h => h) (Or.inl ⟨by rfl, ?_⟩) (by assumption) ?_; rotate_left; next => (intro w hSw; (try dsimp only at hSw); (try delta R_IsNode2d_30); go_simp; try with_reducible rfl))
              (try simp only [Act.put, List.setIfInBounds_toArray, List.set_cons_zero, List.set_cons_succ])
              (refine wpAnyH_take (i := 31) (oi := R_IsNode2d_31) (v := ?_) rfl (by kernel_rfl) (by kernel_rfl) (by kernel_rfl) (fun _ _ _ h => h) (Or.inl ⟨by rfl, ?_⟩) (by assumption) ?_; rotate_left; next => (intro w hSw; (try dsimp only at hSw); (try delta R_IsNode2d_31); go_simp; try with_reducible rfl))
              (try simp only [Act.put, List.setIfInBounds_toArray, List.set_cons_zero, List.set_cons_succ])
              refine wpAnyH_done (by kernel_rfl) ?_ _
              go_wp2_with fail
              first
              | (go_ret; exact ⟨by rw [HF.out rfl]; rfl, HT.out.below⟩)
              | (go_roundw
                 case rel => exact ⟨1, by omega, by first | rfl | go_num, HTR.out rfl, HT.out.fst⟩
                 case measure => simp [intOf]; omega)
          | succ q =>
            have hql : q < ps.length := by omega
            have HZ := Lib.hid (fun W (h : RowK 6 W (.slice (some ⟨B, o, none⟩) ps.length c2) (ps.map PR.cells)) => pr_key h q hql)
            have HS2 : Hid (stepB (ps.map PR.key) (q + 1) = (nb && Op.bytesLess ps[q].key key)) := Lib.hid (by rw [HSB.out]; simp [List.getD_eq_getElem?_getD, List.getElem?_map, List.getElem?_eq_getElem (show q < ps.length by omega)])
            generalize ps[q].key = z at *
            have HF : Hid ((nb && Op.bytesLess z key && (iv && !(k == 0))) = false → r = false) := Lib.hid (fun h => HBJ.out (by
              cases hh : (nb && Op.bytesLess z key)
              · exact .inl (by rw [HS2.out, hh])
              · rw [hh] at h; exact .inr (by simpa using h)))
            have HTR : Hid ((nb && Op.bytesLess z key && (iv && !(k == 0))) = true → (ps.take (q + 1 + 1)).all (fun p => isV p.v && !(p.v.k == 0)) = true ∧ (List.range (q + 1 + 1)).all (stepB (ps.map PR.key)) = true) := Lib.hid (fun h => by
              simp only [Bool.and_eq_true] at h
              refine ⟨?_, ?_⟩
              · rw [HPA.out, HALL.out.1, h.2.1, h.2.2]; rfl
              · rw [HRA.out, HALL.out.2, HS2.out, h.1.1, h.1.2]; rfl)
            clear HSB HBJ HRA HPA HALL HS2
            rw [show ((q + 1 : Nat) : Int) = (q : Int) + 1 by simp]
            have hj2 : (q : Int) + 1 < (ps.length : Int) := by omega
            have hj3 : (q : Int) < (ps.length : Int) := by omega
            have hj0 : (0 : Int) ≤ (q : Int) + 1 := by omega
            have hp0 : decide ((0 : Int) < (q : Int) + 1) = true := decide_eq_true (by omega)
            have hw1 : IntKind.i64.wrap ((q : Int) + 1 - 1) = (q : Int) := by rw [IntKind.wrap_i64]; omega
            have hw2 : IntKind.i64.wrap (q : Int) = (q : Int) := by rw [IntKind.wrap_i64]; omega
            cases hzy : Op.bytesLess z key <;> cases nb <;> cases iv <;> cases hk0 : (k == 0)
            all_goals
              rw [hk0, hzy] at HF HTR
              go_wp2_with fail
              refine wp_region_held_drew (S := (fun w' => (w'.cell? ⟨wr.heap.size, 0, none⟩ = some (.string ⟨key.toArray⟩) ∧ w'.cell? ⟨wr.heap.size, 1, none⟩ = some (.int .i64 k) ∧ w'.cell? ⟨wr.heap.size, 2, none⟩ = some (.bool b) ∧ w'.cell? ⟨wr.heap.size, 3, none⟩ = some (.int .i64 n) ∧ w'.cell? ⟨wr.heap.size, 4, none⟩ = some (.float .f64 f) ∧ w'.cell? ⟨wr.heap.size, 5, none⟩ = some (.string ⟨t.toArray⟩)) ∧ w'.cell? ⟨w.heap.size, 1, none⟩ = some (.slice (some ⟨B, o, none⟩) ps.length c2) ∧ w'.cell? ⟨B, o + q * 6, none⟩ = some (.string ⟨z.toArray⟩))) (by kernel_rfl) ?_ (fun hHeld => ?_)
              · (exact ⟨PR.facts HT.out.facts.2, HT.out.facts.1.1.cell 1 _ rfl, HZ.out _ HT.out.facts.1.2.2⟩)
              (refine wpAnyH_take (i := 0) (oi := R_IsNode2d_0) (v := ?_) rfl (by kernel_rfl) (by kernel_rfl) (by kernel_rfl) (fun _ _ _ h => h) (Or.inl ⟨by rfl, ?_⟩) (by assumption) ?_; rotate_left; next => (intro w hSw; (try dsimp only at hSw); (try delta R_IsNode2d_0); go_simp; try with_reducible rfl))
              (try simp only [Act.put, List.setIfInBounds_toArray, List.set_cons_zero, List.set_cons_succ])
              (refine wpAnyH_take (i := 1) (oi := R_IsNode2d_1) (v := ?_) rfl (by kernel_rfl) (by kernel_rfl) (by kernel_rfl) (fun _ _ _ h => h) (Or.inl ⟨by rfl, ?_⟩) (by assumption) ?_; rotate_left; next => (intro w hSw; (try dsimp only at hSw); (try delta R_IsNode2d_1); go_simp; try with_reducible rfl))
              (try simp only [Act.put, List.setIfInBounds_toArray, List.set_cons_zero, List.set_cons_succ])
              refine wpAnyH_ready (rs := [2]) (by kernel_rfl) (by simp) ?_
              refine AllReadyH.cons (o := R_IsNode2d_2) rfl (fun K hK => ?_) AllReadyH.nil
              (try delta R_IsNode2d_2)
              go_simp
              (first | (go_at_call 93; (with_reducible refine (HN.out _).mono ?_); rintro e wz ⟨rfl, rfl⟩) | (go_at_call 96; (with_reducible refine (HI.out _).mono ?_); rintro e wz ⟨rfl, hq2⟩; have HT := Lib.hid (Keep.on HT.out hq2); clear hq2))
              (try go_wp2_with fail)
              refine hK.out _ _ ?_ (fun hHeld => ?_)
              · (exact ⟨PR.facts HT.out.facts.2, HT.out.facts.1.1.cell 1 _ rfl, HZ.out _ HT.out.facts.1.2.2⟩)
              clear hK K
              (try simp only [Act.put, List.setIfInBounds_toArray, List.set_cons_zero, List.set_cons_succ])
              (refine wpAnyH_take (i := 3) (oi := R_IsNode2d_3) (v := ?_) rfl (by kernel_rfl) (by kernel_rfl) (by kernel_rfl) (fun _ _ _ h => h) (Or.inl ⟨by rfl, ?_⟩) (by assumption) ?_; rotate_left; next => (intro w hSw; (try dsimp only at hSw); (try delta R_IsNode2d_3); go_simp; try with_reducible rfl))
              (try simp only [Act.put, List.setIfInBounds_toArray, List.set_cons_zero, List.set_cons_succ])
              (refine wpAnyH_take (i := 4) (oi := R_IsNode2d_4) (v := ?_) rfl (by kernel_rfl) (by kernel_rfl) (by kernel_rfl) (fun _ _ _ h => h) (Or.inl ⟨by rfl, ?_⟩) (by assumption) ?_; rotate_left; next => (intro w hSw; (try dsimp only at hSw); (try delta R_IsNode2d_4); go_simp; try with_reducible rfl))
              (try simp only [Act.put, List.setIfInBounds_toArray, List.set_cons_zero, List.set_cons_succ])
              first | (refine wpAnyH_take (i := 5) (oi := R_IsNode2d_5) (v := undef) rfl (by kernel_rfl) (by kernel_rfl) (by kernel_rfl) (fun _ _ _ h => h) (Or.inr ⟨by rfl, rfl⟩) (by assumption) ?_) | (refine wpAnyH_take (i := 5) (oi := R_IsNode2d_5) (v := ?_) rfl (by kernel_rfl) (by kernel_rfl) (by kernel_rfl) (fun _ _ _ h => h) (Or.inl ⟨by rfl, ?_⟩) (by assumption) ?_; rotate_left; next => (intro w hSw; (try dsimp only at hSw); (try delta R_IsNode2d_5); go_simp; try with_reducible rfl))
              (try simp only [Act.put, List.setIfInBounds_toArray, List.set_cons_zero, List.set_cons_succ])
              first | (refine wpAnyH_take (i := 6) (oi := R_IsNode2d_6) (v := undef) rfl (by kernel_rfl) (by kernel_rfl) (by kernel_rfl) (fun _ _ _ h => h) (Or.inr ⟨by rfl, rfl⟩) (by assumption) ?_) | (refine wpAnyH_take (i := 6) (oi := R_IsNode2d_6) (v := ?_) rfl (by kernel_rfl) (by kernel_rfl) (by kernel_rfl) (fun _ _ _ h => h) (Or.inl ⟨by rfl, ?_⟩) (by assumption) ?_; rotate_left; next => (intro w hSw; (try dsimp only at hSw); (try delta R_IsNode2d_6); go_simp; try with_reducible rfl))
              (try simp only [Act.put, List.setIfInBounds_toArray, List.set_cons_zero, List.set_cons_succ])
              first | (refine wpAnyH_take (i := 7) (oi := R_IsNode2d_7) (v := undef) rfl (by kernel_rfl) (by kernel_rfl) (by kernel_rfl) (fun _ _ _ h => h) (Or.inr ⟨by rfl, rfl⟩) (by assumption) ?_) | (refine wpAnyH_take (i := 7) (oi := R_IsNode2d_7) (v := ?_) rfl (by kernel_rfl) (by kernel_rfl) (by kernel_rfl) (fun _ _ _ h => h) (Or.inl ⟨by rfl, ?_⟩) (by assumption) ?_; rotate_left; next => (intro w hSw; (try dsimp only at hSw); (try delta R_IsNode2d_7); go_simp; try with_reducible rfl))
              (try simp only [Act.put, List.setIfInBounds_toArray, List.set_cons_zero, List.set_cons_succ])
              first | (refine wpAnyH_take (i := 8) (oi := R_IsNode2d_8) (v := undef) rfl (by kernel_rfl) (by kernel_rfl) (by kernel_rfl) (fun _ _ _ h => h) (Or.inr ⟨by rfl, rfl⟩) (by assumption) ?_) | (refine wpAnyH_take (i := 8) (oi := R_IsNode2d_8) (v := ?_) rfl (by kernel_rfl) (by kernel_rfl) (by kernel_rfl) (fun _ _ _ h => h) (Or.inl ⟨by rfl, ?_⟩) (by assumption) ?_; rotate_left; next => (intro w hSw; (try dsimp only at hSw); (try delta R_IsNode2d_8); go_simp; try with_reducible rfl))
              (try simp only [Act.put, List.setIfInBounds_toArray, List.set_cons_zero, List.set_cons_succ])
              first | (refine wpAnyH_take (i := 9) (oi := R_IsNode2d_9) (v := undef) rfl (by kernel_rfl) (by kernel_rfl) (by kernel_rfl) (fun _ _ _ h => h) (Or.inr ⟨by rfl, rfl⟩) (by assumption) ?_) | (refine wpAnyH_take (i := 9) (oi := R_IsNode2d_9) (v := ?_) rfl (by kernel_rfl) (by kernel_rfl) (by kernel_rfl) (fun _ _ _ h => h) (Or.inl ⟨by rfl, ?_⟩) (by assumption) ?_; rotate_left; next => (intro w hSw; (try dsimp only at hSw); (try delta R_IsNode2d_9); go_simp; try with_reducible rfl))
              (try simp only [Act.put, List.setIfInBounds_toArray, List.set_cons_zero, List.set_cons_succ])
              first | (refine wpAnyH_take (i := 10) (oi := R_IsNode2d_10) (v := undef) rfl (by kernel_rfl) (by kernel_rfl) (by kernel_rfl) (fun _ _ _ h => h) (Or.inr ⟨by rfl, rfl⟩) (by assumption) ?_) | (refine wpAnyH_take (i := 10) (oi := R_IsNode2d_10) (v := ?_) rfl (by kernel_rfl) (by kernel_rfl) (by kernel_rfl) (fun _ _ _ h => h) (Or.inl ⟨by rfl, ?_⟩) (by assumption) ?_; rotate_left; next => (intro w hSw; (try dsimp only at hSw); (try delta R_IsNode2d_10); go_simp; try with_reducible rfl))
              (try simp only [Act.put, List.setIfInBounds_toArray, List.set_cons_zero, List.set_cons_succ])
              first | (refine wpAnyH_take (i := 11) (oi := R_IsNode2d_11) (v := undef) rfl (by kernel_rfl) (by kernel_rfl) (by kernel_rfl) (fun _ _ _ h => h) (Or.inr ⟨by rfl, rfl⟩) (by assumption) ?_) | (refine wpAnyH_take (i := 11) (oi := R_IsNode2d_11) (v := ?_) rfl (by kernel_rfl) (by kernel_rfl) (by kernel_rfl) (fun _ _ _ h => h) (Or.inl ⟨by rfl, ?_⟩) (by assumption) ?_; rotate_left; next => (intro w hSw; (try dsimp only at hSw); (try delta R_IsNode2d_11); go_simp; try with_reducible rfl))
              (try simp only [Act.put, List.setIfInBounds_toArray, List.set_cons_zero, List.set_cons_succ])
              first | (refine wpAnyH_take (i := 12) (oi := R_IsNode2d_12) (v := undef) rfl (by kernel_rfl) (by kernel_rfl) (by kernel_rfl) (fun _ _ _ h => h) (Or.inr ⟨by rfl, rfl⟩) (by assumption) ?_) | (refine wpAnyH_take (i := 12) (oi := R_IsNode2d_12) (v := ?_) rfl (by kernel_rfl) (by kernel_rfl) (by kernel_rfl) (fun _ _ _ h => h) (Or.inl ⟨by rfl, ?_⟩) (by assumption) ?_; rotate_left; next => (intro w hSw; (try dsimp only at hSw); (try delta R_IsNode2d_12); go_simp; try with_reducible rfl))
              (try simp only [Act.put, List.setIfInBounds_toArray, List.set_cons_zero, List.set_cons_succ])
              first | (refine wpAnyH_take (i := 13) (oi := R_IsNode2d_13) (v := undef) rfl (by kernel_rfl) (by kernel_rfl) (by kernel_rfl) (fun _ _ _ h => h) (Or.inr ⟨by rfl, rfl⟩) (by assumption) ?_) | (refine wpAnyH_take (i := 13) (oi := R_IsNode2d_13) (v := ?_) rfl (by kernel_rfl) (by kernel_rfl) (by kernel_rfl) (fun _ _ _ h => h) (Or.inl ⟨by rfl, ?_⟩) (by assumption) ?_; rotate_left; next => (intro w hSw; (try dsimp only at hSw); (try delta R_IsNode2d_13); go_simp; try with_reducible rfl))
              (try simp only [Act.put, List.setIfInBounds_toArray, List.set_cons_zero, List.set_cons_succ])
              first | (refine wpAnyH_take (i := 14) (oi := R_IsNode2d_14) (v := undef) rfl (by kernel_rfl) (by kernel_rfl) (by kernel_rfl) (fun _ _ _ h => h) (Or.inr ⟨by rfl, rfl⟩) (by assumption) ?_) | (refine wpAnyH_take (i := 14) (oi := R_IsNode2d_14) (v := ?_) rfl (by kernel_rfl) (by kernel_rfl) (by kernel_rfl) (fun _ _ _ h => h) (Or.inl ⟨by rfl, ?_⟩) (by assumption) ?_; rotate_left; next => (intro w hSw; (try dsimp only at hSw); (try delta R_IsNode2d_14); go_simp; try with_reducible rfl))
              (try simp only [Act.put, List.setIfInBounds_toArray, List.set_cons_zero, List.set_cons_succ])
              first | (refine wpAnyH_take (i := 15) (oi := R_IsNode2d_15) (v := undef) rfl (by kernel_rfl) (by kernel_rfl) (by kernel_rfl) (fun _ _ _ h => h) (Or.inr ⟨by rfl, rfl⟩) (by assumption) ?_) | (refine wpAnyH_take (i := 15) (oi := R_IsNode2d_15) (v := ?_) rfl (by kernel_rfl) (by kernel_rfl) (by kernel_rfl) (fun _ _ _ h => h) (Or.inl ⟨by rfl, ?_⟩) (by assumption) ?_; rotate_left; next => (intro w hSw; (try dsimp only at hSw); (try delta R_IsNode2d_15); go_simp; try with_reducible rfl))
              (try simp only [Act.put, List.setIfInBounds_toArray, List.set_cons_zero, List.set_cons_succ])
              first | (refine wpAnyH_take (i := 16) (oi := R_IsNode2d_16) (v := undef) rfl (by kernel_rfl) (by kernel_rfl) (by kernel_rfl) (fun _ _ _ h => h) (Or.inr ⟨by rfl, rfl⟩) (by assumption) ?_) | (refine wpAnyH_take (i := 16) (oi := R_IsNode2d_16) (v := ?_) rfl (by kernel_rfl) (by kernel_rfl) (by kernel_rfl) (fun _ _ _ h => h) (Or.inl ⟨by rfl, ?_⟩) (by assumption) ?_; rotate_left; next => (intro w hSw; (try dsimp only at hSw); (try delta R_IsNode2d_16); go_simp; try with_reducible rfl))
              (try simp only [Act.put, List.setIfInBounds_toArray, List.set_cons_zero, List.set_cons_succ])
              first | (refine wpAnyH_take (i := 17) (oi := R_IsNode2d_17) (v := undef) rfl (by kernel_rfl) (by kernel_rfl) (by kernel_rfl) (fun _ _ _ h => h) (Or.inr ⟨by rfl, rfl⟩) (by assumption) ?_) | (refine wpAnyH_take (i := 17) (oi := R_IsNode2d_17) (v := ?_) rfl (by kernel_rfl) (by kernel_rfl) (by kernel_rfl) (fun _ _ _ h => h) (Or.inl ⟨by rfl, ?_⟩) (by assumption) ?_; rotate_left; next => (intro w hSw; (try dsimp only at hSw); (try delta R_IsNode2d_17); go_simp; try with_reducible rfl))
              (try simp only [Act.put, List.setIfInBounds_toArray, List.set_cons_zero, List.set_cons_succ])
              first | (refine wpAnyH_take (i := 18) (oi := R_IsNode2d_18) (v := undef) rfl (by kernel_rfl) (by kernel_rfl) (by kernel_rfl) (fun _ _ _ h => h) (Or.inr ⟨by rfl, rfl⟩) (by assumption) ?_) | (refine wpAnyH_take (i := 18) (oi := R_IsNode2d_18) (v := ?_) rfl (by kernel_rfl) (by kernel_rfl) (by kernel_rfl) (fun _ _ _ h => h) (Or.inl ⟨by rfl, ?_⟩) (by assumption) ?_; rotate_left; next => (intro w hSw; (try dsimp only at hSw); (try delta R_IsNode2d_18); go_simp; try with_reducible rfl))
              (try simp only [Act.put, List.setIfInBounds_toArray, List.set_cons_zero, List.set_cons_succ])
              (refine wpAnyH_take (i := 19) (oi := R_IsNode2d_19) (v := ?_) rfl (by kernel_rfl) (by kernel_rfl) (by kernel_rfl) (fun _ _ _ h => h) (Or.inl ⟨by rfl, ?_⟩) (by assumption) ?_; rotate_left; next => (intro w hSw; (try dsimp only at hSw); (try delta R_IsNode2d_19); go_simp; try with_reducible rfl))
              (try simp only [Act.put, List.setIfInBounds_toArray, List.set_cons_zero, List.set_cons_succ])
              (refine wpAnyH_take (i := 20) (oi := R_IsNode2d_20) (v := ?_) rfl (by kernel_rfl) (by kernel_rfl) (by kernel_rfl) (fun _ _ _ h => h) (Or.inl ⟨by rfl, ?_⟩) (by assumption) ?_; rotate_left; next => (intro w hSw; (try dsimp only at hSw); (try delta R_IsNode2d_20); go_simp; try with_reducible rfl))
              (try simp only [Act.put, List.setIfInBounds_toArray, List.set_cons_zero, List.set_cons_succ])
              first | (refine wpAnyH_take (i := 21) (oi := R_IsNode2d_21) (v := undef) rfl (by kernel_rfl) (by kernel_rfl) (by kernel_rfl) (fun _ _ _ h => h) (Or.inr ⟨by rfl, rfl⟩) (by assumption) ?_) | (refine wpAnyH_take (i := 21) (oi := R_IsNode2d_21) (v := ?_) rfl (by kernel_rfl) (by kernel_rfl) (by kernel_rfl) (fun _ _ _ h => h) (Or.inl ⟨by rfl, ?_⟩) (by assumption) ?_; rotate_left; next => (intro w hSw; (try dsimp only at hSw); (try delta R_IsNode2d_21); go_simp; try with_reducible rfl))
              (try simp only [Act.put, List.setIfInBounds_toArray, List.set_cons_zero, List.set_cons_succ])
              first | (refine wpAnyH_take (i := 22) (oi := R_IsNode2d_22) (v := undef) rfl (by kernel_rfl) (by kernel_rfl) (by kernel_rfl) (fun _ _ _ h => h) (Or.inr ⟨by rfl, rfl⟩) (by assumption) ?_) | (refine wpAnyH_take (i := 22) (oi := R_IsNode2d_22) (v := ?_) rfl (by kernel_rfl) (by kernel_rfl) (by kernel_rfl) (fun _ _ _ h => h) (Or.inl ⟨by rfl, ?_⟩) (by assumption) ?_; rotate_left; next => (intro w hSw; (try dsimp only at hSw); (try delta R_IsNode2d_22); go_simp; try with_reducible rfl))
              (try simp only [Act.put, List.setIfInBounds_toArray, List.set_cons_zero, List.set_cons_succ])
              first
              | (refine wpAnyH_take (i := 23) (oi := R_IsNode2d_23) (v := undef) rfl (by kernel_rfl) (by kernel_rfl) (by kernel_rfl) (fun _ _ _ h => h) (Or.inr ⟨by rfl, rfl⟩) (by assumption) ?_
                 (try simp only [Act.put, List.setIfInBounds_toArray, List.set_cons_zero, List.set_cons_succ]))
              | (refine wpAnyH_ready (rs := [23]) (by kernel_rfl) (by simp) ?_
                 refine AllReadyH.cons (o := R_IsNode2d_23) rfl (fun K hK => ?_) AllReadyH.nil
                 (try delta R_IsNode2d_23)
                 go_simp
                 (first | (go_at_call 93; (with_reducible refine (HN.out _).mono ?_); rintro e wz ⟨rfl, rfl⟩) | (go_at_call 96; (with_reducible refine (HI.out _).mono ?_); rintro e wz ⟨rfl, hq2⟩; have HT := Lib.hid (Keep.on HT.out hq2); clear hq2))
                 (try go_wp2_with fail)
                 refine hK.out _ _ ?_ (fun hHeld => ?_)
                 · (exact ⟨PR.facts HT.out.facts.2, HT.out.facts.1.1.cell 1 _ rfl, HZ.out _ HT.out.facts.1.2.2⟩)
                 clear hK K
                 (try simp only [Act.put, List.setIfInBounds_toArray, List.set_cons_zero, List.set_cons_succ]))
              first | (refine wpAnyH_take (i := 24) (oi := R_IsNode2d_24) (v := undef) rfl (by kernel_rfl) (by kernel_rfl) (by kernel_rfl) (fun _ _ _ h => h) (Or.inr ⟨by rfl, rfl⟩) (by assumption) ?_) | (refine wpAnyH_take (i := 24) (oi := R_IsNode2d_24) (v := ?_) rfl (by kernel_rfl) (by kernel_rfl) (by kernel_rfl) (fun _ _ _ h => h) (Or.inl ⟨by rfl, ?_⟩) (by assumption) ?_; rotate_left; next => (intro w hSw; (try dsimp only at hSw); (try delta R_IsNode2d_24); go_simp; try with_reducible rfl))
              (try simp only [Act.put, List.setIfInBounds_toArray, List.set_cons_zero, List.set_cons_succ])
              (refine wpAnyH_take (i := 25) (oi := R_IsNode2d_25) (v := ?_) rfl (by kernel_rfl) (by kernel_rfl) (by kernel_rfl) (fun _ _ _ h => h) (Or.inl ⟨by rfl, ?_⟩) (by assumption) ?_; rotate_left; next => (intro w hSw; (try dsimp only at hSw); (try delta R_IsNode2d_25); go_simp; try with_reducible rfl))
              (try simp only [Act.put, List.setIfInBounds_toArray, List.set_cons_zero, List.set_cons_succ])
              (refine wpAnyH_take (i := 26) (oi := R_IsNode2d_26) (v := ?_) rfl (by kernel_rfl) (by kernel_rfl) (by kernel_rfl) (fun _ _ _ h => h) (Or.inl ⟨by rfl, ?_⟩) (by assumption) ?_; rotate_left; next => (intro w hSw; (try dsimp only at hSw); (try delta R_IsNode2d_26); go_simp; try with_reducible rfl))
              (try simp only [Act.put, List.setIfInBounds_toArray, List.set_cons_zero, List.set_cons_succ])
              first | (refine wpAnyH_take (i := 27) (oi := R_IsNode2d_27) (v := undef) rfl (by kernel_rfl) (by kernel_rfl) (by kernel_rfl) (fun _ _ _ h => h) (Or.inr ⟨by rfl, rfl⟩) (by assumption) ?_) | (refine wpAnyH_take (i := 27) (oi := R_IsNode2d_27) (v := ?_) rfl (by kernel_rfl) (by kernel_rfl) (by kernel_rfl) (fun _ _ _ h => h) (Or.inl ⟨by rfl, ?_⟩) (by assumption) ?_; rotate_left; next => (intro w hSw; (try dsimp only at hSw); (try delta R_IsNode2d_27); go_simp; try with_reducible rfl))
              (try simp only [Act.put, List.setIfInBounds_toArray, List.set_cons_zero, List.set_cons_succ])
              first | (refine wpAnyH_take (i := 28) (oi := R_IsNode2d_28) (v := undef) rfl (by kernel_rfl) (by kernel_rfl) (by kernel_rfl) (fun _ _ _ h => h) (Or.inr ⟨by rfl, rfl⟩) (by assumption) ?_) | (refine wpAnyH_take (i := 28) (oi := R_IsNode2d_28) (v := ?_) rfl (by kernel_rfl) (by kernel_rfl) (by kernel_rfl) (fun _ _ _ h => h) (Or.inl ⟨by rfl, ?_⟩) (by assumption) ?_; rotate_left; next => (intro w hSw; (try dsimp only at hSw); (try delta R_IsNode2d_28); go_simp; try with_reducible rfl))
              (try simp only [Act.put, List.setIfInBounds_toArray, List.set_cons_zero, List.set_cons_succ])
              first | (refine wpAnyH_take (i := 29) (oi := R_IsNode2d_29) (v := undef) rfl (by kernel_rfl) (by kernel_rfl) (by kernel_rfl) (fun _ _ _ h => h) (Or.inr ⟨by rfl, rfl⟩) (by assumption) ?_) | (refine wpAnyH_take (i := 29) (oi := R_IsNode2d_29) (v := ?_) rfl (by kernel_rfl) (by kernel_rfl) (by kernel_rfl) (fun _ _ _ h => h) (Or.inl ⟨by rfl, ?_⟩) (by assumption) ?_; rotate_left; next => (intro w hSw; (try dsimp only at hSw); (try delta R_IsNode2d_29); go_simp; try with_reducible rfl))
              (try simp only [Act.put, List.setIfInBounds_toArray, List.set_cons_zero, List.set_cons_succ])
              first | (refine wpAnyH_take (i := 30) (oi := R_IsNode2d_30) (v := undef) rfl (by kernel_rfl) (by kernel_rfl) (by kernel_rfl) (fun _ _ _ h => h) (Or.inr ⟨by rfl, rfl⟩) (by assumption) ?_) | (refine wpAnyH_take (i := 30) (oi := R_IsNode2d_30) (v := ?_) rfl (by kernel_rfl) (by kernel_rfl) (by kernel_rfl) (fun _ _ _ h => h) (Or.inl ⟨by rfl, ?_⟩) (by assumption) ?_; rotate_left; next => (intro w hSw; (try dsimp only at hSw); (try delta R_IsNode2d_30); go_simp; try with_reducible rfl))
              (try simp only [Act.put, List.setIfInBounds_toArray, List.set_cons_zero, List.set_cons_succ])
              (refine wpAnyH_take (i := 31) (oi := R_IsNode2d_31) (v := ?_) rfl (by kernel_rfl) (by kernel_rfl) (by kernel_rfl) (fun _ _ _ h => h) (Or.inl ⟨by rfl, ?_⟩) (by assumption) ?_; rotate_left; next => (intro w hSw; (try dsimp only at hSw); (try delta R_IsNode2d_31); go_simp; try with_reducible rfl))
              (try simp only [Act.put, List.setIfInBounds_toArray, List.set_cons_zero, List.set_cons_succ])
              refine wpAnyH_done (by kernel_rfl) ?_ _
              go_wp2_with fail
              first
              | (go_ret; exact ⟨by rw [HF.out rfl]; rfl, HT.out.below⟩)
              | (go_roundw
                 case rel => exact ⟨q + 1 + 1, by omega, by first | rfl | go_num, HTR.out rfl, HT.out.fst⟩
                 case measure => simp [intOf]; omega)
        · obtain rfl : m = ps.length := by omega
          have HV : Hid (r = (decide ((ss.length : Int) ≤ 3) && decide ((ps.length : Int) ≤ 3))) := Lib.hid (by
            have h1 := HALL.out.1
            have h2 : namesB (ps.map PR.key) = true := by have := HALL.out.2; unfold namesB; rwa [List.length_map]
            rw [List.take_of_length_le (Nat.le_refl _)] at h1
            rw [HNB.out, h1, h2, HNS.out]; simp)
          clear hkp HALL HB2 HNB HNS
          by_cases h3 : (ss.length : Int) ≤ 3
          · by_cases h4 : (ps.length : Int) ≤ 3
            all_goals
              go_wp2_with fail
              go_ret
              exact ⟨by rw [HV.out]; first | (simp [h3, h4]; done) | (simp [h3, h4]; omega) | (simp; omega), HK2.out.below⟩
          · go_wp2_with fail
            go_ret
            exact ⟨by rw [HV.out]; first | (simp [h3]; done) | (simp [h3]; omega) | (simp; omega), HK2.out.below⟩
end Go.Proofs.YtmbffncmogpkfaaGreatDoor
