
/- Contracts of the reference's log: read. -/
import Derived.Test.YtlllbacjdjllbaaDoorRl1
import Derived.Test.YtlllbacjdjllbaaDoorRp1
import Derived.Deep.DeepCutAuto
namespace Go.Proofs.YtlllbacjdjllbaaDoor
open Go Go.Proofs Go.Shelf Go.RowKit Go.Great
set_option linter.unusedVariables false
set_option linter.unusedSimpArgs false
abbrev R_RRd10_0 : Oper := { dst := some 40, op := Op.move (Operand.tmp 5), type := 100, pos := "redo.go:36", after := #[], guard := none }
abbrev R_RRd10_1 : Oper := { dst := some 41, op := Op.nilCheck (Operand.tmp 40), type := 0, pos := "redo.go:36", after := #[{ on := 0, ground := Ground.data }], guard := none }
abbrev R_RRd10_10 : Oper := { dst := some 50, op := Op.fieldAddr 57 (Operand.tmp 6) 0, type := 0, pos := "redo.go:36", after := #[{ on := 9, ground := Ground.guard }], guard := some (9, false) }
abbrev R_RRd10_11 : Oper := { dst := some 51, op := Op.load 3 (Operand.tmp 50), type := 3, pos := "redo.go:36", after := #[{ on := 10, ground := Ground.data }, { on := 9, ground := Ground.guard }], guard := some (9, false) }
abbrev R_RRd10_12 : Oper := { dst := some 52, op := Op.binOp BinOp.gtr 3 (Operand.tmp 51) (Operand.const (Value.int IntKind.i64 1099511627776)) 3, type := 4, pos := "redo.go:36", after := #[{ on := 11, ground := Ground.data }, { on := 9, ground := Ground.guard }], guard := some (9, false) }
abbrev R_RRd10_13 : Oper := { dst := some 53, op := Op.pick (Operand.tmp 49) (Operand.const (Value.bool true)) (Operand.tmp 52), type := 4, pos := "redo.go:36", after := #[{ on := 9, ground := Ground.data }, { on := 12, ground := Ground.data }], guard := none }
abbrev R_RRd10_14 : Oper := { dst := some 54, op := Op.move (Operand.tmp 53), type := 4, pos := "redo.go:36", after := #[{ on := 13, ground := Ground.data }, { on := 9, ground := Ground.chain }], guard := none }
abbrev R_RRd10_15 : Oper := { dst := some 55, op := Op.fieldAddr 57 (Operand.tmp 6) 1, type := 0, pos := "redo.go:36", after := #[{ on := 14, ground := Ground.guard }], guard := some (14, false) }
abbrev R_RRd10_16 : Oper := { dst := some 56, op := Op.load 3 (Operand.tmp 55), type := 3, pos := "redo.go:36", after := #[{ on := 15, ground := Ground.data }, { on := 14, ground := Ground.guard }], guard := some (14, false) }
abbrev R_RRd10_17 : Oper := { dst := some 57, op := Op.binOp BinOp.lss 3 (Operand.tmp 56) (Operand.const (Value.int IntKind.i64 0)) 3, type := 4, pos := "redo.go:36", after := #[{ on := 16, ground := Ground.data }, { on := 14, ground := Ground.guard }], guard := some (14, false) }
abbrev R_RRd10_18 : Oper := { dst := some 58, op := Op.pick (Operand.tmp 54) (Operand.const (Value.bool true)) (Operand.tmp 57), type := 4, pos := "redo.go:36", after := #[{ on := 14, ground := Ground.data }, { on := 17, ground := Ground.data }], guard := none }
abbrev R_RRd10_19 : Oper := { dst := some 59, op := Op.move (Operand.tmp 58), type := 4, pos := "redo.go:36", after := #[{ on := 18, ground := Ground.data }, { on := 14, ground := Ground.chain }], guard := none }
abbrev R_RRd10_2 : Oper := { dst := some 42, op := Op.fieldAddr 102 (Operand.tmp 41) 1, type := 0, pos := "redo.go:36", after := #[{ on := 1, ground := Ground.data }], guard := none }
abbrev R_RRd10_20 : Oper := { dst := some 60, op := Op.fieldAddr 57 (Operand.tmp 6) 1, type := 0, pos := "redo.go:36", after := #[{ on := 19, ground := Ground.guard }], guard := some (19, false) }
abbrev R_RRd10_21 : Oper := { dst := some 61, op := Op.load 3 (Operand.tmp 60), type := 3, pos := "redo.go:36", after := #[{ on := 20, ground := Ground.data }, { on := 19, ground := Ground.guard }], guard := some (19, false) }
abbrev R_RRd10_22 : Oper := { dst := some 62, op := Op.binOp BinOp.gtr 3 (Operand.tmp 61) (Operand.const (Value.int IntKind.i64 1)) 3, type := 4, pos := "redo.go:36", after := #[{ on := 21, ground := Ground.data }, { on := 19, ground := Ground.guard }], guard := some (19, false) }
abbrev R_RRd10_23 : Oper := { dst := some 63, op := Op.pick (Operand.tmp 59) (Operand.const (Value.bool true)) (Operand.tmp 62), type := 4, pos := "redo.go:36", after := #[{ on := 19, ground := Ground.data }, { on := 22, ground := Ground.data }], guard := none }
abbrev R_RRd10_24 : Oper := { dst := some 64, op := Op.move (Operand.tmp 63), type := 4, pos := "redo.go:36", after := #[{ on := 23, ground := Ground.data }, { on := 19, ground := Ground.chain }], guard := none }
abbrev R_RRd10_25 : Oper := { dst := some 65, op := Op.fieldAddr 57 (Operand.tmp 6) 2, type := 0, pos := "redo.go:36", after := #[{ on := 24, ground := Ground.guard }], guard := some (24, false) }
abbrev R_RRd10_26 : Oper := { dst := some 66, op := Op.load 3 (Operand.tmp 65), type := 3, pos := "redo.go:36", after := #[{ on := 25, ground := Ground.data }, { on := 24, ground := Ground.guard }], guard := some (24, false) }
abbrev R_RRd10_27 : Oper := { dst := some 67, op := Op.binOp BinOp.lss 3 (Operand.tmp 66) (Operand.const (Value.int IntKind.i64 0)) 3, type := 4, pos := "redo.go:36", after := #[{ on := 26, ground := Ground.data }, { on := 24, ground := Ground.guard }], guard := some (24, false) }
abbrev R_RRd10_28 : Oper := { dst := some 68, op := Op.pick (Operand.tmp 64) (Operand.const (Value.bool true)) (Operand.tmp 67), type := 4, pos := "redo.go:36", after := #[{ on := 24, ground := Ground.data }, { on := 27, ground := Ground.data }], guard := none }
abbrev R_RRd10_29 : Oper := { dst := some 69, op := Op.move (Operand.tmp 68), type := 4, pos := "redo.go:36", after := #[{ on := 28, ground := Ground.data }, { on := 24, ground := Ground.chain }], guard := none }
abbrev R_RRd10_3 : Oper := { dst := some 43, op := Op.load 4 (Operand.tmp 42), type := 4, pos := "redo.go:36", after := #[{ on := 2, ground := Ground.data }], guard := none }
abbrev R_RRd10_30 : Oper := { dst := some 70, op := Op.fieldAddr 57 (Operand.tmp 6) 2, type := 0, pos := "redo.go:36", after := #[{ on := 29, ground := Ground.guard }], guard := some (29, false) }
abbrev R_RRd10_31 : Oper := { dst := some 71, op := Op.load 3 (Operand.tmp 70), type := 3, pos := "redo.go:36", after := #[{ on := 30, ground := Ground.data }, { on := 29, ground := Ground.guard }], guard := some (29, false) }
abbrev R_RRd10_32 : Oper := { dst := some 72, op := Op.move (Operand.tmp 0), type := 45, pos := "redo.go:36", after := #[{ on := 29, ground := Ground.guard }], guard := some (29, false) }
abbrev R_RRd10_33 : Oper := { dst := some 73, op := Op.call { callee := Callee.value (Operand.func 44), args := #[Operand.tmp 72], argTypes := #[45] }, type := 3, pos := "redo.go:36", after := #[{ on := 32, ground := Ground.data }, { on := 29, ground := Ground.chain }, { on := 29, ground := Ground.guard }], guard := some (29, false) }
abbrev R_RRd10_34 : Oper := { dst := some 74, op := Op.binOp BinOp.mul 3 (Operand.tmp 73) (Operand.const (Value.int IntKind.i64 64)) 3, type := 3, pos := "redo.go:36", after := #[{ on := 33, ground := Ground.data }, { on := 29, ground := Ground.guard }], guard := some (29, false) }
abbrev R_RRd10_35 : Oper := { dst := some 75, op := Op.binOp BinOp.gtr 3 (Operand.tmp 71) (Operand.tmp 74) 3, type := 4, pos := "redo.go:36", after := #[{ on := 31, ground := Ground.data }, { on := 34, ground := Ground.data }, { on := 29, ground := Ground.guard }], guard := some (29, false) }
abbrev R_RRd10_36 : Oper := { dst := some 76, op := Op.pick (Operand.tmp 69) (Operand.const (Value.bool true)) (Operand.tmp 75), type := 4, pos := "redo.go:36", after := #[{ on := 29, ground := Ground.data }, { on := 35, ground := Ground.data }], guard := none }
abbrev R_RRd10_4 : Oper := { dst := some 44, op := Op.move (Operand.tmp 43), type := 4, pos := "redo.go:36", after := #[{ on := 3, ground := Ground.data }], guard := none }
abbrev R_RRd10_5 : Oper := { dst := some 45, op := Op.fieldAddr 57 (Operand.tmp 6) 0, type := 0, pos := "redo.go:36", after := #[{ on := 4, ground := Ground.guard }], guard := some (4, false) }
abbrev R_RRd10_6 : Oper := { dst := some 46, op := Op.load 3 (Operand.tmp 45), type := 3, pos := "redo.go:36", after := #[{ on := 5, ground := Ground.data }, { on := 4, ground := Ground.guard }], guard := some (4, false) }
abbrev R_RRd10_7 : Oper := { dst := some 47, op := Op.binOp BinOp.lss 3 (Operand.tmp 46) (Operand.const (Value.int IntKind.i64 1)) 3, type := 4, pos := "redo.go:36", after := #[{ on := 6, ground := Ground.data }, { on := 4, ground := Ground.guard }], guard := some (4, false) }
abbrev R_RRd10_8 : Oper := { dst := some 48, op := Op.pick (Operand.tmp 44) (Operand.const (Value.bool true)) (Operand.tmp 47), type := 4, pos := "redo.go:36", after := #[{ on := 4, ground := Ground.data }, { on := 7, ground := Ground.data }], guard := none }
abbrev R_RRd10_9 : Oper := { dst := some 49, op := Op.move (Operand.tmp 48), type := 4, pos := "redo.go:36", after := #[{ on := 8, ground := Ground.data }, { on := 4, ground := Ground.chain }], guard := none }

theorem infoRHead : (Tryd.prog.info? 57).map (·.size) = some 3 := by kernel_rfl
theorem headEndT {t : TypeId} {w w7 : World} {n1 n2 n3 : Int} (h : BlkT w7 w.heap.size [.int .i64 0, .int .i64 0, .int .i64 0] t) (hb : Below w.heap.size w w7) :
    BlkT (((w7.setCell ⟨w.heap.size, 0, none⟩ (.int .i64 n1)).setCell ⟨w.heap.size, 1, none⟩ (.int .i64 n2)).setCell ⟨w.heap.size, 2, none⟩ (.int .i64 n3)) w.heap.size [.int .i64 n1, .int .i64 n2, .int .i64 n3] t ∧
    Below w.heap.size w (((w7.setCell ⟨w.heap.size, 0, none⟩ (.int .i64 n1)).setCell ⟨w.heap.size, 1, none⟩ (.int .i64 n2)).setCell ⟨w.heap.size, 2, none⟩ (.int .i64 n3)) := by
  have g1 : ∀ {W : World} (j : Nat) (u : Value), Below w.heap.size w W → Below w.heap.size w (W.setCell ⟨w.heap.size, j, none⟩ u) := fun {W} j u hb => hb.grown (grownBy_set W w.heap.size j u) hb.size (fun k hk => by cases hk; exact Nat.le_refl _)
  exact ⟨(((h.set 0 _).set 1 _).set 2 _), (g1 2 _ (g1 1 _ (g1 0 _ hb)))⟩
section
variable {lo X : Nat} {ov sv wv : Value} {d : PD} {left : Int} {w : World}
set_option maxRecDepth 100000 in
set_option maxHeartbeats 8000000 in
theorem read_c (h : RDAt lo w X ov sv wv d left) (hn : 4 ≤ d.n) (i : Nat) (hi : i < d.n) : Calls Tryd.prog 43 #[.pointer (some ⟨X, 0, none⟩), .int .i64 (i : Int)] w fun e w' => e = .returned (readH d i).val ∧ Below w.heap.size w w' := by
  have HD := Lib.hid h
  have HRD := Lib.hid (fun (W : World) (hb : Below w.heap.size w W) => RRead_c (h.below hb) (i : Int))
  have HRP : Hid (readP d (i : Int) = sec d.now i) := Lib.hid (by unfold readP; rw [if_pos ⟨by omega, by omega⟩, Int.toNat_natCast])
  rw [HRP.out] at HRD
  have hl := sec_len h.ok.now hi
  have HN := Lib.hid (fun hh => readH_none (d := d) (i := i) hh)
  have HS := Lib.hid (fun r hh => readH_some (d := d) (i := i) (r := r) hh)
  have CBK := Lib.hid (fun W (hb : Below w.heap.size w W) => sectors_c (h.below hb) (by omega : 2 ≤ d.n))
  have hqb : bankP d ≤ 100 := by unfold bankP; have := h.ok.n; omega
  clear h HRP
  generalize readH d i = hq at *
  generalize sec d.now i = b at *
  generalize bankP d = qb at *
  have HWQ : Hid (IntKind.i64.wrap ((qb : Int) * 64) = (qb : Int) * 64) := Lib.hid (by rw [IntKind.wrap_i64]; omega)
  have HL := Lib.hid hl
  clear hl
  go_enter Tryd.func43, Tryd.ntmps43
  go_wp2_with fail
  with_reducible refine (HRD.out _ ((Below.refl _ w).alloc (Nat.le_refl _) _)).mono ?_
  rintro e w1 ⟨v1, rfl, hown, hb1⟩
  have hr1 := hown
  obtain ⟨a1, c1, rfl⟩ := hr1.shapeB
  have HB1 := Lib.hid (((Below.refl _ w).alloc (Nat.le_refl _) _).trans (hb1.mono (by simp)))
  have HA0 : Hid (BlkT w1 w.heap.size [.int .i64 0, .int .i64 0, .int .i64 0] 57) := Lib.hid ((BlkT.new w [.int .i64 0, .int .i64 0, .int .i64 0] 57).below hb1)
  have HB0 : Hid (w.heap.size < w1.heap.size) := Lib.hid (by have := hb1.size; simp at this; omega)
  obtain ⟨R, hap, hRl⟩ := Apart.ofRow hr1 (Nat.le_refl w1.heap.size)
  have hcur : CurAt R (w1.alloc (.cells #[.slice a1 b.length c1, .bool false] 102)) w1.heap.size (some b) := by
    have q := Blk.new w1 [.slice a1 b.length c1, .bool false] 102
    exact ⟨_, q.cell 0 _ rfl, q.cell 1 _ rfl, q.thaw 0, q.thaw 1, hr1.below ((Below.refl _ w1).alloc (Nat.le_refl _) _), hap⟩
  have H2 := Lib.hid (cstart hcur ((Below.refl _ w1).alloc (Nat.le_refl _) (.cells #[.slice a1 b.length c1, .bool false] 102)) (Nat.le_refl w1.heap.size))
  have HRl := Lib.hid hRl
  clear hown hb1 hr1 hap hcur hRl
  go_wp2_with fail
  with_reducible refine (XInt_c w1.heap.size (some b) _ H2.out.cur).mono ?_
  rintro e w3 ⟨rfl, hc3, hg3⟩
  have H3 := Lib.hid (H2.out.call hc3 hg3)
  have HS3 := hg3.size
  clear hc3 hg3
  have hdr : headRd b = (⟨(curInt (some b)).1, (curInt (curInt (some b)).2).1, (curInt (curInt (curInt (some b)).2).2).1⟩, (curInt (curInt (curInt (some b)).2).2).2) := rfl
  generalize hX : headRd b = hh at *
  have HX := Lib.hid hX
  clear hX
  obtain ⟨⟨n1, n2, n3⟩, c3⟩ := hh
  injection hdr with hdr hdc
  injection hdr with hd1 hd2 hd3
  rw [← hd1]
  generalize (curInt (some b)).2 = cc1 at *
  clear hd1
  have HD2 := Lib.hid hd2
  have HD3 := Lib.hid hd3
  have HDC := Lib.hid hdc
  clear hd2 hd3 hdc
  go_wp2_with fail
  have A3 : Hid (CS R w1.heap.size w1 cc1 (w3.alloc (.cells #[.int .i64 n1, .int .i64 0, .int .i64 0] 57))) := Lib.hid (H3.out.below ((Below.refl _ w3).alloc (Nat.le_refl _) _))
  have B3 : Hid (Blk (w3.alloc (.cells #[.int .i64 n1, .int .i64 0, .int .i64 0] 57)) w3.heap.size [.int .i64 n1, .int .i64 0, .int .i64 0]) := Lib.hid (Blk.new w3 _ _)
  have HLX : Hid (w1.heap.size ≤ w3.heap.size ∧ w1.heap.size ≠ w3.heap.size ∧ R ≠ some w3.heap.size ∧ w.heap.size < w1.heap.size) := Lib.hid ⟨by simp at HS3; omega, by simp at HS3; omega, fun e => by have := (HRl.out _ e).1; simp at HS3; omega, HB0.out⟩
  generalize w3.heap.size = lb at *
  generalize hBq : w1.heap.size = B at *
  have HBQ := Lib.hid hBq
  clear hBq
  with_reducible refine (XInt_c B cc1 _ A3.out.cur).mono ?_
  rintro e w4 ⟨rfl, hc4, hg4⟩
  have H4 := Lib.hid (A3.out.call hc4 hg4)
  have B4 := Lib.hid (B3.out.grown hg4 (fun e => HLX.out.2.1 (Option.some.inj e)))
  clear hc4 hg4 A3 B3 H3 HS3
  rw [← HD2.out]
  generalize (curInt cc1).2 = cc2 at *
  clear HD2
  have e1 := B4.out.cell 1 _ rfl
  have f1 := B4.out.thaw 1
  go_wp2_with fail
  clear e1 f1
  have H5 := Lib.hid (H4.out.set (by rw [HBQ.out]; exact HLX.out.1) HLX.out.2.1 HLX.out.2.2.1 1 (.int .i64 n2))
  have B5 := Lib.hid (B4.out.set 1 (.int .i64 n2))
  clear H4 B4
  with_reducible refine (XInt_c B cc2 _ H5.out.cur).mono ?_
  rintro e w5 ⟨rfl, hc5, hg5⟩
  have H6 := Lib.hid (H5.out.call hc5 hg5)
  have B6 := Lib.hid (B5.out.grown hg5 (fun e => HLX.out.2.1 (Option.some.inj e)))
  clear hc5 hg5 H5 B5
  rw [← HD3.out]
  rw [← HDC.out] at H6
  clear HD3 HDC
  have e2 := B6.out.cell 2 _ rfl
  have f2 := B6.out.thaw 2
  have H7 := Lib.hid (H6.out.set (by rw [HBQ.out]; exact HLX.out.1) HLX.out.2.1 HLX.out.2.2.1 2 (.int .i64 n3))
  have B7 := Lib.hid (B6.out.set 2 (.int .i64 n3))
  clear H6 B6
  go_wp2_with fail
  clear e2 f2
  generalize (w5.setCell ⟨lb, 2, none⟩ (.int .i64 n3)) = w7 at *
  have HBW : Hid (Below w.heap.size w w7) := Lib.hid (HB1.out.trans (H7.out.bel.mono (by rw [HBQ.out]; exact Nat.le_of_lt HLX.out.2.2.2)))
  have HA4 : Hid (BlkT w7 w.heap.size [.int .i64 0, .int .i64 0, .int .i64 0] 57) := Lib.hid (HA0.out.below H7.out.bel)
  have HBD := Lib.hid (HBW.out.drew)
  obtain ⟨v7, k0, k1, f0, f1, hrow, hapt⟩ := H7.out.cur
  obtain ⟨xa, ca, rfl⟩ := hrow.shape
  rw [bytesV_length] at k0 hrow
  have HRW := Lib.hid hrow
  have hrl : (c3.getD []).length ≤ 9223372036854775807 := by have := hrow.1; rw [bytesV_length] at this; unfold maxLen at this; omega
  clear hapt f0 f1 hrow
  have a0 := HA4.out.blk.cell 0 _ rfl
  have a1' := HA4.out.blk.cell 1 _ rfl
  have a2 := HA4.out.blk.cell 2 _ rfl
  have q0 := HA4.out.blk.thaw 0
  have q1 := HA4.out.blk.thaw 1
  have q2 := HA4.out.blk.thaw 2
  have s0 := B7.out.cell 0 _ rfl
  have s1 := B7.out.cell 1 _ rfl
  have s2 := B7.out.cell 2 _ rfl
  have hlw : ¬ lb = w.heap.size := by have := HLX.out; omega
  have HEZ := Lib.hid (headEndT (n1 := 0) (n2 := 0) (n3 := 0) HA4.out HBW.out)
  have HEZd := Lib.hid (headEndT (n1 := 0) (n2 := 0) (n3 := 0) (HA4.out.below (Below.refl _ w7).drew) HBD.out)
  have HEN := Lib.hid (headEndT (n1 := n1) (n2 := n2) (n3 := n3) (HA4.out.below (Below.refl _ w7).drew) HBD.out)
  generalize hr3 : c3.getD [] = r at *
  have HR3 := Lib.hid hr3
  clear hr3
  go_loopw [7] (fun k wr => ∃ j : Nat, j ≤ r.length ∧ (∀ x ∈ r.take j, x = 0) ∧ k = .int .i64 (j : Int) ∧ wr = w7) (fun k _ => r.length - (intOf k).toNat)
  case atStart => exact ⟨0, by omega, by simp, rfl, rfl⟩
  case round =>
    obtain ⟨j, hj, hz, rfl, rfl⟩ := hrel
    have HZ := Lib.hid hz
    clear hz
    by_cases hjl : j < r.length
    case pos =>
      obtain ⟨bb, o, rfl, hbl, hx⟩ := HRW.out.cellAt j (by simpa using hjl)
      rw [bytesV_get] at hx
      unfold byteV at hx
      by_cases hx0 : r[j] = 0
      · have HZ2 : Hid (∀ x ∈ r.take (j + 1), x = 0) := Lib.hid (by
          rw [← List.take_append_getElem hjl]
          intro b hb
          rcases List.mem_append.1 hb with hb | hb
          · exact HZ.out b hb
          · rw [List.mem_singleton.1 hb]; exact hx0)
        rw [hx0] at hx
        go_wp2_with fail
        go_roundw
        case rel => exact ⟨j + 1, by omega, HZ2.out, by go_num, trivial⟩
        case measure => simp [intOf]; omega
      · have HX0 : Hid (c3 = some r ∧ ¬ ∀ x ∈ r, x = 0) := Lib.hid (by
          refine ⟨?_, fun h => hx0 (h _ (List.getElem_mem hjl))⟩
          have := HR3.out
          cases c3 with
          | none => simp at this; subst this; simp at hjl
          | some l => simpa using this)
        have hxn : ¬ (r[j].toNat : Int) = 0 := fun h => hx0 (by
          have : r[j].toNat = 0 := by omega
          exact UInt8.toNat_inj.1 (by simpa using this))
        generalize r[j] = x at *
        go_wp2_with fail
        refine bodyPost_ret (results_cell_row rfl _ _ w.heap.size 57 #[_, _, _] (0, 0) _ rfl HEZ.out.1 Tryd.underlying57 rfl infoRHead) rfl ?_
        refine ⟨?_, HEZ.out.2⟩
        rw [HS.out _ HX0.out.1, if_neg (fun h => HX0.out.2 h.1)]
        rfl
    case neg =>
      obtain rfl : j = r.length := by omega
      have HZA : Hid (∀ x ∈ r, x = 0) := Lib.hid (by have := HZ.out; rwa [List.take_of_length_le (Nat.le_refl _)] at this)
      clear hj hjl
      cases c3
      case none =>
        simp only [Option.isNone_none] at k1
        go_wp2_with fail
        refine wp_region_held_drew (S := (fun W => W.cell? ⟨B, 1, none⟩ = some (.bool true) ∧ W.cell? ⟨lb, 0, none⟩ = some (.int .i64 n1) ∧ W.cell? ⟨lb, 1, none⟩ = some (.int .i64 n2) ∧ W.cell? ⟨lb, 2, none⟩ = some (.int .i64 n3))) (by kernel_rfl) ?_ (fun hHeld => ?_)
        · (exact ⟨k1, s0, s1, s2⟩)
        (refine wpAnyH_take (i := 0) (oi := R_RRd10_0) (v := ?_) rfl (by kernel_rfl) (by kernel_rfl) (by kernel_rfl) (fun _ _ _ h => h) (Or.inl ⟨by rfl, ?_⟩) (by assumption) ?_; rotate_left; next => (intro w hSw; (try dsimp only at hSw); (try delta R_RRd10_0); go_simp; try with_reducible rfl))
        (try simp only [Act.put, List.setIfInBounds_toArray, List.set_cons_zero, List.set_cons_succ])
        (refine wpAnyH_take (i := 1) (oi := R_RRd10_1) (v := ?_) rfl (by kernel_rfl) (by kernel_rfl) (by kernel_rfl) (fun _ _ _ h => h) (Or.inl ⟨by rfl, ?_⟩) (by assumption) ?_; rotate_left; next => (intro w hSw; (try dsimp only at hSw); (try delta R_RRd10_1); go_simp; try with_reducible rfl))
        (try simp only [Act.put, List.setIfInBounds_toArray, List.set_cons_zero, List.set_cons_succ])
        (refine wpAnyH_take (i := 2) (oi := R_RRd10_2) (v := ?_) rfl (by kernel_rfl) (by kernel_rfl) (by kernel_rfl) (fun _ _ _ h => h) (Or.inl ⟨by rfl, ?_⟩) (by assumption) ?_; rotate_left; next => (intro w hSw; (try dsimp only at hSw); (try delta R_RRd10_2); go_simp; try with_reducible rfl))
        (try simp only [Act.put, List.setIfInBounds_toArray, List.set_cons_zero, List.set_cons_succ])
        (refine wpAnyH_take (i := 3) (oi := R_RRd10_3) (v := ?_) rfl (by kernel_rfl) (by kernel_rfl) (by kernel_rfl) (fun _ _ _ h => h) (Or.inl ⟨by rfl, ?_⟩) (by assumption) ?_; rotate_left; next => (intro w hSw; (try dsimp only at hSw); (try delta R_RRd10_3); go_simp; try with_reducible rfl))
        (try simp only [Act.put, List.setIfInBounds_toArray, List.set_cons_zero, List.set_cons_succ])
        (refine wpAnyH_take (i := 4) (oi := R_RRd10_4) (v := ?_) rfl (by kernel_rfl) (by kernel_rfl) (by kernel_rfl) (fun _ _ _ h => h) (Or.inl ⟨by rfl, ?_⟩) (by assumption) ?_; rotate_left; next => (intro w hSw; (try dsimp only at hSw); (try delta R_RRd10_4); go_simp; try with_reducible rfl))
        (try simp only [Act.put, List.setIfInBounds_toArray, List.set_cons_zero, List.set_cons_succ])
        first | (refine wpAnyH_take (i := 5) (oi := R_RRd10_5) (v := undef) rfl (by kernel_rfl) (by kernel_rfl) (by kernel_rfl) (fun _ _ _ h => h) (Or.inr ⟨by rfl, rfl⟩) (by assumption) ?_) | (refine wpAnyH_take (i := 5) (oi := R_RRd10_5) (v := ?_) rfl (by kernel_rfl) (by kernel_rfl) (by kernel_rfl) (fun _ _ _ h => h) (Or.inl ⟨by rfl, ?_⟩) (by assumption) ?_; rotate_left; next => (intro w hSw; (try dsimp only at hSw); (try delta R_RRd10_5); go_simp; try with_reducible rfl))
        (try simp only [Act.put, List.setIfInBounds_toArray, List.set_cons_zero, List.set_cons_succ])
        first | (refine wpAnyH_take (i := 6) (oi := R_RRd10_6) (v := undef) rfl (by kernel_rfl) (by kernel_rfl) (by kernel_rfl) (fun _ _ _ h => h) (Or.inr ⟨by rfl, rfl⟩) (by assumption) ?_) | (refine wpAnyH_take (i := 6) (oi := R_RRd10_6) (v := ?_) rfl (by kernel_rfl) (by kernel_rfl) (by kernel_rfl) (fun _ _ _ h => h) (Or.inl ⟨by rfl, ?_⟩) (by assumption) ?_; rotate_left; next => (intro w hSw; (try dsimp only at hSw); (try delta R_RRd10_6); go_simp; try with_reducible rfl))
        (try simp only [Act.put, List.setIfInBounds_toArray, List.set_cons_zero, List.set_cons_succ])
        first | (refine wpAnyH_take (i := 7) (oi := R_RRd10_7) (v := undef) rfl (by kernel_rfl) (by kernel_rfl) (by kernel_rfl) (fun _ _ _ h => h) (Or.inr ⟨by rfl, rfl⟩) (by assumption) ?_) | (refine wpAnyH_take (i := 7) (oi := R_RRd10_7) (v := ?_) rfl (by kernel_rfl) (by kernel_rfl) (by kernel_rfl) (fun _ _ _ h => h) (Or.inl ⟨by rfl, ?_⟩) (by assumption) ?_; rotate_left; next => (intro w hSw; (try dsimp only at hSw); (try delta R_RRd10_7); go_simp; try with_reducible rfl))
        (try simp only [Act.put, List.setIfInBounds_toArray, List.set_cons_zero, List.set_cons_succ])
        (refine wpAnyH_take (i := 8) (oi := R_RRd10_8) (v := ?_) rfl (by kernel_rfl) (by kernel_rfl) (by kernel_rfl) (fun _ _ _ h => h) (Or.inl ⟨by rfl, ?_⟩) (by assumption) ?_; rotate_left; next => (intro w hSw; (try dsimp only at hSw); (try delta R_RRd10_8); go_simp; try with_reducible rfl))
        (try simp only [Act.put, List.setIfInBounds_toArray, List.set_cons_zero, List.set_cons_succ])
        (refine wpAnyH_take (i := 9) (oi := R_RRd10_9) (v := ?_) rfl (by kernel_rfl) (by kernel_rfl) (by kernel_rfl) (fun _ _ _ h => h) (Or.inl ⟨by rfl, ?_⟩) (by assumption) ?_; rotate_left; next => (intro w hSw; (try dsimp only at hSw); (try delta R_RRd10_9); go_simp; try with_reducible rfl))
        (try simp only [Act.put, List.setIfInBounds_toArray, List.set_cons_zero, List.set_cons_succ])
        first | (refine wpAnyH_take (i := 10) (oi := R_RRd10_10) (v := undef) rfl (by kernel_rfl) (by kernel_rfl) (by kernel_rfl) (fun _ _ _ h => h) (Or.inr ⟨by rfl, rfl⟩) (by assumption) ?_) | (refine wpAnyH_take (i := 10) (oi := R_RRd10_10) (v := ?_) rfl (by kernel_rfl) (by kernel_rfl) (by kernel_rfl) (fun _ _ _ h => h) (Or.inl ⟨by rfl, ?_⟩) (by assumption) ?_; rotate_left; next => (intro w hSw; (try dsimp only at hSw); (try delta R_RRd10_10); go_simp; try with_reducible rfl))
        (try simp only [Act.put, List.setIfInBounds_toArray, List.set_cons_zero, List.set_cons_succ])
        first | (refine wpAnyH_take (i := 11) (oi := R_RRd10_11) (v := undef) rfl (by kernel_rfl) (by kernel_rfl) (by kernel_rfl) (fun _ _ _ h => h) (Or.inr ⟨by rfl, rfl⟩) (by assumption) ?_) | (refine wpAnyH_take (i := 11) (oi := R_RRd10_11) (v := ?_) rfl (by kernel_rfl) (by kernel_rfl) (by kernel_rfl) (fun _ _ _ h => h) (Or.inl ⟨by rfl, ?_⟩) (by assumption) ?_; rotate_left; next => (intro w hSw; (try dsimp only at hSw); (try delta R_RRd10_11); go_simp; try with_reducible rfl))
        (try simp only [Act.put, List.setIfInBounds_toArray, List.set_cons_zero, List.set_cons_succ])
        first | (refine wpAnyH_take (i := 12) (oi := R_RRd10_12) (v := undef) rfl (by kernel_rfl) (by kernel_rfl) (by kernel_rfl) (fun _ _ _ h => h) (Or.inr ⟨by rfl, rfl⟩) (by assumption) ?_) | (refine wpAnyH_take (i := 12) (oi := R_RRd10_12) (v := ?_) rfl (by kernel_rfl) (by kernel_rfl) (by kernel_rfl) (fun _ _ _ h => h) (Or.inl ⟨by rfl, ?_⟩) (by assumption) ?_; rotate_left; next => (intro w hSw; (try dsimp only at hSw); (try delta R_RRd10_12); go_simp; try with_reducible rfl))
        (try simp only [Act.put, List.setIfInBounds_toArray, List.set_cons_zero, List.set_cons_succ])
        (refine wpAnyH_take (i := 13) (oi := R_RRd10_13) (v := ?_) rfl (by kernel_rfl) (by kernel_rfl) (by kernel_rfl) (fun _ _ _ h => h) (Or.inl ⟨by rfl, ?_⟩) (by assumption) ?_; rotate_left; next => (intro w hSw; (try dsimp only at hSw); (try delta R_RRd10_13); go_simp; try with_reducible rfl))
        (try simp only [Act.put, List.setIfInBounds_toArray, List.set_cons_zero, List.set_cons_succ])
        (refine wpAnyH_take (i := 14) (oi := R_RRd10_14) (v := ?_) rfl (by kernel_rfl) (by kernel_rfl) (by kernel_rfl) (fun _ _ _ h => h) (Or.inl ⟨by rfl, ?_⟩) (by assumption) ?_; rotate_left; next => (intro w hSw; (try dsimp only at hSw); (try delta R_RRd10_14); go_simp; try with_reducible rfl))
        (try simp only [Act.put, List.setIfInBounds_toArray, List.set_cons_zero, List.set_cons_succ])
        first | (refine wpAnyH_take (i := 15) (oi := R_RRd10_15) (v := undef) rfl (by kernel_rfl) (by kernel_rfl) (by kernel_rfl) (fun _ _ _ h => h) (Or.inr ⟨by rfl, rfl⟩) (by assumption) ?_) | (refine wpAnyH_take (i := 15) (oi := R_RRd10_15) (v := ?_) rfl (by kernel_rfl) (by kernel_rfl) (by kernel_rfl) (fun _ _ _ h => h) (Or.inl ⟨by rfl, ?_⟩) (by assumption) ?_; rotate_left; next => (intro w hSw; (try dsimp only at hSw); (try delta R_RRd10_15); go_simp; try with_reducible rfl))
        (try simp only [Act.put, List.setIfInBounds_toArray, List.set_cons_zero, List.set_cons_succ])
        first | (refine wpAnyH_take (i := 16) (oi := R_RRd10_16) (v := undef) rfl (by kernel_rfl) (by kernel_rfl) (by kernel_rfl) (fun _ _ _ h => h) (Or.inr ⟨by rfl, rfl⟩) (by assumption) ?_) | (refine wpAnyH_take (i := 16) (oi := R_RRd10_16) (v := ?_) rfl (by kernel_rfl) (by kernel_rfl) (by kernel_rfl) (fun _ _ _ h => h) (Or.inl ⟨by rfl, ?_⟩) (by assumption) ?_; rotate_left; next => (intro w hSw; (try dsimp only at hSw); (try delta R_RRd10_16); go_simp; try with_reducible rfl))
        (try simp only [Act.put, List.setIfInBounds_toArray, List.set_cons_zero, List.set_cons_succ])
        first | (refine wpAnyH_take (i := 17) (oi := R_RRd10_17) (v := undef) rfl (by kernel_rfl) (by kernel_rfl) (by kernel_rfl) (fun _ _ _ h => h) (Or.inr ⟨by rfl, rfl⟩) (by assumption) ?_) | (refine wpAnyH_take (i := 17) (oi := R_RRd10_17) (v := ?_) rfl (by kernel_rfl) (by kernel_rfl) (by kernel_rfl) (fun _ _ _ h => h) (Or.inl ⟨by rfl, ?_⟩) (by assumption) ?_; rotate_left; next => (intro w hSw; (try dsimp only at hSw); (try delta R_RRd10_17); go_simp; try with_reducible rfl))
        (try simp only [Act.put, List.setIfInBounds_toArray, List.set_cons_zero, List.set_cons_succ])
        (refine wpAnyH_take (i := 18) (oi := R_RRd10_18) (v := ?_) rfl (by kernel_rfl) (by kernel_rfl) (by kernel_rfl) (fun _ _ _ h => h) (Or.inl ⟨by rfl, ?_⟩) (by assumption) ?_; rotate_left; next => (intro w hSw; (try dsimp only at hSw); (try delta R_RRd10_18); go_simp; try with_reducible rfl))
        (try simp only [Act.put, List.setIfInBounds_toArray, List.set_cons_zero, List.set_cons_succ])
        (refine wpAnyH_take (i := 19) (oi := R_RRd10_19) (v := ?_) rfl (by kernel_rfl) (by kernel_rfl) (by kernel_rfl) (fun _ _ _ h => h) (Or.inl ⟨by rfl, ?_⟩) (by assumption) ?_; rotate_left; next => (intro w hSw; (try dsimp only at hSw); (try delta R_RRd10_19); go_simp; try with_reducible rfl))
        (try simp only [Act.put, List.setIfInBounds_toArray, List.set_cons_zero, List.set_cons_succ])
        first | (refine wpAnyH_take (i := 20) (oi := R_RRd10_20) (v := undef) rfl (by kernel_rfl) (by kernel_rfl) (by kernel_rfl) (fun _ _ _ h => h) (Or.inr ⟨by rfl, rfl⟩) (by assumption) ?_) | (refine wpAnyH_take (i := 20) (oi := R_RRd10_20) (v := ?_) rfl (by kernel_rfl) (by kernel_rfl) (by kernel_rfl) (fun _ _ _ h => h) (Or.inl ⟨by rfl, ?_⟩) (by assumption) ?_; rotate_left; next => (intro w hSw; (try dsimp only at hSw); (try delta R_RRd10_20); go_simp; try with_reducible rfl))
        (try simp only [Act.put, List.setIfInBounds_toArray, List.set_cons_zero, List.set_cons_succ])
        first | (refine wpAnyH_take (i := 21) (oi := R_RRd10_21) (v := undef) rfl (by kernel_rfl) (by kernel_rfl) (by kernel_rfl) (fun _ _ _ h => h) (Or.inr ⟨by rfl, rfl⟩) (by assumption) ?_) | (refine wpAnyH_take (i := 21) (oi := R_RRd10_21) (v := ?_) rfl (by kernel_rfl) (by kernel_rfl) (by kernel_rfl) (fun _ _ _ h => h) (Or.inl ⟨by rfl, ?_⟩) (by assumption) ?_; rotate_left; next => (intro w hSw; (try dsimp only at hSw); (try delta R_RRd10_21); go_simp; try with_reducible rfl))
        (try simp only [Act.put, List.setIfInBounds_toArray, List.set_cons_zero, List.set_cons_succ])
        first | (refine wpAnyH_take (i := 22) (oi := R_RRd10_22) (v := undef) rfl (by kernel_rfl) (by kernel_rfl) (by kernel_rfl) (fun _ _ _ h => h) (Or.inr ⟨by rfl, rfl⟩) (by assumption) ?_) | (refine wpAnyH_take (i := 22) (oi := R_RRd10_22) (v := ?_) rfl (by kernel_rfl) (by kernel_rfl) (by kernel_rfl) (fun _ _ _ h => h) (Or.inl ⟨by rfl, ?_⟩) (by assumption) ?_; rotate_left; next => (intro w hSw; (try dsimp only at hSw); (try delta R_RRd10_22); go_simp; try with_reducible rfl))
        (try simp only [Act.put, List.setIfInBounds_toArray, List.set_cons_zero, List.set_cons_succ])
        (refine wpAnyH_take (i := 23) (oi := R_RRd10_23) (v := ?_) rfl (by kernel_rfl) (by kernel_rfl) (by kernel_rfl) (fun _ _ _ h => h) (Or.inl ⟨by rfl, ?_⟩) (by assumption) ?_; rotate_left; next => (intro w hSw; (try dsimp only at hSw); (try delta R_RRd10_23); go_simp; try with_reducible rfl))
        (try simp only [Act.put, List.setIfInBounds_toArray, List.set_cons_zero, List.set_cons_succ])
        (refine wpAnyH_take (i := 24) (oi := R_RRd10_24) (v := ?_) rfl (by kernel_rfl) (by kernel_rfl) (by kernel_rfl) (fun _ _ _ h => h) (Or.inl ⟨by rfl, ?_⟩) (by assumption) ?_; rotate_left; next => (intro w hSw; (try dsimp only at hSw); (try delta R_RRd10_24); go_simp; try with_reducible rfl))
        (try simp only [Act.put, List.setIfInBounds_toArray, List.set_cons_zero, List.set_cons_succ])
        first | (refine wpAnyH_take (i := 25) (oi := R_RRd10_25) (v := undef) rfl (by kernel_rfl) (by kernel_rfl) (by kernel_rfl) (fun _ _ _ h => h) (Or.inr ⟨by rfl, rfl⟩) (by assumption) ?_) | (refine wpAnyH_take (i := 25) (oi := R_RRd10_25) (v := ?_) rfl (by kernel_rfl) (by kernel_rfl) (by kernel_rfl) (fun _ _ _ h => h) (Or.inl ⟨by rfl, ?_⟩) (by assumption) ?_; rotate_left; next => (intro w hSw; (try dsimp only at hSw); (try delta R_RRd10_25); go_simp; try with_reducible rfl))
        (try simp only [Act.put, List.setIfInBounds_toArray, List.set_cons_zero, List.set_cons_succ])
        first | (refine wpAnyH_take (i := 26) (oi := R_RRd10_26) (v := undef) rfl (by kernel_rfl) (by kernel_rfl) (by kernel_rfl) (fun _ _ _ h => h) (Or.inr ⟨by rfl, rfl⟩) (by assumption) ?_) | (refine wpAnyH_take (i := 26) (oi := R_RRd10_26) (v := ?_) rfl (by kernel_rfl) (by kernel_rfl) (by kernel_rfl) (fun _ _ _ h => h) (Or.inl ⟨by rfl, ?_⟩) (by assumption) ?_; rotate_left; next => (intro w hSw; (try dsimp only at hSw); (try delta R_RRd10_26); go_simp; try with_reducible rfl))
        (try simp only [Act.put, List.setIfInBounds_toArray, List.set_cons_zero, List.set_cons_succ])
        first | (refine wpAnyH_take (i := 27) (oi := R_RRd10_27) (v := undef) rfl (by kernel_rfl) (by kernel_rfl) (by kernel_rfl) (fun _ _ _ h => h) (Or.inr ⟨by rfl, rfl⟩) (by assumption) ?_) | (refine wpAnyH_take (i := 27) (oi := R_RRd10_27) (v := ?_) rfl (by kernel_rfl) (by kernel_rfl) (by kernel_rfl) (fun _ _ _ h => h) (Or.inl ⟨by rfl, ?_⟩) (by assumption) ?_; rotate_left; next => (intro w hSw; (try dsimp only at hSw); (try delta R_RRd10_27); go_simp; try with_reducible rfl))
        (try simp only [Act.put, List.setIfInBounds_toArray, List.set_cons_zero, List.set_cons_succ])
        (refine wpAnyH_take (i := 28) (oi := R_RRd10_28) (v := ?_) rfl (by kernel_rfl) (by kernel_rfl) (by kernel_rfl) (fun _ _ _ h => h) (Or.inl ⟨by rfl, ?_⟩) (by assumption) ?_; rotate_left; next => (intro w hSw; (try dsimp only at hSw); (try delta R_RRd10_28); go_simp; try with_reducible rfl))
        (try simp only [Act.put, List.setIfInBounds_toArray, List.set_cons_zero, List.set_cons_succ])
        (refine wpAnyH_take (i := 29) (oi := R_RRd10_29) (v := ?_) rfl (by kernel_rfl) (by kernel_rfl) (by kernel_rfl) (fun _ _ _ h => h) (Or.inl ⟨by rfl, ?_⟩) (by assumption) ?_; rotate_left; next => (intro w hSw; (try dsimp only at hSw); (try delta R_RRd10_29); go_simp; try with_reducible rfl))
        (try simp only [Act.put, List.setIfInBounds_toArray, List.set_cons_zero, List.set_cons_succ])
        first | (refine wpAnyH_take (i := 30) (oi := R_RRd10_30) (v := undef) rfl (by kernel_rfl) (by kernel_rfl) (by kernel_rfl) (fun _ _ _ h => h) (Or.inr ⟨by rfl, rfl⟩) (by assumption) ?_) | (refine wpAnyH_take (i := 30) (oi := R_RRd10_30) (v := ?_) rfl (by kernel_rfl) (by kernel_rfl) (by kernel_rfl) (fun _ _ _ h => h) (Or.inl ⟨by rfl, ?_⟩) (by assumption) ?_; rotate_left; next => (intro w hSw; (try dsimp only at hSw); (try delta R_RRd10_30); go_simp; try with_reducible rfl))
        (try simp only [Act.put, List.setIfInBounds_toArray, List.set_cons_zero, List.set_cons_succ])
        first | (refine wpAnyH_take (i := 31) (oi := R_RRd10_31) (v := undef) rfl (by kernel_rfl) (by kernel_rfl) (by kernel_rfl) (fun _ _ _ h => h) (Or.inr ⟨by rfl, rfl⟩) (by assumption) ?_) | (refine wpAnyH_take (i := 31) (oi := R_RRd10_31) (v := ?_) rfl (by kernel_rfl) (by kernel_rfl) (by kernel_rfl) (fun _ _ _ h => h) (Or.inl ⟨by rfl, ?_⟩) (by assumption) ?_; rotate_left; next => (intro w hSw; (try dsimp only at hSw); (try delta R_RRd10_31); go_simp; try with_reducible rfl))
        (try simp only [Act.put, List.setIfInBounds_toArray, List.set_cons_zero, List.set_cons_succ])
        first | (refine wpAnyH_take (i := 32) (oi := R_RRd10_32) (v := undef) rfl (by kernel_rfl) (by kernel_rfl) (by kernel_rfl) (fun _ _ _ h => h) (Or.inr ⟨by rfl, rfl⟩) (by assumption) ?_) | (refine wpAnyH_take (i := 32) (oi := R_RRd10_32) (v := ?_) rfl (by kernel_rfl) (by kernel_rfl) (by kernel_rfl) (fun _ _ _ h => h) (Or.inl ⟨by rfl, ?_⟩) (by assumption) ?_; rotate_left; next => (intro w hSw; (try dsimp only at hSw); (try delta R_RRd10_32); go_simp; try with_reducible rfl))
        (try simp only [Act.put, List.setIfInBounds_toArray, List.set_cons_zero, List.set_cons_succ])
        first
        | (refine wpAnyH_take (i := 33) (oi := R_RRd10_33) (v := undef) rfl (by kernel_rfl) (by kernel_rfl) (by kernel_rfl) (fun _ _ _ h => h) (Or.inr ⟨by rfl, rfl⟩) (by assumption) ?_
           (try simp only [Act.put, List.setIfInBounds_toArray, List.set_cons_zero, List.set_cons_succ]))
        | (refine wpAnyH_ready (rs := [33]) (by kernel_rfl) (by simp) ?_
           refine AllReadyH.cons (o := R_RRd10_33) rfl (fun K hK => ?_) AllReadyH.nil
           (try delta R_RRd10_33)
           go_simp
           (first | (go_at_call 44; (with_reducible refine (CBK.out _ HBD.out).mono ?_); rintro e wz ⟨rfl, rfl⟩) | fail)
           (try go_wp2_with fail)
           refine hK.out _ _ ?_ (fun hHeld => ?_)
           · (exact ⟨k1, s0, s1, s2⟩)
           clear hK K
           (try simp only [Act.put, List.setIfInBounds_toArray, List.set_cons_zero, List.set_cons_succ]))
        first | (refine wpAnyH_take (i := 34) (oi := R_RRd10_34) (v := undef) rfl (by kernel_rfl) (by kernel_rfl) (by kernel_rfl) (fun _ _ _ h => h) (Or.inr ⟨by rfl, rfl⟩) (by assumption) ?_) | (refine wpAnyH_take (i := 34) (oi := R_RRd10_34) (v := ?_) rfl (by kernel_rfl) (by kernel_rfl) (by kernel_rfl) (fun _ _ _ h => h) (Or.inl ⟨by rfl, ?_⟩) (by assumption) ?_; rotate_left; next => (intro w hSw; (try dsimp only at hSw); (try delta R_RRd10_34); go_simp; try with_reducible rfl))
        (try simp only [Act.put, List.setIfInBounds_toArray, List.set_cons_zero, List.set_cons_succ])
        first | (refine wpAnyH_take (i := 35) (oi := R_RRd10_35) (v := undef) rfl (by kernel_rfl) (by kernel_rfl) (by kernel_rfl) (fun _ _ _ h => h) (Or.inr ⟨by rfl, rfl⟩) (by assumption) ?_) | (refine wpAnyH_take (i := 35) (oi := R_RRd10_35) (v := ?_) rfl (by kernel_rfl) (by kernel_rfl) (by kernel_rfl) (fun _ _ _ h => h) (Or.inl ⟨by rfl, ?_⟩) (by assumption) ?_; rotate_left; next => (intro w hSw; (try dsimp only at hSw); (try delta R_RRd10_35); go_simp; try with_reducible rfl))
        (try simp only [Act.put, List.setIfInBounds_toArray, List.set_cons_zero, List.set_cons_succ])
        (refine wpAnyH_take (i := 36) (oi := R_RRd10_36) (v := ?_) rfl (by kernel_rfl) (by kernel_rfl) (by kernel_rfl) (fun _ _ _ h => h) (Or.inl ⟨by rfl, ?_⟩) (by assumption) ?_; rotate_left; next => (intro w hSw; (try dsimp only at hSw); (try delta R_RRd10_36); go_simp; try with_reducible rfl))
        (try simp only [Act.put, List.setIfInBounds_toArray, List.set_cons_zero, List.set_cons_succ])
        refine wpAnyH_done (by kernel_rfl) ?_ _
        go_wp2_with fail
        refine bodyPost_ret (results_cell_row rfl _ _ w.heap.size 57 #[_, _, _] (0, 0) _ rfl HEZd.out.1 Tryd.underlying57 rfl infoRHead) rfl ?_
        exact ⟨by rw [HN.out (by simp)]; rfl, HEZd.out.2⟩
      rename_i l3
      obtain rfl : l3 = r := HR3.out
      simp only [Option.isNone_some] at k1
      have HQ := Lib.hid (HS.out _ rfl)
      clear HN HS
      by_cases kd1 : n1 < 1
      · have KD1 : Hid (decide (n1 < 1) = true) := Lib.hid (decide_eq_true kd1)
        have HF : Hid (hq = ⟨0, 0, 0⟩) := Lib.hid (by rw [HQ.out, if_neg]; rintro ⟨_, o⟩; unfold okRd at o; simp only at o; omega)
        go_wp2_with fail
        refine wp_region_held_drew (S := (fun W => W.cell? ⟨B, 1, none⟩ = some (.bool false) ∧ W.cell? ⟨lb, 0, none⟩ = some (.int .i64 n1) ∧ W.cell? ⟨lb, 1, none⟩ = some (.int .i64 n2) ∧ W.cell? ⟨lb, 2, none⟩ = some (.int .i64 n3))) (by kernel_rfl) ?_ (fun hHeld => ?_)
        · (exact ⟨k1, s0, s1, s2⟩)
        (refine wpAnyH_take (i := 0) (oi := R_RRd10_0) (v := ?_) rfl (by kernel_rfl) (by kernel_rfl) (by kernel_rfl) (fun _ _ _ h => h) (Or.inl ⟨by rfl, ?_⟩) (by assumption) ?_; rotate_left; next => (intro w hSw; (try dsimp only at hSw); (try delta R_RRd10_0); go_simp; try with_reducible rfl))
        ((try simp only [Act.put, List.setIfInBounds_toArray, List.set_cons_zero, List.set_cons_succ]); (try simp only [KD1.out]))
        (refine wpAnyH_take (i := 1) (oi := R_RRd10_1) (v := ?_) rfl (by kernel_rfl) (by kernel_rfl) (by kernel_rfl) (fun _ _ _ h => h) (Or.inl ⟨by rfl, ?_⟩) (by assumption) ?_; rotate_left; next => (intro w hSw; (try dsimp only at hSw); (try delta R_RRd10_1); go_simp; try with_reducible rfl))
        ((try simp only [Act.put, List.setIfInBounds_toArray, List.set_cons_zero, List.set_cons_succ]); (try simp only [KD1.out]))
        (refine wpAnyH_take (i := 2) (oi := R_RRd10_2) (v := ?_) rfl (by kernel_rfl) (by kernel_rfl) (by kernel_rfl) (fun _ _ _ h => h) (Or.inl ⟨by rfl, ?_⟩) (by assumption) ?_; rotate_left; next => (intro w hSw; (try dsimp only at hSw); (try delta R_RRd10_2); go_simp; try with_reducible rfl))
        ((try simp only [Act.put, List.setIfInBounds_toArray, List.set_cons_zero, List.set_cons_succ]); (try simp only [KD1.out]))
        (refine wpAnyH_take (i := 3) (oi := R_RRd10_3) (v := ?_) rfl (by kernel_rfl) (by kernel_rfl) (by kernel_rfl) (fun _ _ _ h => h) (Or.inl ⟨by rfl, ?_⟩) (by assumption) ?_; rotate_left; next => (intro w hSw; (try dsimp only at hSw); (try delta R_RRd10_3); go_simp; try with_reducible rfl))
        ((try simp only [Act.put, List.setIfInBounds_toArray, List.set_cons_zero, List.set_cons_succ]); (try simp only [KD1.out]))
        (refine wpAnyH_take (i := 4) (oi := R_RRd10_4) (v := ?_) rfl (by kernel_rfl) (by kernel_rfl) (by kernel_rfl) (fun _ _ _ h => h) (Or.inl ⟨by rfl, ?_⟩) (by assumption) ?_; rotate_left; next => (intro w hSw; (try dsimp only at hSw); (try delta R_RRd10_4); go_simp; try with_reducible rfl))
        ((try simp only [Act.put, List.setIfInBounds_toArray, List.set_cons_zero, List.set_cons_succ]); (try simp only [KD1.out]))
        first | (refine wpAnyH_take (i := 5) (oi := R_RRd10_5) (v := undef) rfl (by kernel_rfl) (by kernel_rfl) (by kernel_rfl) (fun _ _ _ h => h) (Or.inr ⟨by rfl, rfl⟩) (by assumption) ?_) | (refine wpAnyH_take (i := 5) (oi := R_RRd10_5) (v := ?_) rfl (by kernel_rfl) (by kernel_rfl) (by kernel_rfl) (fun _ _ _ h => h) (Or.inl ⟨by rfl, ?_⟩) (by assumption) ?_; rotate_left; next => (intro w hSw; (try dsimp only at hSw); (try delta R_RRd10_5); go_simp; try with_reducible rfl))
        ((try simp only [Act.put, List.setIfInBounds_toArray, List.set_cons_zero, List.set_cons_succ]); (try simp only [KD1.out]))
        first | (refine wpAnyH_take (i := 6) (oi := R_RRd10_6) (v := undef) rfl (by kernel_rfl) (by kernel_rfl) (by kernel_rfl) (fun _ _ _ h => h) (Or.inr ⟨by rfl, rfl⟩) (by assumption) ?_) | (refine wpAnyH_take (i := 6) (oi := R_RRd10_6) (v := ?_) rfl (by kernel_rfl) (by kernel_rfl) (by kernel_rfl) (fun _ _ _ h => h) (Or.inl ⟨by rfl, ?_⟩) (by assumption) ?_; rotate_left; next => (intro w hSw; (try dsimp only at hSw); (try delta R_RRd10_6); go_simp; try with_reducible rfl))
        ((try simp only [Act.put, List.setIfInBounds_toArray, List.set_cons_zero, List.set_cons_succ]); (try simp only [KD1.out]))
        first | (refine wpAnyH_take (i := 7) (oi := R_RRd10_7) (v := undef) rfl (by kernel_rfl) (by kernel_rfl) (by kernel_rfl) (fun _ _ _ h => h) (Or.inr ⟨by rfl, rfl⟩) (by assumption) ?_) | (refine wpAnyH_take (i := 7) (oi := R_RRd10_7) (v := ?_) rfl (by kernel_rfl) (by kernel_rfl) (by kernel_rfl) (fun _ _ _ h => h) (Or.inl ⟨by rfl, ?_⟩) (by assumption) ?_; rotate_left; next => (intro w hSw; (try dsimp only at hSw); (try delta R_RRd10_7); go_simp; try with_reducible rfl))
        ((try simp only [Act.put, List.setIfInBounds_toArray, List.set_cons_zero, List.set_cons_succ]); (try simp only [KD1.out]))
        (refine wpAnyH_take (i := 8) (oi := R_RRd10_8) (v := ?_) rfl (by kernel_rfl) (by kernel_rfl) (by kernel_rfl) (fun _ _ _ h => h) (Or.inl ⟨by rfl, ?_⟩) (by assumption) ?_; rotate_left; next => (intro w hSw; (try dsimp only at hSw); (try delta R_RRd10_8); go_simp; try with_reducible rfl))
        ((try simp only [Act.put, List.setIfInBounds_toArray, List.set_cons_zero, List.set_cons_succ]); (try simp only [KD1.out]))
        (refine wpAnyH_take (i := 9) (oi := R_RRd10_9) (v := ?_) rfl (by kernel_rfl) (by kernel_rfl) (by kernel_rfl) (fun _ _ _ h => h) (Or.inl ⟨by rfl, ?_⟩) (by assumption) ?_; rotate_left; next => (intro w hSw; (try dsimp only at hSw); (try delta R_RRd10_9); go_simp; try with_reducible rfl))
        ((try simp only [Act.put, List.setIfInBounds_toArray, List.set_cons_zero, List.set_cons_succ]); (try simp only [KD1.out]))
        first | (refine wpAnyH_take (i := 10) (oi := R_RRd10_10) (v := undef) rfl (by kernel_rfl) (by kernel_rfl) (by kernel_rfl) (fun _ _ _ h => h) (Or.inr ⟨by rfl, rfl⟩) (by assumption) ?_) | (refine wpAnyH_take (i := 10) (oi := R_RRd10_10) (v := ?_) rfl (by kernel_rfl) (by kernel_rfl) (by kernel_rfl) (fun _ _ _ h => h) (Or.inl ⟨by rfl, ?_⟩) (by assumption) ?_; rotate_left; next => (intro w hSw; (try dsimp only at hSw); (try delta R_RRd10_10); go_simp; try with_reducible rfl))
        ((try simp only [Act.put, List.setIfInBounds_toArray, List.set_cons_zero, List.set_cons_succ]); (try simp only [KD1.out]))
        first | (refine wpAnyH_take (i := 11) (oi := R_RRd10_11) (v := undef) rfl (by kernel_rfl) (by kernel_rfl) (by kernel_rfl) (fun _ _ _ h => h) (Or.inr ⟨by rfl, rfl⟩) (by assumption) ?_) | (refine wpAnyH_take (i := 11) (oi := R_RRd10_11) (v := ?_) rfl (by kernel_rfl) (by kernel_rfl) (by kernel_rfl) (fun _ _ _ h => h) (Or.inl ⟨by rfl, ?_⟩) (by assumption) ?_; rotate_left; next => (intro w hSw; (try dsimp only at hSw); (try delta R_RRd10_11); go_simp; try with_reducible rfl))
        ((try simp only [Act.put, List.setIfInBounds_toArray, List.set_cons_zero, List.set_cons_succ]); (try simp only [KD1.out]))
        first | (refine wpAnyH_take (i := 12) (oi := R_RRd10_12) (v := undef) rfl (by kernel_rfl) (by kernel_rfl) (by kernel_rfl) (fun _ _ _ h => h) (Or.inr ⟨by rfl, rfl⟩) (by assumption) ?_) | (refine wpAnyH_take (i := 12) (oi := R_RRd10_12) (v := ?_) rfl (by kernel_rfl) (by kernel_rfl) (by kernel_rfl) (fun _ _ _ h => h) (Or.inl ⟨by rfl, ?_⟩) (by assumption) ?_; rotate_left; next => (intro w hSw; (try dsimp only at hSw); (try delta R_RRd10_12); go_simp; try with_reducible rfl))
        ((try simp only [Act.put, List.setIfInBounds_toArray, List.set_cons_zero, List.set_cons_succ]); (try simp only [KD1.out]))
        (refine wpAnyH_take (i := 13) (oi := R_RRd10_13) (v := ?_) rfl (by kernel_rfl) (by kernel_rfl) (by kernel_rfl) (fun _ _ _ h => h) (Or.inl ⟨by rfl, ?_⟩) (by assumption) ?_; rotate_left; next => (intro w hSw; (try dsimp only at hSw); (try delta R_RRd10_13); go_simp; try with_reducible rfl))
        ((try simp only [Act.put, List.setIfInBounds_toArray, List.set_cons_zero, List.set_cons_succ]); (try simp only [KD1.out]))
        (refine wpAnyH_take (i := 14) (oi := R_RRd10_14) (v := ?_) rfl (by kernel_rfl) (by kernel_rfl) (by kernel_rfl) (fun _ _ _ h => h) (Or.inl ⟨by rfl, ?_⟩) (by assumption) ?_; rotate_left; next => (intro w hSw; (try dsimp only at hSw); (try delta R_RRd10_14); go_simp; try with_reducible rfl))
        ((try simp only [Act.put, List.setIfInBounds_toArray, List.set_cons_zero, List.set_cons_succ]); (try simp only [KD1.out]))
        first | (refine wpAnyH_take (i := 15) (oi := R_RRd10_15) (v := undef) rfl (by kernel_rfl) (by kernel_rfl) (by kernel_rfl) (fun _ _ _ h => h) (Or.inr ⟨by rfl, rfl⟩) (by assumption) ?_) | (refine wpAnyH_take (i := 15) (oi := R_RRd10_15) (v := ?_) rfl (by kernel_rfl) (by kernel_rfl) (by kernel_rfl) (fun _ _ _ h => h) (Or.inl ⟨by rfl, ?_⟩) (by assumption) ?_; rotate_left; next => (intro w hSw; (try dsimp only at hSw); (try delta R_RRd10_15); go_simp; try with_reducible rfl))
        ((try simp only [Act.put, List.setIfInBounds_toArray, List.set_cons_zero, List.set_cons_succ]); (try simp only [KD1.out]))
        first | (refine wpAnyH_take (i := 16) (oi := R_RRd10_16) (v := undef) rfl (by kernel_rfl) (by kernel_rfl) (by kernel_rfl) (fun _ _ _ h => h) (Or.inr ⟨by rfl, rfl⟩) (by assumption) ?_) | (refine wpAnyH_take (i := 16) (oi := R_RRd10_16) (v := ?_) rfl (by kernel_rfl) (by kernel_rfl) (by kernel_rfl) (fun _ _ _ h => h) (Or.inl ⟨by rfl, ?_⟩) (by assumption) ?_; rotate_left; next => (intro w hSw; (try dsimp only at hSw); (try delta R_RRd10_16); go_simp; try with_reducible rfl))
        ((try simp only [Act.put, List.setIfInBounds_toArray, List.set_cons_zero, List.set_cons_succ]); (try simp only [KD1.out]))
        first | (refine wpAnyH_take (i := 17) (oi := R_RRd10_17) (v := undef) rfl (by kernel_rfl) (by kernel_rfl) (by kernel_rfl) (fun _ _ _ h => h) (Or.inr ⟨by rfl, rfl⟩) (by assumption) ?_) | (refine wpAnyH_take (i := 17) (oi := R_RRd10_17) (v := ?_) rfl (by kernel_rfl) (by kernel_rfl) (by kernel_rfl) (fun _ _ _ h => h) (Or.inl ⟨by rfl, ?_⟩) (by assumption) ?_; rotate_left; next => (intro w hSw; (try dsimp only at hSw); (try delta R_RRd10_17); go_simp; try with_reducible rfl))
        ((try simp only [Act.put, List.setIfInBounds_toArray, List.set_cons_zero, List.set_cons_succ]); (try simp only [KD1.out]))
        (refine wpAnyH_take (i := 18) (oi := R_RRd10_18) (v := ?_) rfl (by kernel_rfl) (by kernel_rfl) (by kernel_rfl) (fun _ _ _ h => h) (Or.inl ⟨by rfl, ?_⟩) (by assumption) ?_; rotate_left; next => (intro w hSw; (try dsimp only at hSw); (try delta R_RRd10_18); go_simp; try with_reducible rfl))
        ((try simp only [Act.put, List.setIfInBounds_toArray, List.set_cons_zero, List.set_cons_succ]); (try simp only [KD1.out]))
        (refine wpAnyH_take (i := 19) (oi := R_RRd10_19) (v := ?_) rfl (by kernel_rfl) (by kernel_rfl) (by kernel_rfl) (fun _ _ _ h => h) (Or.inl ⟨by rfl, ?_⟩) (by assumption) ?_; rotate_left; next => (intro w hSw; (try dsimp only at hSw); (try delta R_RRd10_19); go_simp; try with_reducible rfl))
        ((try simp only [Act.put, List.setIfInBounds_toArray, List.set_cons_zero, List.set_cons_succ]); (try simp only [KD1.out]))
        first | (refine wpAnyH_take (i := 20) (oi := R_RRd10_20) (v := undef) rfl (by kernel_rfl) (by kernel_rfl) (by kernel_rfl) (fun _ _ _ h => h) (Or.inr ⟨by rfl, rfl⟩) (by assumption) ?_) | (refine wpAnyH_take (i := 20) (oi := R_RRd10_20) (v := ?_) rfl (by kernel_rfl) (by kernel_rfl) (by kernel_rfl) (fun _ _ _ h => h) (Or.inl ⟨by rfl, ?_⟩) (by assumption) ?_; rotate_left; next => (intro w hSw; (try dsimp only at hSw); (try delta R_RRd10_20); go_simp; try with_reducible rfl))
        ((try simp only [Act.put, List.setIfInBounds_toArray, List.set_cons_zero, List.set_cons_succ]); (try simp only [KD1.out]))
        first | (refine wpAnyH_take (i := 21) (oi := R_RRd10_21) (v := undef) rfl (by kernel_rfl) (by kernel_rfl) (by kernel_rfl) (fun _ _ _ h => h) (Or.inr ⟨by rfl, rfl⟩) (by assumption) ?_) | (refine wpAnyH_take (i := 21) (oi := R_RRd10_21) (v := ?_) rfl (by kernel_rfl) (by kernel_rfl) (by kernel_rfl) (fun _ _ _ h => h) (Or.inl ⟨by rfl, ?_⟩) (by assumption) ?_; rotate_left; next => (intro w hSw; (try dsimp only at hSw); (try delta R_RRd10_21); go_simp; try with_reducible rfl))
        ((try simp only [Act.put, List.setIfInBounds_toArray, List.set_cons_zero, List.set_cons_succ]); (try simp only [KD1.out]))
        first | (refine wpAnyH_take (i := 22) (oi := R_RRd10_22) (v := undef) rfl (by kernel_rfl) (by kernel_rfl) (by kernel_rfl) (fun _ _ _ h => h) (Or.inr ⟨by rfl, rfl⟩) (by assumption) ?_) | (refine wpAnyH_take (i := 22) (oi := R_RRd10_22) (v := ?_) rfl (by kernel_rfl) (by kernel_rfl) (by kernel_rfl) (fun _ _ _ h => h) (Or.inl ⟨by rfl, ?_⟩) (by assumption) ?_; rotate_left; next => (intro w hSw; (try dsimp only at hSw); (try delta R_RRd10_22); go_simp; try with_reducible rfl))
        ((try simp only [Act.put, List.setIfInBounds_toArray, List.set_cons_zero, List.set_cons_succ]); (try simp only [KD1.out]))
        (refine wpAnyH_take (i := 23) (oi := R_RRd10_23) (v := ?_) rfl (by kernel_rfl) (by kernel_rfl) (by kernel_rfl) (fun _ _ _ h => h) (Or.inl ⟨by rfl, ?_⟩) (by assumption) ?_; rotate_left; next => (intro w hSw; (try dsimp only at hSw); (try delta R_RRd10_23); go_simp; try with_reducible rfl))
        ((try simp only [Act.put, List.setIfInBounds_toArray, List.set_cons_zero, List.set_cons_succ]); (try simp only [KD1.out]))
        (refine wpAnyH_take (i := 24) (oi := R_RRd10_24) (v := ?_) rfl (by kernel_rfl) (by kernel_rfl) (by kernel_rfl) (fun _ _ _ h => h) (Or.inl ⟨by rfl, ?_⟩) (by assumption) ?_; rotate_left; next => (intro w hSw; (try dsimp only at hSw); (try delta R_RRd10_24); go_simp; try with_reducible rfl))
        ((try simp only [Act.put, List.setIfInBounds_toArray, List.set_cons_zero, List.set_cons_succ]); (try simp only [KD1.out]))
        first | (refine wpAnyH_take (i := 25) (oi := R_RRd10_25) (v := undef) rfl (by kernel_rfl) (by kernel_rfl) (by kernel_rfl) (fun _ _ _ h => h) (Or.inr ⟨by rfl, rfl⟩) (by assumption) ?_) | (refine wpAnyH_take (i := 25) (oi := R_RRd10_25) (v := ?_) rfl (by kernel_rfl) (by kernel_rfl) (by kernel_rfl) (fun _ _ _ h => h) (Or.inl ⟨by rfl, ?_⟩) (by assumption) ?_; rotate_left; next => (intro w hSw; (try dsimp only at hSw); (try delta R_RRd10_25); go_simp; try with_reducible rfl))
        ((try simp only [Act.put, List.setIfInBounds_toArray, List.set_cons_zero, List.set_cons_succ]); (try simp only [KD1.out]))
        first | (refine wpAnyH_take (i := 26) (oi := R_RRd10_26) (v := undef) rfl (by kernel_rfl) (by kernel_rfl) (by kernel_rfl) (fun _ _ _ h => h) (Or.inr ⟨by rfl, rfl⟩) (by assumption) ?_) | (refine wpAnyH_take (i := 26) (oi := R_RRd10_26) (v := ?_) rfl (by kernel_rfl) (by kernel_rfl) (by kernel_rfl) (fun _ _ _ h => h) (Or.inl ⟨by rfl, ?_⟩) (by assumption) ?_; rotate_left; next => (intro w hSw; (try dsimp only at hSw); (try delta R_RRd10_26); go_simp; try with_reducible rfl))
        ((try simp only [Act.put, List.setIfInBounds_toArray, List.set_cons_zero, List.set_cons_succ]); (try simp only [KD1.out]))
        first | (refine wpAnyH_take (i := 27) (oi := R_RRd10_27) (v := undef) rfl (by kernel_rfl) (by kernel_rfl) (by kernel_rfl) (fun _ _ _ h => h) (Or.inr ⟨by rfl, rfl⟩) (by assumption) ?_) | (refine wpAnyH_take (i := 27) (oi := R_RRd10_27) (v := ?_) rfl (by kernel_rfl) (by kernel_rfl) (by kernel_rfl) (fun _ _ _ h => h) (Or.inl ⟨by rfl, ?_⟩) (by assumption) ?_; rotate_left; next => (intro w hSw; (try dsimp only at hSw); (try delta R_RRd10_27); go_simp; try with_reducible rfl))
        ((try simp only [Act.put, List.setIfInBounds_toArray, List.set_cons_zero, List.set_cons_succ]); (try simp only [KD1.out]))
        (refine wpAnyH_take (i := 28) (oi := R_RRd10_28) (v := ?_) rfl (by kernel_rfl) (by kernel_rfl) (by kernel_rfl) (fun _ _ _ h => h) (Or.inl ⟨by rfl, ?_⟩) (by assumption) ?_; rotate_left; next => (intro w hSw; (try dsimp only at hSw); (try delta R_RRd10_28); go_simp; try with_reducible rfl))
        ((try simp only [Act.put, List.setIfInBounds_toArray, List.set_cons_zero, List.set_cons_succ]); (try simp only [KD1.out]))
        (refine wpAnyH_take (i := 29) (oi := R_RRd10_29) (v := ?_) rfl (by kernel_rfl) (by kernel_rfl) (by kernel_rfl) (fun _ _ _ h => h) (Or.inl ⟨by rfl, ?_⟩) (by assumption) ?_; rotate_left; next => (intro w hSw; (try dsimp only at hSw); (try delta R_RRd10_29); go_simp; try with_reducible rfl))
        ((try simp only [Act.put, List.setIfInBounds_toArray, List.set_cons_zero, List.set_cons_succ]); (try simp only [KD1.out]))
        first | (refine wpAnyH_take (i := 30) (oi := R_RRd10_30) (v := undef) rfl (by kernel_rfl) (by kernel_rfl) (by kernel_rfl) (fun _ _ _ h => h) (Or.inr ⟨by rfl, rfl⟩) (by assumption) ?_) | (refine wpAnyH_take (i := 30) (oi := R_RRd10_30) (v := ?_) rfl (by kernel_rfl) (by kernel_rfl) (by kernel_rfl) (fun _ _ _ h => h) (Or.inl ⟨by rfl, ?_⟩) (by assumption) ?_; rotate_left; next => (intro w hSw; (try dsimp only at hSw); (try delta R_RRd10_30); go_simp; try with_reducible rfl))
        ((try simp only [Act.put, List.setIfInBounds_toArray, List.set_cons_zero, List.set_cons_succ]); (try simp only [KD1.out]))
        first | (refine wpAnyH_take (i := 31) (oi := R_RRd10_31) (v := undef) rfl (by kernel_rfl) (by kernel_rfl) (by kernel_rfl) (fun _ _ _ h => h) (Or.inr ⟨by rfl, rfl⟩) (by assumption) ?_) | (refine wpAnyH_take (i := 31) (oi := R_RRd10_31) (v := ?_) rfl (by kernel_rfl) (by kernel_rfl) (by kernel_rfl) (fun _ _ _ h => h) (Or.inl ⟨by rfl, ?_⟩) (by assumption) ?_; rotate_left; next => (intro w hSw; (try dsimp only at hSw); (try delta R_RRd10_31); go_simp; try with_reducible rfl))
        ((try simp only [Act.put, List.setIfInBounds_toArray, List.set_cons_zero, List.set_cons_succ]); (try simp only [KD1.out]))
        first | (refine wpAnyH_take (i := 32) (oi := R_RRd10_32) (v := undef) rfl (by kernel_rfl) (by kernel_rfl) (by kernel_rfl) (fun _ _ _ h => h) (Or.inr ⟨by rfl, rfl⟩) (by assumption) ?_) | (refine wpAnyH_take (i := 32) (oi := R_RRd10_32) (v := ?_) rfl (by kernel_rfl) (by kernel_rfl) (by kernel_rfl) (fun _ _ _ h => h) (Or.inl ⟨by rfl, ?_⟩) (by assumption) ?_; rotate_left; next => (intro w hSw; (try dsimp only at hSw); (try delta R_RRd10_32); go_simp; try with_reducible rfl))
        ((try simp only [Act.put, List.setIfInBounds_toArray, List.set_cons_zero, List.set_cons_succ]); (try simp only [KD1.out]))
        first
        | (refine wpAnyH_take (i := 33) (oi := R_RRd10_33) (v := undef) rfl (by kernel_rfl) (by kernel_rfl) (by kernel_rfl) (fun _ _ _ h => h) (Or.inr ⟨by rfl, rfl⟩) (by assumption) ?_
           ((try simp only [Act.put, List.setIfInBounds_toArray, List.set_cons_zero, List.set_cons_succ]); (try simp only [KD1.out])))
        | (refine wpAnyH_ready (rs := [33]) (by kernel_rfl) (by simp) ?_
           refine AllReadyH.cons (o := R_RRd10_33) rfl (fun K hK => ?_) AllReadyH.nil
           (try delta R_RRd10_33)
           go_simp
           (first | (go_at_call 44; (with_reducible refine (CBK.out _ HBD.out).mono ?_); rintro e wz ⟨rfl, rfl⟩) | fail)
           (try go_wp2_with fail)
           refine hK.out _ _ ?_ (fun hHeld => ?_)
           · (exact ⟨k1, s0, s1, s2⟩)
           clear hK K
           ((try simp only [Act.put, List.setIfInBounds_toArray, List.set_cons_zero, List.set_cons_succ]); (try simp only [KD1.out])))
        first | (refine wpAnyH_take (i := 34) (oi := R_RRd10_34) (v := undef) rfl (by kernel_rfl) (by kernel_rfl) (by kernel_rfl) (fun _ _ _ h => h) (Or.inr ⟨by rfl, rfl⟩) (by assumption) ?_) | (refine wpAnyH_take (i := 34) (oi := R_RRd10_34) (v := ?_) rfl (by kernel_rfl) (by kernel_rfl) (by kernel_rfl) (fun _ _ _ h => h) (Or.inl ⟨by rfl, ?_⟩) (by assumption) ?_; rotate_left; next => (intro w hSw; (try dsimp only at hSw); (try delta R_RRd10_34); go_simp; try with_reducible rfl))
        ((try simp only [Act.put, List.setIfInBounds_toArray, List.set_cons_zero, List.set_cons_succ]); (try simp only [KD1.out]))
        first | (refine wpAnyH_take (i := 35) (oi := R_RRd10_35) (v := undef) rfl (by kernel_rfl) (by kernel_rfl) (by kernel_rfl) (fun _ _ _ h => h) (Or.inr ⟨by rfl, rfl⟩) (by assumption) ?_) | (refine wpAnyH_take (i := 35) (oi := R_RRd10_35) (v := ?_) rfl (by kernel_rfl) (by kernel_rfl) (by kernel_rfl) (fun _ _ _ h => h) (Or.inl ⟨by rfl, ?_⟩) (by assumption) ?_; rotate_left; next => (intro w hSw; (try dsimp only at hSw); (try delta R_RRd10_35); go_simp; try with_reducible rfl))
        ((try simp only [Act.put, List.setIfInBounds_toArray, List.set_cons_zero, List.set_cons_succ]); (try simp only [KD1.out]))
        (refine wpAnyH_take (i := 36) (oi := R_RRd10_36) (v := ?_) rfl (by kernel_rfl) (by kernel_rfl) (by kernel_rfl) (fun _ _ _ h => h) (Or.inl ⟨by rfl, ?_⟩) (by assumption) ?_; rotate_left; next => (intro w hSw; (try dsimp only at hSw); (try delta R_RRd10_36); go_simp; try with_reducible rfl))
        ((try simp only [Act.put, List.setIfInBounds_toArray, List.set_cons_zero, List.set_cons_succ]); (try simp only [KD1.out]))
        refine wpAnyH_done (by kernel_rfl) ?_ _
        go_wp2_with fail
        refine bodyPost_ret (results_cell_row rfl _ _ w.heap.size 57 #[_, _, _] (0, 0) _ rfl HEZd.out.1 Tryd.underlying57 rfl infoRHead) rfl ?_
        exact ⟨by rw [HF.out]; rfl, HEZd.out.2⟩
      have KD1 : Hid (decide (n1 < 1) = false) := Lib.hid (decide_eq_false kd1)
      by_cases kd2 : 1099511627776 < n1
      · have KD2 : Hid (decide (1099511627776 < n1) = true) := Lib.hid (decide_eq_true kd2)
        have HF : Hid (hq = ⟨0, 0, 0⟩) := Lib.hid (by rw [HQ.out, if_neg]; rintro ⟨_, o⟩; unfold okRd at o; simp only at o; omega)
        go_wp2_with fail
        refine wp_region_held_drew (S := (fun W => W.cell? ⟨B, 1, none⟩ = some (.bool false) ∧ W.cell? ⟨lb, 0, none⟩ = some (.int .i64 n1) ∧ W.cell? ⟨lb, 1, none⟩ = some (.int .i64 n2) ∧ W.cell? ⟨lb, 2, none⟩ = some (.int .i64 n3))) (by kernel_rfl) ?_ (fun hHeld => ?_)
        · (exact ⟨k1, s0, s1, s2⟩)
        (refine wpAnyH_take (i := 0) (oi := R_RRd10_0) (v := ?_) rfl (by kernel_rfl) (by kernel_rfl) (by kernel_rfl) (fun _ _ _ h => h) (Or.inl ⟨by rfl, ?_⟩) (by assumption) ?_; rotate_left; next => (intro w hSw; (try dsimp only at hSw); (try delta R_RRd10_0); go_simp; try with_reducible rfl))
        ((try simp only [Act.put, List.setIfInBounds_toArray, List.set_cons_zero, List.set_cons_succ]); (try simp only [KD1.out, KD2.out]))
        (refine wpAnyH_take (i := 1) (oi := R_RRd10_1) (v := ?_) rfl (by kernel_rfl) (by kernel_rfl) (by kernel_rfl) (fun _ _ _ h => h) (Or.inl ⟨by rfl, ?_⟩) (by assumption) ?_; rotate_left; next => (intro w hSw; (try dsimp only at hSw); (try delta R_RRd10_1); go_simp; try with_reducible rfl))
        ((try simp only [Act.put, List.setIfInBounds_toArray, List.set_cons_zero, List.set_cons_succ]); (try simp only [KD1.out, KD2.out]))
        (refine wpAnyH_take (i := 2) (oi := R_RRd10_2) (v := ?_) rfl (by kernel_rfl) (by kernel_rfl) (by kernel_rfl) (fun _ _ _ h => h) (Or.inl ⟨by rfl, ?_⟩) (by assumption) ?_; rotate_left; next => (intro w hSw; (try dsimp only at hSw); (try delta R_RRd10_2); go_simp; try with_reducible rfl))
        ((try simp only [Act.put, List.setIfInBounds_toArray, List.set_cons_zero, List.set_cons_succ]); (try simp only [KD1.out, KD2.out]))
        (refine wpAnyH_take (i := 3) (oi := R_RRd10_3) (v := ?_) rfl (by kernel_rfl) (by kernel_rfl) (by kernel_rfl) (fun _ _ _ h => h) (Or.inl ⟨by rfl, ?_⟩) (by assumption) ?_; rotate_left; next => (intro w hSw; (try dsimp only at hSw); (try delta R_RRd10_3); go_simp; try with_reducible rfl))
        ((try simp only [Act.put, List.setIfInBounds_toArray, List.set_cons_zero, List.set_cons_succ]); (try simp only [KD1.out, KD2.out]))
        (refine wpAnyH_take (i := 4) (oi := R_RRd10_4) (v := ?_) rfl (by kernel_rfl) (by kernel_rfl) (by kernel_rfl) (fun _ _ _ h => h) (Or.inl ⟨by rfl, ?_⟩) (by assumption) ?_; rotate_left; next => (intro w hSw; (try dsimp only at hSw); (try delta R_RRd10_4); go_simp; try with_reducible rfl))
        ((try simp only [Act.put, List.setIfInBounds_toArray, List.set_cons_zero, List.set_cons_succ]); (try simp only [KD1.out, KD2.out]))
        first | (refine wpAnyH_take (i := 5) (oi := R_RRd10_5) (v := undef) rfl (by kernel_rfl) (by kernel_rfl) (by kernel_rfl) (fun _ _ _ h => h) (Or.inr ⟨by rfl, rfl⟩) (by assumption) ?_) | (refine wpAnyH_take (i := 5) (oi := R_RRd10_5) (v := ?_) rfl (by kernel_rfl) (by kernel_rfl) (by kernel_rfl) (fun _ _ _ h => h) (Or.inl ⟨by rfl, ?_⟩) (by assumption) ?_; rotate_left; next => (intro w hSw; (try dsimp only at hSw); (try delta R_RRd10_5); go_simp; try with_reducible rfl))
        ((try simp only [Act.put, List.setIfInBounds_toArray, List.set_cons_zero, List.set_cons_succ]); (try simp only [KD1.out, KD2.out]))
        first | (refine wpAnyH_take (i := 6) (oi := R_RRd10_6) (v := undef) rfl (by kernel_rfl) (by kernel_rfl) (by kernel_rfl) (fun _ _ _ h => h) (Or.inr ⟨by rfl, rfl⟩) (by assumption) ?_) | (refine wpAnyH_take (i := 6) (oi := R_RRd10_6) (v := ?_) rfl (by kernel_rfl) (by kernel_rfl) (by kernel_rfl) (fun _ _ _ h => h) (Or.inl ⟨by rfl, ?_⟩) (by assumption) ?_; rotate_left; next => (intro w hSw; (try dsimp only at hSw); (try delta R_RRd10_6); go_simp; try with_reducible rfl))
        ((try simp only [Act.put, List.setIfInBounds_toArray, List.set_cons_zero, List.set_cons_succ]); (try simp only [KD1.out, KD2.out]))
        first | (refine wpAnyH_take (i := 7) (oi := R_RRd10_7) (v := undef) rfl (by kernel_rfl) (by kernel_rfl) (by kernel_rfl) (fun _ _ _ h => h) (Or.inr ⟨by rfl, rfl⟩) (by assumption) ?_) | (refine wpAnyH_take (i := 7) (oi := R_RRd10_7) (v := ?_) rfl (by kernel_rfl) (by kernel_rfl) (by kernel_rfl) (fun _ _ _ h => h) (Or.inl ⟨by rfl, ?_⟩) (by assumption) ?_; rotate_left; next => (intro w hSw; (try dsimp only at hSw); (try delta R_RRd10_7); go_simp; try with_reducible rfl))
        ((try simp only [Act.put, List.setIfInBounds_toArray, List.set_cons_zero, List.set_cons_succ]); (try simp only [KD1.out, KD2.out]))
        (refine wpAnyH_take (i := 8) (oi := R_RRd10_8) (v := ?_) rfl (by kernel_rfl) (by kernel_rfl) (by kernel_rfl) (fun _ _ _ h => h) (Or.inl ⟨by rfl, ?_⟩) (by assumption) ?_; rotate_left; next => (intro w hSw; (try dsimp only at hSw); (try delta R_RRd10_8); go_simp; try with_reducible rfl))
        ((try simp only [Act.put, List.setIfInBounds_toArray, List.set_cons_zero, List.set_cons_succ]); (try simp only [KD1.out, KD2.out]))
        (refine wpAnyH_take (i := 9) (oi := R_RRd10_9) (v := ?_) rfl (by kernel_rfl) (by kernel_rfl) (by kernel_rfl) (fun _ _ _ h => h) (Or.inl ⟨by rfl, ?_⟩) (by assumption) ?_; rotate_left; next => (intro w hSw; (try dsimp only at hSw); (try delta R_RRd10_9); go_simp; try with_reducible rfl))
        ((try simp only [Act.put, List.setIfInBounds_toArray, List.set_cons_zero, List.set_cons_succ]); (try simp only [KD1.out, KD2.out]))
        first | (refine wpAnyH_take (i := 10) (oi := R_RRd10_10) (v := undef) rfl (by kernel_rfl) (by kernel_rfl) (by kernel_rfl) (fun _ _ _ h => h) (Or.inr ⟨by rfl, rfl⟩) (by assumption) ?_) | (refine wpAnyH_take (i := 10) (oi := R_RRd10_10) (v := ?_) rfl (by kernel_rfl) (by kernel_rfl) (by kernel_rfl) (fun _ _ _ h => h) (Or.inl ⟨by rfl, ?_⟩) (by assumption) ?_; rotate_left; next => (intro w hSw; (try dsimp only at hSw); (try delta R_RRd10_10); go_simp; try with_reducible rfl))
        ((try simp only [Act.put, List.setIfInBounds_toArray, List.set_cons_zero, List.set_cons_succ]); (try simp only [KD1.out, KD2.out]))
        first | (refine wpAnyH_take (i := 11) (oi := R_RRd10_11) (v := undef) rfl (by kernel_rfl) (by kernel_rfl) (by kernel_rfl) (fun _ _ _ h => h) (Or.inr ⟨by rfl, rfl⟩) (by assumption) ?_) | (refine wpAnyH_take (i := 11) (oi := R_RRd10_11) (v := ?_) rfl (by kernel_rfl) (by kernel_rfl) (by kernel_rfl) (fun _ _ _ h => h) (Or.inl ⟨by rfl, ?_⟩) (by assumption) ?_; rotate_left; next => (intro w hSw; (try dsimp only at hSw); (try delta R_RRd10_11); go_simp; try with_reducible rfl))
        ((try simp only [Act.put, List.setIfInBounds_toArray, List.set_cons_zero, List.set_cons_succ]); (try simp only [KD1.out, KD2.out]))
        first | (refine wpAnyH_take (i := 12) (oi := R_RRd10_12) (v := undef) rfl (by kernel_rfl) (by kernel_rfl) (by kernel_rfl) (fun _ _ _ h => h) (Or.inr ⟨by rfl, rfl⟩) (by assumption) ?_) | (refine wpAnyH_take (i := 12) (oi := R_RRd10_12) (v := ?_) rfl (by kernel_rfl) (by kernel_rfl) (by kernel_rfl) (fun _ _ _ h => h) (Or.inl ⟨by rfl, ?_⟩) (by assumption) ?_; rotate_left; next => (intro w hSw; (try dsimp only at hSw); (try delta R_RRd10_12); go_simp; try with_reducible rfl))
        ((try simp only [Act.put, List.setIfInBounds_toArray, List.set_cons_zero, List.set_cons_succ]); (try simp only [KD1.out, KD2.out]))
        (refine wpAnyH_take (i := 13) (oi := R_RRd10_13) (v := ?_) rfl (by kernel_rfl) (by kernel_rfl) (by kernel_rfl) (fun _ _ _ h => h) (Or.inl ⟨by rfl, ?_⟩) (by assumption) ?_; rotate_left; next => (intro w hSw; (try dsimp only at hSw); (try delta R_RRd10_13); go_simp; try with_reducible rfl))
        ((try simp only [Act.put, List.setIfInBounds_toArray, List.set_cons_zero, List.set_cons_succ]); (try simp only [KD1.out, KD2.out]))
        (refine wpAnyH_take (i := 14) (oi := R_RRd10_14) (v := ?_) rfl (by kernel_rfl) (by kernel_rfl) (by kernel_rfl) (fun _ _ _ h => h) (Or.inl ⟨by rfl, ?_⟩) (by assumption) ?_; rotate_left; next => (intro w hSw; (try dsimp only at hSw); (try delta R_RRd10_14); go_simp; try with_reducible rfl))
        ((try simp only [Act.put, List.setIfInBounds_toArray, List.set_cons_zero, List.set_cons_succ]); (try simp only [KD1.out, KD2.out]))
        first | (refine wpAnyH_take (i := 15) (oi := R_RRd10_15) (v := undef) rfl (by kernel_rfl) (by kernel_rfl) (by kernel_rfl) (fun _ _ _ h => h) (Or.inr ⟨by rfl, rfl⟩) (by assumption) ?_) | (refine wpAnyH_take (i := 15) (oi := R_RRd10_15) (v := ?_) rfl (by kernel_rfl) (by kernel_rfl) (by kernel_rfl) (fun _ _ _ h => h) (Or.inl ⟨by rfl, ?_⟩) (by assumption) ?_; rotate_left; next => (intro w hSw; (try dsimp only at hSw); (try delta R_RRd10_15); go_simp; try with_reducible rfl))
        ((try simp only [Act.put, List.setIfInBounds_toArray, List.set_cons_zero, List.set_cons_succ]); (try simp only [KD1.out, KD2.out]))
        first | (refine wpAnyH_take (i := 16) (oi := R_RRd10_16) (v := undef) rfl (by kernel_rfl) (by kernel_rfl) (by kernel_rfl) (fun _ _ _ h => h) (Or.inr ⟨by rfl, rfl⟩) (by assumption) ?_) | (refine wpAnyH_take (i := 16) (oi := R_RRd10_16) (v := ?_) rfl (by kernel_rfl) (by kernel_rfl) (by kernel_rfl) (fun _ _ _ h => h) (Or.inl ⟨by rfl, ?_⟩) (by assumption) ?_; rotate_left; next => (intro w hSw; (try dsimp only at hSw); (try delta R_RRd10_16); go_simp; try with_reducible rfl))
        ((try simp only [Act.put, List.setIfInBounds_toArray, List.set_cons_zero, List.set_cons_succ]); (try simp only [KD1.out, KD2.out]))
        first | (refine wpAnyH_take (i := 17) (oi := R_RRd10_17) (v := undef) rfl (by kernel_rfl) (by kernel_rfl) (by kernel_rfl) (fun _ _ _ h => h) (Or.inr ⟨by rfl, rfl⟩) (by assumption) ?_) | (refine wpAnyH_take (i := 17) (oi := R_RRd10_17) (v := ?_) rfl (by kernel_rfl) (by kernel_rfl) (by kernel_rfl) (fun _ _ _ h => h) (Or.inl ⟨by rfl, ?_⟩) (by assumption) ?_; rotate_left; next => (intro w hSw; (try dsimp only at hSw); (try delta R_RRd10_17); go_simp; try with_reducible rfl))
        ((try simp only [Act.put, List.setIfInBounds_toArray, List.set_cons_zero, List.set_cons_succ]); (try simp only [KD1.out, KD2.out]))
        (refine wpAnyH_take (i := 18) (oi := R_RRd10_18) (v := ?_) rfl (by kernel_rfl) (by kernel_rfl) (by kernel_rfl) (fun _ _ _ h => h) (Or.inl ⟨by rfl, ?_⟩) (by assumption) ?_; rotate_left; next => (intro w hSw; (try dsimp only at hSw); (try delta R_RRd10_18); go_simp; try with_reducible rfl))
        ((try simp only [Act.put, List.setIfInBounds_toArray, List.set_cons_zero, List.set_cons_succ]); (try simp only [KD1.out, KD2.out]))
        (refine wpAnyH_take (i := 19) (oi := R_RRd10_19) (v := ?_) rfl (by kernel_rfl) (by kernel_rfl) (by kernel_rfl) (fun _ _ _ h => h) (Or.inl ⟨by rfl, ?_⟩) (by assumption) ?_; rotate_left; next => (intro w hSw; (try dsimp only at hSw); (try delta R_RRd10_19); go_simp; try with_reducible rfl))
        ((try simp only [Act.put, List.setIfInBounds_toArray, List.set_cons_zero, List.set_cons_succ]); (try simp only [KD1.out, KD2.out]))
        first | (refine wpAnyH_take (i := 20) (oi := R_RRd10_20) (v := undef) rfl (by kernel_rfl) (by kernel_rfl) (by kernel_rfl) (fun _ _ _ h => h) (Or.inr ⟨by rfl, rfl⟩) (by assumption) ?_) | (refine wpAnyH_take (i := 20) (oi := R_RRd10_20) (v := ?_) rfl (by kernel_rfl) (by kernel_rfl) (by kernel_rfl) (fun _ _ _ h => h) (Or.inl ⟨by rfl, ?_⟩) (by assumption) ?_; rotate_left; next => (intro w hSw; (try dsimp only at hSw); (try delta R_RRd10_20); go_simp; try with_reducible rfl))
        ((try simp only [Act.put, List.setIfInBounds_toArray, List.set_cons_zero, List.set_cons_succ]); (try simp only [KD1.out, KD2.out]))
        first | (refine wpAnyH_take (i := 21) (oi := R_RRd10_21) (v := undef) rfl (by kernel_rfl) (by kernel_rfl) (by kernel_rfl) (fun _ _ _ h => h) (Or.inr ⟨by rfl, rfl⟩) (by assumption) ?_) | (refine wpAnyH_take (i := 21) (oi := R_RRd10_21) (v := ?_) rfl (by kernel_rfl) (by kernel_rfl) (by kernel_rfl) (fun _ _ _ h => h) (Or.inl ⟨by rfl, ?_⟩) (by assumption) ?_; rotate_left; next => (intro w hSw; (try dsimp only at hSw); (try delta R_RRd10_21); go_simp; try with_reducible rfl))
        ((try simp only [Act.put, List.setIfInBounds_toArray, List.set_cons_zero, List.set_cons_succ]); (try simp only [KD1.out, KD2.out]))
        first | (refine wpAnyH_take (i := 22) (oi := R_RRd10_22) (v := undef) rfl (by kernel_rfl) (by kernel_rfl) (by kernel_rfl) (fun _ _ _ h => h) (Or.inr ⟨by rfl, rfl⟩) (by assumption) ?_) | (refine wpAnyH_take (i := 22) (oi := R_RRd10_22) (v := ?_) rfl (by kernel_rfl) (by kernel_rfl) (by kernel_rfl) (fun _ _ _ h => h) (Or.inl ⟨by rfl, ?_⟩) (by assumption) ?_; rotate_left; next => (intro w hSw; (try dsimp only at hSw); (try delta R_RRd10_22); go_simp; try with_reducible rfl))
        ((try simp only [Act.put, List.setIfInBounds_toArray, List.set_cons_zero, List.set_cons_succ]); (try simp only [KD1.out, KD2.out]))
        (refine wpAnyH_take (i := 23) (oi := R_RRd10_23) (v := ?_) rfl (by kernel_rfl) (by kernel_rfl) (by kernel_rfl) (fun _ _ _ h => h) (Or.inl ⟨by rfl, ?_⟩) (by assumption) ?_; rotate_left; next => (intro w hSw; (try dsimp only at hSw); (try delta R_RRd10_23); go_simp; try with_reducible rfl))
        ((try simp only [Act.put, List.setIfInBounds_toArray, List.set_cons_zero, List.set_cons_succ]); (try simp only [KD1.out, KD2.out]))
        (refine wpAnyH_take (i := 24) (oi := R_RRd10_24) (v := ?_) rfl (by kernel_rfl) (by kernel_rfl) (by kernel_rfl) (fun _ _ _ h => h) (Or.inl ⟨by rfl, ?_⟩) (by assumption) ?_; rotate_left; next => (intro w hSw; (try dsimp only at hSw); (try delta R_RRd10_24); go_simp; try with_reducible rfl))
        ((try simp only [Act.put, List.setIfInBounds_toArray, List.set_cons_zero, List.set_cons_succ]); (try simp only [KD1.out, KD2.out]))
        first | (refine wpAnyH_take (i := 25) (oi := R_RRd10_25) (v := undef) rfl (by kernel_rfl) (by kernel_rfl) (by kernel_rfl) (fun _ _ _ h => h) (Or.inr ⟨by rfl, rfl⟩) (by assumption) ?_) | (refine wpAnyH_take (i := 25) (oi := R_RRd10_25) (v := ?_) rfl (by kernel_rfl) (by kernel_rfl) (by kernel_rfl) (fun _ _ _ h => h) (Or.inl ⟨by rfl, ?_⟩) (by assumption) ?_; rotate_left; next => (intro w hSw; (try dsimp only at hSw); (try delta R_RRd10_25); go_simp; try with_reducible rfl))
        ((try simp only [Act.put, List.setIfInBounds_toArray, List.set_cons_zero, List.set_cons_succ]); (try simp only [KD1.out, KD2.out]))
        first | (refine wpAnyH_take (i := 26) (oi := R_RRd10_26) (v := undef) rfl (by kernel_rfl) (by kernel_rfl) (by kernel_rfl) (fun _ _ _ h => h) (Or.inr ⟨by rfl, rfl⟩) (by assumption) ?_) | (refine wpAnyH_take (i := 26) (oi := R_RRd10_26) (v := ?_) rfl (by kernel_rfl) (by kernel_rfl) (by kernel_rfl) (fun _ _ _ h => h) (Or.inl ⟨by rfl, ?_⟩) (by assumption) ?_; rotate_left; next => (intro w hSw; (try dsimp only at hSw); (try delta R_RRd10_26); go_simp; try with_reducible rfl))
        ((try simp only [Act.put, List.setIfInBounds_toArray, List.set_cons_zero, List.set_cons_succ]); (try simp only [KD1.out, KD2.out]))
        first | (refine wpAnyH_take (i := 27) (oi := R_RRd10_27) (v := undef) rfl (by kernel_rfl) (by kernel_rfl) (by kernel_rfl) (fun _ _ _ h => h) (Or.inr ⟨by rfl, rfl⟩) (by assumption) ?_) | (refine wpAnyH_take (i := 27) (oi := R_RRd10_27) (v := ?_) rfl (by kernel_rfl) (by kernel_rfl) (by kernel_rfl) (fun _ _ _ h => h) (Or.inl ⟨by rfl, ?_⟩) (by assumption) ?_; rotate_left; next => (intro w hSw; (try dsimp only at hSw); (try delta R_RRd10_27); go_simp; try with_reducible rfl))
        ((try simp only [Act.put, List.setIfInBounds_toArray, List.set_cons_zero, List.set_cons_succ]); (try simp only [KD1.out, KD2.out]))
        (refine wpAnyH_take (i := 28) (oi := R_RRd10_28) (v := ?_) rfl (by kernel_rfl) (by kernel_rfl) (by kernel_rfl) (fun _ _ _ h => h) (Or.inl ⟨by rfl, ?_⟩) (by assumption) ?_; rotate_left; next => (intro w hSw; (try dsimp only at hSw); (try delta R_RRd10_28); go_simp; try with_reducible rfl))
        ((try simp only [Act.put, List.setIfInBounds_toArray, List.set_cons_zero, List.set_cons_succ]); (try simp only [KD1.out, KD2.out]))
        (refine wpAnyH_take (i := 29) (oi := R_RRd10_29) (v := ?_) rfl (by kernel_rfl) (by kernel_rfl) (by kernel_rfl) (fun _ _ _ h => h) (Or.inl ⟨by rfl, ?_⟩) (by assumption) ?_; rotate_left; next => (intro w hSw; (try dsimp only at hSw); (try delta R_RRd10_29); go_simp; try with_reducible rfl))
        ((try simp only [Act.put, List.setIfInBounds_toArray, List.set_cons_zero, List.set_cons_succ]); (try simp only [KD1.out, KD2.out]))
        first | (refine wpAnyH_take (i := 30) (oi := R_RRd10_30) (v := undef) rfl (by kernel_rfl) (by kernel_rfl) (by kernel_rfl) (fun _ _ _ h => h) (Or.inr ⟨by rfl, rfl⟩) (by assumption) ?_) | (refine wpAnyH_take (i := 30) (oi := R_RRd10_30) (v := ?_) rfl (by kernel_rfl) (by kernel_rfl) (by kernel_rfl) (fun _ _ _ h => h) (Or.inl ⟨by rfl, ?_⟩) (by assumption) ?_; rotate_left; next => (intro w hSw; (try dsimp only at hSw); (try delta R_RRd10_30); go_simp; try with_reducible rfl))
        ((try simp only [Act.put, List.setIfInBounds_toArray, List.set_cons_zero, List.set_cons_succ]); (try simp only [KD1.out, KD2.out]))
        first | (refine wpAnyH_take (i := 31) (oi := R_RRd10_31) (v := undef) rfl (by kernel_rfl) (by kernel_rfl) (by kernel_rfl) (fun _ _ _ h => h) (Or.inr ⟨by rfl, rfl⟩) (by assumption) ?_) | (refine wpAnyH_take (i := 31) (oi := R_RRd10_31) (v := ?_) rfl (by kernel_rfl) (by kernel_rfl) (by kernel_rfl) (fun _ _ _ h => h) (Or.inl ⟨by rfl, ?_⟩) (by assumption) ?_; rotate_left; next => (intro w hSw; (try dsimp only at hSw); (try delta R_RRd10_31); go_simp; try with_reducible rfl))
        ((try simp only [Act.put, List.setIfInBounds_toArray, List.set_cons_zero, List.set_cons_succ]); (try simp only [KD1.out, KD2.out]))
        first | (refine wpAnyH_take (i := 32) (oi := R_RRd10_32) (v := undef) rfl (by kernel_rfl) (by kernel_rfl) (by kernel_rfl) (fun _ _ _ h => h) (Or.inr ⟨by rfl, rfl⟩) (by assumption) ?_) | (refine wpAnyH_take (i := 32) (oi := R_RRd10_32) (v := ?_) rfl (by kernel_rfl) (by kernel_rfl) (by kernel_rfl) (fun _ _ _ h => h) (Or.inl ⟨by rfl, ?_⟩) (by assumption) ?_; rotate_left; next => (intro w hSw; (try dsimp only at hSw); (try delta R_RRd10_32); go_simp; try with_reducible rfl))
        ((try simp only [Act.put, List.setIfInBounds_toArray, List.set_cons_zero, List.set_cons_succ]); (try simp only [KD1.out, KD2.out]))
        first
        | (refine wpAnyH_take (i := 33) (oi := R_RRd10_33) (v := undef) rfl (by kernel_rfl) (by kernel_rfl) (by kernel_rfl) (fun _ _ _ h => h) (Or.inr ⟨by rfl, rfl⟩) (by assumption) ?_
           ((try simp only [Act.put, List.setIfInBounds_toArray, List.set_cons_zero, List.set_cons_succ]); (try simp only [KD1.out, KD2.out])))
        | (refine wpAnyH_ready (rs := [33]) (by kernel_rfl) (by simp) ?_
           refine AllReadyH.cons (o := R_RRd10_33) rfl (fun K hK => ?_) AllReadyH.nil
           (try delta R_RRd10_33)
           go_simp
           (first | (go_at_call 44; (with_reducible refine (CBK.out _ HBD.out).mono ?_); rintro e wz ⟨rfl, rfl⟩) | fail)
           (try go_wp2_with fail)
           refine hK.out _ _ ?_ (fun hHeld => ?_)
           · (exact ⟨k1, s0, s1, s2⟩)
           clear hK K
           ((try simp only [Act.put, List.setIfInBounds_toArray, List.set_cons_zero, List.set_cons_succ]); (try simp only [KD1.out, KD2.out])))
        first | (refine wpAnyH_take (i := 34) (oi := R_RRd10_34) (v := undef) rfl (by kernel_rfl) (by kernel_rfl) (by kernel_rfl) (fun _ _ _ h => h) (Or.inr ⟨by rfl, rfl⟩) (by assumption) ?_) | (refine wpAnyH_take (i := 34) (oi := R_RRd10_34) (v := ?_) rfl (by kernel_rfl) (by kernel_rfl) (by kernel_rfl) (fun _ _ _ h => h) (Or.inl ⟨by rfl, ?_⟩) (by assumption) ?_; rotate_left; next => (intro w hSw; (try dsimp only at hSw); (try delta R_RRd10_34); go_simp; try with_reducible rfl))
        ((try simp only [Act.put, List.setIfInBounds_toArray, List.set_cons_zero, List.set_cons_succ]); (try simp only [KD1.out, KD2.out]))
        first | (refine wpAnyH_take (i := 35) (oi := R_RRd10_35) (v := undef) rfl (by kernel_rfl) (by kernel_rfl) (by kernel_rfl) (fun _ _ _ h => h) (Or.inr ⟨by rfl, rfl⟩) (by assumption) ?_) | (refine wpAnyH_take (i := 35) (oi := R_RRd10_35) (v := ?_) rfl (by kernel_rfl) (by kernel_rfl) (by kernel_rfl) (fun _ _ _ h => h) (Or.inl ⟨by rfl, ?_⟩) (by assumption) ?_; rotate_left; next => (intro w hSw; (try dsimp only at hSw); (try delta R_RRd10_35); go_simp; try with_reducible rfl))
        ((try simp only [Act.put, List.setIfInBounds_toArray, List.set_cons_zero, List.set_cons_succ]); (try simp only [KD1.out, KD2.out]))
        (refine wpAnyH_take (i := 36) (oi := R_RRd10_36) (v := ?_) rfl (by kernel_rfl) (by kernel_rfl) (by kernel_rfl) (fun _ _ _ h => h) (Or.inl ⟨by rfl, ?_⟩) (by assumption) ?_; rotate_left; next => (intro w hSw; (try dsimp only at hSw); (try delta R_RRd10_36); go_simp; try with_reducible rfl))
        ((try simp only [Act.put, List.setIfInBounds_toArray, List.set_cons_zero, List.set_cons_succ]); (try simp only [KD1.out, KD2.out]))
        refine wpAnyH_done (by kernel_rfl) ?_ _
        go_wp2_with fail
        refine bodyPost_ret (results_cell_row rfl _ _ w.heap.size 57 #[_, _, _] (0, 0) _ rfl HEZd.out.1 Tryd.underlying57 rfl infoRHead) rfl ?_
        exact ⟨by rw [HF.out]; rfl, HEZd.out.2⟩
      have KD2 : Hid (decide (1099511627776 < n1) = false) := Lib.hid (decide_eq_false kd2)
      by_cases kd3 : n2 < 0
      · have KD3 : Hid (decide (n2 < 0) = true) := Lib.hid (decide_eq_true kd3)
        have HF : Hid (hq = ⟨0, 0, 0⟩) := Lib.hid (by rw [HQ.out, if_neg]; rintro ⟨_, o⟩; unfold okRd at o; simp only at o; omega)
        go_wp2_with fail
        refine wp_region_held_drew (S := (fun W => W.cell? ⟨B, 1, none⟩ = some (.bool false) ∧ W.cell? ⟨lb, 0, none⟩ = some (.int .i64 n1) ∧ W.cell? ⟨lb, 1, none⟩ = some (.int .i64 n2) ∧ W.cell? ⟨lb, 2, none⟩ = some (.int .i64 n3))) (by kernel_rfl) ?_ (fun hHeld => ?_)
        · (exact ⟨k1, s0, s1, s2⟩)
        (refine wpAnyH_take (i := 0) (oi := R_RRd10_0) (v := ?_) rfl (by kernel_rfl) (by kernel_rfl) (by kernel_rfl) (fun _ _ _ h => h) (Or.inl ⟨by rfl, ?_⟩) (by assumption) ?_; rotate_left; next => (intro w hSw; (try dsimp only at hSw); (try delta R_RRd10_0); go_simp; try with_reducible rfl))
        ((try simp only [Act.put, List.setIfInBounds_toArray, List.set_cons_zero, List.set_cons_succ]); (try simp only [KD1.out, KD2.out, KD3.out]))
        (refine wpAnyH_take (i := 1) (oi := R_RRd10_1) (v := ?_) rfl (by kernel_rfl) (by kernel_rfl) (by kernel_rfl) (fun _ _ _ h => h) (Or.inl ⟨by rfl, ?_⟩) (by assumption) ?_; rotate_left; next => (intro w hSw; (try dsimp only at hSw); (try delta R_RRd10_1); go_simp; try with_reducible rfl))
        ((try simp only [Act.put, List.setIfInBounds_toArray, List.set_cons_zero, List.set_cons_succ]); (try simp only [KD1.out, KD2.out, KD3.out]))
        (refine wpAnyH_take (i := 2) (oi := R_RRd10_2) (v := ?_) rfl (by kernel_rfl) (by kernel_rfl) (by kernel_rfl) (fun _ _ _ h => h) (Or.inl ⟨by rfl, ?_⟩) (by assumption) ?_; rotate_left; next => (intro w hSw; (try dsimp only at hSw); (try delta R_RRd10_2); go_simp; try with_reducible rfl))
        ((try simp only [Act.put, List.setIfInBounds_toArray, List.set_cons_zero, List.set_cons_succ]); (try simp only [KD1.out, KD2.out, KD3.out]))
        (refine wpAnyH_take (i := 3) (oi := R_RRd10_3) (v := ?_) rfl (by kernel_rfl) (by kernel_rfl) (by kernel_rfl) (fun _ _ _ h => h) (Or.inl ⟨by rfl, ?_⟩) (by assumption) ?_; rotate_left; next => (intro w hSw; (try dsimp only at hSw); (try delta R_RRd10_3); go_simp; try with_reducible rfl))
        ((try simp only [Act.put, List.setIfInBounds_toArray, List.set_cons_zero, List.set_cons_succ]); (try simp only [KD1.out, KD2.out, KD3.out]))
        (refine wpAnyH_take (i := 4) (oi := R_RRd10_4) (v := ?_) rfl (by kernel_rfl) (by kernel_rfl) (by kernel_rfl) (fun _ _ _ h => h) (Or.inl ⟨by rfl, ?_⟩) (by assumption) ?_; rotate_left; next => (intro w hSw; (try dsimp only at hSw); (try delta R_RRd10_4); go_simp; try with_reducible rfl))
        ((try simp only [Act.put, List.setIfInBounds_toArray, List.set_cons_zero, List.set_cons_succ]); (try simp only [KD1.out, KD2.out, KD3.out]))
        first | (refine wpAnyH_take (i := 5) (oi := R_RRd10_5) (v := undef) rfl (by kernel_rfl) (by kernel_rfl) (by kernel_rfl) (fun _ _ _ h => h) (Or.inr ⟨by rfl, rfl⟩) (by assumption) ?_) | (refine wpAnyH_take (i := 5) (oi := R_RRd10_5) (v := ?_) rfl (by kernel_rfl) (by kernel_rfl) (by kernel_rfl) (fun _ _ _ h => h) (Or.inl ⟨by rfl, ?_⟩) (by assumption) ?_; rotate_left; next => (intro w hSw; (try dsimp only at hSw); (try delta R_RRd10_5); go_simp; try with_reducible rfl))
        ((try simp only [Act.put, List.setIfInBounds_toArray, List.set_cons_zero, List.set_cons_succ]); (try simp only [KD1.out, KD2.out, KD3.out]))
        first | (refine wpAnyH_take (i := 6) (oi := R_RRd10_6) (v := undef) rfl (by kernel_rfl) (by kernel_rfl) (by kernel_rfl) (fun _ _ _ h => h) (Or.inr ⟨by rfl, rfl⟩) (by assumption) ?_) | (refine wpAnyH_take (i := 6) (oi := R_RRd10_6) (v := ?_) rfl (by kernel_rfl) (by kernel_rfl) (by kernel_rfl) (fun _ _ _ h => h) (Or.inl ⟨by rfl, ?_⟩) (by assumption) ?_; rotate_left; next => (intro w hSw; (try dsimp only at hSw); (try delta R_RRd10_6); go_simp; try with_reducible rfl))
        ((try simp only [Act.put, List.setIfInBounds_toArray, List.set_cons_zero, List.set_cons_succ]); (try simp only [KD1.out, KD2.out, KD3.out]))
        first | (refine wpAnyH_take (i := 7) (oi := R_RRd10_7) (v := undef) rfl (by kernel_rfl) (by kernel_rfl) (by kernel_rfl) (fun _ _ _ h => h) (Or.inr ⟨by rfl, rfl⟩) (by assumption) ?_) | (refine wpAnyH_take (i := 7) (oi := R_RRd10_7) (v := ?_) rfl (by kernel_rfl) (by kernel_rfl) (by kernel_rfl) (fun _ _ _ h => h) (Or.inl ⟨by rfl, ?_⟩) (by assumption) ?_; rotate_left; next => (intro w hSw; (try dsimp only at hSw); (try delta R_RRd10_7); go_simp; try with_reducible rfl))
        ((try simp only [Act.put, List.setIfInBounds_toArray, List.set_cons_zero, List.set_cons_succ]); (try simp only [KD1.out, KD2.out, KD3.out]))
        (refine wpAnyH_take (i := 8) (oi := R_RRd10_8) (v := ?_) rfl (by kernel_rfl) (by kernel_rfl) (by kernel_rfl) (fun _ _ _ h => h) (Or.inl ⟨by rfl, ?_⟩) (by assumption) ?_; rotate_left; next => (intro w hSw; (try dsimp only at hSw); (try delta R_RRd10_8); go_simp; try with_reducible rfl))
        ((try simp only [Act.put, List.setIfInBounds_toArray, List.set_cons_zero, List.set_cons_succ]); (try simp only [KD1.out, KD2.out, KD3.out]))
        (refine wpAnyH_take (i := 9) (oi := R_RRd10_9) (v := ?_) rfl (by kernel_rfl) (by kernel_rfl) (by kernel_rfl) (fun _ _ _ h => h) (Or.inl ⟨by rfl, ?_⟩) (by assumption) ?_; rotate_left; next => (intro w hSw; (try dsimp only at hSw); (try delta R_RRd10_9); go_simp; try with_reducible rfl))
        ((try simp only [Act.put, List.setIfInBounds_toArray, List.set_cons_zero, List.set_cons_succ]); (try simp only [KD1.out, KD2.out, KD3.out]))
        first | (refine wpAnyH_take (i := 10) (oi := R_RRd10_10) (v := undef) rfl (by kernel_rfl) (by kernel_rfl) (by kernel_rfl) (fun _ _ _ h => h) (Or.inr ⟨by rfl, rfl⟩) (by assumption) ?_) | (refine wpAnyH_take (i := 10) (oi := R_RRd10_10) (v := ?_) rfl (by kernel_rfl) (by kernel_rfl) (by kernel_rfl) (fun _ _ _ h => h) (Or.inl ⟨by rfl, ?_⟩) (by assumption) ?_; rotate_left; next => (intro w hSw; (try dsimp only at hSw); (try delta R_RRd10_10); go_simp; try with_reducible rfl))
        ((try simp only [Act.put, List.setIfInBounds_toArray, List.set_cons_zero, List.set_cons_succ]); (try simp only [KD1.out, KD2.out, KD3.out]))
        first | (refine wpAnyH_take (i := 11) (oi := R_RRd10_11) (v := undef) rfl (by kernel_rfl) (by kernel_rfl) (by kernel_rfl) (fun _ _ _ h => h) (Or.inr ⟨by rfl, rfl⟩) (by assumption) ?_) | (refine wpAnyH_take (i := 11) (oi := R_RRd10_11) (v := ?_) rfl (by kernel_rfl) (by kernel_rfl) (by kernel_rfl) (fun _ _ _ h => h) (Or.inl ⟨by rfl, ?_⟩) (by assumption) ?_; rotate_left; next => (intro w hSw; (try dsimp only at hSw); (try delta R_RRd10_11); go_simp; try with_reducible rfl))
        ((try simp only [Act.put, List.setIfInBounds_toArray, List.set_cons_zero, List.set_cons_succ]); (try simp only [KD1.out, KD2.out, KD3.out]))
        first | (refine wpAnyH_take (i := 12) (oi := R_RRd10_12) (v := undef) rfl (by kernel_rfl) (by kernel_rfl) (by kernel_rfl) (fun _ _ _ h => h) (Or.inr ⟨by rfl, rfl⟩) (by assumption) ?_) | (refine wpAnyH_take (i := 12) (oi := R_RRd10_12) (v := ?_) rfl (by kernel_rfl) (by kernel_rfl) (by kernel_rfl) (fun _ _ _ h => h) (Or.inl ⟨by rfl, ?_⟩) (by assumption) ?_; rotate_left; next => (intro w hSw; (try dsimp only at hSw); (try delta R_RRd10_12); go_simp; try with_reducible rfl))
        ((try simp only [Act.put, List.setIfInBounds_toArray, List.set_cons_zero, List.set_cons_succ]); (try simp only [KD1.out, KD2.out, KD3.out]))
        (refine wpAnyH_take (i := 13) (oi := R_RRd10_13) (v := ?_) rfl (by kernel_rfl) (by kernel_rfl) (by kernel_rfl) (fun _ _ _ h => h) (Or.inl ⟨by rfl, ?_⟩) (by assumption) ?_; rotate_left; next => (intro w hSw; (try dsimp only at hSw); (try delta R_RRd10_13); go_simp; try with_reducible rfl))
        ((try simp only [Act.put, List.setIfInBounds_toArray, List.set_cons_zero, List.set_cons_succ]); (try simp only [KD1.out, KD2.out, KD3.out]))
        (refine wpAnyH_take (i := 14) (oi := R_RRd10_14) (v := ?_) rfl (by kernel_rfl) (by kernel_rfl) (by kernel_rfl) (fun _ _ _ h => h) (Or.inl ⟨by rfl, ?_⟩) (by assumption) ?_; rotate_left; next => (intro w hSw; (try dsimp only at hSw); (try delta R_RRd10_14); go_simp; try with_reducible rfl))
        ((try simp only [Act.put, List.setIfInBounds_toArray, List.set_cons_zero, List.set_cons_succ]); (try simp only [KD1.out, KD2.out, KD3.out]))
        first | (refine wpAnyH_take (i := 15) (oi := R_RRd10_15) (v := undef) rfl (by kernel_rfl) (by kernel_rfl) (by kernel_rfl) (fun _ _ _ h => h) (Or.inr ⟨by rfl, rfl⟩) (by assumption) ?_) | (refine wpAnyH_take (i := 15) (oi := R_RRd10_15) (v := ?_) rfl (by kernel_rfl) (by kernel_rfl) (by kernel_rfl) (fun _ _ _ h => h) (Or.inl ⟨by rfl, ?_⟩) (by assumption) ?_; rotate_left; next => (intro w hSw; (try dsimp only at hSw); (try delta R_RRd10_15); go_simp; try with_reducible rfl))
        ((try simp only [Act.put, List.setIfInBounds_toArray, List.set_cons_zero, List.set_cons_succ]); (try simp only [KD1.out, KD2.out, KD3.out]))
        first | (refine wpAnyH_take (i := 16) (oi := R_RRd10_16) (v := undef) rfl (by kernel_rfl) (by kernel_rfl) (by kernel_rfl) (fun _ _ _ h => h) (Or.inr ⟨by rfl, rfl⟩) (by assumption) ?_) | (refine wpAnyH_take (i := 16) (oi := R_RRd10_16) (v := ?_) rfl (by kernel_rfl) (by kernel_rfl) (by kernel_rfl) (fun _ _ _ h => h) (Or.inl ⟨by rfl, ?_⟩) (by assumption) ?_; rotate_left; next => (intro w hSw; (try dsimp only at hSw); (try delta R_RRd10_16); go_simp; try with_reducible rfl))
        ((try simp only [Act.put, List.setIfInBounds_toArray, List.set_cons_zero, List.set_cons_succ]); (try simp only [KD1.out, KD2.out, KD3.out]))
        first | (refine wpAnyH_take (i := 17) (oi := R_RRd10_17) (v := undef) rfl (by kernel_rfl) (by kernel_rfl) (by kernel_rfl) (fun _ _ _ h => h) (Or.inr ⟨by rfl, rfl⟩) (by assumption) ?_) | (refine wpAnyH_take (i := 17) (oi := R_RRd10_17) (v := ?_) rfl (by kernel_rfl) (by kernel_rfl) (by kernel_rfl) (fun _ _ _ h => h) (Or.inl ⟨by rfl, ?_⟩) (by assumption) ?_; rotate_left; next => (intro w hSw; (try dsimp only at hSw); (try delta R_RRd10_17); go_simp; try with_reducible rfl))
        ((try simp only [Act.put, List.setIfInBounds_toArray, List.set_cons_zero, List.set_cons_succ]); (try simp only [KD1.out, KD2.out, KD3.out]))
        (refine wpAnyH_take (i := 18) (oi := R_RRd10_18) (v := ?_) rfl (by kernel_rfl) (by kernel_rfl) (by kernel_rfl) (fun _ _ _ h => h) (Or.inl ⟨by rfl, ?_⟩) (by assumption) ?_; rotate_left; next => (intro w hSw; (try dsimp only at hSw); (try delta R_RRd10_18); go_simp; try with_reducible rfl))
        ((try simp only [Act.put, List.setIfInBounds_toArray, List.set_cons_zero, List.set_cons_succ]); (try simp only [KD1.out, KD2.out, KD3.out]))
        (refine wpAnyH_take (i := 19) (oi := R_RRd10_19) (v := ?_) rfl (by kernel_rfl) (by kernel_rfl) (by kernel_rfl) (fun _ _ _ h => h) (Or.inl ⟨by rfl, ?_⟩) (by assumption) ?_; rotate_left; next => (intro w hSw; (try dsimp only at hSw); (try delta R_RRd10_19); go_simp; try with_reducible rfl))
        ((try simp only [Act.put, List.setIfInBounds_toArray, List.set_cons_zero, List.set_cons_succ]); (try simp only [KD1.out, KD2.out, KD3.out]))
        first | (refine wpAnyH_take (i := 20) (oi := R_RRd10_20) (v := undef) rfl (by kernel_rfl) (by kernel_rfl) (by kernel_rfl) (fun _ _ _ h => h) (Or.inr ⟨by rfl, rfl⟩) (by assumption) ?_) | (refine wpAnyH_take (i := 20) (oi := R_RRd10_20) (v := ?_) rfl (by kernel_rfl) (by kernel_rfl) (by kernel_rfl) (fun _ _ _ h => h) (Or.inl ⟨by rfl, ?_⟩) (by assumption) ?_; rotate_left; next => (intro w hSw; (try dsimp only at hSw); (try delta R_RRd10_20); go_simp; try with_reducible rfl))
        ((try simp only [Act.put, List.setIfInBounds_toArray, List.set_cons_zero, List.set_cons_succ]); (try simp only [KD1.out, KD2.out, KD3.out]))
        first | (refine wpAnyH_take (i := 21) (oi := R_RRd10_21) (v := undef) rfl (by kernel_rfl) (by kernel_rfl) (by kernel_rfl) (fun _ _ _ h => h) (Or.inr ⟨by rfl, rfl⟩) (by assumption) ?_) | (refine wpAnyH_take (i := 21) (oi := R_RRd10_21) (v := ?_) rfl (by kernel_rfl) (by kernel_rfl) (by kernel_rfl) (fun _ _ _ h => h) (Or.inl ⟨by rfl, ?_⟩) (by assumption) ?_; rotate_left; next => (intro w hSw; (try dsimp only at hSw); (try delta R_RRd10_21); go_simp; try with_reducible rfl))
        ((try simp only [Act.put, List.setIfInBounds_toArray, List.set_cons_zero, List.set_cons_succ]); (try simp only [KD1.out, KD2.out, KD3.out]))
        first | (refine wpAnyH_take (i := 22) (oi := R_RRd10_22) (v := undef) rfl (by kernel_rfl) (by kernel_rfl) (by kernel_rfl) (fun _ _ _ h => h) (Or.inr ⟨by rfl, rfl⟩) (by assumption) ?_) | (refine wpAnyH_take (i := 22) (oi := R_RRd10_22) (v := ?_) rfl (by kernel_rfl) (by kernel_rfl) (by kernel_rfl) (fun _ _ _ h => h) (Or.inl ⟨by rfl, ?_⟩) (by assumption) ?_; rotate_left; next => (intro w hSw; (try dsimp only at hSw); (try delta R_RRd10_22); go_simp; try with_reducible rfl))
        ((try simp only [Act.put, List.setIfInBounds_toArray, List.set_cons_zero, List.set_cons_succ]); (try simp only [KD1.out, KD2.out, KD3.out]))
        (refine wpAnyH_take (i := 23) (oi := R_RRd10_23) (v := ?_) rfl (by kernel_rfl) (by kernel_rfl) (by kernel_rfl) (fun _ _ _ h => h) (Or.inl ⟨by rfl, ?_⟩) (by assumption) ?_; rotate_left; next => (intro w hSw; (try dsimp only at hSw); (try delta R_RRd10_23); go_simp; try with_reducible rfl))
        ((try simp only [Act.put, List.setIfInBounds_toArray, List.set_cons_zero, List.set_cons_succ]); (try simp only [KD1.out, KD2.out, KD3.out]))
        (refine wpAnyH_take (i := 24) (oi := R_RRd10_24) (v := ?_) rfl (by kernel_rfl) (by kernel_rfl) (by kernel_rfl) (fun _ _ _ h => h) (Or.inl ⟨by rfl, ?_⟩) (by assumption) ?_; rotate_left; next => (intro w hSw; (try dsimp only at hSw); (try delta R_RRd10_24); go_simp; try with_reducible rfl))
        ((try simp only [Act.put, List.setIfInBounds_toArray, List.set_cons_zero, List.set_cons_succ]); (try simp only [KD1.out, KD2.out, KD3.out]))
        first | (refine wpAnyH_take (i := 25) (oi := R_RRd10_25) (v := undef) rfl (by kernel_rfl) (by kernel_rfl) (by kernel_rfl) (fun _ _ _ h => h) (Or.inr ⟨by rfl, rfl⟩) (by assumption) ?_) | (refine wpAnyH_take (i := 25) (oi := R_RRd10_25) (v := ?_) rfl (by kernel_rfl) (by kernel_rfl) (by kernel_rfl) (fun _ _ _ h => h) (Or.inl ⟨by rfl, ?_⟩) (by assumption) ?_; rotate_left; next => (intro w hSw; (try dsimp only at hSw); (try delta R_RRd10_25); go_simp; try with_reducible rfl))
        ((try simp only [Act.put, List.setIfInBounds_toArray, List.set_cons_zero, List.set_cons_succ]); (try simp only [KD1.out, KD2.out, KD3.out]))
        first | (refine wpAnyH_take (i := 26) (oi := R_RRd10_26) (v := undef) rfl (by kernel_rfl) (by kernel_rfl) (by kernel_rfl) (fun _ _ _ h => h) (Or.inr ⟨by rfl, rfl⟩) (by assumption) ?_) | (refine wpAnyH_take (i := 26) (oi := R_RRd10_26) (v := ?_) rfl (by kernel_rfl) (by kernel_rfl) (by kernel_rfl) (fun _ _ _ h => h) (Or.inl ⟨by rfl, ?_⟩) (by assumption) ?_; rotate_left; next => (intro w hSw; (try dsimp only at hSw); (try delta R_RRd10_26); go_simp; try with_reducible rfl))
        ((try simp only [Act.put, List.setIfInBounds_toArray, List.set_cons_zero, List.set_cons_succ]); (try simp only [KD1.out, KD2.out, KD3.out]))
        first | (refine wpAnyH_take (i := 27) (oi := R_RRd10_27) (v := undef) rfl (by kernel_rfl) (by kernel_rfl) (by kernel_rfl) (fun _ _ _ h => h) (Or.inr ⟨by rfl, rfl⟩) (by assumption) ?_) | (refine wpAnyH_take (i := 27) (oi := R_RRd10_27) (v := ?_) rfl (by kernel_rfl) (by kernel_rfl) (by kernel_rfl) (fun _ _ _ h => h) (Or.inl ⟨by rfl, ?_⟩) (by assumption) ?_; rotate_left; next => (intro w hSw; (try dsimp only at hSw); (try delta R_RRd10_27); go_simp; try with_reducible rfl))
        ((try simp only [Act.put, List.setIfInBounds_toArray, List.set_cons_zero, List.set_cons_succ]); (try simp only [KD1.out, KD2.out, KD3.out]))
        (refine wpAnyH_take (i := 28) (oi := R_RRd10_28) (v := ?_) rfl (by kernel_rfl) (by kernel_rfl) (by kernel_rfl) (fun _ _ _ h => h) (Or.inl ⟨by rfl, ?_⟩) (by assumption) ?_; rotate_left; next => (intro w hSw; (try dsimp only at hSw); (try delta R_RRd10_28); go_simp; try with_reducible rfl))
        ((try simp only [Act.put, List.setIfInBounds_toArray, List.set_cons_zero, List.set_cons_succ]); (try simp only [KD1.out, KD2.out, KD3.out]))
        (refine wpAnyH_take (i := 29) (oi := R_RRd10_29) (v := ?_) rfl (by kernel_rfl) (by kernel_rfl) (by kernel_rfl) (fun _ _ _ h => h) (Or.inl ⟨by rfl, ?_⟩) (by assumption) ?_; rotate_left; next => (intro w hSw; (try dsimp only at hSw); (try delta R_RRd10_29); go_simp; try with_reducible rfl))
        ((try simp only [Act.put, List.setIfInBounds_toArray, List.set_cons_zero, List.set_cons_succ]); (try simp only [KD1.out, KD2.out, KD3.out]))
        first | (refine wpAnyH_take (i := 30) (oi := R_RRd10_30) (v := undef) rfl (by kernel_rfl) (by kernel_rfl) (by kernel_rfl) (fun _ _ _ h => h) (Or.inr ⟨by rfl, rfl⟩) (by assumption) ?_) | (refine wpAnyH_take (i := 30) (oi := R_RRd10_30) (v := ?_) rfl (by kernel_rfl) (by kernel_rfl) (by kernel_rfl) (fun _ _ _ h => h) (Or.inl ⟨by rfl, ?_⟩) (by assumption) ?_; rotate_left; next => (intro w hSw; (try dsimp only at hSw); (try delta R_RRd10_30); go_simp; try with_reducible rfl))
        ((try simp only [Act.put, List.setIfInBounds_toArray, List.set_cons_zero, List.set_cons_succ]); (try simp only [KD1.out, KD2.out, KD3.out]))
        first | (refine wpAnyH_take (i := 31) (oi := R_RRd10_31) (v := undef) rfl (by kernel_rfl) (by kernel_rfl) (by kernel_rfl) (fun _ _ _ h => h) (Or.inr ⟨by rfl, rfl⟩) (by assumption) ?_) | (refine wpAnyH_take (i := 31) (oi := R_RRd10_31) (v := ?_) rfl (by kernel_rfl) (by kernel_rfl) (by kernel_rfl) (fun _ _ _ h => h) (Or.inl ⟨by rfl, ?_⟩) (by assumption) ?_; rotate_left; next => (intro w hSw; (try dsimp only at hSw); (try delta R_RRd10_31); go_simp; try with_reducible rfl))
        ((try simp only [Act.put, List.setIfInBounds_toArray, List.set_cons_zero, List.set_cons_succ]); (try simp only [KD1.out, KD2.out, KD3.out]))
        first | (refine wpAnyH_take (i := 32) (oi := R_RRd10_32) (v := undef) rfl (by kernel_rfl) (by kernel_rfl) (by kernel_rfl) (fun _ _ _ h => h) (Or.inr ⟨by rfl, rfl⟩) (by assumption) ?_) | (refine wpAnyH_take (i := 32) (oi := R_RRd10_32) (v := ?_) rfl (by kernel_rfl) (by kernel_rfl) (by kernel_rfl) (fun _ _ _ h => h) (Or.inl ⟨by rfl, ?_⟩) (by assumption) ?_; rotate_left; next => (intro w hSw; (try dsimp only at hSw); (try delta R_RRd10_32); go_simp; try with_reducible rfl))
        ((try simp only [Act.put, List.setIfInBounds_toArray, List.set_cons_zero, List.set_cons_succ]); (try simp only [KD1.out, KD2.out, KD3.out]))
        first
        | (refine wpAnyH_take (i := 33) (oi := R_RRd10_33) (v := undef) rfl (by kernel_rfl) (by kernel_rfl) (by kernel_rfl) (fun _ _ _ h => h) (Or.inr ⟨by rfl, rfl⟩) (by assumption) ?_
           ((try simp only [Act.put, List.setIfInBounds_toArray, List.set_cons_zero, List.set_cons_succ]); (try simp only [KD1.out, KD2.out, KD3.out])))
        | (refine wpAnyH_ready (rs := [33]) (by kernel_rfl) (by simp) ?_
           refine AllReadyH.cons (o := R_RRd10_33) rfl (fun K hK => ?_) AllReadyH.nil
           (try delta R_RRd10_33)
           go_simp
           (first | (go_at_call 44; (with_reducible refine (CBK.out _ HBD.out).mono ?_); rintro e wz ⟨rfl, rfl⟩) | fail)
           (try go_wp2_with fail)
           refine hK.out _ _ ?_ (fun hHeld => ?_)
           · (exact ⟨k1, s0, s1, s2⟩)
           clear hK K
           ((try simp only [Act.put, List.setIfInBounds_toArray, List.set_cons_zero, List.set_cons_succ]); (try simp only [KD1.out, KD2.out, KD3.out])))
        first | (refine wpAnyH_take (i := 34) (oi := R_RRd10_34) (v := undef) rfl (by kernel_rfl) (by kernel_rfl) (by kernel_rfl) (fun _ _ _ h => h) (Or.inr ⟨by rfl, rfl⟩) (by assumption) ?_) | (refine wpAnyH_take (i := 34) (oi := R_RRd10_34) (v := ?_) rfl (by kernel_rfl) (by kernel_rfl) (by kernel_rfl) (fun _ _ _ h => h) (Or.inl ⟨by rfl, ?_⟩) (by assumption) ?_; rotate_left; next => (intro w hSw; (try dsimp only at hSw); (try delta R_RRd10_34); go_simp; try with_reducible rfl))
        ((try simp only [Act.put, List.setIfInBounds_toArray, List.set_cons_zero, List.set_cons_succ]); (try simp only [KD1.out, KD2.out, KD3.out]))
        first | (refine wpAnyH_take (i := 35) (oi := R_RRd10_35) (v := undef) rfl (by kernel_rfl) (by kernel_rfl) (by kernel_rfl) (fun _ _ _ h => h) (Or.inr ⟨by rfl, rfl⟩) (by assumption) ?_) | (refine wpAnyH_take (i := 35) (oi := R_RRd10_35) (v := ?_) rfl (by kernel_rfl) (by kernel_rfl) (by kernel_rfl) (fun _ _ _ h => h) (Or.inl ⟨by rfl, ?_⟩) (by assumption) ?_; rotate_left; next => (intro w hSw; (try dsimp only at hSw); (try delta R_RRd10_35); go_simp; try with_reducible rfl))
        ((try simp only [Act.put, List.setIfInBounds_toArray, List.set_cons_zero, List.set_cons_succ]); (try simp only [KD1.out, KD2.out, KD3.out]))
        (refine wpAnyH_take (i := 36) (oi := R_RRd10_36) (v := ?_) rfl (by kernel_rfl) (by kernel_rfl) (by kernel_rfl) (fun _ _ _ h => h) (Or.inl ⟨by rfl, ?_⟩) (by assumption) ?_; rotate_left; next => (intro w hSw; (try dsimp only at hSw); (try delta R_RRd10_36); go_simp; try with_reducible rfl))
        ((try simp only [Act.put, List.setIfInBounds_toArray, List.set_cons_zero, List.set_cons_succ]); (try simp only [KD1.out, KD2.out, KD3.out]))
        refine wpAnyH_done (by kernel_rfl) ?_ _
        go_wp2_with fail
        refine bodyPost_ret (results_cell_row rfl _ _ w.heap.size 57 #[_, _, _] (0, 0) _ rfl HEZd.out.1 Tryd.underlying57 rfl infoRHead) rfl ?_
        exact ⟨by rw [HF.out]; rfl, HEZd.out.2⟩
      have KD3 : Hid (decide (n2 < 0) = false) := Lib.hid (decide_eq_false kd3)
      by_cases kd4 : 1 < n2
      · have KD4 : Hid (decide (1 < n2) = true) := Lib.hid (decide_eq_true kd4)
        have HF : Hid (hq = ⟨0, 0, 0⟩) := Lib.hid (by rw [HQ.out, if_neg]; rintro ⟨_, o⟩; unfold okRd at o; simp only at o; omega)
        go_wp2_with fail
        refine wp_region_held_drew (S := (fun W => W.cell? ⟨B, 1, none⟩ = some (.bool false) ∧ W.cell? ⟨lb, 0, none⟩ = some (.int .i64 n1) ∧ W.cell? ⟨lb, 1, none⟩ = some (.int .i64 n2) ∧ W.cell? ⟨lb, 2, none⟩ = some (.int .i64 n3))) (by kernel_rfl) ?_ (fun hHeld => ?_)
        · (exact ⟨k1, s0, s1, s2⟩)
        (refine wpAnyH_take (i := 0) (oi := R_RRd10_0) (v := ?_) rfl (by kernel_rfl) (by kernel_rfl) (by kernel_rfl) (fun _ _ _ h => h) (Or.inl ⟨by rfl, ?_⟩) (by assumption) ?_; rotate_left; next => (intro w hSw; (try dsimp only at hSw); (try delta R_RRd10_0); go_simp; try with_reducible rfl))
        ((try simp only [Act.put, List.setIfInBounds_toArray, List.set_cons_zero, List.set_cons_succ]); (try simp only [KD1.out, KD2.out, KD3.out, KD4.out]))
        (refine wpAnyH_take (i := 1) (oi := R_RRd10_1) (v := ?_) rfl (by kernel_rfl) (by kernel_rfl) (by kernel_rfl) (fun _ _ _ h => h) (Or.inl ⟨by rfl, ?_⟩) (by assumption) ?_; rotate_left; next => (intro w hSw; (try dsimp only at hSw); (try delta R_RRd10_1); go_simp; try with_reducible rfl))
        ((try simp only [Act.put, List.setIfInBounds_toArray, List.set_cons_zero, List.set_cons_succ]); (try simp only [KD1.out, KD2.out, KD3.out, KD4.out]))
        (refine wpAnyH_take (i := 2) (oi := R_RRd10_2) (v := ?_) rfl (by kernel_rfl) (by kernel_rfl) (by kernel_rfl) (fun _ _ _ h => h) (Or.inl ⟨by rfl, ?_⟩) (by assumption) ?_; rotate_left; next => (intro w hSw; (try dsimp only at hSw); (try delta R_RRd10_2); go_simp; try with_reducible rfl))
        ((try simp only [Act.put, List.setIfInBounds_toArray, List.set_cons_zero, List.set_cons_succ]); (try simp only [KD1.out, KD2.out, KD3.out, KD4.out]))
        (refine wpAnyH_take (i := 3) (oi := R_RRd10_3) (v := ?_) rfl (by kernel_rfl) (by kernel_rfl) (by kernel_rfl) (fun _ _ _ h => h) (Or.inl ⟨by rfl, ?_⟩) (by assumption) ?_; rotate_left; next => (intro w hSw; (try dsimp only at hSw); (try delta R_RRd10_3); go_simp; try with_reducible rfl))
        ((try simp only [Act.put, List.setIfInBounds_toArray, List.set_cons_zero, List.set_cons_succ]); (try simp only [KD1.out, KD2.out, KD3.out, KD4.out]))
        (refine wpAnyH_take (i := 4) (oi := R_RRd10_4) (v := ?_) rfl (by kernel_rfl) (by kernel_rfl) (by kernel_rfl) (fun _ _ _ h => h) (Or.inl ⟨by rfl, ?_⟩) (by assumption) ?_; rotate_left; next => (intro w hSw; (try dsimp only at hSw); (try delta R_RRd10_4); go_simp; try with_reducible rfl))
        ((try simp only [Act.put, List.setIfInBounds_toArray, List.set_cons_zero, List.set_cons_succ]); (try simp only [KD1.out, KD2.out, KD3.out, KD4.out]))
        first | (refine wpAnyH_take (i := 5) (oi := R_RRd10_5) (v := undef) rfl (by kernel_rfl) (by kernel_rfl) (by kernel_rfl) (fun _ _ _ h => h) (Or.inr ⟨by rfl, rfl⟩) (by assumption) ?_) | (refine wpAnyH_take (i := 5) (oi := R_RRd10_5) (v := ?_) rfl (by kernel_rfl) (by kernel_rfl) (by kernel_rfl) (fun _ _ _ h => h) (Or.inl ⟨by rfl, ?_⟩) (by assumption) ?_; rotate_left; next => (intro w hSw; (try dsimp only at hSw); (try delta R_RRd10_5); go_simp; try with_reducible rfl))
        ((try simp only [Act.put, List.setIfInBounds_toArray, List.set_cons_zero, List.set_cons_succ]); (try simp only [KD1.out, KD2.out, KD3.out, KD4.out]))
        first | (refine wpAnyH_take (i := 6) (oi := R_RRd10_6) (v := undef) rfl (by kernel_rfl) (by kernel_rfl) (by kernel_rfl) (fun _ _ _ h => h) (Or.inr ⟨by rfl, rfl⟩) (by assumption) ?_) | (refine wpAnyH_take (i := 6) (oi := R_RRd10_6) (v := ?_) rfl (by kernel_rfl) (by kernel_rfl) (by kernel_rfl) (fun _ _ _ h => h) (Or.inl ⟨by rfl, ?_⟩) (by assumption) ?_; rotate_left; next => (intro w hSw; (try dsimp only at hSw); (try delta R_RRd10_6); go_simp; try with_reducible rfl))
        ((try simp only [Act.put, List.setIfInBounds_toArray, List.set_cons_zero, List.set_cons_succ]); (try simp only [KD1.out, KD2.out, KD3.out, KD4.out]))
        first | (refine wpAnyH_take (i := 7) (oi := R_RRd10_7) (v := undef) rfl (by kernel_rfl) (by kernel_rfl) (by kernel_rfl) (fun _ _ _ h => h) (Or.inr ⟨by rfl, rfl⟩) (by assumption) ?_) | (refine wpAnyH_take (i := 7) (oi := R_RRd10_7) (v := ?_) rfl (by kernel_rfl) (by kernel_rfl) (by kernel_rfl) (fun _ _ _ h => h) (Or.inl ⟨by rfl, ?_⟩) (by assumption) ?_; rotate_left; next => (intro w hSw; (try dsimp only at hSw); (try delta R_RRd10_7); go_simp; try with_reducible rfl))
        ((try simp only [Act.put, List.setIfInBounds_toArray, List.set_cons_zero, List.set_cons_succ]); (try simp only [KD1.out, KD2.out, KD3.out, KD4.out]))
        (refine wpAnyH_take (i := 8) (oi := R_RRd10_8) (v := ?_) rfl (by kernel_rfl) (by kernel_rfl) (by kernel_rfl) (fun _ _ _ h => h) (Or.inl ⟨by rfl, ?_⟩) (by assumption) ?_; rotate_left; next => (intro w hSw; (try dsimp only at hSw); (try delta R_RRd10_8); go_simp; try with_reducible rfl))
        ((try simp only [Act.put, List.setIfInBounds_toArray, List.set_cons_zero, List.set_cons_succ]); (try simp only [KD1.out, KD2.out, KD3.out, KD4.out]))
        (refine wpAnyH_take (i := 9) (oi := R_RRd10_9) (v := ?_) rfl (by kernel_rfl) (by kernel_rfl) (by kernel_rfl) (fun _ _ _ h => h) (Or.inl ⟨by rfl, ?_⟩) (by assumption) ?_; rotate_left; next => (intro w hSw; (try dsimp only at hSw); (try delta R_RRd10_9); go_simp; try with_reducible rfl))
        ((try simp only [Act.put, List.setIfInBounds_toArray, List.set_cons_zero, List.set_cons_succ]); (try simp only [KD1.out, KD2.out, KD3.out, KD4.out]))
        first | (refine wpAnyH_take (i := 10) (oi := R_RRd10_10) (v := undef) rfl (by kernel_rfl) (by kernel_rfl) (by kernel_rfl) (fun _ _ _ h => h) (Or.inr ⟨by rfl, rfl⟩) (by assumption) ?_) | (refine wpAnyH_take (i := 10) (oi := R_RRd10_10) (v := ?_) rfl (by kernel_rfl) (by kernel_rfl) (by kernel_rfl) (fun _ _ _ h => h) (Or.inl ⟨by rfl, ?_⟩) (by assumption) ?_; rotate_left; next => (intro w hSw; (try dsimp only at hSw); (try delta R_RRd10_10); go_simp; try with_reducible rfl))
        ((try simp only [Act.put, List.setIfInBounds_toArray, List.set_cons_zero, List.set_cons_succ]); (try simp only [KD1.out, KD2.out, KD3.out, KD4.out]))
        first | (refine wpAnyH_take (i := 11) (oi := R_RRd10_11) (v := undef) rfl (by kernel_rfl) (by kernel_rfl) (by kernel_rfl) (fun _ _ _ h => h) (Or.inr ⟨by rfl, rfl⟩) (by assumption) ?_) | (refine wpAnyH_take (i := 11) (oi := R_RRd10_11) (v := ?_) rfl (by kernel_rfl) (by kernel_rfl) (by kernel_rfl) (fun _ _ _ h => h) (Or.inl ⟨by rfl, ?_⟩) (by assumption) ?_; rotate_left; next => (intro w hSw; (try dsimp only at hSw); (try delta R_RRd10_11); go_simp; try with_reducible rfl))
        ((try simp only [Act.put, List.setIfInBounds_toArray, List.set_cons_zero, List.set_cons_succ]); (try simp only [KD1.out, KD2.out, KD3.out, KD4.out]))
        first | (refine wpAnyH_take (i := 12) (oi := R_RRd10_12) (v := undef) rfl (by kernel_rfl) (by kernel_rfl) (by kernel_rfl) (fun _ _ _ h => h) (Or.inr ⟨by rfl, rfl⟩) (by assumption) ?_) | (refine wpAnyH_take (i := 12) (oi := R_RRd10_12) (v := ?_) rfl (by kernel_rfl) (by kernel_rfl) (by kernel_rfl) (fun _ _ _ h => h) (Or.inl ⟨by rfl, ?_⟩) (by assumption) ?_; rotate_left; next => (intro w hSw; (try dsimp only at hSw); (try delta R_RRd10_12); go_simp; try with_reducible rfl))
        ((try simp only [Act.put, List.setIfInBounds_toArray, List.set_cons_zero, List.set_cons_succ]); (try simp only [KD1.out, KD2.out, KD3.out, KD4.out]))
        (refine wpAnyH_take (i := 13) (oi := R_RRd10_13) (v := ?_) rfl (by kernel_rfl) (by kernel_rfl) (by kernel_rfl) (fun _ _ _ h => h) (Or.inl ⟨by rfl, ?_⟩) (by assumption) ?_; rotate_left; next => (intro w hSw; (try dsimp only at hSw); (try delta R_RRd10_13); go_simp; try with_reducible rfl))
        ((try simp only [Act.put, List.setIfInBounds_toArray, List.set_cons_zero, List.set_cons_succ]); (try simp only [KD1.out, KD2.out, KD3.out, KD4.out]))
        (refine wpAnyH_take (i := 14) (oi := R_RRd10_14) (v := ?_) rfl (by kernel_rfl) (by kernel_rfl) (by kernel_rfl) (fun _ _ _ h => h) (Or.inl ⟨by rfl, ?_⟩) (by assumption) ?_; rotate_left; next => (intro w hSw; (try dsimp only at hSw); (try delta R_RRd10_14); go_simp; try with_reducible rfl))
        ((try simp only [Act.put, List.setIfInBounds_toArray, List.set_cons_zero, List.set_cons_succ]); (try simp only [KD1.out, KD2.out, KD3.out, KD4.out]))
        first | (refine wpAnyH_take (i := 15) (oi := R_RRd10_15) (v := undef) rfl (by kernel_rfl) (by kernel_rfl) (by kernel_rfl) (fun _ _ _ h => h) (Or.inr ⟨by rfl, rfl⟩) (by assumption) ?_) | (refine wpAnyH_take (i := 15) (oi := R_RRd10_15) (v := ?_) rfl (by kernel_rfl) (by kernel_rfl) (by kernel_rfl) (fun _ _ _ h => h) (Or.inl ⟨by rfl, ?_⟩) (by assumption) ?_; rotate_left; next => (intro w hSw; (try dsimp only at hSw); (try delta R_RRd10_15); go_simp; try with_reducible rfl))
        ((try simp only [Act.put, List.setIfInBounds_toArray, List.set_cons_zero, List.set_cons_succ]); (try simp only [KD1.out, KD2.out, KD3.out, KD4.out]))
        first | (refine wpAnyH_take (i := 16) (oi := R_RRd10_16) (v := undef) rfl (by kernel_rfl) (by kernel_rfl) (by kernel_rfl) (fun _ _ _ h => h) (Or.inr ⟨by rfl, rfl⟩) (by assumption) ?_) | (refine wpAnyH_take (i := 16) (oi := R_RRd10_16) (v := ?_) rfl (by kernel_rfl) (by kernel_rfl) (by kernel_rfl) (fun _ _ _ h => h) (Or.inl ⟨by rfl, ?_⟩) (by assumption) ?_; rotate_left; next => (intro w hSw; (try dsimp only at hSw); (try delta R_RRd10_16); go_simp; try with_reducible rfl))
        ((try simp only [Act.put, List.setIfInBounds_toArray, List.set_cons_zero, List.set_cons_succ]); (try simp only [KD1.out, KD2.out, KD3.out, KD4.out]))
        first | (refine wpAnyH_take (i := 17) (oi := R_RRd10_17) (v := undef) rfl (by kernel_rfl) (by kernel_rfl) (by kernel_rfl) (fun _ _ _ h => h) (Or.inr ⟨by rfl, rfl⟩) (by assumption) ?_) | (refine wpAnyH_take (i := 17) (oi := R_RRd10_17) (v := ?_) rfl (by kernel_rfl) (by kernel_rfl) (by kernel_rfl) (fun _ _ _ h => h) (Or.inl ⟨by rfl, ?_⟩) (by assumption) ?_; rotate_left; next => (intro w hSw; (try dsimp only at hSw); (try delta R_RRd10_17); go_simp; try with_reducible rfl))
        ((try simp only [Act.put, List.setIfInBounds_toArray, List.set_cons_zero, List.set_cons_succ]); (try simp only [KD1.out, KD2.out, KD3.out, KD4.out]))
        (refine wpAnyH_take (i := 18) (oi := R_RRd10_18) (v := ?_) rfl (by kernel_rfl) (by kernel_rfl) (by kernel_rfl) (fun _ _ _ h => h) (Or.inl ⟨by rfl, ?_⟩) (by assumption) ?_; rotate_left; next => (intro w hSw; (try dsimp only at hSw); (try delta R_RRd10_18); go_simp; try with_reducible rfl))
        ((try simp only [Act.put, List.setIfInBounds_toArray, List.set_cons_zero, List.set_cons_succ]); (try simp only [KD1.out, KD2.out, KD3.out, KD4.out]))
        (refine wpAnyH_take (i := 19) (oi := R_RRd10_19) (v := ?_) rfl (by kernel_rfl) (by kernel_rfl) (by kernel_rfl) (fun _ _ _ h => h) (Or.inl ⟨by rfl, ?_⟩) (by assumption) ?_; rotate_left; next => (intro w hSw; (try dsimp only at hSw); (try delta R_RRd10_19); go_simp; try with_reducible rfl))
        ((try simp only [Act.put, List.setIfInBounds_toArray, List.set_cons_zero, List.set_cons_succ]); (try simp only [KD1.out, KD2.out, KD3.out, KD4.out]))
        first | (refine wpAnyH_take (i := 20) (oi := R_RRd10_20) (v := undef) rfl (by kernel_rfl) (by kernel_rfl) (by kernel_rfl) (fun _ _ _ h => h) (Or.inr ⟨by rfl, rfl⟩) (by assumption) ?_) | (refine wpAnyH_take (i := 20) (oi := R_RRd10_20) (v := ?_) rfl (by kernel_rfl) (by kernel_rfl) (by kernel_rfl) (fun _ _ _ h => h) (Or.inl ⟨by rfl, ?_⟩) (by assumption) ?_; rotate_left; next => (intro w hSw; (try dsimp only at hSw); (try delta R_RRd10_20); go_simp; try with_reducible rfl))
        ((try simp only [Act.put, List.setIfInBounds_toArray, List.set_cons_zero, List.set_cons_succ]); (try simp only [KD1.out, KD2.out, KD3.out, KD4.out]))
        first | (refine wpAnyH_take (i := 21) (oi := R_RRd10_21) (v := undef) rfl (by kernel_rfl) (by kernel_rfl) (by kernel_rfl) (fun _ _ _ h => h) (Or.inr ⟨by rfl, rfl⟩) (by assumption) ?_) | (refine wpAnyH_take (i := 21) (oi := R_RRd10_21) (v := ?_) rfl (by kernel_rfl) (by kernel_rfl) (by kernel_rfl) (fun _ _ _ h => h) (Or.inl ⟨by rfl, ?_⟩) (by assumption) ?_; rotate_left; next => (intro w hSw; (try dsimp only at hSw); (try delta R_RRd10_21); go_simp; try with_reducible rfl))
        ((try simp only [Act.put, List.setIfInBounds_toArray, List.set_cons_zero, List.set_cons_succ]); (try simp only [KD1.out, KD2.out, KD3.out, KD4.out]))
        first | (refine wpAnyH_take (i := 22) (oi := R_RRd10_22) (v := undef) rfl (by kernel_rfl) (by kernel_rfl) (by kernel_rfl) (fun _ _ _ h => h) (Or.inr ⟨by rfl, rfl⟩) (by assumption) ?_) | (refine wpAnyH_take (i := 22) (oi := R_RRd10_22) (v := ?_) rfl (by kernel_rfl) (by kernel_rfl) (by kernel_rfl) (fun _ _ _ h => h) (Or.inl ⟨by rfl, ?_⟩) (by assumption) ?_; rotate_left; next => (intro w hSw; (try dsimp only at hSw); (try delta R_RRd10_22); go_simp; try with_reducible rfl))
        ((try simp only [Act.put, List.setIfInBounds_toArray, List.set_cons_zero, List.set_cons_succ]); (try simp only [KD1.out, KD2.out, KD3.out, KD4.out]))
        (refine wpAnyH_take (i := 23) (oi := R_RRd10_23) (v := ?_) rfl (by kernel_rfl) (by kernel_rfl) (by kernel_rfl) (fun _ _ _ h => h) (Or.inl ⟨by rfl, ?_⟩) (by assumption) ?_; rotate_left; next => (intro w hSw; (try dsimp only at hSw); (try delta R_RRd10_23); go_simp; try with_reducible rfl))
        ((try simp only [Act.put, List.setIfInBounds_toArray, List.set_cons_zero, List.set_cons_succ]); (try simp only [KD1.out, KD2.out, KD3.out, KD4.out]))
        (refine wpAnyH_take (i := 24) (oi := R_RRd10_24) (v := ?_) rfl (by kernel_rfl) (by kernel_rfl) (by kernel_rfl) (fun _ _ _ h => h) (Or.inl ⟨by rfl, ?_⟩) (by assumption) ?_; rotate_left; next => (intro w hSw; (try dsimp only at hSw); (try delta R_RRd10_24); go_simp; try with_reducible rfl))
        ((try simp only [Act.put, List.setIfInBounds_toArray, List.set_cons_zero, List.set_cons_succ]); (try simp only [KD1.out, KD2.out, KD3.out, KD4.out]))
        first | (refine wpAnyH_take (i := 25) (oi := R_RRd10_25) (v := undef) rfl (by kernel_rfl) (by kernel_rfl) (by kernel_rfl) (fun _ _ _ h => h) (Or.inr ⟨by rfl, rfl⟩) (by assumption) ?_) | (refine wpAnyH_take (i := 25) (oi := R_RRd10_25) (v := ?_) rfl (by kernel_rfl) (by kernel_rfl) (by kernel_rfl) (fun _ _ _ h => h) (Or.inl ⟨by rfl, ?_⟩) (by assumption) ?_; rotate_left; next => (intro w hSw; (try dsimp only at hSw); (try delta R_RRd10_25); go_simp; try with_reducible rfl))
        ((try simp only [Act.put, List.setIfInBounds_toArray, List.set_cons_zero, List.set_cons_succ]); (try simp only [KD1.out, KD2.out, KD3.out, KD4.out]))
        first | (refine wpAnyH_take (i := 26) (oi := R_RRd10_26) (v := undef) rfl (by kernel_rfl) (by kernel_rfl) (by kernel_rfl) (fun _ _ _ h => h) (Or.inr ⟨by rfl, rfl⟩) (by assumption) ?_) | (refine wpAnyH_take (i := 26) (oi := R_RRd10_26) (v := ?_) rfl (by kernel_rfl) (by kernel_rfl) (by kernel_rfl) (fun _ _ _ h => h) (Or.inl ⟨by rfl, ?_⟩) (by assumption) ?_; rotate_left; next => (intro w hSw; (try dsimp only at hSw); (try delta R_RRd10_26); go_simp; try with_reducible rfl))
        ((try simp only [Act.put, List.setIfInBounds_toArray, List.set_cons_zero, List.set_cons_succ]); (try simp only [KD1.out, KD2.out, KD3.out, KD4.out]))
        first | (refine wpAnyH_take (i := 27) (oi := R_RRd10_27) (v := undef) rfl (by kernel_rfl) (by kernel_rfl) (by kernel_rfl) (fun _ _ _ h => h) (Or.inr ⟨by rfl, rfl⟩) (by assumption) ?_) | (refine wpAnyH_take (i := 27) (oi := R_RRd10_27) (v := ?_) rfl (by kernel_rfl) (by kernel_rfl) (by kernel_rfl) (fun _ _ _ h => h) (Or.inl ⟨by rfl, ?_⟩) (by assumption) ?_; rotate_left; next => (intro w hSw; (try dsimp only at hSw); (try delta R_RRd10_27); go_simp; try with_reducible rfl))
        ((try simp only [Act.put, List.setIfInBounds_toArray, List.set_cons_zero, List.set_cons_succ]); (try simp only [KD1.out, KD2.out, KD3.out, KD4.out]))
        (refine wpAnyH_take (i := 28) (oi := R_RRd10_28) (v := ?_) rfl (by kernel_rfl) (by kernel_rfl) (by kernel_rfl) (fun _ _ _ h => h) (Or.inl ⟨by rfl, ?_⟩) (by assumption) ?_; rotate_left; next => (intro w hSw; (try dsimp only at hSw); (try delta R_RRd10_28); go_simp; try with_reducible rfl))
        ((try simp only [Act.put, List.setIfInBounds_toArray, List.set_cons_zero, List.set_cons_succ]); (try simp only [KD1.out, KD2.out, KD3.out, KD4.out]))
        (refine wpAnyH_take (i := 29) (oi := R_RRd10_29) (v := ?_) rfl (by kernel_rfl) (by kernel_rfl) (by kernel_rfl) (fun _ _ _ h => h) (Or.inl ⟨by rfl, ?_⟩) (by assumption) ?_; rotate_left; next => (intro w hSw; (try dsimp only at hSw); (try delta R_RRd10_29); go_simp; try with_reducible rfl))
        ((try simp only [Act.put, List.setIfInBounds_toArray, List.set_cons_zero, List.set_cons_succ]); (try simp only [KD1.out, KD2.out, KD3.out, KD4.out]))
        first | (refine wpAnyH_take (i := 30) (oi := R_RRd10_30) (v := undef) rfl (by kernel_rfl) (by kernel_rfl) (by kernel_rfl) (fun _ _ _ h => h) (Or.inr ⟨by rfl, rfl⟩) (by assumption) ?_) | (refine wpAnyH_take (i := 30) (oi := R_RRd10_30) (v := ?_) rfl (by kernel_rfl) (by kernel_rfl) (by kernel_rfl) (fun _ _ _ h => h) (Or.inl ⟨by rfl, ?_⟩) (by assumption) ?_; rotate_left; next => (intro w hSw; (try dsimp only at hSw); (try delta R_RRd10_30); go_simp; try with_reducible rfl))
        ((try simp only [Act.put, List.setIfInBounds_toArray, List.set_cons_zero, List.set_cons_succ]); (try simp only [KD1.out, KD2.out, KD3.out, KD4.out]))
        first | (refine wpAnyH_take (i := 31) (oi := R_RRd10_31) (v := undef) rfl (by kernel_rfl) (by kernel_rfl) (by kernel_rfl) (fun _ _ _ h => h) (Or.inr ⟨by rfl, rfl⟩) (by assumption) ?_) | (refine wpAnyH_take (i := 31) (oi := R_RRd10_31) (v := ?_) rfl (by kernel_rfl) (by kernel_rfl) (by kernel_rfl) (fun _ _ _ h => h) (Or.inl ⟨by rfl, ?_⟩) (by assumption) ?_; rotate_left; next => (intro w hSw; (try dsimp only at hSw); (try delta R_RRd10_31); go_simp; try with_reducible rfl))
        ((try simp only [Act.put, List.setIfInBounds_toArray, List.set_cons_zero, List.set_cons_succ]); (try simp only [KD1.out, KD2.out, KD3.out, KD4.out]))
        first | (refine wpAnyH_take (i := 32) (oi := R_RRd10_32) (v := undef) rfl (by kernel_rfl) (by kernel_rfl) (by kernel_rfl) (fun _ _ _ h => h) (Or.inr ⟨by rfl, rfl⟩) (by assumption) ?_) | (refine wpAnyH_take (i := 32) (oi := R_RRd10_32) (v := ?_) rfl (by kernel_rfl) (by kernel_rfl) (by kernel_rfl) (fun _ _ _ h => h) (Or.inl ⟨by rfl, ?_⟩) (by assumption) ?_; rotate_left; next => (intro w hSw; (try dsimp only at hSw); (try delta R_RRd10_32); go_simp; try with_reducible rfl))
        ((try simp only [Act.put, List.setIfInBounds_toArray, List.set_cons_zero, List.set_cons_succ]); (try simp only [KD1.out, KD2.out, KD3.out, KD4.out]))
        first
        | (refine wpAnyH_take (i := 33) (oi := R_RRd10_33) (v := undef) rfl (by kernel_rfl) (by kernel_rfl) (by kernel_rfl) (fun _ _ _ h => h) (Or.inr ⟨by rfl, rfl⟩) (by assumption) ?_
           ((try simp only [Act.put, List.setIfInBounds_toArray, List.set_cons_zero, List.set_cons_succ]); (try simp only [KD1.out, KD2.out, KD3.out, KD4.out])))
        | (refine wpAnyH_ready (rs := [33]) (by kernel_rfl) (by simp) ?_
           refine AllReadyH.cons (o := R_RRd10_33) rfl (fun K hK => ?_) AllReadyH.nil
           (try delta R_RRd10_33)
           go_simp
           (first | (go_at_call 44; (with_reducible refine (CBK.out _ HBD.out).mono ?_); rintro e wz ⟨rfl, rfl⟩) | fail)
           (try go_wp2_with fail)
           refine hK.out _ _ ?_ (fun hHeld => ?_)
           · (exact ⟨k1, s0, s1, s2⟩)
           clear hK K
           ((try simp only [Act.put, List.setIfInBounds_toArray, List.set_cons_zero, List.set_cons_succ]); (try simp only [KD1.out, KD2.out, KD3.out, KD4.out])))
        first | (refine wpAnyH_take (i := 34) (oi := R_RRd10_34) (v := undef) rfl (by kernel_rfl) (by kernel_rfl) (by kernel_rfl) (fun _ _ _ h => h) (Or.inr ⟨by rfl, rfl⟩) (by assumption) ?_) | (refine wpAnyH_take (i := 34) (oi := R_RRd10_34) (v := ?_) rfl (by kernel_rfl) (by kernel_rfl) (by kernel_rfl) (fun _ _ _ h => h) (Or.inl ⟨by rfl, ?_⟩) (by assumption) ?_; rotate_left; next => (intro w hSw; (try dsimp only at hSw); (try delta R_RRd10_34); go_simp; try with_reducible rfl))
        ((try simp only [Act.put, List.setIfInBounds_toArray, List.set_cons_zero, List.set_cons_succ]); (try simp only [KD1.out, KD2.out, KD3.out, KD4.out]))
        first | (refine wpAnyH_take (i := 35) (oi := R_RRd10_35) (v := undef) rfl (by kernel_rfl) (by kernel_rfl) (by kernel_rfl) (fun _ _ _ h => h) (Or.inr ⟨by rfl, rfl⟩) (by assumption) ?_) | (refine wpAnyH_take (i := 35) (oi := R_RRd10_35) (v := ?_) rfl (by kernel_rfl) (by kernel_rfl) (by kernel_rfl) (fun _ _ _ h => h) (Or.inl ⟨by rfl, ?_⟩) (by assumption) ?_; rotate_left; next => (intro w hSw; (try dsimp only at hSw); (try delta R_RRd10_35); go_simp; try with_reducible rfl))
        ((try simp only [Act.put, List.setIfInBounds_toArray, List.set_cons_zero, List.set_cons_succ]); (try simp only [KD1.out, KD2.out, KD3.out, KD4.out]))
        (refine wpAnyH_take (i := 36) (oi := R_RRd10_36) (v := ?_) rfl (by kernel_rfl) (by kernel_rfl) (by kernel_rfl) (fun _ _ _ h => h) (Or.inl ⟨by rfl, ?_⟩) (by assumption) ?_; rotate_left; next => (intro w hSw; (try dsimp only at hSw); (try delta R_RRd10_36); go_simp; try with_reducible rfl))
        ((try simp only [Act.put, List.setIfInBounds_toArray, List.set_cons_zero, List.set_cons_succ]); (try simp only [KD1.out, KD2.out, KD3.out, KD4.out]))
        refine wpAnyH_done (by kernel_rfl) ?_ _
        go_wp2_with fail
        refine bodyPost_ret (results_cell_row rfl _ _ w.heap.size 57 #[_, _, _] (0, 0) _ rfl HEZd.out.1 Tryd.underlying57 rfl infoRHead) rfl ?_
        exact ⟨by rw [HF.out]; rfl, HEZd.out.2⟩
      have KD4 : Hid (decide (1 < n2) = false) := Lib.hid (decide_eq_false kd4)
      by_cases kd5 : n3 < 0
      · have KD5 : Hid (decide (n3 < 0) = true) := Lib.hid (decide_eq_true kd5)
        have HF : Hid (hq = ⟨0, 0, 0⟩) := Lib.hid (by rw [HQ.out, if_neg]; rintro ⟨_, o⟩; unfold okRd at o; simp only at o; omega)
        go_wp2_with fail
        refine wp_region_held_drew (S := (fun W => W.cell? ⟨B, 1, none⟩ = some (.bool false) ∧ W.cell? ⟨lb, 0, none⟩ = some (.int .i64 n1) ∧ W.cell? ⟨lb, 1, none⟩ = some (.int .i64 n2) ∧ W.cell? ⟨lb, 2, none⟩ = some (.int .i64 n3))) (by kernel_rfl) ?_ (fun hHeld => ?_)
        · (exact ⟨k1, s0, s1, s2⟩)
        (refine wpAnyH_take (i := 0) (oi := R_RRd10_0) (v := ?_) rfl (by kernel_rfl) (by kernel_rfl) (by kernel_rfl) (fun _ _ _ h => h) (Or.inl ⟨by rfl, ?_⟩) (by assumption) ?_; rotate_left; next => (intro w hSw; (try dsimp only at hSw); (try delta R_RRd10_0); go_simp; try with_reducible rfl))
        ((try simp only [Act.put, List.setIfInBounds_toArray, List.set_cons_zero, List.set_cons_succ]); (try simp only [KD1.out, KD2.out, KD3.out, KD4.out, KD5.out]))
        (refine wpAnyH_take (i := 1) (oi := R_RRd10_1) (v := ?_) rfl (by kernel_rfl) (by kernel_rfl) (by kernel_rfl) (fun _ _ _ h => h) (Or.inl ⟨by rfl, ?_⟩) (by assumption) ?_; rotate_left; next => (intro w hSw; (try dsimp only at hSw); (try delta R_RRd10_1); go_simp; try with_reducible rfl))
        ((try simp only [Act.put, List.setIfInBounds_toArray, List.set_cons_zero, List.set_cons_succ]); (try simp only [KD1.out, KD2.out, KD3.out, KD4.out, KD5.out]))
        (refine wpAnyH_take (i := 2) (oi := R_RRd10_2) (v := ?_) rfl (by kernel_rfl) (by kernel_rfl) (by kernel_rfl) (fun _ _ _ h => h) (Or.inl ⟨by rfl, ?_⟩) (by assumption) ?_; rotate_left; next => (intro w hSw; (try dsimp only at hSw); (try delta R_RRd10_2); go_simp; try with_reducible rfl))
        ((try simp only [Act.put, List.setIfInBounds_toArray, List.set_cons_zero, List.set_cons_succ]); (try simp only [KD1.out, KD2.out, KD3.out, KD4.out, KD5.out]))
        (refine wpAnyH_take (i := 3) (oi := R_RRd10_3) (v := ?_) rfl (by kernel_rfl) (by kernel_rfl) (by kernel_rfl) (fun _ _ _ h => h) (Or.inl ⟨by rfl, ?_⟩) (by assumption) ?_; rotate_left; next => (intro w hSw; (try dsimp only at hSw); (try delta R_RRd10_3); go_simp; try with_reducible rfl))
        ((try simp only [Act.put, List.setIfInBounds_toArray, List.set_cons_zero, List.set_cons_succ]); (try simp only [KD1.out, KD2.out, KD3.out, KD4.out, KD5.out]))
        (refine wpAnyH_take (i := 4) (oi := R_RRd10_4) (v := ?_) rfl (by kernel_rfl) (by kernel_rfl) (by kernel_rfl) (fun _ _ _ h => h) (Or.inl ⟨by rfl, ?_⟩) (by assumption) ?_; rotate_left; next => (intro w hSw; (try dsimp only at hSw); (try delta R_RRd10_4); go_simp; try with_reducible rfl))
        ((try simp only [Act.put, List.setIfInBounds_toArray, List.set_cons_zero, List.set_cons_succ]); (try simp only [KD1.out, KD2.out, KD3.out, KD4.out, KD5.out]))
        first | (refine wpAnyH_take (i := 5) (oi := R_RRd10_5) (v := undef) rfl (by kernel_rfl) (by kernel_rfl) (by kernel_rfl) (fun _ _ _ h => h) (Or.inr ⟨by rfl, rfl⟩) (by assumption) ?_) | (refine wpAnyH_take (i := 5) (oi := R_RRd10_5) (v := ?_) rfl (by kernel_rfl) (by kernel_rfl) (by kernel_rfl) (fun _ _ _ h => h) (Or.inl ⟨by rfl, ?_⟩) (by assumption) ?_; rotate_left; next => (intro w hSw; (try dsimp only at hSw); (try delta R_RRd10_5); go_simp; try with_reducible rfl))
        ((try simp only [Act.put, List.setIfInBounds_toArray, List.set_cons_zero, List.set_cons_succ]); (try simp only [KD1.out, KD2.out, KD3.out, KD4.out, KD5.out]))
        first | (refine wpAnyH_take (i := 6) (oi := R_RRd10_6) (v := undef) rfl (by kernel_rfl) (by kernel_rfl) (by kernel_rfl) (fun _ _ _ h => h) (Or.inr ⟨by rfl, rfl⟩) (by assumption) ?_) | (refine wpAnyH_take (i := 6) (oi := R_RRd10_6) (v := ?_) rfl (by kernel_rfl) (by kernel_rfl) (by kernel_rfl) (fun _ _ _ h => h) (Or.inl ⟨by rfl, ?_⟩) (by assumption) ?_; rotate_left; next => (intro w hSw; (try dsimp only at hSw); (try delta R_RRd10_6); go_simp; try with_reducible rfl))
        ((try simp only [Act.put, List.setIfInBounds_toArray, List.set_cons_zero, List.set_cons_succ]); (try simp only [KD1.out, KD2.out, KD3.out, KD4.out, KD5.out]))
        first | (refine wpAnyH_take (i := 7) (oi := R_RRd10_7) (v := undef) rfl (by kernel_rfl) (by kernel_rfl) (by kernel_rfl) (fun _ _ _ h => h) (Or.inr ⟨by rfl, rfl⟩) (by assumption) ?_) | (refine wpAnyH_take (i := 7) (oi := R_RRd10_7) (v := ?_) rfl (by kernel_rfl) (by kernel_rfl) (by kernel_rfl) (fun _ _ _ h => h) (Or.inl ⟨by rfl, ?_⟩) (by assumption) ?_; rotate_left; next => (intro w hSw; (try dsimp only at hSw); (try delta R_RRd10_7); go_simp; try with_reducible rfl))
        ((try simp only [Act.put, List.setIfInBounds_toArray, List.set_cons_zero, List.set_cons_succ]); (try simp only [KD1.out, KD2.out, KD3.out, KD4.out, KD5.out]))
        (refine wpAnyH_take (i := 8) (oi := R_RRd10_8) (v := ?_) rfl (by kernel_rfl) (by kernel_rfl) (by kernel_rfl) (fun _ _ _ h => h) (Or.inl ⟨by rfl, ?_⟩) (by assumption) ?_; rotate_left; next => (intro w hSw; (try dsimp only at hSw); (try delta R_RRd10_8); go_simp; try with_reducible rfl))
        ((try simp only [Act.put, List.setIfInBounds_toArray, List.set_cons_zero, List.set_cons_succ]); (try simp only [KD1.out, KD2.out, KD3.out, KD4.out, KD5.out]))
        (refine wpAnyH_take (i := 9) (oi := R_RRd10_9) (v := ?_) rfl (by kernel_rfl) (by kernel_rfl) (by kernel_rfl) (fun _ _ _ h => h) (Or.inl ⟨by rfl, ?_⟩) (by assumption) ?_; rotate_left; next => (intro w hSw; (try dsimp only at hSw); (try delta R_RRd10_9); go_simp; try with_reducible rfl))
        ((try simp only [Act.put, List.setIfInBounds_toArray, List.set_cons_zero, List.set_cons_succ]); (try simp only [KD1.out, KD2.out, KD3.out, KD4.out, KD5.out]))
        first | (refine wpAnyH_take (i := 10) (oi := R_RRd10_10) (v := undef) rfl (by kernel_rfl) (by kernel_rfl) (by kernel_rfl) (fun _ _ _ h => h) (Or.inr ⟨by rfl, rfl⟩) (by assumption) ?_) | (refine wpAnyH_take (i := 10) (oi := R_RRd10_10) (v := ?_) rfl (by kernel_rfl) (by kernel_rfl) (by kernel_rfl) (fun _ _ _ h => h) (Or.inl ⟨by rfl, ?_⟩) (by assumption) ?_; rotate_left; next => (intro w hSw; (try dsimp only at hSw); (try delta R_RRd10_10); go_simp; try with_reducible rfl))
        ((try simp only [Act.put, List.setIfInBounds_toArray, List.set_cons_zero, List.set_cons_succ]); (try simp only [KD1.out, KD2.out, KD3.out, KD4.out, KD5.out]))
        first | (refine wpAnyH_take (i := 11) (oi := R_RRd10_11) (v := undef) rfl (by kernel_rfl) (by kernel_rfl) (by kernel_rfl) (fun _ _ _ h => h) (Or.inr ⟨by rfl, rfl⟩) (by assumption) ?_) | (refine wpAnyH_take (i := 11) (oi := R_RRd10_11) (v := ?_) rfl (by kernel_rfl) (by kernel_rfl) (by kernel_rfl) (fun _ _ _ h => h) (Or.inl ⟨by rfl, ?_⟩) (by assumption) ?_; rotate_left; next => (intro w hSw; (try dsimp only at hSw); (try delta R_RRd10_11); go_simp; try with_reducible rfl))
        ((try simp only [Act.put, List.setIfInBounds_toArray, List.set_cons_zero, List.set_cons_succ]); (try simp only [KD1.out, KD2.out, KD3.out, KD4.out, KD5.out]))
        first | (refine wpAnyH_take (i := 12) (oi := R_RRd10_12) (v := undef) rfl (by kernel_rfl) (by kernel_rfl) (by kernel_rfl) (fun _ _ _ h => h) (Or.inr ⟨by rfl, rfl⟩) (by assumption) ?_) | (refine wpAnyH_take (i := 12) (oi := R_RRd10_12) (v := ?_) rfl (by kernel_rfl) (by kernel_rfl) (by kernel_rfl) (fun _ _ _ h => h) (Or.inl ⟨by rfl, ?_⟩) (by assumption) ?_; rotate_left; next => (intro w hSw; (try dsimp only at hSw); (try delta R_RRd10_12); go_simp; try with_reducible rfl))
        ((try simp only [Act.put, List.setIfInBounds_toArray, List.set_cons_zero, List.set_cons_succ]); (try simp only [KD1.out, KD2.out, KD3.out, KD4.out, KD5.out]))
        (refine wpAnyH_take (i := 13) (oi := R_RRd10_13) (v := ?_) rfl (by kernel_rfl) (by kernel_rfl) (by kernel_rfl) (fun _ _ _ h => h) (Or.inl ⟨by rfl, ?_⟩) (by assumption) ?_; rotate_left; next => (intro w hSw; (try dsimp only at hSw); (try delta R_RRd10_13); go_simp; try with_reducible rfl))
        ((try simp only [Act.put, List.setIfInBounds_toArray, List.set_cons_zero, List.set_cons_succ]); (try simp only [KD1.out, KD2.out, KD3.out, KD4.out, KD5.out]))
        (refine wpAnyH_take (i := 14) (oi := R_RRd10_14) (v := ?_) rfl (by kernel_rfl) (by kernel_rfl) (by kernel_rfl) (fun _ _ _ h => h) (Or.inl ⟨by rfl, ?_⟩) (by assumption) ?_; rotate_left; next => (intro w hSw; (try dsimp only at hSw); (try delta R_RRd10_14); go_simp; try with_reducible rfl))
        ((try simp only [Act.put, List.setIfInBounds_toArray, List.set_cons_zero, List.set_cons_succ]); (try simp only [KD1.out, KD2.out, KD3.out, KD4.out, KD5.out]))
        first | (refine wpAnyH_take (i := 15) (oi := R_RRd10_15) (v := undef) rfl (by kernel_rfl) (by kernel_rfl) (by kernel_rfl) (fun _ _ _ h => h) (Or.inr ⟨by rfl, rfl⟩) (by assumption) ?_) | (refine wpAnyH_take (i := 15) (oi := R_RRd10_15) (v := ?_) rfl (by kernel_rfl) (by kernel_rfl) (by kernel_rfl) (fun _ _ _ h => h) (Or.inl ⟨by rfl, ?_⟩) (by assumption) ?_; rotate_left; next => (intro w hSw; (try dsimp only at hSw); (try delta R_RRd10_15); go_simp; try with_reducible rfl))
        ((try simp only [Act.put, List.setIfInBounds_toArray, List.set_cons_zero, List.set_cons_succ]); (try simp only [KD1.out, KD2.out, KD3.out, KD4.out, KD5.out]))
        first | (refine wpAnyH_take (i := 16) (oi := R_RRd10_16) (v := undef) rfl (by kernel_rfl) (by kernel_rfl) (by kernel_rfl) (fun _ _ _ h => h) (Or.inr ⟨by rfl, rfl⟩) (by assumption) ?_) | (refine wpAnyH_take (i := 16) (oi := R_RRd10_16) (v := ?_) rfl (by kernel_rfl) (by kernel_rfl) (by kernel_rfl) (fun _ _ _ h => h) (Or.inl ⟨by rfl, ?_⟩) (by assumption) ?_; rotate_left; next => (intro w hSw; (try dsimp only at hSw); (try delta R_RRd10_16); go_simp; try with_reducible rfl))
        ((try simp only [Act.put, List.setIfInBounds_toArray, List.set_cons_zero, List.set_cons_succ]); (try simp only [KD1.out, KD2.out, KD3.out, KD4.out, KD5.out]))
        first | (refine wpAnyH_take (i := 17) (oi := R_RRd10_17) (v := undef) rfl (by kernel_rfl) (by kernel_rfl) (by kernel_rfl) (fun _ _ _ h => h) (Or.inr ⟨by rfl, rfl⟩) (by assumption) ?_) | (refine wpAnyH_take (i := 17) (oi := R_RRd10_17) (v := ?_) rfl (by kernel_rfl) (by kernel_rfl) (by kernel_rfl) (fun _ _ _ h => h) (Or.inl ⟨by rfl, ?_⟩) (by assumption) ?_; rotate_left; next => (intro w hSw; (try dsimp only at hSw); (try delta R_RRd10_17); go_simp; try with_reducible rfl))
        ((try simp only [Act.put, List.setIfInBounds_toArray, List.set_cons_zero, List.set_cons_succ]); (try simp only [KD1.out, KD2.out, KD3.out, KD4.out, KD5.out]))
        (refine wpAnyH_take (i := 18) (oi := R_RRd10_18) (v := ?_) rfl (by kernel_rfl) (by kernel_rfl) (by kernel_rfl) (fun _ _ _ h => h) (Or.inl ⟨by rfl, ?_⟩) (by assumption) ?_; rotate_left; next => (intro w hSw; (try dsimp only at hSw); (try delta R_RRd10_18); go_simp; try with_reducible rfl))
        ((try simp only [Act.put, List.setIfInBounds_toArray, List.set_cons_zero, List.set_cons_succ]); (try simp only [KD1.out, KD2.out, KD3.out, KD4.out, KD5.out]))
        (refine wpAnyH_take (i := 19) (oi := R_RRd10_19) (v := ?_) rfl (by kernel_rfl) (by kernel_rfl) (by kernel_rfl) (fun _ _ _ h => h) (Or.inl ⟨by rfl, ?_⟩) (by assumption) ?_; rotate_left; next => (intro w hSw; (try dsimp only at hSw); (try delta R_RRd10_19); go_simp; try with_reducible rfl))
        ((try simp only [Act.put, List.setIfInBounds_toArray, List.set_cons_zero, List.set_cons_succ]); (try simp only [KD1.out, KD2.out, KD3.out, KD4.out, KD5.out]))
        first | (refine wpAnyH_take (i := 20) (oi := R_RRd10_20) (v := undef) rfl (by kernel_rfl) (by kernel_rfl) (by kernel_rfl) (fun _ _ _ h => h) (Or.inr ⟨by rfl, rfl⟩) (by assumption) ?_) | (refine wpAnyH_take (i := 20) (oi := R_RRd10_20) (v := ?_) rfl (by kernel_rfl) (by kernel_rfl) (by kernel_rfl) (fun _ _ _ h => h) (Or.inl ⟨by rfl, ?_⟩) (by assumption) ?_; rotate_left; next => (intro w hSw; (try dsimp only at hSw); (try delta R_RRd10_20); go_simp; try with_reducible rfl))
        ((try simp only [Act.put, List.setIfInBounds_toArray, List.set_cons_zero, List.set_cons_succ]); (try simp only [KD1.out, KD2.out, KD3.out, KD4.out, KD5.out]))
        first | (refine wpAnyH_take (i := 21) (oi := R_RRd10_21) (v := undef) rfl (by kernel_rfl) (by kernel_rfl) (by kernel_rfl) (fun _ _ _ h => h) (Or.inr ⟨by rfl, rfl⟩) (by assumption) ?_) | (refine wpAnyH_take (i := 21) (oi := R_RRd10_21) (v := ?_) rfl (by kernel_rfl) (by kernel_rfl) (by kernel_rfl) (fun _ _ _ h => h) (Or.inl ⟨by rfl, ?_⟩) (by assumption) ?_; rotate_left; next => (intro w hSw; (try dsimp only at hSw); (try delta R_RRd10_21); go_simp; try with_reducible rfl))
        ((try simp only [Act.put, List.setIfInBounds_toArray, List.set_cons_zero, List.set_cons_succ]); (try simp only [KD1.out, KD2.out, KD3.out, KD4.out, KD5.out]))
        first | (refine wpAnyH_take (i := 22) (oi := R_RRd10_22) (v := undef) rfl (by kernel_rfl) (by kernel_rfl) (by kernel_rfl) (fun _ _ _ h => h) (Or.inr ⟨by rfl, rfl⟩) (by assumption) ?_) | (refine wpAnyH_take (i := 22) (oi := R_RRd10_22) (v := ?_) rfl (by kernel_rfl) (by kernel_rfl) (by kernel_rfl) (fun _ _ _ h => h) (Or.inl ⟨by rfl, ?_⟩) (by assumption) ?_; rotate_left; next => (intro w hSw; (try dsimp only at hSw); (try delta R_RRd10_22); go_simp; try with_reducible rfl))
        ((try simp only [Act.put, List.setIfInBounds_toArray, List.set_cons_zero, List.set_cons_succ]); (try simp only [KD1.out, KD2.out, KD3.out, KD4.out, KD5.out]))
        (refine wpAnyH_take (i := 23) (oi := R_RRd10_23) (v := ?_) rfl (by kernel_rfl) (by kernel_rfl) (by kernel_rfl) (fun _ _ _ h => h) (Or.inl ⟨by rfl, ?_⟩) (by assumption) ?_; rotate_left; next => (intro w hSw; (try dsimp only at hSw); (try delta R_RRd10_23); go_simp; try with_reducible rfl))
        ((try simp only [Act.put, List.setIfInBounds_toArray, List.set_cons_zero, List.set_cons_succ]); (try simp only [KD1.out, KD2.out, KD3.out, KD4.out, KD5.out]))
        (refine wpAnyH_take (i := 24) (oi := R_RRd10_24) (v := ?_) rfl (by kernel_rfl) (by kernel_rfl) (by kernel_rfl) (fun _ _ _ h => h) (Or.inl ⟨by rfl, ?_⟩) (by assumption) ?_; rotate_left; next => (intro w hSw; (try dsimp only at hSw); (try delta R_RRd10_24); go_simp; try with_reducible rfl))
        ((try simp only [Act.put, List.setIfInBounds_toArray, List.set_cons_zero, List.set_cons_succ]); (try simp only [KD1.out, KD2.out, KD3.out, KD4.out, KD5.out]))
        first | (refine wpAnyH_take (i := 25) (oi := R_RRd10_25) (v := undef) rfl (by kernel_rfl) (by kernel_rfl) (by kernel_rfl) (fun _ _ _ h => h) (Or.inr ⟨by rfl, rfl⟩) (by assumption) ?_) | (refine wpAnyH_take (i := 25) (oi := R_RRd10_25) (v := ?_) rfl (by kernel_rfl) (by kernel_rfl) (by kernel_rfl) (fun _ _ _ h => h) (Or.inl ⟨by rfl, ?_⟩) (by assumption) ?_; rotate_left; next => (intro w hSw; (try dsimp only at hSw); (try delta R_RRd10_25); go_simp; try with_reducible rfl))
        ((try simp only [Act.put, List.setIfInBounds_toArray, List.set_cons_zero, List.set_cons_succ]); (try simp only [KD1.out, KD2.out, KD3.out, KD4.out, KD5.out]))
        first | (refine wpAnyH_take (i := 26) (oi := R_RRd10_26) (v := undef) rfl (by kernel_rfl) (by kernel_rfl) (by kernel_rfl) (fun _ _ _ h => h) (Or.inr ⟨by rfl, rfl⟩) (by assumption) ?_) | (refine wpAnyH_take (i := 26) (oi := R_RRd10_26) (v := ?_) rfl (by kernel_rfl) (by kernel_rfl) (by kernel_rfl) (fun _ _ _ h => h) (Or.inl ⟨by rfl, ?_⟩) (by assumption) ?_; rotate_left; next => (intro w hSw; (try dsimp only at hSw); (try delta R_RRd10_26); go_simp; try with_reducible rfl))
        ((try simp only [Act.put, List.setIfInBounds_toArray, List.set_cons_zero, List.set_cons_succ]); (try simp only [KD1.out, KD2.out, KD3.out, KD4.out, KD5.out]))
        first | (refine wpAnyH_take (i := 27) (oi := R_RRd10_27) (v := undef) rfl (by kernel_rfl) (by kernel_rfl) (by kernel_rfl) (fun _ _ _ h => h) (Or.inr ⟨by rfl, rfl⟩) (by assumption) ?_) | (refine wpAnyH_take (i := 27) (oi := R_RRd10_27) (v := ?_) rfl (by kernel_rfl) (by kernel_rfl) (by kernel_rfl) (fun _ _ _ h => h) (Or.inl ⟨by rfl, ?_⟩) (by assumption) ?_; rotate_left; next => (intro w hSw; (try dsimp only at hSw); (try delta R_RRd10_27); go_simp; try with_reducible rfl))
        ((try simp only [Act.put, List.setIfInBounds_toArray, List.set_cons_zero, List.set_cons_succ]); (try simp only [KD1.out, KD2.out, KD3.out, KD4.out, KD5.out]))
        (refine wpAnyH_take (i := 28) (oi := R_RRd10_28) (v := ?_) rfl (by kernel_rfl) (by kernel_rfl) (by kernel_rfl) (fun _ _ _ h => h) (Or.inl ⟨by rfl, ?_⟩) (by assumption) ?_; rotate_left; next => (intro w hSw; (try dsimp only at hSw); (try delta R_RRd10_28); go_simp; try with_reducible rfl))
        ((try simp only [Act.put, List.setIfInBounds_toArray, List.set_cons_zero, List.set_cons_succ]); (try simp only [KD1.out, KD2.out, KD3.out, KD4.out, KD5.out]))
        (refine wpAnyH_take (i := 29) (oi := R_RRd10_29) (v := ?_) rfl (by kernel_rfl) (by kernel_rfl) (by kernel_rfl) (fun _ _ _ h => h) (Or.inl ⟨by rfl, ?_⟩) (by assumption) ?_; rotate_left; next => (intro w hSw; (try dsimp only at hSw); (try delta R_RRd10_29); go_simp; try with_reducible rfl))
        ((try simp only [Act.put, List.setIfInBounds_toArray, List.set_cons_zero, List.set_cons_succ]); (try simp only [KD1.out, KD2.out, KD3.out, KD4.out, KD5.out]))
        first | (refine wpAnyH_take (i := 30) (oi := R_RRd10_30) (v := undef) rfl (by kernel_rfl) (by kernel_rfl) (by kernel_rfl) (fun _ _ _ h => h) (Or.inr ⟨by rfl, rfl⟩) (by assumption) ?_) | (refine wpAnyH_take (i := 30) (oi := R_RRd10_30) (v := ?_) rfl (by kernel_rfl) (by kernel_rfl) (by kernel_rfl) (fun _ _ _ h => h) (Or.inl ⟨by rfl, ?_⟩) (by assumption) ?_; rotate_left; next => (intro w hSw; (try dsimp only at hSw); (try delta R_RRd10_30); go_simp; try with_reducible rfl))
        ((try simp only [Act.put, List.setIfInBounds_toArray, List.set_cons_zero, List.set_cons_succ]); (try simp only [KD1.out, KD2.out, KD3.out, KD4.out, KD5.out]))
        first | (refine wpAnyH_take (i := 31) (oi := R_RRd10_31) (v := undef) rfl (by kernel_rfl) (by kernel_rfl) (by kernel_rfl) (fun _ _ _ h => h) (Or.inr ⟨by rfl, rfl⟩) (by assumption) ?_) | (refine wpAnyH_take (i := 31) (oi := R_RRd10_31) (v := ?_) rfl (by kernel_rfl) (by kernel_rfl) (by kernel_rfl) (fun _ _ _ h => h) (Or.inl ⟨by rfl, ?_⟩) (by assumption) ?_; rotate_left; next => (intro w hSw; (try dsimp only at hSw); (try delta R_RRd10_31); go_simp; try with_reducible rfl))
        ((try simp only [Act.put, List.setIfInBounds_toArray, List.set_cons_zero, List.set_cons_succ]); (try simp only [KD1.out, KD2.out, KD3.out, KD4.out, KD5.out]))
        first | (refine wpAnyH_take (i := 32) (oi := R_RRd10_32) (v := undef) rfl (by kernel_rfl) (by kernel_rfl) (by kernel_rfl) (fun _ _ _ h => h) (Or.inr ⟨by rfl, rfl⟩) (by assumption) ?_) | (refine wpAnyH_take (i := 32) (oi := R_RRd10_32) (v := ?_) rfl (by kernel_rfl) (by kernel_rfl) (by kernel_rfl) (fun _ _ _ h => h) (Or.inl ⟨by rfl, ?_⟩) (by assumption) ?_; rotate_left; next => (intro w hSw; (try dsimp only at hSw); (try delta R_RRd10_32); go_simp; try with_reducible rfl))
        ((try simp only [Act.put, List.setIfInBounds_toArray, List.set_cons_zero, List.set_cons_succ]); (try simp only [KD1.out, KD2.out, KD3.out, KD4.out, KD5.out]))
        first
        | (refine wpAnyH_take (i := 33) (oi := R_RRd10_33) (v := undef) rfl (by kernel_rfl) (by kernel_rfl) (by kernel_rfl) (fun _ _ _ h => h) (Or.inr ⟨by rfl, rfl⟩) (by assumption) ?_
           ((try simp only [Act.put, List.setIfInBounds_toArray, List.set_cons_zero, List.set_cons_succ]); (try simp only [KD1.out, KD2.out, KD3.out, KD4.out, KD5.out])))
        | (refine wpAnyH_ready (rs := [33]) (by kernel_rfl) (by simp) ?_
           refine AllReadyH.cons (o := R_RRd10_33) rfl (fun K hK => ?_) AllReadyH.nil
           (try delta R_RRd10_33)
           go_simp
           (first | (go_at_call 44; (with_reducible refine (CBK.out _ HBD.out).mono ?_); rintro e wz ⟨rfl, rfl⟩) | fail)
           (try go_wp2_with fail)
           refine hK.out _ _ ?_ (fun hHeld => ?_)
           · (exact ⟨k1, s0, s1, s2⟩)
           clear hK K
           ((try simp only [Act.put, List.setIfInBounds_toArray, List.set_cons_zero, List.set_cons_succ]); (try simp only [KD1.out, KD2.out, KD3.out, KD4.out, KD5.out])))
        first | (refine wpAnyH_take (i := 34) (oi := R_RRd10_34) (v := undef) rfl (by kernel_rfl) (by kernel_rfl) (by kernel_rfl) (fun _ _ _ h => h) (Or.inr ⟨by rfl, rfl⟩) (by assumption) ?_) | (refine wpAnyH_take (i := 34) (oi := R_RRd10_34) (v := ?_) rfl (by kernel_rfl) (by kernel_rfl) (by kernel_rfl) (fun _ _ _ h => h) (Or.inl ⟨by rfl, ?_⟩) (by assumption) ?_; rotate_left; next => (intro w hSw; (try dsimp only at hSw); (try delta R_RRd10_34); go_simp; try with_reducible rfl))
        ((try simp only [Act.put, List.setIfInBounds_toArray, List.set_cons_zero, List.set_cons_succ]); (try simp only [KD1.out, KD2.out, KD3.out, KD4.out, KD5.out]))
        first | (refine wpAnyH_take (i := 35) (oi := R_RRd10_35) (v := undef) rfl (by kernel_rfl) (by kernel_rfl) (by kernel_rfl) (fun _ _ _ h => h) (Or.inr ⟨by rfl, rfl⟩) (by assumption) ?_) | (refine wpAnyH_take (i := 35) (oi := R_RRd10_35) (v := ?_) rfl (by kernel_rfl) (by kernel_rfl) (by kernel_rfl) (fun _ _ _ h => h) (Or.inl ⟨by rfl, ?_⟩) (by assumption) ?_; rotate_left; next => (intro w hSw; (try dsimp only at hSw); (try delta R_RRd10_35); go_simp; try with_reducible rfl))
        ((try simp only [Act.put, List.setIfInBounds_toArray, List.set_cons_zero, List.set_cons_succ]); (try simp only [KD1.out, KD2.out, KD3.out, KD4.out, KD5.out]))
        (refine wpAnyH_take (i := 36) (oi := R_RRd10_36) (v := ?_) rfl (by kernel_rfl) (by kernel_rfl) (by kernel_rfl) (fun _ _ _ h => h) (Or.inl ⟨by rfl, ?_⟩) (by assumption) ?_; rotate_left; next => (intro w hSw; (try dsimp only at hSw); (try delta R_RRd10_36); go_simp; try with_reducible rfl))
        ((try simp only [Act.put, List.setIfInBounds_toArray, List.set_cons_zero, List.set_cons_succ]); (try simp only [KD1.out, KD2.out, KD3.out, KD4.out, KD5.out]))
        refine wpAnyH_done (by kernel_rfl) ?_ _
        go_wp2_with fail
        refine bodyPost_ret (results_cell_row rfl _ _ w.heap.size 57 #[_, _, _] (0, 0) _ rfl HEZd.out.1 Tryd.underlying57 rfl infoRHead) rfl ?_
        exact ⟨by rw [HF.out]; rfl, HEZd.out.2⟩
      have KD5 : Hid (decide (n3 < 0) = false) := Lib.hid (decide_eq_false kd5)
      have wq := HWQ.out
      by_cases kd6 : (qb : Int) * 64 < n3
      · have KD6 : Hid (decide ((qb : Int) * 64 < n3) = true) := Lib.hid (decide_eq_true kd6)
        have HF : Hid (hq = ⟨0, 0, 0⟩) := Lib.hid (by rw [HQ.out, if_neg]; rintro ⟨_, o⟩; unfold okRd at o; simp only at o; omega)
        go_wp2_with fail
        refine wp_region_held_drew (S := (fun W => W.cell? ⟨B, 1, none⟩ = some (.bool false) ∧ W.cell? ⟨lb, 0, none⟩ = some (.int .i64 n1) ∧ W.cell? ⟨lb, 1, none⟩ = some (.int .i64 n2) ∧ W.cell? ⟨lb, 2, none⟩ = some (.int .i64 n3))) (by kernel_rfl) ?_ (fun hHeld => ?_)
        · (exact ⟨k1, s0, s1, s2⟩)
        (refine wpAnyH_take (i := 0) (oi := R_RRd10_0) (v := ?_) rfl (by kernel_rfl) (by kernel_rfl) (by kernel_rfl) (fun _ _ _ h => h) (Or.inl ⟨by rfl, ?_⟩) (by assumption) ?_; rotate_left; next => (intro w hSw; (try dsimp only at hSw); (try delta R_RRd10_0); go_simp; try with_reducible rfl))
        ((try simp only [Act.put, List.setIfInBounds_toArray, List.set_cons_zero, List.set_cons_succ]); (try simp only [KD1.out, KD2.out, KD3.out, KD4.out, KD5.out, KD6.out]))
        (refine wpAnyH_take (i := 1) (oi := R_RRd10_1) (v := ?_) rfl (by kernel_rfl) (by kernel_rfl) (by kernel_rfl) (fun _ _ _ h => h) (Or.inl ⟨by rfl, ?_⟩) (by assumption) ?_; rotate_left; next => (intro w hSw; (try dsimp only at hSw); (try delta R_RRd10_1); go_simp; try with_reducible rfl))
        ((try simp only [Act.put, List.setIfInBounds_toArray, List.set_cons_zero, List.set_cons_succ]); (try simp only [KD1.out, KD2.out, KD3.out, KD4.out, KD5.out, KD6.out]))
        (refine wpAnyH_take (i := 2) (oi := R_RRd10_2) (v := ?_) rfl (by kernel_rfl) (by kernel_rfl) (by kernel_rfl) (fun _ _ _ h => h) (Or.inl ⟨by rfl, ?_⟩) (by assumption) ?_; rotate_left; next => (intro w hSw; (try dsimp only at hSw); (try delta R_RRd10_2); go_simp; try with_reducible rfl))
        ((try simp only [Act.put, List.setIfInBounds_toArray, List.set_cons_zero, List.set_cons_succ]); (try simp only [KD1.out, KD2.out, KD3.out, KD4.out, KD5.out, KD6.out]))
        (refine wpAnyH_take (i := 3) (oi := R_RRd10_3) (v := ?_) rfl (by kernel_rfl) (by kernel_rfl) (by kernel_rfl) (fun _ _ _ h => h) (Or.inl ⟨by rfl, ?_⟩) (by assumption) ?_; rotate_left; next => (intro w hSw; (try dsimp only at hSw); (try delta R_RRd10_3); go_simp; try with_reducible rfl))
        ((try simp only [Act.put, List.setIfInBounds_toArray, List.set_cons_zero, List.set_cons_succ]); (try simp only [KD1.out, KD2.out, KD3.out, KD4.out, KD5.out, KD6.out]))
        (refine wpAnyH_take (i := 4) (oi := R_RRd10_4) (v := ?_) rfl (by kernel_rfl) (by kernel_rfl) (by kernel_rfl) (fun _ _ _ h => h) (Or.inl ⟨by rfl, ?_⟩) (by assumption) ?_; rotate_left; next => (intro w hSw; (try dsimp only at hSw); (try delta R_RRd10_4); go_simp; try with_reducible rfl))
        ((try simp only [Act.put, List.setIfInBounds_toArray, List.set_cons_zero, List.set_cons_succ]); (try simp only [KD1.out, KD2.out, KD3.out, KD4.out, KD5.out, KD6.out]))
        first | (refine wpAnyH_take (i := 5) (oi := R_RRd10_5) (v := undef) rfl (by kernel_rfl) (by kernel_rfl) (by kernel_rfl) (fun _ _ _ h => h) (Or.inr ⟨by rfl, rfl⟩) (by assumption) ?_) | (refine wpAnyH_take (i := 5) (oi := R_RRd10_5) (v := ?_) rfl (by kernel_rfl) (by kernel_rfl) (by kernel_rfl) (fun _ _ _ h => h) (Or.inl ⟨by rfl, ?_⟩) (by assumption) ?_; rotate_left; next => (intro w hSw; (try dsimp only at hSw); (try delta R_RRd10_5); go_simp; try with_reducible rfl))
        ((try simp only [Act.put, List.setIfInBounds_toArray, List.set_cons_zero, List.set_cons_succ]); (try simp only [KD1.out, KD2.out, KD3.out, KD4.out, KD5.out, KD6.out]))
        first | (refine wpAnyH_take (i := 6) (oi := R_RRd10_6) (v := undef) rfl (by kernel_rfl) (by kernel_rfl) (by kernel_rfl) (fun _ _ _ h => h) (Or.inr ⟨by rfl, rfl⟩) (by assumption) ?_) | (refine wpAnyH_take (i := 6) (oi := R_RRd10_6) (v := ?_) rfl (by kernel_rfl) (by kernel_rfl) (by kernel_rfl) (fun _ _ _ h => h) (Or.inl ⟨by rfl, ?_⟩) (by assumption) ?_; rotate_left; next => (intro w hSw; (try dsimp only at hSw); (try delta R_RRd10_6); go_simp; try with_reducible rfl))
        ((try simp only [Act.put, List.setIfInBounds_toArray, List.set_cons_zero, List.set_cons_succ]); (try simp only [KD1.out, KD2.out, KD3.out, KD4.out, KD5.out, KD6.out]))
        first | (refine wpAnyH_take (i := 7) (oi := R_RRd10_7) (v := undef) rfl (by kernel_rfl) (by kernel_rfl) (by kernel_rfl) (fun _ _ _ h => h) (Or.inr ⟨by rfl, rfl⟩) (by assumption) ?_) | (refine wpAnyH_take (i := 7) (oi := R_RRd10_7) (v := ?_) rfl (by kernel_rfl) (by kernel_rfl) (by kernel_rfl) (fun _ _ _ h => h) (Or.inl ⟨by rfl, ?_⟩) (by assumption) ?_; rotate_left; next => (intro w hSw; (try dsimp only at hSw); (try delta R_RRd10_7); go_simp; try with_reducible rfl))
        ((try simp only [Act.put, List.setIfInBounds_toArray, List.set_cons_zero, List.set_cons_succ]); (try simp only [KD1.out, KD2.out, KD3.out, KD4.out, KD5.out, KD6.out]))
        (refine wpAnyH_take (i := 8) (oi := R_RRd10_8) (v := ?_) rfl (by kernel_rfl) (by kernel_rfl) (by kernel_rfl) (fun _ _ _ h => h) (Or.inl ⟨by rfl, ?_⟩) (by assumption) ?_; rotate_left; next => (intro w hSw; (try dsimp only at hSw); (try delta R_RRd10_8); go_simp; try with_reducible rfl))
        ((try simp only [Act.put, List.setIfInBounds_toArray, List.set_cons_zero, List.set_cons_succ]); (try simp only [KD1.out, KD2.out, KD3.out, KD4.out, KD5.out, KD6.out]))
        (refine wpAnyH_take (i := 9) (oi := R_RRd10_9) (v := ?_) rfl (by kernel_rfl) (by kernel_rfl) (by kernel_rfl) (fun _ _ _ h => h) (Or.inl ⟨by rfl, ?_⟩) (by assumption) ?_; rotate_left; next => (intro w hSw; (try dsimp only at hSw); (try delta R_RRd10_9); go_simp; try with_reducible rfl))
        ((try simp only [Act.put, List.setIfInBounds_toArray, List.set_cons_zero, List.set_cons_succ]); (try simp only [KD1.out, KD2.out, KD3.out, KD4.out, KD5.out, KD6.out]))
        first | (refine wpAnyH_take (i := 10) (oi := R_RRd10_10) (v := undef) rfl (by kernel_rfl) (by kernel_rfl) (by kernel_rfl) (fun _ _ _ h => h) (Or.inr ⟨by rfl, rfl⟩) (by assumption) ?_) | (refine wpAnyH_take (i := 10) (oi := R_RRd10_10) (v := ?_) rfl (by kernel_rfl) (by kernel_rfl) (by kernel_rfl) (fun _ _ _ h => h) (Or.inl ⟨by rfl, ?_⟩) (by assumption) ?_; rotate_left; next => (intro w hSw; (try dsimp only at hSw); (try delta R_RRd10_10); go_simp; try with_reducible rfl))
        ((try simp only [Act.put, List.setIfInBounds_toArray, List.set_cons_zero, List.set_cons_succ]); (try simp only [KD1.out, KD2.out, KD3.out, KD4.out, KD5.out, KD6.out]))
        first | (refine wpAnyH_take (i := 11) (oi := R_RRd10_11) (v := undef) rfl (by kernel_rfl) (by kernel_rfl) (by kernel_rfl) (fun _ _ _ h => h) (Or.inr ⟨by rfl, rfl⟩) (by assumption) ?_) | (refine wpAnyH_take (i := 11) (oi := R_RRd10_11) (v := ?_) rfl (by kernel_rfl) (by kernel_rfl) (by kernel_rfl) (fun _ _ _ h => h) (Or.inl ⟨by rfl, ?_⟩) (by assumption) ?_; rotate_left; next => (intro w hSw; (try dsimp only at hSw); (try delta R_RRd10_11); go_simp; try with_reducible rfl))
        ((try simp only [Act.put, List.setIfInBounds_toArray, List.set_cons_zero, List.set_cons_succ]); (try simp only [KD1.out, KD2.out, KD3.out, KD4.out, KD5.out, KD6.out]))
        first | (refine wpAnyH_take (i := 12) (oi := R_RRd10_12) (v := undef) rfl (by kernel_rfl) (by kernel_rfl) (by kernel_rfl) (fun _ _ _ h => h) (Or.inr ⟨by rfl, rfl⟩) (by assumption) ?_) | (refine wpAnyH_take (i := 12) (oi := R_RRd10_12) (v := ?_) rfl (by kernel_rfl) (by kernel_rfl) (by kernel_rfl) (fun _ _ _ h => h) (Or.inl ⟨by rfl, ?_⟩) (by assumption) ?_; rotate_left; next => (intro w hSw; (try dsimp only at hSw); (try delta R_RRd10_12); go_simp; try with_reducible rfl))
        ((try simp only [Act.put, List.setIfInBounds_toArray, List.set_cons_zero, List.set_cons_succ]); (try simp only [KD1.out, KD2.out, KD3.out, KD4.out, KD5.out, KD6.out]))
        (refine wpAnyH_take (i := 13) (oi := R_RRd10_13) (v := ?_) rfl (by kernel_rfl) (by kernel_rfl) (by kernel_rfl) (fun _ _ _ h => h) (Or.inl ⟨by rfl, ?_⟩) (by assumption) ?_; rotate_left; next => (intro w hSw; (try dsimp only at hSw); (try delta R_RRd10_13); go_simp; try with_reducible rfl))
        ((try simp only [Act.put, List.setIfInBounds_toArray, List.set_cons_zero, List.set_cons_succ]); (try simp only [KD1.out, KD2.out, KD3.out, KD4.out, KD5.out, KD6.out]))
        (refine wpAnyH_take (i := 14) (oi := R_RRd10_14) (v := ?_) rfl (by kernel_rfl) (by kernel_rfl) (by kernel_rfl) (fun _ _ _ h => h) (Or.inl ⟨by rfl, ?_⟩) (by assumption) ?_; rotate_left; next => (intro w hSw; (try dsimp only at hSw); (try delta R_RRd10_14); go_simp; try with_reducible rfl))
        ((try simp only [Act.put, List.setIfInBounds_toArray, List.set_cons_zero, List.set_cons_succ]); (try simp only [KD1.out, KD2.out, KD3.out, KD4.out, KD5.out, KD6.out]))
        first | (refine wpAnyH_take (i := 15) (oi := R_RRd10_15) (v := undef) rfl (by kernel_rfl) (by kernel_rfl) (by kernel_rfl) (fun _ _ _ h => h) (Or.inr ⟨by rfl, rfl⟩) (by assumption) ?_) | (refine wpAnyH_take (i := 15) (oi := R_RRd10_15) (v := ?_) rfl (by kernel_rfl) (by kernel_rfl) (by kernel_rfl) (fun _ _ _ h => h) (Or.inl ⟨by rfl, ?_⟩) (by assumption) ?_; rotate_left; next => (intro w hSw; (try dsimp only at hSw); (try delta R_RRd10_15); go_simp; try with_reducible rfl))
        ((try simp only [Act.put, List.setIfInBounds_toArray, List.set_cons_zero, List.set_cons_succ]); (try simp only [KD1.out, KD2.out, KD3.out, KD4.out, KD5.out, KD6.out]))
        first | (refine wpAnyH_take (i := 16) (oi := R_RRd10_16) (v := undef) rfl (by kernel_rfl) (by kernel_rfl) (by kernel_rfl) (fun _ _ _ h => h) (Or.inr ⟨by rfl, rfl⟩) (by assumption) ?_) | (refine wpAnyH_take (i := 16) (oi := R_RRd10_16) (v := ?_) rfl (by kernel_rfl) (by kernel_rfl) (by kernel_rfl) (fun _ _ _ h => h) (Or.inl ⟨by rfl, ?_⟩) (by assumption) ?_; rotate_left; next => (intro w hSw; (try dsimp only at hSw); (try delta R_RRd10_16); go_simp; try with_reducible rfl))
        ((try simp only [Act.put, List.setIfInBounds_toArray, List.set_cons_zero, List.set_cons_succ]); (try simp only [KD1.out, KD2.out, KD3.out, KD4.out, KD5.out, KD6.out]))
        first | (refine wpAnyH_take (i := 17) (oi := R_RRd10_17) (v := undef) rfl (by kernel_rfl) (by kernel_rfl) (by kernel_rfl) (fun _ _ _ h => h) (Or.inr ⟨by rfl, rfl⟩) (by assumption) ?_) | (refine wpAnyH_take (i := 17) (oi := R_RRd10_17) (v := ?_) rfl (by kernel_rfl) (by kernel_rfl) (by kernel_rfl) (fun _ _ _ h => h) (Or.inl ⟨by rfl, ?_⟩) (by assumption) ?_; rotate_left; next => (intro w hSw; (try dsimp only at hSw); (try delta R_RRd10_17); go_simp; try with_reducible rfl))
        ((try simp only [Act.put, List.setIfInBounds_toArray, List.set_cons_zero, List.set_cons_succ]); (try simp only [KD1.out, KD2.out, KD3.out, KD4.out, KD5.out, KD6.out]))
        (refine wpAnyH_take (i := 18) (oi := R_RRd10_18) (v := ?_) rfl (by kernel_rfl) (by kernel_rfl) (by kernel_rfl) (fun _ _ _ h => h) (Or.inl ⟨by rfl, ?_⟩) (by assumption) ?_; rotate_left; next => (intro w hSw; (try dsimp only at hSw); (try delta R_RRd10_18); go_simp; try with_reducible rfl))
        ((try simp only [Act.put, List.setIfInBounds_toArray, List.set_cons_zero, List.set_cons_succ]); (try simp only [KD1.out, KD2.out, KD3.out, KD4.out, KD5.out, KD6.out]))
        (refine wpAnyH_take (i := 19) (oi := R_RRd10_19) (v := ?_) rfl (by kernel_rfl) (by kernel_rfl) (by kernel_rfl) (fun _ _ _ h => h) (Or.inl ⟨by rfl, ?_⟩) (by assumption) ?_; rotate_left; next => (intro w hSw; (try dsimp only at hSw); (try delta R_RRd10_19); go_simp; try with_reducible rfl))
        ((try simp only [Act.put, List.setIfInBounds_toArray, List.set_cons_zero, List.set_cons_succ]); (try simp only [KD1.out, KD2.out, KD3.out, KD4.out, KD5.out, KD6.out]))
        first | (refine wpAnyH_take (i := 20) (oi := R_RRd10_20) (v := undef) rfl (by kernel_rfl) (by kernel_rfl) (by kernel_rfl) (fun _ _ _ h => h) (Or.inr ⟨by rfl, rfl⟩) (by assumption) ?_) | (refine wpAnyH_take (i := 20) (oi := R_RRd10_20) (v := ?_) rfl (by kernel_rfl) (by kernel_rfl) (by kernel_rfl) (fun _ _ _ h => h) (Or.inl ⟨by rfl, ?_⟩) (by assumption) ?_; rotate_left; next => (intro w hSw; (try dsimp only at hSw); (try delta R_RRd10_20); go_simp; try with_reducible rfl))
        ((try simp only [Act.put, List.setIfInBounds_toArray, List.set_cons_zero, List.set_cons_succ]); (try simp only [KD1.out, KD2.out, KD3.out, KD4.out, KD5.out, KD6.out]))
        first | (refine wpAnyH_take (i := 21) (oi := R_RRd10_21) (v := undef) rfl (by kernel_rfl) (by kernel_rfl) (by kernel_rfl) (fun _ _ _ h => h) (Or.inr ⟨by rfl, rfl⟩) (by assumption) ?_) | (refine wpAnyH_take (i := 21) (oi := R_RRd10_21) (v := ?_) rfl (by kernel_rfl) (by kernel_rfl) (by kernel_rfl) (fun _ _ _ h => h) (Or.inl ⟨by rfl, ?_⟩) (by assumption) ?_; rotate_left; next => (intro w hSw; (try dsimp only at hSw); (try delta R_RRd10_21); go_simp; try with_reducible rfl))
        ((try simp only [Act.put, List.setIfInBounds_toArray, List.set_cons_zero, List.set_cons_succ]); (try simp only [KD1.out, KD2.out, KD3.out, KD4.out, KD5.out, KD6.out]))
        first | (refine wpAnyH_take (i := 22) (oi := R_RRd10_22) (v := undef) rfl (by kernel_rfl) (by kernel_rfl) (by kernel_rfl) (fun _ _ _ h => h) (Or.inr ⟨by rfl, rfl⟩) (by assumption) ?_) | (refine wpAnyH_take (i := 22) (oi := R_RRd10_22) (v := ?_) rfl (by kernel_rfl) (by kernel_rfl) (by kernel_rfl) (fun _ _ _ h => h) (Or.inl ⟨by rfl, ?_⟩) (by assumption) ?_; rotate_left; next => (intro w hSw; (try dsimp only at hSw); (try delta R_RRd10_22); go_simp; try with_reducible rfl))
        ((try simp only [Act.put, List.setIfInBounds_toArray, List.set_cons_zero, List.set_cons_succ]); (try simp only [KD1.out, KD2.out, KD3.out, KD4.out, KD5.out, KD6.out]))
        (refine wpAnyH_take (i := 23) (oi := R_RRd10_23) (v := ?_) rfl (by kernel_rfl) (by kernel_rfl) (by kernel_rfl) (fun _ _ _ h => h) (Or.inl ⟨by rfl, ?_⟩) (by assumption) ?_; rotate_left; next => (intro w hSw; (try dsimp only at hSw); (try delta R_RRd10_23); go_simp; try with_reducible rfl))
        ((try simp only [Act.put, List.setIfInBounds_toArray, List.set_cons_zero, List.set_cons_succ]); (try simp only [KD1.out, KD2.out, KD3.out, KD4.out, KD5.out, KD6.out]))
        (refine wpAnyH_take (i := 24) (oi := R_RRd10_24) (v := ?_) rfl (by kernel_rfl) (by kernel_rfl) (by kernel_rfl) (fun _ _ _ h => h) (Or.inl ⟨by rfl, ?_⟩) (by assumption) ?_; rotate_left; next => (intro w hSw; (try dsimp only at hSw); (try delta R_RRd10_24); go_simp; try with_reducible rfl))
        ((try simp only [Act.put, List.setIfInBounds_toArray, List.set_cons_zero, List.set_cons_succ]); (try simp only [KD1.out, KD2.out, KD3.out, KD4.out, KD5.out, KD6.out]))
        first | (refine wpAnyH_take (i := 25) (oi := R_RRd10_25) (v := undef) rfl (by kernel_rfl) (by kernel_rfl) (by kernel_rfl) (fun _ _ _ h => h) (Or.inr ⟨by rfl, rfl⟩) (by assumption) ?_) | (refine wpAnyH_take (i := 25) (oi := R_RRd10_25) (v := ?_) rfl (by kernel_rfl) (by kernel_rfl) (by kernel_rfl) (fun _ _ _ h => h) (Or.inl ⟨by rfl, ?_⟩) (by assumption) ?_; rotate_left; next => (intro w hSw; (try dsimp only at hSw); (try delta R_RRd10_25); go_simp; try with_reducible rfl))
        ((try simp only [Act.put, List.setIfInBounds_toArray, List.set_cons_zero, List.set_cons_succ]); (try simp only [KD1.out, KD2.out, KD3.out, KD4.out, KD5.out, KD6.out]))
        first | (refine wpAnyH_take (i := 26) (oi := R_RRd10_26) (v := undef) rfl (by kernel_rfl) (by kernel_rfl) (by kernel_rfl) (fun _ _ _ h => h) (Or.inr ⟨by rfl, rfl⟩) (by assumption) ?_) | (refine wpAnyH_take (i := 26) (oi := R_RRd10_26) (v := ?_) rfl (by kernel_rfl) (by kernel_rfl) (by kernel_rfl) (fun _ _ _ h => h) (Or.inl ⟨by rfl, ?_⟩) (by assumption) ?_; rotate_left; next => (intro w hSw; (try dsimp only at hSw); (try delta R_RRd10_26); go_simp; try with_reducible rfl))
        ((try simp only [Act.put, List.setIfInBounds_toArray, List.set_cons_zero, List.set_cons_succ]); (try simp only [KD1.out, KD2.out, KD3.out, KD4.out, KD5.out, KD6.out]))
        first | (refine wpAnyH_take (i := 27) (oi := R_RRd10_27) (v := undef) rfl (by kernel_rfl) (by kernel_rfl) (by kernel_rfl) (fun _ _ _ h => h) (Or.inr ⟨by rfl, rfl⟩) (by assumption) ?_) | (refine wpAnyH_take (i := 27) (oi := R_RRd10_27) (v := ?_) rfl (by kernel_rfl) (by kernel_rfl) (by kernel_rfl) (fun _ _ _ h => h) (Or.inl ⟨by rfl, ?_⟩) (by assumption) ?_; rotate_left; next => (intro w hSw; (try dsimp only at hSw); (try delta R_RRd10_27); go_simp; try with_reducible rfl))
        ((try simp only [Act.put, List.setIfInBounds_toArray, List.set_cons_zero, List.set_cons_succ]); (try simp only [KD1.out, KD2.out, KD3.out, KD4.out, KD5.out, KD6.out]))
        (refine wpAnyH_take (i := 28) (oi := R_RRd10_28) (v := ?_) rfl (by kernel_rfl) (by kernel_rfl) (by kernel_rfl) (fun _ _ _ h => h) (Or.inl ⟨by rfl, ?_⟩) (by assumption) ?_; rotate_left; next => (intro w hSw; (try dsimp only at hSw); (try delta R_RRd10_28); go_simp; try with_reducible rfl))
        ((try simp only [Act.put, List.setIfInBounds_toArray, List.set_cons_zero, List.set_cons_succ]); (try simp only [KD1.out, KD2.out, KD3.out, KD4.out, KD5.out, KD6.out]))
        (refine wpAnyH_take (i := 29) (oi := R_RRd10_29) (v := ?_) rfl (by kernel_rfl) (by kernel_rfl) (by kernel_rfl) (fun _ _ _ h => h) (Or.inl ⟨by rfl, ?_⟩) (by assumption) ?_; rotate_left; next => (intro w hSw; (try dsimp only at hSw); (try delta R_RRd10_29); go_simp; try with_reducible rfl))
        ((try simp only [Act.put, List.setIfInBounds_toArray, List.set_cons_zero, List.set_cons_succ]); (try simp only [KD1.out, KD2.out, KD3.out, KD4.out, KD5.out, KD6.out]))
        first | (refine wpAnyH_take (i := 30) (oi := R_RRd10_30) (v := undef) rfl (by kernel_rfl) (by kernel_rfl) (by kernel_rfl) (fun _ _ _ h => h) (Or.inr ⟨by rfl, rfl⟩) (by assumption) ?_) | (refine wpAnyH_take (i := 30) (oi := R_RRd10_30) (v := ?_) rfl (by kernel_rfl) (by kernel_rfl) (by kernel_rfl) (fun _ _ _ h => h) (Or.inl ⟨by rfl, ?_⟩) (by assumption) ?_; rotate_left; next => (intro w hSw; (try dsimp only at hSw); (try delta R_RRd10_30); go_simp; try with_reducible rfl))
        ((try simp only [Act.put, List.setIfInBounds_toArray, List.set_cons_zero, List.set_cons_succ]); (try simp only [KD1.out, KD2.out, KD3.out, KD4.out, KD5.out, KD6.out]))
        first | (refine wpAnyH_take (i := 31) (oi := R_RRd10_31) (v := undef) rfl (by kernel_rfl) (by kernel_rfl) (by kernel_rfl) (fun _ _ _ h => h) (Or.inr ⟨by rfl, rfl⟩) (by assumption) ?_) | (refine wpAnyH_take (i := 31) (oi := R_RRd10_31) (v := ?_) rfl (by kernel_rfl) (by kernel_rfl) (by kernel_rfl) (fun _ _ _ h => h) (Or.inl ⟨by rfl, ?_⟩) (by assumption) ?_; rotate_left; next => (intro w hSw; (try dsimp only at hSw); (try delta R_RRd10_31); go_simp; try with_reducible rfl))
        ((try simp only [Act.put, List.setIfInBounds_toArray, List.set_cons_zero, List.set_cons_succ]); (try simp only [KD1.out, KD2.out, KD3.out, KD4.out, KD5.out, KD6.out]))
        first | (refine wpAnyH_take (i := 32) (oi := R_RRd10_32) (v := undef) rfl (by kernel_rfl) (by kernel_rfl) (by kernel_rfl) (fun _ _ _ h => h) (Or.inr ⟨by rfl, rfl⟩) (by assumption) ?_) | (refine wpAnyH_take (i := 32) (oi := R_RRd10_32) (v := ?_) rfl (by kernel_rfl) (by kernel_rfl) (by kernel_rfl) (fun _ _ _ h => h) (Or.inl ⟨by rfl, ?_⟩) (by assumption) ?_; rotate_left; next => (intro w hSw; (try dsimp only at hSw); (try delta R_RRd10_32); go_simp; try with_reducible rfl))
        ((try simp only [Act.put, List.setIfInBounds_toArray, List.set_cons_zero, List.set_cons_succ]); (try simp only [KD1.out, KD2.out, KD3.out, KD4.out, KD5.out, KD6.out]))
        first
        | (refine wpAnyH_take (i := 33) (oi := R_RRd10_33) (v := undef) rfl (by kernel_rfl) (by kernel_rfl) (by kernel_rfl) (fun _ _ _ h => h) (Or.inr ⟨by rfl, rfl⟩) (by assumption) ?_
           ((try simp only [Act.put, List.setIfInBounds_toArray, List.set_cons_zero, List.set_cons_succ]); (try simp only [KD1.out, KD2.out, KD3.out, KD4.out, KD5.out, KD6.out])))
        | (refine wpAnyH_ready (rs := [33]) (by kernel_rfl) (by simp) ?_
           refine AllReadyH.cons (o := R_RRd10_33) rfl (fun K hK => ?_) AllReadyH.nil
           (try delta R_RRd10_33)
           go_simp
           (first | (go_at_call 44; (with_reducible refine (CBK.out _ HBD.out).mono ?_); rintro e wz ⟨rfl, rfl⟩) | fail)
           (try go_wp2_with fail)
           refine hK.out _ _ ?_ (fun hHeld => ?_)
           · (exact ⟨k1, s0, s1, s2⟩)
           clear hK K
           ((try simp only [Act.put, List.setIfInBounds_toArray, List.set_cons_zero, List.set_cons_succ]); (try simp only [KD1.out, KD2.out, KD3.out, KD4.out, KD5.out, KD6.out])))
        first | (refine wpAnyH_take (i := 34) (oi := R_RRd10_34) (v := undef) rfl (by kernel_rfl) (by kernel_rfl) (by kernel_rfl) (fun _ _ _ h => h) (Or.inr ⟨by rfl, rfl⟩) (by assumption) ?_) | (refine wpAnyH_take (i := 34) (oi := R_RRd10_34) (v := ?_) rfl (by kernel_rfl) (by kernel_rfl) (by kernel_rfl) (fun _ _ _ h => h) (Or.inl ⟨by rfl, ?_⟩) (by assumption) ?_; rotate_left; next => (intro w hSw; (try dsimp only at hSw); (try delta R_RRd10_34); go_simp; try with_reducible rfl))
        ((try simp only [Act.put, List.setIfInBounds_toArray, List.set_cons_zero, List.set_cons_succ]); (try simp only [KD1.out, KD2.out, KD3.out, KD4.out, KD5.out, KD6.out]))
        first | (refine wpAnyH_take (i := 35) (oi := R_RRd10_35) (v := undef) rfl (by kernel_rfl) (by kernel_rfl) (by kernel_rfl) (fun _ _ _ h => h) (Or.inr ⟨by rfl, rfl⟩) (by assumption) ?_) | (refine wpAnyH_take (i := 35) (oi := R_RRd10_35) (v := ?_) rfl (by kernel_rfl) (by kernel_rfl) (by kernel_rfl) (fun _ _ _ h => h) (Or.inl ⟨by rfl, ?_⟩) (by assumption) ?_; rotate_left; next => (intro w hSw; (try dsimp only at hSw); (try delta R_RRd10_35); go_simp; try with_reducible rfl))
        ((try simp only [Act.put, List.setIfInBounds_toArray, List.set_cons_zero, List.set_cons_succ]); (try simp only [KD1.out, KD2.out, KD3.out, KD4.out, KD5.out, KD6.out]))
        (refine wpAnyH_take (i := 36) (oi := R_RRd10_36) (v := ?_) rfl (by kernel_rfl) (by kernel_rfl) (by kernel_rfl) (fun _ _ _ h => h) (Or.inl ⟨by rfl, ?_⟩) (by assumption) ?_; rotate_left; next => (intro w hSw; (try dsimp only at hSw); (try delta R_RRd10_36); go_simp; try with_reducible rfl))
        ((try simp only [Act.put, List.setIfInBounds_toArray, List.set_cons_zero, List.set_cons_succ]); (try simp only [KD1.out, KD2.out, KD3.out, KD4.out, KD5.out, KD6.out]))
        refine wpAnyH_done (by kernel_rfl) ?_ _
        go_wp2_with fail
        refine bodyPost_ret (results_cell_row rfl _ _ w.heap.size 57 #[_, _, _] (0, 0) _ rfl HEZd.out.1 Tryd.underlying57 rfl infoRHead) rfl ?_
        exact ⟨by rw [HF.out]; rfl, HEZd.out.2⟩
      have KD6 : Hid (decide ((qb : Int) * 64 < n3) = false) := Lib.hid (decide_eq_false kd6)
      have HF : Hid (hq = ⟨n1, n2, n3⟩) := Lib.hid (by rw [HQ.out, if_pos]; refine ⟨HZA.out, ?_⟩; unfold okRd; simp only; omega)
      go_wp2_with fail
      refine wp_region_held_drew (S := (fun W => W.cell? ⟨B, 1, none⟩ = some (.bool false) ∧ W.cell? ⟨lb, 0, none⟩ = some (.int .i64 n1) ∧ W.cell? ⟨lb, 1, none⟩ = some (.int .i64 n2) ∧ W.cell? ⟨lb, 2, none⟩ = some (.int .i64 n3))) (by kernel_rfl) ?_ (fun hHeld => ?_)
      · (exact ⟨k1, s0, s1, s2⟩)
      (refine wpAnyH_take (i := 0) (oi := R_RRd10_0) (v := ?_) rfl (by kernel_rfl) (by kernel_rfl) (by kernel_rfl) (fun _ _ _ h => h) (Or.inl ⟨by rfl, ?_⟩) (by assumption) ?_; rotate_left; next => (intro w hSw; (try dsimp only at hSw); (try delta R_RRd10_0); go_simp; try with_reducible rfl))
      ((try simp only [Act.put, List.setIfInBounds_toArray, List.set_cons_zero, List.set_cons_succ]); (try simp only [KD1.out, KD2.out, KD3.out, KD4.out, KD5.out, KD6.out]))
      (refine wpAnyH_take (i := 1) (oi := R_RRd10_1) (v := ?_) rfl (by kernel_rfl) (by kernel_rfl) (by kernel_rfl) (fun _ _ _ h => h) (Or.inl ⟨by rfl, ?_⟩) (by assumption) ?_; rotate_left; next => (intro w hSw; (try dsimp only at hSw); (try delta R_RRd10_1); go_simp; try with_reducible rfl))
      ((try simp only [Act.put, List.setIfInBounds_toArray, List.set_cons_zero, List.set_cons_succ]); (try simp only [KD1.out, KD2.out, KD3.out, KD4.out, KD5.out, KD6.out]))
      (refine wpAnyH_take (i := 2) (oi := R_RRd10_2) (v := ?_) rfl (by kernel_rfl) (by kernel_rfl) (by kernel_rfl) (fun _ _ _ h => h) (Or.inl ⟨by rfl, ?_⟩) (by assumption) ?_; rotate_left; next => (intro w hSw; (try dsimp only at hSw); (try delta R_RRd10_2); go_simp; try with_reducible rfl))
      ((try simp only [Act.put, List.setIfInBounds_toArray, List.set_cons_zero, List.set_cons_succ]); (try simp only [KD1.out, KD2.out, KD3.out, KD4.out, KD5.out, KD6.out]))
      (refine wpAnyH_take (i := 3) (oi := R_RRd10_3) (v := ?_) rfl (by kernel_rfl) (by kernel_rfl) (by kernel_rfl) (fun _ _ _ h => h) (Or.inl ⟨by rfl, ?_⟩) (by assumption) ?_; rotate_left; next => (intro w hSw; (try dsimp only at hSw); (try delta R_RRd10_3); go_simp; try with_reducible rfl))
      ((try simp only [Act.put, List.setIfInBounds_toArray, List.set_cons_zero, List.set_cons_succ]); (try simp only [KD1.out, KD2.out, KD3.out, KD4.out, KD5.out, KD6.out]))
      (refine wpAnyH_take (i := 4) (oi := R_RRd10_4) (v := ?_) rfl (by kernel_rfl) (by kernel_rfl) (by kernel_rfl) (fun _ _ _ h => h) (Or.inl ⟨by rfl, ?_⟩) (by assumption) ?_; rotate_left; next => (intro w hSw; (try dsimp only at hSw); (try delta R_RRd10_4); go_simp; try with_reducible rfl))
      ((try simp only [Act.put, List.setIfInBounds_toArray, List.set_cons_zero, List.set_cons_succ]); (try simp only [KD1.out, KD2.out, KD3.out, KD4.out, KD5.out, KD6.out]))
      first | (refine wpAnyH_take (i := 5) (oi := R_RRd10_5) (v := undef) rfl (by kernel_rfl) (by kernel_rfl) (by kernel_rfl) (fun _ _ _ h => h) (Or.inr ⟨by rfl, rfl⟩) (by assumption) ?_) | (refine wpAnyH_take (i := 5) (oi := R_RRd10_5) (v := ?_) rfl (by kernel_rfl) (by kernel_rfl) (by kernel_rfl) (fun _ _ _ h => h) (Or.inl ⟨by rfl, ?_⟩) (by assumption) ?_; rotate_left; next => (intro w hSw; (try dsimp only at hSw); (try delta R_RRd10_5); go_simp; try with_reducible rfl))
      ((try simp only [Act.put, List.setIfInBounds_toArray, List.set_cons_zero, List.set_cons_succ]); (try simp only [KD1.out, KD2.out, KD3.out, KD4.out, KD5.out, KD6.out]))
      first | (refine wpAnyH_take (i := 6) (oi := R_RRd10_6) (v := undef) rfl (by kernel_rfl) (by kernel_rfl) (by kernel_rfl) (fun _ _ _ h => h) (Or.inr ⟨by rfl, rfl⟩) (by assumption) ?_) | (refine wpAnyH_take (i := 6) (oi := R_RRd10_6) (v := ?_) rfl (by kernel_rfl) (by kernel_rfl) (by kernel_rfl) (fun _ _ _ h => h) (Or.inl ⟨by rfl, ?_⟩) (by assumption) ?_; rotate_left; next => (intro w hSw; (try dsimp only at hSw); (try delta R_RRd10_6); go_simp; try with_reducible rfl))
      ((try simp only [Act.put, List.setIfInBounds_toArray, List.set_cons_zero, List.set_cons_succ]); (try simp only [KD1.out, KD2.out, KD3.out, KD4.out, KD5.out, KD6.out]))
      first | (refine wpAnyH_take (i := 7) (oi := R_RRd10_7) (v := undef) rfl (by kernel_rfl) (by kernel_rfl) (by kernel_rfl) (fun _ _ _ h => h) (Or.inr ⟨by rfl, rfl⟩) (by assumption) ?_) | (refine wpAnyH_take (i := 7) (oi := R_RRd10_7) (v := ?_) rfl (by kernel_rfl) (by kernel_rfl) (by kernel_rfl) (fun _ _ _ h => h) (Or.inl ⟨by rfl, ?_⟩) (by assumption) ?_; rotate_left; next => (intro w hSw; (try dsimp only at hSw); (try delta R_RRd10_7); go_simp; try with_reducible rfl))
      ((try simp only [Act.put, List.setIfInBounds_toArray, List.set_cons_zero, List.set_cons_succ]); (try simp only [KD1.out, KD2.out, KD3.out, KD4.out, KD5.out, KD6.out]))
      (refine wpAnyH_take (i := 8) (oi := R_RRd10_8) (v := ?_) rfl (by kernel_rfl) (by kernel_rfl) (by kernel_rfl) (fun _ _ _ h => h) (Or.inl ⟨by rfl, ?_⟩) (by assumption) ?_; rotate_left; next => (intro w hSw; (try dsimp only at hSw); (try delta R_RRd10_8); go_simp; try with_reducible rfl))
      ((try simp only [Act.put, List.setIfInBounds_toArray, List.set_cons_zero, List.set_cons_succ]); (try simp only [KD1.out, KD2.out, KD3.out, KD4.out, KD5.out, KD6.out]))
      (refine wpAnyH_take (i := 9) (oi := R_RRd10_9) (v := ?_) rfl (by kernel_rfl) (by kernel_rfl) (by kernel_rfl) (fun _ _ _ h => h) (Or.inl ⟨by rfl, ?_⟩) (by assumption) ?_; rotate_left; next => (intro w hSw; (try dsimp only at hSw); (try delta R_RRd10_9); go_simp; try with_reducible rfl))
      ((try simp only [Act.put, List.setIfInBounds_toArray, List.set_cons_zero, List.set_cons_succ]); (try simp only [KD1.out, KD2.out, KD3.out, KD4.out, KD5.out, KD6.out]))
      first | (refine wpAnyH_take (i := 10) (oi := R_RRd10_10) (v := undef) rfl (by kernel_rfl) (by kernel_rfl) (by kernel_rfl) (fun _ _ _ h => h) (Or.inr ⟨by rfl, rfl⟩) (by assumption) ?_) | (refine wpAnyH_take (i := 10) (oi := R_RRd10_10) (v := ?_) rfl (by kernel_rfl) (by kernel_rfl) (by kernel_rfl) (fun _ _ _ h => h) (Or.inl ⟨by rfl, ?_⟩) (by assumption) ?_; rotate_left; next => (intro w hSw; (try dsimp only at hSw); (try delta R_RRd10_10); go_simp; try with_reducible rfl))
      ((try simp only [Act.put, List.setIfInBounds_toArray, List.set_cons_zero, List.set_cons_succ]); (try simp only [KD1.out, KD2.out, KD3.out, KD4.out, KD5.out, KD6.out]))
      first | (refine wpAnyH_take (i := 11) (oi := R_RRd10_11) (v := undef) rfl (by kernel_rfl) (by kernel_rfl) (by kernel_rfl) (fun _ _ _ h => h) (Or.inr ⟨by rfl, rfl⟩) (by assumption) ?_) | (refine wpAnyH_take (i := 11) (oi := R_RRd10_11) (v := ?_) rfl (by kernel_rfl) (by kernel_rfl) (by kernel_rfl) (fun _ _ _ h => h) (Or.inl ⟨by rfl, ?_⟩) (by assumption) ?_; rotate_left; next => (intro w hSw; (try dsimp only at hSw); (try delta R_RRd10_11); go_simp; try with_reducible rfl))
      ((try simp only [Act.put, List.setIfInBounds_toArray, List.set_cons_zero, List.set_cons_succ]); (try simp only [KD1.out, KD2.out, KD3.out, KD4.out, KD5.out, KD6.out]))
      first | (refine wpAnyH_take (i := 12) (oi := R_RRd10_12) (v := undef) rfl (by kernel_rfl) (by kernel_rfl) (by kernel_rfl) (fun _ _ _ h => h) (Or.inr ⟨by rfl, rfl⟩) (by assumption) ?_) | (refine wpAnyH_take (i := 12) (oi := R_RRd10_12) (v := ?_) rfl (by kernel_rfl) (by kernel_rfl) (by kernel_rfl) (fun _ _ _ h => h) (Or.inl ⟨by rfl, ?_⟩) (by assumption) ?_; rotate_left; next => (intro w hSw; (try dsimp only at hSw); (try delta R_RRd10_12); go_simp; try with_reducible rfl))
      ((try simp only [Act.put, List.setIfInBounds_toArray, List.set_cons_zero, List.set_cons_succ]); (try simp only [KD1.out, KD2.out, KD3.out, KD4.out, KD5.out, KD6.out]))
      (refine wpAnyH_take (i := 13) (oi := R_RRd10_13) (v := ?_) rfl (by kernel_rfl) (by kernel_rfl) (by kernel_rfl) (fun _ _ _ h => h) (Or.inl ⟨by rfl, ?_⟩) (by assumption) ?_; rotate_left; next => (intro w hSw; (try dsimp only at hSw); (try delta R_RRd10_13); go_simp; try with_reducible rfl))
      ((try simp only [Act.put, List.setIfInBounds_toArray, List.set_cons_zero, List.set_cons_succ]); (try simp only [KD1.out, KD2.out, KD3.out, KD4.out, KD5.out, KD6.out]))
      (refine wpAnyH_take (i := 14) (oi := R_RRd10_14) (v := ?_) rfl (by kernel_rfl) (by kernel_rfl) (by kernel_rfl) (fun _ _ _ h => h) (Or.inl ⟨by rfl, ?_⟩) (by assumption) ?_; rotate_left; next => (intro w hSw; (try dsimp only at hSw); (try delta R_RRd10_14); go_simp; try with_reducible rfl))
      ((try simp only [Act.put, List.setIfInBounds_toArray, List.set_cons_zero, List.set_cons_succ]); (try simp only [KD1.out, KD2.out, KD3.out, KD4.out, KD5.out, KD6.out]))
      first | (refine wpAnyH_take (i := 15) (oi := R_RRd10_15) (v := undef) rfl (by kernel_rfl) (by kernel_rfl) (by kernel_rfl) (fun _ _ _ h => h) (Or.inr ⟨by rfl, rfl⟩) (by assumption) ?_) | (refine wpAnyH_take (i := 15) (oi := R_RRd10_15) (v := ?_) rfl (by kernel_rfl) (by kernel_rfl) (by kernel_rfl) (fun _ _ _ h => h) (Or.inl ⟨by rfl, ?_⟩) (by assumption) ?_; rotate_left; next => (intro w hSw; (try dsimp only at hSw); (try delta R_RRd10_15); go_simp; try with_reducible rfl))
      ((try simp only [Act.put, List.setIfInBounds_toArray, List.set_cons_zero, List.set_cons_succ]); (try simp only [KD1.out, KD2.out, KD3.out, KD4.out, KD5.out, KD6.out]))
      first | (refine wpAnyH_take (i := 16) (oi := R_RRd10_16) (v := undef) rfl (by kernel_rfl) (by kernel_rfl) (by kernel_rfl) (fun _ _ _ h => h) (Or.inr ⟨by rfl, rfl⟩) (by assumption) ?_) | (refine wpAnyH_take (i := 16) (oi := R_RRd10_16) (v := ?_) rfl (by kernel_rfl) (by kernel_rfl) (by kernel_rfl) (fun _ _ _ h => h) (Or.inl ⟨by rfl, ?_⟩) (by assumption) ?_; rotate_left; next => (intro w hSw; (try dsimp only at hSw); (try delta R_RRd10_16); go_simp; try with_reducible rfl))
      ((try simp only [Act.put, List.setIfInBounds_toArray, List.set_cons_zero, List.set_cons_succ]); (try simp only [KD1.out, KD2.out, KD3.out, KD4.out, KD5.out, KD6.out]))
      first | (refine wpAnyH_take (i := 17) (oi := R_RRd10_17) (v := undef) rfl (by kernel_rfl) (by kernel_rfl) (by kernel_rfl) (fun _ _ _ h => h) (Or.inr ⟨by rfl, rfl⟩) (by assumption) ?_) | (refine wpAnyH_take (i := 17) (oi := R_RRd10_17) (v := ?_) rfl (by kernel_rfl) (by kernel_rfl) (by kernel_rfl) (fun _ _ _ h => h) (Or.inl ⟨by rfl, ?_⟩) (by assumption) ?_; rotate_left; next => (intro w hSw; (try dsimp only at hSw); (try delta R_RRd10_17); go_simp; try with_reducible rfl))
      ((try simp only [Act.put, List.setIfInBounds_toArray, List.set_cons_zero, List.set_cons_succ]); (try simp only [KD1.out, KD2.out, KD3.out, KD4.out, KD5.out, KD6.out]))
      (refine wpAnyH_take (i := 18) (oi := R_RRd10_18) (v := ?_) rfl (by kernel_rfl) (by kernel_rfl) (by kernel_rfl) (fun _ _ _ h => h) (Or.inl ⟨by rfl, ?_⟩) (by assumption) ?_; rotate_left; next => (intro w hSw; (try dsimp only at hSw); (try delta R_RRd10_18); go_simp; try with_reducible rfl))
      ((try simp only [Act.put, List.setIfInBounds_toArray, List.set_cons_zero, List.set_cons_succ]); (try simp only [KD1.out, KD2.out, KD3.out, KD4.out, KD5.out, KD6.out]))
      (refine wpAnyH_take (i := 19) (oi := R_RRd10_19) (v := ?_) rfl (by kernel_rfl) (by kernel_rfl) (by kernel_rfl) (fun _ _ _ h => h) (Or.inl ⟨by rfl, ?_⟩) (by assumption) ?_; rotate_left; next => (intro w hSw; (try dsimp only at hSw); (try delta R_RRd10_19); go_simp; try with_reducible rfl))
      ((try simp only [Act.put, List.setIfInBounds_toArray, List.set_cons_zero, List.set_cons_succ]); (try simp only [KD1.out, KD2.out, KD3.out, KD4.out, KD5.out, KD6.out]))
      first | (refine wpAnyH_take (i := 20) (oi := R_RRd10_20) (v := undef) rfl (by kernel_rfl) (by kernel_rfl) (by kernel_rfl) (fun _ _ _ h => h) (Or.inr ⟨by rfl, rfl⟩) (by assumption) ?_) | (refine wpAnyH_take (i := 20) (oi := R_RRd10_20) (v := ?_) rfl (by kernel_rfl) (by kernel_rfl) (by kernel_rfl) (fun _ _ _ h => h) (Or.inl ⟨by rfl, ?_⟩) (by assumption) ?_; rotate_left; next => (intro w hSw; (try dsimp only at hSw); (try delta R_RRd10_20); go_simp; try with_reducible rfl))
      ((try simp only [Act.put, List.setIfInBounds_toArray, List.set_cons_zero, List.set_cons_succ]); (try simp only [KD1.out, KD2.out, KD3.out, KD4.out, KD5.out, KD6.out]))
      first | (refine wpAnyH_take (i := 21) (oi := R_RRd10_21) (v := undef) rfl (by kernel_rfl) (by kernel_rfl) (by kernel_rfl) (fun _ _ _ h => h) (Or.inr ⟨by rfl, rfl⟩) (by assumption) ?_) | (refine wpAnyH_take (i := 21) (oi := R_RRd10_21) (v := ?_) rfl (by kernel_rfl) (by kernel_rfl) (by kernel_rfl) (fun _ _ _ h => h) (Or.inl ⟨by rfl, ?_⟩) (by assumption) ?_; rotate_left; next => (intro w hSw; (try dsimp only at hSw); (try delta R_RRd10_21); go_simp; try with_reducible rfl))
      ((try simp only [Act.put, List.setIfInBounds_toArray, List.set_cons_zero, List.set_cons_succ]); (try simp only [KD1.out, KD2.out, KD3.out, KD4.out, KD5.out, KD6.out]))
      first | (refine wpAnyH_take (i := 22) (oi := R_RRd10_22) (v := undef) rfl (by kernel_rfl) (by kernel_rfl) (by kernel_rfl) (fun _ _ _ h => h) (Or.inr ⟨by rfl, rfl⟩) (by assumption) ?_) | (refine wpAnyH_take (i := 22) (oi := R_RRd10_22) (v := ?_) rfl (by kernel_rfl) (by kernel_rfl) (by kernel_rfl) (fun _ _ _ h => h) (Or.inl ⟨by rfl, ?_⟩) (by assumption) ?_; rotate_left; next => (intro w hSw; (try dsimp only at hSw); (try delta R_RRd10_22); go_simp; try with_reducible rfl))
      ((try simp only [Act.put, List.setIfInBounds_toArray, List.set_cons_zero, List.set_cons_succ]); (try simp only [KD1.out, KD2.out, KD3.out, KD4.out, KD5.out, KD6.out]))
      (refine wpAnyH_take (i := 23) (oi := R_RRd10_23) (v := ?_) rfl (by kernel_rfl) (by kernel_rfl) (by kernel_rfl) (fun _ _ _ h => h) (Or.inl ⟨by rfl, ?_⟩) (by assumption) ?_; rotate_left; next => (intro w hSw; (try dsimp only at hSw); (try delta R_RRd10_23); go_simp; try with_reducible rfl))
      ((try simp only [Act.put, List.setIfInBounds_toArray, List.set_cons_zero, List.set_cons_succ]); (try simp only [KD1.out, KD2.out, KD3.out, KD4.out, KD5.out, KD6.out]))
      (refine wpAnyH_take (i := 24) (oi := R_RRd10_24) (v := ?_) rfl (by kernel_rfl) (by kernel_rfl) (by kernel_rfl) (fun _ _ _ h => h) (Or.inl ⟨by rfl, ?_⟩) (by assumption) ?_; rotate_left; next => (intro w hSw; (try dsimp only at hSw); (try delta R_RRd10_24); go_simp; try with_reducible rfl))
      ((try simp only [Act.put, List.setIfInBounds_toArray, List.set_cons_zero, List.set_cons_succ]); (try simp only [KD1.out, KD2.out, KD3.out, KD4.out, KD5.out, KD6.out]))
      first | (refine wpAnyH_take (i := 25) (oi := R_RRd10_25) (v := undef) rfl (by kernel_rfl) (by kernel_rfl) (by kernel_rfl) (fun _ _ _ h => h) (Or.inr ⟨by rfl, rfl⟩) (by assumption) ?_) | (refine wpAnyH_take (i := 25) (oi := R_RRd10_25) (v := ?_) rfl (by kernel_rfl) (by kernel_rfl) (by kernel_rfl) (fun _ _ _ h => h) (Or.inl ⟨by rfl, ?_⟩) (by assumption) ?_; rotate_left; next => (intro w hSw; (try dsimp only at hSw); (try delta R_RRd10_25); go_simp; try with_reducible rfl))
      ((try simp only [Act.put, List.setIfInBounds_toArray, List.set_cons_zero, List.set_cons_succ]); (try simp only [KD1.out, KD2.out, KD3.out, KD4.out, KD5.out, KD6.out]))
      first | (refine wpAnyH_take (i := 26) (oi := R_RRd10_26) (v := undef) rfl (by kernel_rfl) (by kernel_rfl) (by kernel_rfl) (fun _ _ _ h => h) (Or.inr ⟨by rfl, rfl⟩) (by assumption) ?_) | (refine wpAnyH_take (i := 26) (oi := R_RRd10_26) (v := ?_) rfl (by kernel_rfl) (by kernel_rfl) (by kernel_rfl) (fun _ _ _ h => h) (Or.inl ⟨by rfl, ?_⟩) (by assumption) ?_; rotate_left; next => (intro w hSw; (try dsimp only at hSw); (try delta R_RRd10_26); go_simp; try with_reducible rfl))
      ((try simp only [Act.put, List.setIfInBounds_toArray, List.set_cons_zero, List.set_cons_succ]); (try simp only [KD1.out, KD2.out, KD3.out, KD4.out, KD5.out, KD6.out]))
      first | (refine wpAnyH_take (i := 27) (oi := R_RRd10_27) (v := undef) rfl (by kernel_rfl) (by kernel_rfl) (by kernel_rfl) (fun _ _ _ h => h) (Or.inr ⟨by rfl, rfl⟩) (by assumption) ?_) | (refine wpAnyH_take (i := 27) (oi := R_RRd10_27) (v := ?_) rfl (by kernel_rfl) (by kernel_rfl) (by kernel_rfl) (fun _ _ _ h => h) (Or.inl ⟨by rfl, ?_⟩) (by assumption) ?_; rotate_left; next => (intro w hSw; (try dsimp only at hSw); (try delta R_RRd10_27); go_simp; try with_reducible rfl))
      ((try simp only [Act.put, List.setIfInBounds_toArray, List.set_cons_zero, List.set_cons_succ]); (try simp only [KD1.out, KD2.out, KD3.out, KD4.out, KD5.out, KD6.out]))
      (refine wpAnyH_take (i := 28) (oi := R_RRd10_28) (v := ?_) rfl (by kernel_rfl) (by kernel_rfl) (by kernel_rfl) (fun _ _ _ h => h) (Or.inl ⟨by rfl, ?_⟩) (by assumption) ?_; rotate_left; next => (intro w hSw; (try dsimp only at hSw); (try delta R_RRd10_28); go_simp; try with_reducible rfl))
      ((try simp only [Act.put, List.setIfInBounds_toArray, List.set_cons_zero, List.set_cons_succ]); (try simp only [KD1.out, KD2.out, KD3.out, KD4.out, KD5.out, KD6.out]))
      (refine wpAnyH_take (i := 29) (oi := R_RRd10_29) (v := ?_) rfl (by kernel_rfl) (by kernel_rfl) (by kernel_rfl) (fun _ _ _ h => h) (Or.inl ⟨by rfl, ?_⟩) (by assumption) ?_; rotate_left; next => (intro w hSw; (try dsimp only at hSw); (try delta R_RRd10_29); go_simp; try with_reducible rfl))
      ((try simp only [Act.put, List.setIfInBounds_toArray, List.set_cons_zero, List.set_cons_succ]); (try simp only [KD1.out, KD2.out, KD3.out, KD4.out, KD5.out, KD6.out]))
      first | (refine wpAnyH_take (i := 30) (oi := R_RRd10_30) (v := undef) rfl (by kernel_rfl) (by kernel_rfl) (by kernel_rfl) (fun _ _ _ h => h) (Or.inr ⟨by rfl, rfl⟩) (by assumption) ?_) | (refine wpAnyH_take (i := 30) (oi := R_RRd10_30) (v := ?_) rfl (by kernel_rfl) (by kernel_rfl) (by kernel_rfl) (fun _ _ _ h => h) (Or.inl ⟨by rfl, ?_⟩) (by assumption) ?_; rotate_left; next => (intro w hSw; (try dsimp only at hSw); (try delta R_RRd10_30); go_simp; try with_reducible rfl))
      ((try simp only [Act.put, List.setIfInBounds_toArray, List.set_cons_zero, List.set_cons_succ]); (try simp only [KD1.out, KD2.out, KD3.out, KD4.out, KD5.out, KD6.out]))
      first | (refine wpAnyH_take (i := 31) (oi := R_RRd10_31) (v := undef) rfl (by kernel_rfl) (by kernel_rfl) (by kernel_rfl) (fun _ _ _ h => h) (Or.inr ⟨by rfl, rfl⟩) (by assumption) ?_) | (refine wpAnyH_take (i := 31) (oi := R_RRd10_31) (v := ?_) rfl (by kernel_rfl) (by kernel_rfl) (by kernel_rfl) (fun _ _ _ h => h) (Or.inl ⟨by rfl, ?_⟩) (by assumption) ?_; rotate_left; next => (intro w hSw; (try dsimp only at hSw); (try delta R_RRd10_31); go_simp; try with_reducible rfl))
      ((try simp only [Act.put, List.setIfInBounds_toArray, List.set_cons_zero, List.set_cons_succ]); (try simp only [KD1.out, KD2.out, KD3.out, KD4.out, KD5.out, KD6.out]))
      first | (refine wpAnyH_take (i := 32) (oi := R_RRd10_32) (v := undef) rfl (by kernel_rfl) (by kernel_rfl) (by kernel_rfl) (fun _ _ _ h => h) (Or.inr ⟨by rfl, rfl⟩) (by assumption) ?_) | (refine wpAnyH_take (i := 32) (oi := R_RRd10_32) (v := ?_) rfl (by kernel_rfl) (by kernel_rfl) (by kernel_rfl) (fun _ _ _ h => h) (Or.inl ⟨by rfl, ?_⟩) (by assumption) ?_; rotate_left; next => (intro w hSw; (try dsimp only at hSw); (try delta R_RRd10_32); go_simp; try with_reducible rfl))
      ((try simp only [Act.put, List.setIfInBounds_toArray, List.set_cons_zero, List.set_cons_succ]); (try simp only [KD1.out, KD2.out, KD3.out, KD4.out, KD5.out, KD6.out]))
      first
      | (refine wpAnyH_take (i := 33) (oi := R_RRd10_33) (v := undef) rfl (by kernel_rfl) (by kernel_rfl) (by kernel_rfl) (fun _ _ _ h => h) (Or.inr ⟨by rfl, rfl⟩) (by assumption) ?_
         ((try simp only [Act.put, List.setIfInBounds_toArray, List.set_cons_zero, List.set_cons_succ]); (try simp only [KD1.out, KD2.out, KD3.out, KD4.out, KD5.out, KD6.out])))
      | (refine wpAnyH_ready (rs := [33]) (by kernel_rfl) (by simp) ?_
         refine AllReadyH.cons (o := R_RRd10_33) rfl (fun K hK => ?_) AllReadyH.nil
         (try delta R_RRd10_33)
         go_simp
         (first | (go_at_call 44; (with_reducible refine (CBK.out _ HBD.out).mono ?_); rintro e wz ⟨rfl, rfl⟩) | fail)
         (try go_wp2_with fail)
         refine hK.out _ _ ?_ (fun hHeld => ?_)
         · (exact ⟨k1, s0, s1, s2⟩)
         clear hK K
         ((try simp only [Act.put, List.setIfInBounds_toArray, List.set_cons_zero, List.set_cons_succ]); (try simp only [KD1.out, KD2.out, KD3.out, KD4.out, KD5.out, KD6.out])))
      first | (refine wpAnyH_take (i := 34) (oi := R_RRd10_34) (v := undef) rfl (by kernel_rfl) (by kernel_rfl) (by kernel_rfl) (fun _ _ _ h => h) (Or.inr ⟨by rfl, rfl⟩) (by assumption) ?_) | (refine wpAnyH_take (i := 34) (oi := R_RRd10_34) (v := ?_) rfl (by kernel_rfl) (by kernel_rfl) (by kernel_rfl) (fun _ _ _ h => h) (Or.inl ⟨by rfl, ?_⟩) (by assumption) ?_; rotate_left; next => (intro w hSw; (try dsimp only at hSw); (try delta R_RRd10_34); go_simp; try with_reducible rfl))
      ((try simp only [Act.put, List.setIfInBounds_toArray, List.set_cons_zero, List.set_cons_succ]); (try simp only [KD1.out, KD2.out, KD3.out, KD4.out, KD5.out, KD6.out]))
      first | (refine wpAnyH_take (i := 35) (oi := R_RRd10_35) (v := undef) rfl (by kernel_rfl) (by kernel_rfl) (by kernel_rfl) (fun _ _ _ h => h) (Or.inr ⟨by rfl, rfl⟩) (by assumption) ?_) | (refine wpAnyH_take (i := 35) (oi := R_RRd10_35) (v := ?_) rfl (by kernel_rfl) (by kernel_rfl) (by kernel_rfl) (fun _ _ _ h => h) (Or.inl ⟨by rfl, ?_⟩) (by assumption) ?_; rotate_left; next => (intro w hSw; (try dsimp only at hSw); (try delta R_RRd10_35); go_simp; try with_reducible rfl))
      ((try simp only [Act.put, List.setIfInBounds_toArray, List.set_cons_zero, List.set_cons_succ]); (try simp only [KD1.out, KD2.out, KD3.out, KD4.out, KD5.out, KD6.out]))
      (refine wpAnyH_take (i := 36) (oi := R_RRd10_36) (v := ?_) rfl (by kernel_rfl) (by kernel_rfl) (by kernel_rfl) (fun _ _ _ h => h) (Or.inl ⟨by rfl, ?_⟩) (by assumption) ?_; rotate_left; next => (intro w hSw; (try dsimp only at hSw); (try delta R_RRd10_36); go_simp; try with_reducible rfl))
      ((try simp only [Act.put, List.setIfInBounds_toArray, List.set_cons_zero, List.set_cons_succ]); (try simp only [KD1.out, KD2.out, KD3.out, KD4.out, KD5.out, KD6.out]))
      refine wpAnyH_done (by kernel_rfl) ?_ _
      go_wp2_with fail
      refine bodyPost_ret (results_cell_row rfl _ _ w.heap.size 57 #[_, _, _] (0, 0) _ rfl HEN.out.1 Tryd.underlying57 rfl infoRHead) rfl ?_
      exact ⟨by rw [HF.out]; rfl, HEN.out.2⟩
end
end Go.Proofs.YtlllbacjdjllbaaDoor
