
/- The laws on package redo: RedoPlays. -/
import Derived.Test.YtlllbacjdjllbaaDoorLaw5i
namespace Go.Proofs.YtlllbacjdjllbaaDoor
open Go Go.Proofs Go.Shelf Go.RowKit Go.Great
set_option linter.unusedVariables false
set_option linter.unusedSimpArgs false
abbrev R_RPl13_0 : Oper := { dst := some 81, op := Op.move (Operand.tmp 5), type := 23, pos := "law.go:90", after := #[], guard := none }
abbrev R_RPl13_1 : Oper := { dst := some 82, op := Op.move (Operand.tmp 1), type := 43, pos := "law.go:90", after := #[], guard := none }
abbrev R_RPl13_10 : Oper := { dst := some 91, op := Op.load 30 (Operand.tmp 90), type := 30, pos := "law.go:90", after := #[{ on := 9, ground := Ground.data }], guard := none }
abbrev R_RPl13_11 : Oper := { dst := some 92, op := Op.call { callee := Callee.value (Operand.func 27), args := #[Operand.tmp 81, Operand.tmp 86, Operand.tmp 91], argTypes := #[23, 3, 30] }, type := 26, pos := "law.go:90", after := #[{ on := 0, ground := Ground.data }, { on := 5, ground := Ground.data }, { on := 10, ground := Ground.data }], guard := none }
abbrev R_RPl13_2 : Oper := { dst := some 83, op := Op.move (Operand.tmp 13), type := 3, pos := "law.go:90", after := #[], guard := none }
abbrev R_RPl13_3 : Oper := { dst := some 84, op := Op.indexAddr 43 (Operand.tmp 82) (Operand.tmp 83), type := 0, pos := "law.go:90", after := #[{ on := 1, ground := Ground.data }, { on := 2, ground := Ground.data }], guard := none }
abbrev R_RPl13_4 : Oper := { dst := some 85, op := Op.fieldAddr 51 (Operand.tmp 84) 1, type := 0, pos := "law.go:90", after := #[{ on := 3, ground := Ground.data }], guard := none }
abbrev R_RPl13_5 : Oper := { dst := some 86, op := Op.load 3 (Operand.tmp 85), type := 3, pos := "law.go:90", after := #[{ on := 4, ground := Ground.data }], guard := none }
abbrev R_RPl13_6 : Oper := { dst := some 87, op := Op.move (Operand.tmp 1), type := 43, pos := "law.go:90", after := #[], guard := none }
abbrev R_RPl13_7 : Oper := { dst := some 88, op := Op.move (Operand.tmp 13), type := 3, pos := "law.go:90", after := #[], guard := none }
abbrev R_RPl13_8 : Oper := { dst := some 89, op := Op.indexAddr 43 (Operand.tmp 87) (Operand.tmp 88), type := 0, pos := "law.go:90", after := #[{ on := 6, ground := Ground.data }, { on := 7, ground := Ground.data }], guard := none }
abbrev R_RPl13_9 : Oper := { dst := some 90, op := Op.fieldAddr 51 (Operand.tmp 89) 2, type := 0, pos := "law.go:90", after := #[{ on := 8, ground := Ground.data }], guard := none }
abbrev R_RPl14_0 : Oper := { dst := some 93, op := Op.move (Operand.tmp 6), type := 45, pos := "law.go:91", after := #[], guard := none }
abbrev R_RPl14_1 : Oper := { dst := some 94, op := Op.move (Operand.tmp 1), type := 43, pos := "law.go:91", after := #[], guard := none }
abbrev R_RPl14_10 : Oper := { dst := some 103, op := Op.load 30 (Operand.tmp 102), type := 30, pos := "law.go:91", after := #[{ on := 9, ground := Ground.data }], guard := none }
abbrev R_RPl14_11 : Oper := { dst := some 104, op := Op.call { callee := Callee.value (Operand.func 28), args := #[Operand.tmp 93, Operand.tmp 98, Operand.tmp 103], argTypes := #[45, 3, 30] }, type := 3, pos := "law.go:91", after := #[{ on := 0, ground := Ground.data }, { on := 5, ground := Ground.data }, { on := 10, ground := Ground.data }], guard := none }
abbrev R_RPl14_2 : Oper := { dst := some 95, op := Op.move (Operand.tmp 13), type := 3, pos := "law.go:91", after := #[], guard := none }
abbrev R_RPl14_3 : Oper := { dst := some 96, op := Op.indexAddr 43 (Operand.tmp 94) (Operand.tmp 95), type := 0, pos := "law.go:91", after := #[{ on := 1, ground := Ground.data }, { on := 2, ground := Ground.data }], guard := none }
abbrev R_RPl14_4 : Oper := { dst := some 97, op := Op.fieldAddr 51 (Operand.tmp 96) 1, type := 0, pos := "law.go:91", after := #[{ on := 3, ground := Ground.data }], guard := none }
abbrev R_RPl14_5 : Oper := { dst := some 98, op := Op.load 3 (Operand.tmp 97), type := 3, pos := "law.go:91", after := #[{ on := 4, ground := Ground.data }], guard := none }
abbrev R_RPl14_6 : Oper := { dst := some 99, op := Op.move (Operand.tmp 1), type := 43, pos := "law.go:91", after := #[], guard := none }
abbrev R_RPl14_7 : Oper := { dst := some 100, op := Op.move (Operand.tmp 13), type := 3, pos := "law.go:91", after := #[], guard := none }
abbrev R_RPl14_8 : Oper := { dst := some 101, op := Op.indexAddr 43 (Operand.tmp 99) (Operand.tmp 100), type := 0, pos := "law.go:91", after := #[{ on := 6, ground := Ground.data }, { on := 7, ground := Ground.data }], guard := none }
abbrev R_RPl14_9 : Oper := { dst := some 102, op := Op.fieldAddr 51 (Operand.tmp 101) 2, type := 0, pos := "law.go:91", after := #[{ on := 8, ground := Ground.data }], guard := none }
abbrev R_RPl15_0 : Oper := { dst := some 105, op := Op.move (Operand.tmp 5), type := 23, pos := "law.go:93", after := #[], guard := none }
abbrev R_RPl15_1 : Oper := { dst := some 106, op := Op.move (Operand.tmp 1), type := 43, pos := "law.go:93", after := #[], guard := none }
abbrev R_RPl15_10 : Oper := { dst := some 115, op := Op.indexAddr 43 (Operand.tmp 113) (Operand.tmp 114), type := 0, pos := "law.go:93", after := #[{ on := 8, ground := Ground.data }, { on := 9, ground := Ground.data }], guard := none }
abbrev R_RPl15_11 : Oper := { dst := some 116, op := Op.fieldAddr 51 (Operand.tmp 115) 3, type := 0, pos := "law.go:93", after := #[{ on := 10, ground := Ground.data }], guard := none }
abbrev R_RPl15_12 : Oper := { dst := some 117, op := Op.load 36 (Operand.tmp 116), type := 36, pos := "law.go:93", after := #[{ on := 11, ground := Ground.data }], guard := none }
abbrev R_RPl15_13 : Oper := { dst := some 118, op := Op.call { callee := Callee.value (Operand.func 29), args := #[Operand.tmp 112, Operand.tmp 117], argTypes := #[45, 36] }, type := 45, pos := "law.go:93", after := #[{ on := 7, ground := Ground.data }, { on := 12, ground := Ground.data }, { on := 6, ground := Ground.chain }], guard := none }
abbrev R_RPl15_14 : Oper := { dst := some 5, op := Op.assign (Operand.tmp 111), type := 23, pos := "law.go:93", after := #[{ on := 6, ground := Ground.data }, { on := 13, ground := Ground.chain }, { on := 0, ground := Ground.phase }, { on := 1, ground := Ground.phase }, { on := 2, ground := Ground.phase }, { on := 3, ground := Ground.phase }, { on := 4, ground := Ground.phase }, { on := 5, ground := Ground.phase }, { on := 6, ground := Ground.phase }, { on := 7, ground := Ground.textOnly Departure.lateStores }, { on := 8, ground := Ground.textOnly Departure.lateStores }, { on := 9, ground := Ground.textOnly Departure.lateStores }, { on := 10, ground := Ground.textOnly Departure.lateStores }, { on := 11, ground := Ground.textOnly Departure.lateStores }, { on := 12, ground := Ground.textOnly Departure.lateStores }, { on := 13, ground := Ground.textOnly Departure.lateStoresUnsure }], guard := none }
abbrev R_RPl15_15 : Oper := { dst := some 6, op := Op.assign (Operand.tmp 118), type := 45, pos := "law.go:93", after := #[{ on := 13, ground := Ground.data }, { on := 14, ground := Ground.chain }, { on := 0, ground := Ground.phase }, { on := 1, ground := Ground.phase }, { on := 2, ground := Ground.phase }, { on := 3, ground := Ground.phase }, { on := 4, ground := Ground.phase }, { on := 5, ground := Ground.phase }, { on := 6, ground := Ground.phase }, { on := 7, ground := Ground.phase }, { on := 8, ground := Ground.phase }, { on := 9, ground := Ground.phase }, { on := 10, ground := Ground.phase }, { on := 11, ground := Ground.phase }, { on := 12, ground := Ground.phase }, { on := 13, ground := Ground.phase }, { on := 14, ground := Ground.phase }], guard := none }
abbrev R_RPl15_2 : Oper := { dst := some 107, op := Op.move (Operand.tmp 13), type := 3, pos := "law.go:93", after := #[], guard := none }
abbrev R_RPl15_3 : Oper := { dst := some 108, op := Op.indexAddr 43 (Operand.tmp 106) (Operand.tmp 107), type := 0, pos := "law.go:93", after := #[{ on := 1, ground := Ground.data }, { on := 2, ground := Ground.data }], guard := none }
abbrev R_RPl15_4 : Oper := { dst := some 109, op := Op.fieldAddr 51 (Operand.tmp 108) 3, type := 0, pos := "law.go:93", after := #[{ on := 3, ground := Ground.data }], guard := none }
abbrev R_RPl15_5 : Oper := { dst := some 110, op := Op.load 36 (Operand.tmp 109), type := 36, pos := "law.go:93", after := #[{ on := 4, ground := Ground.data }], guard := none }
abbrev R_RPl15_6 : Oper := { dst := some 111, op := Op.call { callee := Callee.value (Operand.func 20), args := #[Operand.tmp 105, Operand.tmp 110], argTypes := #[23, 36] }, type := 23, pos := "law.go:93", after := #[{ on := 0, ground := Ground.data }, { on := 5, ground := Ground.data }], guard := none }
abbrev R_RPl15_7 : Oper := { dst := some 112, op := Op.move (Operand.tmp 6), type := 45, pos := "law.go:93", after := #[], guard := none }
abbrev R_RPl15_8 : Oper := { dst := some 113, op := Op.move (Operand.tmp 1), type := 43, pos := "law.go:93", after := #[], guard := none }
abbrev R_RPl15_9 : Oper := { dst := some 114, op := Op.move (Operand.tmp 13), type := 3, pos := "law.go:93", after := #[], guard := none }
abbrev R_RPl24_0 : Oper := { dst := some 154, op := Op.move (Operand.tmp 7), type := 25, pos := "law.go:78", after := #[], guard := none }
abbrev R_RPl24_1 : Oper := { dst := some 155, op := Op.move (Operand.tmp 1), type := 43, pos := "law.go:78", after := #[], guard := none }
abbrev R_RPl24_10 : Oper := { dst := some 164, op := Op.indexAddr 43 (Operand.tmp 162) (Operand.tmp 163), type := 0, pos := "law.go:78", after := #[{ on := 8, ground := Ground.data }, { on := 9, ground := Ground.data }], guard := none }
abbrev R_RPl24_11 : Oper := { dst := some 165, op := Op.fieldAddr 51 (Operand.tmp 164) 2, type := 0, pos := "law.go:78", after := #[{ on := 10, ground := Ground.data }], guard := none }
abbrev R_RPl24_12 : Oper := { dst := some 166, op := Op.load 30 (Operand.tmp 165), type := 30, pos := "law.go:78", after := #[{ on := 11, ground := Ground.data }], guard := none }
abbrev R_RPl24_13 : Oper := { dst := some 167, op := Op.call { callee := Callee.value (Operand.func 24), args := #[Operand.tmp 161, Operand.tmp 166], argTypes := #[47, 30] }, type := 3, pos := "law.go:78", after := #[{ on := 7, ground := Ground.data }, { on := 12, ground := Ground.data }, { on := 6, ground := Ground.chain }], guard := none }
abbrev R_RPl24_14 : Oper := { dst := some 168, op := Op.binOp BinOp.neq 3 (Operand.tmp 160) (Operand.tmp 167) 3, type := 4, pos := "law.go:78", after := #[{ on := 6, ground := Ground.data }, { on := 13, ground := Ground.data }], guard := none }
abbrev R_RPl24_2 : Oper := { dst := some 156, op := Op.move (Operand.tmp 13), type := 3, pos := "law.go:78", after := #[], guard := none }
abbrev R_RPl24_3 : Oper := { dst := some 157, op := Op.indexAddr 43 (Operand.tmp 155) (Operand.tmp 156), type := 0, pos := "law.go:78", after := #[{ on := 1, ground := Ground.data }, { on := 2, ground := Ground.data }], guard := none }
abbrev R_RPl24_4 : Oper := { dst := some 158, op := Op.fieldAddr 51 (Operand.tmp 157) 2, type := 0, pos := "law.go:78", after := #[{ on := 3, ground := Ground.data }], guard := none }
abbrev R_RPl24_5 : Oper := { dst := some 159, op := Op.load 30 (Operand.tmp 158), type := 30, pos := "law.go:78", after := #[{ on := 4, ground := Ground.data }], guard := none }
abbrev R_RPl24_6 : Oper := { dst := some 160, op := Op.call { callee := Callee.value (Operand.func 13), args := #[Operand.tmp 154, Operand.tmp 159], argTypes := #[25, 30] }, type := 26, pos := "law.go:78", after := #[{ on := 0, ground := Ground.data }, { on := 5, ground := Ground.data }], guard := none }
abbrev R_RPl24_7 : Oper := { dst := some 161, op := Op.move (Operand.tmp 10), type := 47, pos := "law.go:78", after := #[], guard := none }
abbrev R_RPl24_8 : Oper := { dst := some 162, op := Op.move (Operand.tmp 1), type := 43, pos := "law.go:78", after := #[], guard := none }
abbrev R_RPl24_9 : Oper := { dst := some 163, op := Op.move (Operand.tmp 13), type := 3, pos := "law.go:78", after := #[], guard := none }
abbrev R_RPl27_0 : Oper := { dst := some 171, op := Op.move (Operand.tmp 7), type := 25, pos := "law.go:82", after := #[], guard := none }
abbrev R_RPl27_1 : Oper := { dst := some 172, op := Op.move (Operand.tmp 1), type := 43, pos := "law.go:82", after := #[], guard := none }
abbrev R_RPl27_10 : Oper := { dst := some 181, op := Op.indexAddr 43 (Operand.tmp 179) (Operand.tmp 180), type := 0, pos := "law.go:82", after := #[{ on := 8, ground := Ground.data }, { on := 9, ground := Ground.data }], guard := none }
abbrev R_RPl27_11 : Oper := { dst := some 182, op := Op.fieldAddr 51 (Operand.tmp 181) 2, type := 0, pos := "law.go:82", after := #[{ on := 10, ground := Ground.data }], guard := none }
abbrev R_RPl27_12 : Oper := { dst := some 183, op := Op.load 30 (Operand.tmp 182), type := 30, pos := "law.go:82", after := #[{ on := 11, ground := Ground.data }], guard := none }
abbrev R_RPl27_13 : Oper := { dst := some 184, op := Op.call { callee := Callee.value (Operand.func 25), args := #[Operand.tmp 178, Operand.tmp 183], argTypes := #[47, 30] }, type := 3, pos := "law.go:82", after := #[{ on := 7, ground := Ground.data }, { on := 12, ground := Ground.data }, { on := 6, ground := Ground.chain }], guard := none }
abbrev R_RPl27_14 : Oper := { dst := some 185, op := Op.binOp BinOp.neq 3 (Operand.tmp 177) (Operand.tmp 184) 3, type := 4, pos := "law.go:82", after := #[{ on := 6, ground := Ground.data }, { on := 13, ground := Ground.data }], guard := none }
abbrev R_RPl27_2 : Oper := { dst := some 173, op := Op.move (Operand.tmp 13), type := 3, pos := "law.go:82", after := #[], guard := none }
abbrev R_RPl27_3 : Oper := { dst := some 174, op := Op.indexAddr 43 (Operand.tmp 172) (Operand.tmp 173), type := 0, pos := "law.go:82", after := #[{ on := 1, ground := Ground.data }, { on := 2, ground := Ground.data }], guard := none }
abbrev R_RPl27_4 : Oper := { dst := some 175, op := Op.fieldAddr 51 (Operand.tmp 174) 2, type := 0, pos := "law.go:82", after := #[{ on := 3, ground := Ground.data }], guard := none }
abbrev R_RPl27_5 : Oper := { dst := some 176, op := Op.load 30 (Operand.tmp 175), type := 30, pos := "law.go:82", after := #[{ on := 4, ground := Ground.data }], guard := none }
abbrev R_RPl27_6 : Oper := { dst := some 177, op := Op.call { callee := Callee.value (Operand.func 15), args := #[Operand.tmp 171, Operand.tmp 176], argTypes := #[25, 30] }, type := 26, pos := "law.go:82", after := #[{ on := 0, ground := Ground.data }, { on := 5, ground := Ground.data }], guard := none }
abbrev R_RPl27_7 : Oper := { dst := some 178, op := Op.move (Operand.tmp 10), type := 47, pos := "law.go:82", after := #[], guard := none }
abbrev R_RPl27_8 : Oper := { dst := some 179, op := Op.move (Operand.tmp 1), type := 43, pos := "law.go:82", after := #[], guard := none }
abbrev R_RPl27_9 : Oper := { dst := some 180, op := Op.move (Operand.tmp 13), type := 3, pos := "law.go:82", after := #[], guard := none }
abbrev R_RPl32_0 : Oper := { dst := some 202, op := Op.move (Operand.tmp 5), type := 23, pos := "law.go:105", after := #[], guard := none }
abbrev R_RPl32_1 : Oper := { dst := some 203, op := Op.binOp BinOp.eql 23 (Operand.tmp 202) (Operand.const (Value.pointer none)) 23, type := 4, pos := "law.go:105", after := #[{ on := 0, ground := Ground.data }], guard := none }
abbrev R_RPl32_10 : Oper := { dst := some 212, op := Op.pick (Operand.tmp 204) (Operand.const (Value.bool true)) (Operand.tmp 211), type := 4, pos := "law.go:105", after := #[{ on := 2, ground := Ground.data }, { on := 9, ground := Ground.data }], guard := none }
abbrev R_RPl32_11 : Oper := { dst := some 213, op := Op.move (Operand.tmp 212), type := 4, pos := "law.go:105", after := #[{ on := 10, ground := Ground.data }, { on := 4, ground := Ground.chain }], guard := none }
abbrev R_RPl32_12 : Oper := { dst := some 214, op := Op.move (Operand.tmp 7), type := 25, pos := "law.go:105", after := #[{ on := 11, ground := Ground.guard }], guard := some (11, false) }
abbrev R_RPl32_13 : Oper := { dst := some 215, op := Op.call { callee := Callee.value (Operand.func 18), args := #[Operand.tmp 214], argTypes := #[25] }, type := 3, pos := "law.go:105", after := #[{ on := 12, ground := Ground.data }, { on := 11, ground := Ground.chain }, { on := 11, ground := Ground.guard }], guard := some (11, false) }
abbrev R_RPl32_14 : Oper := { dst := some 216, op := Op.move (Operand.tmp 10), type := 47, pos := "law.go:105", after := #[{ on := 11, ground := Ground.guard }], guard := some (11, false) }
abbrev R_RPl32_15 : Oper := { dst := some 217, op := Op.call { callee := Callee.value (Operand.func 30), args := #[Operand.tmp 216], argTypes := #[47] }, type := 3, pos := "law.go:105", after := #[{ on := 14, ground := Ground.data }, { on := 13, ground := Ground.chain }, { on := 11, ground := Ground.guard }], guard := some (11, false) }
abbrev R_RPl32_16 : Oper := { dst := some 218, op := Op.binOp BinOp.neq 3 (Operand.tmp 215) (Operand.tmp 217) 3, type := 4, pos := "law.go:105", after := #[{ on := 13, ground := Ground.data }, { on := 15, ground := Ground.data }, { on := 11, ground := Ground.guard }], guard := some (11, false) }
abbrev R_RPl32_17 : Oper := { dst := some 219, op := Op.pick (Operand.tmp 213) (Operand.const (Value.bool true)) (Operand.tmp 218), type := 4, pos := "law.go:105", after := #[{ on := 11, ground := Ground.data }, { on := 16, ground := Ground.data }], guard := none }
abbrev R_RPl32_18 : Oper := { dst := some 220, op := Op.move (Operand.tmp 219), type := 4, pos := "law.go:105", after := #[{ on := 17, ground := Ground.data }, { on := 15, ground := Ground.chain }], guard := none }
abbrev R_RPl32_19 : Oper := { dst := some 221, op := Op.move (Operand.tmp 5), type := 23, pos := "law.go:105", after := #[{ on := 18, ground := Ground.guard }], guard := some (18, false) }
abbrev R_RPl32_2 : Oper := { dst := some 204, op := Op.move (Operand.tmp 203), type := 4, pos := "law.go:105", after := #[{ on := 1, ground := Ground.data }], guard := none }
abbrev R_RPl32_20 : Oper := { dst := some 222, op := Op.move (Operand.tmp 6), type := 45, pos := "law.go:105", after := #[{ on := 18, ground := Ground.guard }], guard := some (18, false) }
abbrev R_RPl32_21 : Oper := { dst := some 223, op := Op.call { callee := Callee.value (Operand.func 31), args := #[Operand.tmp 221, Operand.tmp 222], argTypes := #[23, 45] }, type := 4, pos := "law.go:105", after := #[{ on := 19, ground := Ground.data }, { on := 20, ground := Ground.data }, { on := 18, ground := Ground.chain }, { on := 18, ground := Ground.guard }], guard := some (18, false) }
abbrev R_RPl32_22 : Oper := { dst := some 224, op := Op.unOp UnOp.not 4 (Operand.tmp 223), type := 4, pos := "law.go:105", after := #[{ on := 21, ground := Ground.data }, { on := 18, ground := Ground.guard }], guard := some (18, false) }
abbrev R_RPl32_23 : Oper := { dst := some 225, op := Op.pick (Operand.tmp 220) (Operand.const (Value.bool true)) (Operand.tmp 224), type := 4, pos := "law.go:105", after := #[{ on := 18, ground := Ground.data }, { on := 22, ground := Ground.data }], guard := none }
abbrev R_RPl32_3 : Oper := { dst := some 205, op := Op.move (Operand.tmp 7), type := 25, pos := "law.go:105", after := #[{ on := 2, ground := Ground.guard }], guard := some (2, false) }
abbrev R_RPl32_4 : Oper := { dst := some 206, op := Op.call { callee := Callee.value (Operand.func 14), args := #[Operand.tmp 205], argTypes := #[25] }, type := 3, pos := "law.go:105", after := #[{ on := 3, ground := Ground.data }, { on := 2, ground := Ground.chain }, { on := 2, ground := Ground.guard }], guard := some (2, false) }
abbrev R_RPl32_5 : Oper := { dst := some 207, op := Op.move (Operand.tmp 10), type := 47, pos := "law.go:105", after := #[{ on := 2, ground := Ground.guard }], guard := some (2, false) }
abbrev R_RPl32_6 : Oper := { dst := some 208, op := Op.nilCheck (Operand.tmp 207), type := 0, pos := "law.go:105", after := #[{ on := 5, ground := Ground.data }, { on := 2, ground := Ground.guard }], guard := some (2, false) }
abbrev R_RPl32_7 : Oper := { dst := some 209, op := Op.fieldAddr 59 (Operand.tmp 208) 3, type := 0, pos := "law.go:105", after := #[{ on := 6, ground := Ground.data }, { on := 2, ground := Ground.guard }], guard := some (2, false) }
abbrev R_RPl32_8 : Oper := { dst := some 210, op := Op.load 3 (Operand.tmp 209), type := 3, pos := "law.go:105", after := #[{ on := 7, ground := Ground.data }, { on := 2, ground := Ground.guard }], guard := some (2, false) }
abbrev R_RPl32_9 : Oper := { dst := some 211, op := Op.binOp BinOp.neq 3 (Operand.tmp 206) (Operand.tmp 210) 3, type := 4, pos := "law.go:105", after := #[{ on := 4, ground := Ground.data }, { on := 8, ground := Ground.data }, { on := 2, ground := Ground.guard }], guard := some (2, false) }

theorem Two.below {w0 W W' : World} {D g m L L2 X : Nat} {v bv bv2 ov sv wv : Value} {lf : Int} {l : PL} {d : PD} {j : Nat} (h : Two w0 W D g m L L2 X v bv bv2 ov sv wv lf l d j) (hb : Below W.heap.size W W') : Two w0 W' D g m L L2 X v bv bv2 ov sv wv lf l d j :=
  ⟨h.ld.below hb, h.rl.below hb, h.rd.below hb, h.fit, h.bel.trans (hb.mono h.bel.size)⟩
theorem LDAt.chrR {lo lo' : Nat} {W W' : World} {L D g m : Nat} {bv v : Value} {l : PL} {d : PD} (h : LDAt lo W L D g m bv v l d) (hc : ChR lo' W W') : LDAt lo W' L D g m bv v l d := h.chrl (ChRL.ofChR hc)
set_option maxRecDepth 100000 in
set_option maxHeartbeats 16000000 in
theorem RedoPlays_big (n : Nat) (v1 : Value) (x1 : List AA) (w : World) (w1 : RowK 4 w v1 (x1.map AA.cells)) (y1 : ∀ p ∈ x1, p.at w ∧ okAA p) (z1 : x1.length ≤ 2199023255552) (h20 : n ≤ 20) (h4 : 4 ≤ n) :
    Calls Tryd.prog 9 #[.int .i64 (n : Int), v1] w fun e w' => e = .returned (.bool true) ∧ Below w.heap.size w w' := by
  have HLg := Lib.hid (long_c v1 x1 w w1 y1)
  obtain ⟨a, c, rfl, _⟩ := w1.shape
  rw [List.length_map] at *
  have HR := Lib.hid (fun W (hb : Below w.heap.size w W) => w1.below hb)
  have HY := Lib.hid y1
  clear w1 y1
  have h0 : ¬ (n : Int) < 0 := by omega
  have h1 : ¬ 20 < (n : Int) := by omega
  have H4 := Lib.hid h4
  clear h4
  go_enter Tryd.func9, Tryd.ntmps9
  go_wp2_with (first | (go_at_call 21; (with_reducible refine (HLg.out).mono ?_); rintro e w2 ⟨r, rfl, hlr, hb⟩; have HB := Lib.hid hb; have HLr := Lib.hid hlr; clear hlr hb; cases r) | (go_at_call 10; (with_reducible refine (New_c _ n (by omega)).mono ?_); rintro e w3 ⟨D, g, m, rfl, hd, hb3⟩; have HD := Lib.hid (hd.mono HB.out.size); replace HB := Lib.hid (HB.out.trans (hb3.mono HB.out.size)); clear hd hb3) | (go_at_call 22; (with_reducible refine (RNew_c _ n (by omega)).mono ?_); rintro e w4 ⟨X, ov, sv, wv, lf, rfl, hx, hb4⟩; have HX := Lib.hid (hx.mono HB.out.size); replace HD := Lib.hid (HD.out.below hb4); replace HB := Lib.hid (HB.out.trans (hb4.mono HB.out.size)); clear hx hb4) | (go_at_call 11; (with_reducible refine (Open_new HD.out H4.out).mono ?_); rintro e w5 ⟨L, bv, va, vc, rfl, hl, _, hb5⟩; have HL := Lib.hid hl; replace HX := Lib.hid (HX.out.below hb5); replace HB := Lib.hid (HB.out.trans (hb5.mono HB.out.size)); clear hl hb5) | (go_at_call 23; (with_reducible refine (XOpen_new HX.out H4.out).mono ?_); rintro e w6 ⟨L2, bv2, rv, rfl, hl2, hb6⟩; replace HL := Lib.hid (HL.out.below hb6); have HRL := Lib.hid (hl2.mono HB.out.size); replace HX := Lib.hid (HX.out.below hb6); replace HB := Lib.hid (HB.out.trans (hb6.mono HB.out.size)); clear hl2 hb6) | fail)
  · go_loopg [5, 6, 7, 10, 13] 30 (fun k s5 s6 s7 s10 s13 wr => ∃ j : Nat, j ≤ 30 ∧ j ≤ x1.length ∧ k = 30 - j ∧ s13 = .int .i64 (j : Int) ∧ PlaysRel w n j s5 s6 s7 s10 wr)
    case atStart => exact ⟨0, by omega, by omega, rfl, rfl, _, _, _, _, _, _, _, _, _, _, _, _, _, _, _, rfl, rfl, rfl, rfl, rfl, ⟨HL.out, HRL.out, HX.out, ⟨log0_ok H4.out, by decide, h20, Nat.le_refl _⟩, HB.out⟩⟩
    case round =>
      obtain ⟨j, hj30, hjl, rfl, rfl, D', g', m', L', L2', X', v', bv', bv2', ov', sv', wv', lf', l, d, rfl, rfl, rfl, rfl, hdn, ht⟩ := hrel
      have HT := Lib.hid ht
      have HDN := Lib.hid hdn
      clear ht hdn HD HL HRL HX
      by_cases hlt : j < x1.length
      case neg =>
        have hlt' : ¬ (j : Int) < (x1.length : Int) := by omega
        go_wp2_with (first | (go_at_call 16; (with_reducible refine (known5_c _).mono ?_); rintro e w9 ⟨rfl, hb9⟩; have HB9 := Lib.hid (HT.out.bel.trans (hb9.mono HT.out.bel.size)); clear hb9) | fail)
        go_ret
        exact ⟨rfl, HB9.out⟩
      by_cases hl30 : j < 30
      case neg =>
        have hl30' : ¬ (j : Int) < 30 := by omega
        have hlt' : (j : Int) < (x1.length : Int) := by omega
        go_wp2_with (first | (go_at_call 16; (with_reducible refine (known5_c _).mono ?_); rintro e w9 ⟨rfl, hb9⟩; have HB9 := Lib.hid (HT.out.bel.trans (hb9.mono HT.out.bel.size)); clear hb9) | fail)
        go_ret
        exact ⟨rfl, HB9.out⟩
      have hlt' : (j : Int) < (x1.length : Int) := by omega
      have hl30' : (j : Int) < 30 := by omega
      have HRW := Lib.hid (fun W (hb : Below w.heap.size w W) => row_aa (HR.out W hb) j hlt)
      have HYj := Lib.hid (HY.out x1[j] (List.getElem_mem hlt))
      have HLe := Lib.hid (HLr.out (by simp) j hlt hl30)
      generalize x1[j] = ac at *
      obtain ⟨kd, ix, pv, kv, p, kp⟩ := ac
      simp only at HRW HLe
      obtain ⟨B, o, rfl, _, t0, _⟩ := HRW.out _ HT.out.bel
      have HRW2 : Hid (∀ W, Below w.heap.size w W → W.cell? ⟨B, o + j * 4, none⟩ = some (.int .i64 kd) ∧ W.cell? ⟨B, o + j * 4 + 1, none⟩ = some (.int .i64 ix) ∧ W.cell? ⟨B, o + j * 4 + 2, none⟩ = some pv ∧ W.cell? ⟨B, o + j * 4 + 3, none⟩ = some kv) := Lib.hid (fun W hb => by
        obtain ⟨B2, o2, e2, _, h0, h1, h2, h3⟩ := HRW.out W hb
        injection e2 with e2
        injection e2 with e3 e4
        subst e3 e4
        exact ⟨h0, h1, h2, h3⟩)
      clear HRW
      obtain ⟨⟨hp, hkp⟩, hok⟩ := HYj.out
      change RowAt w pv (bytesV p) at hp
      change RowAt w kv (kp.map Value.bool) at hkp
      obtain ⟨pa, pc, rfl⟩ := hp.shapeB
      obtain ⟨ka, kc, hkv⟩ := hkp.shape
      rw [List.length_map] at hkv
      subst hkv
      have HPV : Hid (∀ W, Below w.heap.size w W → RowAt W (.slice pa p.length pc) (bytesV p)) := Lib.hid (fun W hb => RowAt.below hp hb)
      have HKV : Hid (∀ W, Below w.heap.size w W → RowAt W (.slice ka kp.length kc) (boolR kp)) := Lib.hid (fun W hb => RowAt.below hkp hb)
      have hix : ix ≤ 9223372036854775807 := hok.1.2
      clear hp hkp hok HYj HY
      have HBl := Lib.hid HT.out.bel
      go_upto_block 2 with fail
      go_cut [5, 6, 7, 10] (fun s5 s6 s7 s10 wc => PlaysRel w n (j + 1) s5 s6 s7 s10 wc)
      case rest => as_aux_lemma =>
        obtain ⟨D2, g2, m2, L3, L4, X2, v2, bv3, bv4, ov2, sv2, wv2, lf2, l2, d2, rfl, rfl, rfl, rfl, hdn2, ht⟩ := hcut
        have HT2 := Lib.hid ht
        have HDN2 := Lib.hid hdn2
        have c5 := ht.rl.blk.blk.cell 5 _ rfl
        have HLen := Lib.hid (RLen_c (ht.ld.below (Below.refl _ wc).drew))
        have HRo := Lib.hid (RRoom_c (ht.ld.below (Below.refl _ wc).drew) ht.fit.ok)
        have HXR := Lib.hid (XRoom_c (ht.rl.below (Below.refl _ wc).drew.drew) (ht.rd.below (Below.refl _ wc).drew.drew) ht.fit.ok)
        have HAl := Lib.hid (alike_c (ht.ld.drum.below (Below.refl _ wc).drew.drew.drew) (ht.rd.below (Below.refl _ wc).drew.drew.drew))
        clear ht hdn2 HT t0 HBl
        go_wp2_with fail
        refine wp_region_held_drew (S := (fun W => W.cell? ⟨L4, 5, none⟩ = some (.int .i64 l2.count))) (by kernel_rfl) ?_ (fun hHeld => ?_)
        · (exact c5)
        (refine wpAnyH_take (i := 0) (oi := R_RPl32_0) (v := ?_) rfl (by kernel_rfl) (by kernel_rfl) (by kernel_rfl) (fun _ _ _ h => h) (Or.inl ⟨by rfl, ?_⟩) (by assumption) ?_; rotate_left; next => (intro w hSw; (try dsimp only at hSw); (try delta R_RPl32_0); go_simp; try with_reducible rfl))
        (try simp only [Act.put, List.setIfInBounds_toArray, List.set_cons_zero, List.set_cons_succ])
        (refine wpAnyH_take (i := 1) (oi := R_RPl32_1) (v := ?_) rfl (by kernel_rfl) (by kernel_rfl) (by kernel_rfl) (fun _ _ _ h => h) (Or.inl ⟨by rfl, ?_⟩) (by assumption) ?_; rotate_left; next => (intro w hSw; (try dsimp only at hSw); (try delta R_RPl32_1); go_simp; try with_reducible rfl))
        (try simp only [Act.put, List.setIfInBounds_toArray, List.set_cons_zero, List.set_cons_succ])
        (refine wpAnyH_take (i := 2) (oi := R_RPl32_2) (v := ?_) rfl (by kernel_rfl) (by kernel_rfl) (by kernel_rfl) (fun _ _ _ h => h) (Or.inl ⟨by rfl, ?_⟩) (by assumption) ?_; rotate_left; next => (intro w hSw; (try dsimp only at hSw); (try delta R_RPl32_2); go_simp; try with_reducible rfl))
        (try simp only [Act.put, List.setIfInBounds_toArray, List.set_cons_zero, List.set_cons_succ])
        first | (refine wpAnyH_take (i := 3) (oi := R_RPl32_3) (v := undef) rfl (by kernel_rfl) (by kernel_rfl) (by kernel_rfl) (fun _ _ _ h => h) (Or.inr ⟨by rfl, rfl⟩) (by assumption) ?_) | (refine wpAnyH_take (i := 3) (oi := R_RPl32_3) (v := ?_) rfl (by kernel_rfl) (by kernel_rfl) (by kernel_rfl) (fun _ _ _ h => h) (Or.inl ⟨by rfl, ?_⟩) (by assumption) ?_; rotate_left; next => (intro w hSw; (try dsimp only at hSw); (try delta R_RPl32_3); go_simp; try with_reducible rfl))
        (try simp only [Act.put, List.setIfInBounds_toArray, List.set_cons_zero, List.set_cons_succ])
        first | (refine wpAnyH_take (i := 5) (oi := R_RPl32_5) (v := undef) rfl (by kernel_rfl) (by kernel_rfl) (by kernel_rfl) (fun _ _ _ h => h) (Or.inr ⟨by rfl, rfl⟩) (by assumption) ?_) | (refine wpAnyH_take (i := 5) (oi := R_RPl32_5) (v := ?_) rfl (by kernel_rfl) (by kernel_rfl) (by kernel_rfl) (fun _ _ _ h => h) (Or.inl ⟨by rfl, ?_⟩) (by assumption) ?_; rotate_left; next => (intro w hSw; (try dsimp only at hSw); (try delta R_RPl32_5); go_simp; try with_reducible rfl))
        (try simp only [Act.put, List.setIfInBounds_toArray, List.set_cons_zero, List.set_cons_succ])
        first | (refine wpAnyH_take (i := 6) (oi := R_RPl32_6) (v := undef) rfl (by kernel_rfl) (by kernel_rfl) (by kernel_rfl) (fun _ _ _ h => h) (Or.inr ⟨by rfl, rfl⟩) (by assumption) ?_) | (refine wpAnyH_take (i := 6) (oi := R_RPl32_6) (v := ?_) rfl (by kernel_rfl) (by kernel_rfl) (by kernel_rfl) (fun _ _ _ h => h) (Or.inl ⟨by rfl, ?_⟩) (by assumption) ?_; rotate_left; next => (intro w hSw; (try dsimp only at hSw); (try delta R_RPl32_6); go_simp; try with_reducible rfl))
        (try simp only [Act.put, List.setIfInBounds_toArray, List.set_cons_zero, List.set_cons_succ])
        first | (refine wpAnyH_take (i := 7) (oi := R_RPl32_7) (v := undef) rfl (by kernel_rfl) (by kernel_rfl) (by kernel_rfl) (fun _ _ _ h => h) (Or.inr ⟨by rfl, rfl⟩) (by assumption) ?_) | (refine wpAnyH_take (i := 7) (oi := R_RPl32_7) (v := ?_) rfl (by kernel_rfl) (by kernel_rfl) (by kernel_rfl) (fun _ _ _ h => h) (Or.inl ⟨by rfl, ?_⟩) (by assumption) ?_; rotate_left; next => (intro w hSw; (try dsimp only at hSw); (try delta R_RPl32_7); go_simp; try with_reducible rfl))
        (try simp only [Act.put, List.setIfInBounds_toArray, List.set_cons_zero, List.set_cons_succ])
        first | (refine wpAnyH_take (i := 8) (oi := R_RPl32_8) (v := undef) rfl (by kernel_rfl) (by kernel_rfl) (by kernel_rfl) (fun _ _ _ h => h) (Or.inr ⟨by rfl, rfl⟩) (by assumption) ?_) | (refine wpAnyH_take (i := 8) (oi := R_RPl32_8) (v := ?_) rfl (by kernel_rfl) (by kernel_rfl) (by kernel_rfl) (fun _ _ _ h => h) (Or.inl ⟨by rfl, ?_⟩) (by assumption) ?_; rotate_left; next => (intro w hSw; (try dsimp only at hSw); (try delta R_RPl32_8); go_simp; try with_reducible rfl))
        (try simp only [Act.put, List.setIfInBounds_toArray, List.set_cons_zero, List.set_cons_succ])
        first
        | (refine wpAnyH_take (i := 4) (oi := R_RPl32_4) (v := undef) rfl (by kernel_rfl) (by kernel_rfl) (by kernel_rfl) (fun _ _ _ h => h) (Or.inr ⟨by rfl, rfl⟩) (by assumption) ?_
           (try simp only [Act.put, List.setIfInBounds_toArray, List.set_cons_zero, List.set_cons_succ]))
        | (refine wpAnyH_ready (rs := [4]) (by kernel_rfl) (by simp) ?_
           refine AllReadyH.cons (o := R_RPl32_4) rfl (fun K hK => ?_) AllReadyH.nil
           (try delta R_RPl32_4)
           go_simp
           (first | (go_at_call 14; (with_reducible refine (HLen.out).mono ?_); rintro e wz ⟨rfl, rfl⟩) | (go_at_call 18; (with_reducible refine (HRo.out).mono ?_); rintro e wz ⟨rfl, rfl⟩) | (go_at_call 30; (with_reducible refine (HXR.out).mono ?_); rintro e wz ⟨rfl, rfl⟩) | (go_at_call 31; (with_reducible refine (HAl.out).mono ?_); rintro e w9 ⟨rfl, hb9⟩; have HB9 := Lib.hid (((Below.refl wc.heap.size wc).drew.drew.drew).trans hb9); have c5 := (HT2.out.rl.below HB9.out).blk.blk.cell 5 _ rfl; clear hb9))
           (try go_wp2_with fail)
           refine hK.out _ _ ?_ (fun hHeld => ?_)
           · (exact c5)
           clear hK K
           (try simp only [Act.put, List.setIfInBounds_toArray, List.set_cons_zero, List.set_cons_succ]))
        first | (refine wpAnyH_take (i := 9) (oi := R_RPl32_9) (v := undef) rfl (by kernel_rfl) (by kernel_rfl) (by kernel_rfl) (fun _ _ _ h => h) (Or.inr ⟨by rfl, rfl⟩) (by assumption) ?_) | (refine wpAnyH_take (i := 9) (oi := R_RPl32_9) (v := ?_) rfl (by kernel_rfl) (by kernel_rfl) (by kernel_rfl) (fun _ _ _ h => h) (Or.inl ⟨by rfl, ?_⟩) (by assumption) ?_; rotate_left; next => (intro w hSw; (try dsimp only at hSw); (try delta R_RPl32_9); go_simp; try with_reducible rfl))
        (try simp only [Act.put, List.setIfInBounds_toArray, List.set_cons_zero, List.set_cons_succ])
        (refine wpAnyH_take (i := 10) (oi := R_RPl32_10) (v := ?_) rfl (by kernel_rfl) (by kernel_rfl) (by kernel_rfl) (fun _ _ _ h => h) (Or.inl ⟨by rfl, ?_⟩) (by assumption) ?_; rotate_left; next => (intro w hSw; (try dsimp only at hSw); (try delta R_RPl32_10); go_simp; try with_reducible rfl))
        (try simp only [Act.put, List.setIfInBounds_toArray, List.set_cons_zero, List.set_cons_succ])
        (refine wpAnyH_take (i := 11) (oi := R_RPl32_11) (v := ?_) rfl (by kernel_rfl) (by kernel_rfl) (by kernel_rfl) (fun _ _ _ h => h) (Or.inl ⟨by rfl, ?_⟩) (by assumption) ?_; rotate_left; next => (intro w hSw; (try dsimp only at hSw); (try delta R_RPl32_11); go_simp; try with_reducible rfl))
        (try simp only [Act.put, List.setIfInBounds_toArray, List.set_cons_zero, List.set_cons_succ])
        first | (refine wpAnyH_take (i := 12) (oi := R_RPl32_12) (v := undef) rfl (by kernel_rfl) (by kernel_rfl) (by kernel_rfl) (fun _ _ _ h => h) (Or.inr ⟨by rfl, rfl⟩) (by assumption) ?_) | (refine wpAnyH_take (i := 12) (oi := R_RPl32_12) (v := ?_) rfl (by kernel_rfl) (by kernel_rfl) (by kernel_rfl) (fun _ _ _ h => h) (Or.inl ⟨by rfl, ?_⟩) (by assumption) ?_; rotate_left; next => (intro w hSw; (try dsimp only at hSw); (try delta R_RPl32_12); go_simp; try with_reducible rfl))
        (try simp only [Act.put, List.setIfInBounds_toArray, List.set_cons_zero, List.set_cons_succ])
        first | (refine wpAnyH_take (i := 14) (oi := R_RPl32_14) (v := undef) rfl (by kernel_rfl) (by kernel_rfl) (by kernel_rfl) (fun _ _ _ h => h) (Or.inr ⟨by rfl, rfl⟩) (by assumption) ?_) | (refine wpAnyH_take (i := 14) (oi := R_RPl32_14) (v := ?_) rfl (by kernel_rfl) (by kernel_rfl) (by kernel_rfl) (fun _ _ _ h => h) (Or.inl ⟨by rfl, ?_⟩) (by assumption) ?_; rotate_left; next => (intro w hSw; (try dsimp only at hSw); (try delta R_RPl32_14); go_simp; try with_reducible rfl))
        (try simp only [Act.put, List.setIfInBounds_toArray, List.set_cons_zero, List.set_cons_succ])
        first
        | (refine wpAnyH_take (i := 13) (oi := R_RPl32_13) (v := undef) rfl (by kernel_rfl) (by kernel_rfl) (by kernel_rfl) (fun _ _ _ h => h) (Or.inr ⟨by rfl, rfl⟩) (by assumption) ?_
           (try simp only [Act.put, List.setIfInBounds_toArray, List.set_cons_zero, List.set_cons_succ]))
        | (refine wpAnyH_ready (rs := [13]) (by kernel_rfl) (by simp) ?_
           refine AllReadyH.cons (o := R_RPl32_13) rfl (fun K hK => ?_) AllReadyH.nil
           (try delta R_RPl32_13)
           go_simp
           (first | (go_at_call 14; (with_reducible refine (HLen.out).mono ?_); rintro e wz ⟨rfl, rfl⟩) | (go_at_call 18; (with_reducible refine (HRo.out).mono ?_); rintro e wz ⟨rfl, rfl⟩) | (go_at_call 30; (with_reducible refine (HXR.out).mono ?_); rintro e wz ⟨rfl, rfl⟩) | (go_at_call 31; (with_reducible refine (HAl.out).mono ?_); rintro e w9 ⟨rfl, hb9⟩; have HB9 := Lib.hid (((Below.refl wc.heap.size wc).drew.drew.drew).trans hb9); have c5 := (HT2.out.rl.below HB9.out).blk.blk.cell 5 _ rfl; clear hb9))
           (try go_wp2_with fail)
           refine hK.out _ _ ?_ (fun hHeld => ?_)
           · (exact c5)
           clear hK K
           (try simp only [Act.put, List.setIfInBounds_toArray, List.set_cons_zero, List.set_cons_succ]))
        first
        | (refine wpAnyH_take (i := 15) (oi := R_RPl32_15) (v := undef) rfl (by kernel_rfl) (by kernel_rfl) (by kernel_rfl) (fun _ _ _ h => h) (Or.inr ⟨by rfl, rfl⟩) (by assumption) ?_
           (try simp only [Act.put, List.setIfInBounds_toArray, List.set_cons_zero, List.set_cons_succ]))
        | (refine wpAnyH_ready (rs := [15]) (by kernel_rfl) (by simp) ?_
           refine AllReadyH.cons (o := R_RPl32_15) rfl (fun K hK => ?_) AllReadyH.nil
           (try delta R_RPl32_15)
           go_simp
           (first | (go_at_call 14; (with_reducible refine (HLen.out).mono ?_); rintro e wz ⟨rfl, rfl⟩) | (go_at_call 18; (with_reducible refine (HRo.out).mono ?_); rintro e wz ⟨rfl, rfl⟩) | (go_at_call 30; (with_reducible refine (HXR.out).mono ?_); rintro e wz ⟨rfl, rfl⟩) | (go_at_call 31; (with_reducible refine (HAl.out).mono ?_); rintro e w9 ⟨rfl, hb9⟩; have HB9 := Lib.hid (((Below.refl wc.heap.size wc).drew.drew.drew).trans hb9); have c5 := (HT2.out.rl.below HB9.out).blk.blk.cell 5 _ rfl; clear hb9))
           (try go_wp2_with fail)
           refine hK.out _ _ ?_ (fun hHeld => ?_)
           · (exact c5)
           clear hK K
           (try simp only [Act.put, List.setIfInBounds_toArray, List.set_cons_zero, List.set_cons_succ]))
        first | (refine wpAnyH_take (i := 16) (oi := R_RPl32_16) (v := undef) rfl (by kernel_rfl) (by kernel_rfl) (by kernel_rfl) (fun _ _ _ h => h) (Or.inr ⟨by rfl, rfl⟩) (by assumption) ?_) | (refine wpAnyH_take (i := 16) (oi := R_RPl32_16) (v := ?_) rfl (by kernel_rfl) (by kernel_rfl) (by kernel_rfl) (fun _ _ _ h => h) (Or.inl ⟨by rfl, ?_⟩) (by assumption) ?_; rotate_left; next => (intro w hSw; (try dsimp only at hSw); (try delta R_RPl32_16); go_simp; try with_reducible rfl))
        (try simp only [Act.put, List.setIfInBounds_toArray, List.set_cons_zero, List.set_cons_succ])
        (refine wpAnyH_take (i := 17) (oi := R_RPl32_17) (v := ?_) rfl (by kernel_rfl) (by kernel_rfl) (by kernel_rfl) (fun _ _ _ h => h) (Or.inl ⟨by rfl, ?_⟩) (by assumption) ?_; rotate_left; next => (intro w hSw; (try dsimp only at hSw); (try delta R_RPl32_17); go_simp; try with_reducible rfl))
        (try simp only [Act.put, List.setIfInBounds_toArray, List.set_cons_zero, List.set_cons_succ])
        (refine wpAnyH_take (i := 18) (oi := R_RPl32_18) (v := ?_) rfl (by kernel_rfl) (by kernel_rfl) (by kernel_rfl) (fun _ _ _ h => h) (Or.inl ⟨by rfl, ?_⟩) (by assumption) ?_; rotate_left; next => (intro w hSw; (try dsimp only at hSw); (try delta R_RPl32_18); go_simp; try with_reducible rfl))
        (try simp only [Act.put, List.setIfInBounds_toArray, List.set_cons_zero, List.set_cons_succ])
        first | (refine wpAnyH_take (i := 19) (oi := R_RPl32_19) (v := undef) rfl (by kernel_rfl) (by kernel_rfl) (by kernel_rfl) (fun _ _ _ h => h) (Or.inr ⟨by rfl, rfl⟩) (by assumption) ?_) | (refine wpAnyH_take (i := 19) (oi := R_RPl32_19) (v := ?_) rfl (by kernel_rfl) (by kernel_rfl) (by kernel_rfl) (fun _ _ _ h => h) (Or.inl ⟨by rfl, ?_⟩) (by assumption) ?_; rotate_left; next => (intro w hSw; (try dsimp only at hSw); (try delta R_RPl32_19); go_simp; try with_reducible rfl))
        (try simp only [Act.put, List.setIfInBounds_toArray, List.set_cons_zero, List.set_cons_succ])
        first | (refine wpAnyH_take (i := 20) (oi := R_RPl32_20) (v := undef) rfl (by kernel_rfl) (by kernel_rfl) (by kernel_rfl) (fun _ _ _ h => h) (Or.inr ⟨by rfl, rfl⟩) (by assumption) ?_) | (refine wpAnyH_take (i := 20) (oi := R_RPl32_20) (v := ?_) rfl (by kernel_rfl) (by kernel_rfl) (by kernel_rfl) (fun _ _ _ h => h) (Or.inl ⟨by rfl, ?_⟩) (by assumption) ?_; rotate_left; next => (intro w hSw; (try dsimp only at hSw); (try delta R_RPl32_20); go_simp; try with_reducible rfl))
        (try simp only [Act.put, List.setIfInBounds_toArray, List.set_cons_zero, List.set_cons_succ])
        first
        | (refine wpAnyH_take (i := 21) (oi := R_RPl32_21) (v := undef) rfl (by kernel_rfl) (by kernel_rfl) (by kernel_rfl) (fun _ _ _ h => h) (Or.inr ⟨by rfl, rfl⟩) (by assumption) ?_
           (try simp only [Act.put, List.setIfInBounds_toArray, List.set_cons_zero, List.set_cons_succ]))
        | (refine wpAnyH_ready (rs := [21]) (by kernel_rfl) (by simp) ?_
           refine AllReadyH.cons (o := R_RPl32_21) rfl (fun K hK => ?_) AllReadyH.nil
           (try delta R_RPl32_21)
           go_simp
           (first | (go_at_call 14; (with_reducible refine (HLen.out).mono ?_); rintro e wz ⟨rfl, rfl⟩) | (go_at_call 18; (with_reducible refine (HRo.out).mono ?_); rintro e wz ⟨rfl, rfl⟩) | (go_at_call 30; (with_reducible refine (HXR.out).mono ?_); rintro e wz ⟨rfl, rfl⟩) | (go_at_call 31; (with_reducible refine (HAl.out).mono ?_); rintro e w9 ⟨rfl, hb9⟩; have HB9 := Lib.hid (((Below.refl wc.heap.size wc).drew.drew.drew).trans hb9); have c5 := (HT2.out.rl.below HB9.out).blk.blk.cell 5 _ rfl; clear hb9))
           (try go_wp2_with fail)
           refine hK.out _ _ ?_ (fun hHeld => ?_)
           · (exact c5)
           clear hK K
           (try simp only [Act.put, List.setIfInBounds_toArray, List.set_cons_zero, List.set_cons_succ]))
        first | (refine wpAnyH_take (i := 22) (oi := R_RPl32_22) (v := undef) rfl (by kernel_rfl) (by kernel_rfl) (by kernel_rfl) (fun _ _ _ h => h) (Or.inr ⟨by rfl, rfl⟩) (by assumption) ?_) | (refine wpAnyH_take (i := 22) (oi := R_RPl32_22) (v := ?_) rfl (by kernel_rfl) (by kernel_rfl) (by kernel_rfl) (fun _ _ _ h => h) (Or.inl ⟨by rfl, ?_⟩) (by assumption) ?_; rotate_left; next => (intro w hSw; (try dsimp only at hSw); (try delta R_RPl32_22); go_simp; try with_reducible rfl))
        (try simp only [Act.put, List.setIfInBounds_toArray, List.set_cons_zero, List.set_cons_succ])
        (refine wpAnyH_take (i := 23) (oi := R_RPl32_23) (v := ?_) rfl (by kernel_rfl) (by kernel_rfl) (by kernel_rfl) (fun _ _ _ h => h) (Or.inl ⟨by rfl, ?_⟩) (by assumption) ?_; rotate_left; next => (intro w hSw; (try dsimp only at hSw); (try delta R_RPl32_23); go_simp; try with_reducible rfl))
        (try simp only [Act.put, List.setIfInBounds_toArray, List.set_cons_zero, List.set_cons_succ])
        refine wpAnyH_done (by kernel_rfl) ?_ _
        go_wp2_with fail
        go_roundg (30 - (j + 1))
        case measure => omega
        case rel => exact ⟨j + 1, by omega, by omega, rfl, by go_num, D2, g2, m2, L3, L4, X2, v2, bv3, bv4, ov2, sv2, wv2, lf2, l2, d2, rfl, rfl, rfl, rfl, HDN2.out, HT2.out.below HB9.out⟩
      case first => as_aux_lemma =>
        have HBd := Lib.hid HBl.out.drew
        by_cases hk1 : kd = 1
        · as_aux_lemma =>
            subst hk1
            have t2 := (HRW2.out _ HBl.out).2.2.1
            have HLD := Lib.hid (HT.out.ld.below (Below.refl _ wr).drew)
            have HRL := Lib.hid (HT.out.rl.below (Below.refl _ wr).drew)
            have HRD := Lib.hid (HT.out.rd.below (Below.refl _ wr).drew)
            have hfit := HT.out.fit
            obtain ⟨ap, hap⟩ : ∃ ap, appendP l d p = ap := ⟨_, rfl⟩
            obtain ⟨r1, l1, d1⟩ := ap
            have HF := Lib.hid (hfit.append (by omega) hap)
            have HN1 : Hid (d1.n = n) := Lib.hid (by
              have q := lays_n l d l.head.bank.toNat l.b p (l.count + 1)
              rw [show laysP l d l.head.bank.toNat l.b p (l.count + 1) = (r1, l1, d1) from hap] at q
              exact q.trans HDN.out)
            have hA := RAppend_c HLD.out hfit.ok p _ (HPV.out _ HBd.out) (by have := HLe.out.1; omega) (by have := hfit.wait; omega)
            rw [hap] at hA
            dsimp only at hA
            have HA := Lib.hid hA
            have HX : Hid (∀ W, RLAt w.heap.size W L2' X' bv2' l → RDAt w.heap.size W X' ov' sv' wv' d lf' → Below w.heap.size w W → Calls Tryd.prog 24 #[.pointer (some ⟨L2', 0, none⟩), .slice pa p.length pc] W (RLTo w.heap.size L2' X' W r1 l1 d1)) := Lib.hid (fun W h1 h2 h3 => by
              have q := XAppend_c h1 h2 hfit.ok p _ (HPV.out _ h3) (by have := HLe.out.1; omega) (by have := hfit.wait; omega)
              rw [hap] at q
              exact q)
            clear hfit hap hA
            go_wp2_with fail
            refine wp_region_held_drew (S := (fun W => W.cell? ⟨B, o + j * 4 + 2, none⟩ = some (.slice pa p.length pc))) (by kernel_rfl) ?_ (fun hHeld => ?_)
            · (exact t2)
            (refine wpAnyH_take (i := 0) (oi := R_RPl24_0) (v := ?_) rfl (by kernel_rfl) (by kernel_rfl) (by kernel_rfl) (fun _ _ _ h => h) (Or.inl ⟨by rfl, ?_⟩) (by assumption) ?_; rotate_left; next => (intro w hSw; (try dsimp only at hSw); (try delta R_RPl24_0); go_simp; try with_reducible rfl))
            (try simp only [Act.put, List.setIfInBounds_toArray, List.set_cons_zero, List.set_cons_succ])
            (refine wpAnyH_take (i := 1) (oi := R_RPl24_1) (v := ?_) rfl (by kernel_rfl) (by kernel_rfl) (by kernel_rfl) (fun _ _ _ h => h) (Or.inl ⟨by rfl, ?_⟩) (by assumption) ?_; rotate_left; next => (intro w hSw; (try dsimp only at hSw); (try delta R_RPl24_1); go_simp; try with_reducible rfl))
            (try simp only [Act.put, List.setIfInBounds_toArray, List.set_cons_zero, List.set_cons_succ])
            (refine wpAnyH_take (i := 2) (oi := R_RPl24_2) (v := ?_) rfl (by kernel_rfl) (by kernel_rfl) (by kernel_rfl) (fun _ _ _ h => h) (Or.inl ⟨by rfl, ?_⟩) (by assumption) ?_; rotate_left; next => (intro w hSw; (try dsimp only at hSw); (try delta R_RPl24_2); go_simp; try with_reducible rfl))
            (try simp only [Act.put, List.setIfInBounds_toArray, List.set_cons_zero, List.set_cons_succ])
            (refine wpAnyH_take (i := 3) (oi := R_RPl24_3) (v := ?_) rfl (by kernel_rfl) (by kernel_rfl) (by kernel_rfl) (fun _ _ _ h => h) (Or.inl ⟨by rfl, ?_⟩) (by assumption) ?_; rotate_left; next => (intro w hSw; (try dsimp only at hSw); (try delta R_RPl24_3); go_simp; try with_reducible rfl))
            (try simp only [Act.put, List.setIfInBounds_toArray, List.set_cons_zero, List.set_cons_succ])
            (refine wpAnyH_take (i := 4) (oi := R_RPl24_4) (v := ?_) rfl (by kernel_rfl) (by kernel_rfl) (by kernel_rfl) (fun _ _ _ h => h) (Or.inl ⟨by rfl, ?_⟩) (by assumption) ?_; rotate_left; next => (intro w hSw; (try dsimp only at hSw); (try delta R_RPl24_4); go_simp; try with_reducible rfl))
            (try simp only [Act.put, List.setIfInBounds_toArray, List.set_cons_zero, List.set_cons_succ])
            (refine wpAnyH_take (i := 5) (oi := R_RPl24_5) (v := ?_) rfl (by kernel_rfl) (by kernel_rfl) (by kernel_rfl) (fun _ _ _ h => h) (Or.inl ⟨by rfl, ?_⟩) (by assumption) ?_; rotate_left; next => (intro w hSw; (try dsimp only at hSw); (try delta R_RPl24_5); go_simp; try with_reducible rfl))
            (try simp only [Act.put, List.setIfInBounds_toArray, List.set_cons_zero, List.set_cons_succ])
            (refine wpAnyH_take (i := 7) (oi := R_RPl24_7) (v := ?_) rfl (by kernel_rfl) (by kernel_rfl) (by kernel_rfl) (fun _ _ _ h => h) (Or.inl ⟨by rfl, ?_⟩) (by assumption) ?_; rotate_left; next => (intro w hSw; (try dsimp only at hSw); (try delta R_RPl24_7); go_simp; try with_reducible rfl))
            (try simp only [Act.put, List.setIfInBounds_toArray, List.set_cons_zero, List.set_cons_succ])
            (refine wpAnyH_take (i := 8) (oi := R_RPl24_8) (v := ?_) rfl (by kernel_rfl) (by kernel_rfl) (by kernel_rfl) (fun _ _ _ h => h) (Or.inl ⟨by rfl, ?_⟩) (by assumption) ?_; rotate_left; next => (intro w hSw; (try dsimp only at hSw); (try delta R_RPl24_8); go_simp; try with_reducible rfl))
            (try simp only [Act.put, List.setIfInBounds_toArray, List.set_cons_zero, List.set_cons_succ])
            (refine wpAnyH_take (i := 9) (oi := R_RPl24_9) (v := ?_) rfl (by kernel_rfl) (by kernel_rfl) (by kernel_rfl) (fun _ _ _ h => h) (Or.inl ⟨by rfl, ?_⟩) (by assumption) ?_; rotate_left; next => (intro w hSw; (try dsimp only at hSw); (try delta R_RPl24_9); go_simp; try with_reducible rfl))
            (try simp only [Act.put, List.setIfInBounds_toArray, List.set_cons_zero, List.set_cons_succ])
            (refine wpAnyH_take (i := 10) (oi := R_RPl24_10) (v := ?_) rfl (by kernel_rfl) (by kernel_rfl) (by kernel_rfl) (fun _ _ _ h => h) (Or.inl ⟨by rfl, ?_⟩) (by assumption) ?_; rotate_left; next => (intro w hSw; (try dsimp only at hSw); (try delta R_RPl24_10); go_simp; try with_reducible rfl))
            (try simp only [Act.put, List.setIfInBounds_toArray, List.set_cons_zero, List.set_cons_succ])
            (refine wpAnyH_take (i := 11) (oi := R_RPl24_11) (v := ?_) rfl (by kernel_rfl) (by kernel_rfl) (by kernel_rfl) (fun _ _ _ h => h) (Or.inl ⟨by rfl, ?_⟩) (by assumption) ?_; rotate_left; next => (intro w hSw; (try dsimp only at hSw); (try delta R_RPl24_11); go_simp; try with_reducible rfl))
            (try simp only [Act.put, List.setIfInBounds_toArray, List.set_cons_zero, List.set_cons_succ])
            (refine wpAnyH_take (i := 12) (oi := R_RPl24_12) (v := ?_) rfl (by kernel_rfl) (by kernel_rfl) (by kernel_rfl) (fun _ _ _ h => h) (Or.inl ⟨by rfl, ?_⟩) (by assumption) ?_; rotate_left; next => (intro w hSw; (try dsimp only at hSw); (try delta R_RPl24_12); go_simp; try with_reducible rfl))
            (try simp only [Act.put, List.setIfInBounds_toArray, List.set_cons_zero, List.set_cons_succ])
            refine wpAnyH_ready (rs := [6]) (by kernel_rfl) (by simp) ?_
            refine AllReadyH.cons (o := R_RPl24_6) rfl (fun K hK => ?_) AllReadyH.nil
            (try delta R_RPl24_6)
            go_simp
            (first | (go_at_call 13; (with_reducible refine (HA.out).mono ?_); rintro e w5 ⟨bv5, v5, rfl, hd5, hc5⟩; have HLD5 := Lib.hid hd5; have HRL5 := Lib.hid (HRL.out.chl hc5); have HRD5 := Lib.hid (HRD.out.chl hc5); have HB5 := Lib.hid (hc5.below HBd.out (Nat.le_refl _)); have t2 := (HRW2.out _ HB5.out).2.2.1; clear hd5 hc5) | (go_at_call 24; (with_reducible refine (HX.out _ HRL5.out HRD5.out HB5.out).mono ?_); rintro e w6 ⟨bv6, o6, s6, v6, lf6, rfl, hl6, hd6, hc6⟩; have HRL6 := Lib.hid hl6; have HRD6 := Lib.hid hd6; have HLD6 := Lib.hid (HLD5.out.chrl hc6); have HB6 := Lib.hid (hc6.below HB5.out (Nat.le_refl _)); have t2 := (HRW2.out _ HB6.out).2.2.1; clear hl6 hd6 hc6))
            (try go_wp2_with fail)
            refine hK.out _ _ ?_ (fun hHeld => ?_)
            · (exact t2)
            clear hK K
            (try simp only [Act.put, List.setIfInBounds_toArray, List.set_cons_zero, List.set_cons_succ])
            refine wpAnyH_ready (rs := [13]) (by kernel_rfl) (by simp) ?_
            refine AllReadyH.cons (o := R_RPl24_13) rfl (fun K hK => ?_) AllReadyH.nil
            (try delta R_RPl24_13)
            go_simp
            (first | (go_at_call 13; (with_reducible refine (HA.out).mono ?_); rintro e w5 ⟨bv5, v5, rfl, hd5, hc5⟩; have HLD5 := Lib.hid hd5; have HRL5 := Lib.hid (HRL.out.chl hc5); have HRD5 := Lib.hid (HRD.out.chl hc5); have HB5 := Lib.hid (hc5.below HBd.out (Nat.le_refl _)); have t2 := (HRW2.out _ HB5.out).2.2.1; clear hd5 hc5) | (go_at_call 24; (with_reducible refine (HX.out _ HRL5.out HRD5.out HB5.out).mono ?_); rintro e w6 ⟨bv6, o6, s6, v6, lf6, rfl, hl6, hd6, hc6⟩; have HRL6 := Lib.hid hl6; have HRD6 := Lib.hid hd6; have HLD6 := Lib.hid (HLD5.out.chrl hc6); have HB6 := Lib.hid (hc6.below HB5.out (Nat.le_refl _)); have t2 := (HRW2.out _ HB6.out).2.2.1; clear hl6 hd6 hc6))
            (try go_wp2_with fail)
            refine hK.out _ _ ?_ (fun hHeld => ?_)
            · (exact t2)
            clear hK K
            (try simp only [Act.put, List.setIfInBounds_toArray, List.set_cons_zero, List.set_cons_succ])
            (refine wpAnyH_take (i := 14) (oi := R_RPl24_14) (v := ?_) rfl (by kernel_rfl) (by kernel_rfl) (by kernel_rfl) (fun _ _ _ h => h) (Or.inl ⟨by rfl, ?_⟩) (by assumption) ?_; rotate_left; next => (intro w hSw; (try dsimp only at hSw); (try delta R_RPl24_14); go_simp; try with_reducible rfl))
            (try simp only [Act.put, List.setIfInBounds_toArray, List.set_cons_zero, List.set_cons_succ])
            refine wpAnyH_done (by kernel_rfl) ?_ _
            go_wp2_with fail
            go_meet
            exact ⟨D', g', m', L', L2', X', v5, bv5, bv6, o6, s6, v6, lf6, l1, d1, rfl, rfl, rfl, rfl, HN1.out, ⟨HLD6.out, HRL6.out, HRD6.out, HF.out, HB6.out⟩⟩
        by_cases hk2 : kd = 2
        · as_aux_lemma =>
            subst hk2
            have t2 := (HRW2.out _ HBl.out).2.2.1
            have HLD := Lib.hid (HT.out.ld.below (Below.refl _ wr).drew)
            have HRL := Lib.hid (HT.out.rl.below (Below.refl _ wr).drew)
            have HRD := Lib.hid (HT.out.rd.below (Below.refl _ wr).drew)
            have hfit := HT.out.fit
            obtain ⟨ap, hap⟩ : ∃ ap, resetP l d p = ap := ⟨_, rfl⟩
            obtain ⟨r1, l1, d1⟩ := ap
            have HF := Lib.hid (hfit.reset (by omega) hap)
            have HN1 : Hid (d1.n = n) := Lib.hid (by
              have q := lays_n l d (1 - l.head.bank).toNat [] p 1
              rw [show laysP l d (1 - l.head.bank).toNat [] p 1 = (r1, l1, d1) from hap] at q
              exact q.trans HDN.out)
            have hA := RReset_c HLD.out hfit.ok p _ (HPV.out _ HBd.out) (by have := HLe.out.1; omega) (by have := hfit.wait; omega)
            rw [hap] at hA
            dsimp only at hA
            have HA := Lib.hid hA
            have HX : Hid (∀ W, RLAt w.heap.size W L2' X' bv2' l → RDAt w.heap.size W X' ov' sv' wv' d lf' → Below w.heap.size w W → Calls Tryd.prog 25 #[.pointer (some ⟨L2', 0, none⟩), .slice pa p.length pc] W (RLTo w.heap.size L2' X' W r1 l1 d1)) := Lib.hid (fun W h1 h2 h3 => by
              have q := XReset_c h1 h2 hfit.ok p _ (HPV.out _ h3) (by have := HLe.out.1; omega) (by have := hfit.wait; omega)
              rw [hap] at q
              exact q)
            clear hfit hap hA hk1
            go_wp2_with fail
            refine wp_region_held_drew (S := (fun W => W.cell? ⟨B, o + j * 4 + 2, none⟩ = some (.slice pa p.length pc))) (by kernel_rfl) ?_ (fun hHeld => ?_)
            · (exact t2)
            (refine wpAnyH_take (i := 0) (oi := R_RPl27_0) (v := ?_) rfl (by kernel_rfl) (by kernel_rfl) (by kernel_rfl) (fun _ _ _ h => h) (Or.inl ⟨by rfl, ?_⟩) (by assumption) ?_; rotate_left; next => (intro w hSw; (try dsimp only at hSw); (try delta R_RPl27_0); go_simp; try with_reducible rfl))
            (try simp only [Act.put, List.setIfInBounds_toArray, List.set_cons_zero, List.set_cons_succ])
            (refine wpAnyH_take (i := 1) (oi := R_RPl27_1) (v := ?_) rfl (by kernel_rfl) (by kernel_rfl) (by kernel_rfl) (fun _ _ _ h => h) (Or.inl ⟨by rfl, ?_⟩) (by assumption) ?_; rotate_left; next => (intro w hSw; (try dsimp only at hSw); (try delta R_RPl27_1); go_simp; try with_reducible rfl))
            (try simp only [Act.put, List.setIfInBounds_toArray, List.set_cons_zero, List.set_cons_succ])
            (refine wpAnyH_take (i := 2) (oi := R_RPl27_2) (v := ?_) rfl (by kernel_rfl) (by kernel_rfl) (by kernel_rfl) (fun _ _ _ h => h) (Or.inl ⟨by rfl, ?_⟩) (by assumption) ?_; rotate_left; next => (intro w hSw; (try dsimp only at hSw); (try delta R_RPl27_2); go_simp; try with_reducible rfl))
            (try simp only [Act.put, List.setIfInBounds_toArray, List.set_cons_zero, List.set_cons_succ])
            (refine wpAnyH_take (i := 3) (oi := R_RPl27_3) (v := ?_) rfl (by kernel_rfl) (by kernel_rfl) (by kernel_rfl) (fun _ _ _ h => h) (Or.inl ⟨by rfl, ?_⟩) (by assumption) ?_; rotate_left; next => (intro w hSw; (try dsimp only at hSw); (try delta R_RPl27_3); go_simp; try with_reducible rfl))
            (try simp only [Act.put, List.setIfInBounds_toArray, List.set_cons_zero, List.set_cons_succ])
            (refine wpAnyH_take (i := 4) (oi := R_RPl27_4) (v := ?_) rfl (by kernel_rfl) (by kernel_rfl) (by kernel_rfl) (fun _ _ _ h => h) (Or.inl ⟨by rfl, ?_⟩) (by assumption) ?_; rotate_left; next => (intro w hSw; (try dsimp only at hSw); (try delta R_RPl27_4); go_simp; try with_reducible rfl))
            (try simp only [Act.put, List.setIfInBounds_toArray, List.set_cons_zero, List.set_cons_succ])
            (refine wpAnyH_take (i := 5) (oi := R_RPl27_5) (v := ?_) rfl (by kernel_rfl) (by kernel_rfl) (by kernel_rfl) (fun _ _ _ h => h) (Or.inl ⟨by rfl, ?_⟩) (by assumption) ?_; rotate_left; next => (intro w hSw; (try dsimp only at hSw); (try delta R_RPl27_5); go_simp; try with_reducible rfl))
            (try simp only [Act.put, List.setIfInBounds_toArray, List.set_cons_zero, List.set_cons_succ])
            (refine wpAnyH_take (i := 7) (oi := R_RPl27_7) (v := ?_) rfl (by kernel_rfl) (by kernel_rfl) (by kernel_rfl) (fun _ _ _ h => h) (Or.inl ⟨by rfl, ?_⟩) (by assumption) ?_; rotate_left; next => (intro w hSw; (try dsimp only at hSw); (try delta R_RPl27_7); go_simp; try with_reducible rfl))
            (try simp only [Act.put, List.setIfInBounds_toArray, List.set_cons_zero, List.set_cons_succ])
            (refine wpAnyH_take (i := 8) (oi := R_RPl27_8) (v := ?_) rfl (by kernel_rfl) (by kernel_rfl) (by kernel_rfl) (fun _ _ _ h => h) (Or.inl ⟨by rfl, ?_⟩) (by assumption) ?_; rotate_left; next => (intro w hSw; (try dsimp only at hSw); (try delta R_RPl27_8); go_simp; try with_reducible rfl))
            (try simp only [Act.put, List.setIfInBounds_toArray, List.set_cons_zero, List.set_cons_succ])
            (refine wpAnyH_take (i := 9) (oi := R_RPl27_9) (v := ?_) rfl (by kernel_rfl) (by kernel_rfl) (by kernel_rfl) (fun _ _ _ h => h) (Or.inl ⟨by rfl, ?_⟩) (by assumption) ?_; rotate_left; next => (intro w hSw; (try dsimp only at hSw); (try delta R_RPl27_9); go_simp; try with_reducible rfl))
            (try simp only [Act.put, List.setIfInBounds_toArray, List.set_cons_zero, List.set_cons_succ])
            (refine wpAnyH_take (i := 10) (oi := R_RPl27_10) (v := ?_) rfl (by kernel_rfl) (by kernel_rfl) (by kernel_rfl) (fun _ _ _ h => h) (Or.inl ⟨by rfl, ?_⟩) (by assumption) ?_; rotate_left; next => (intro w hSw; (try dsimp only at hSw); (try delta R_RPl27_10); go_simp; try with_reducible rfl))
            (try simp only [Act.put, List.setIfInBounds_toArray, List.set_cons_zero, List.set_cons_succ])
            (refine wpAnyH_take (i := 11) (oi := R_RPl27_11) (v := ?_) rfl (by kernel_rfl) (by kernel_rfl) (by kernel_rfl) (fun _ _ _ h => h) (Or.inl ⟨by rfl, ?_⟩) (by assumption) ?_; rotate_left; next => (intro w hSw; (try dsimp only at hSw); (try delta R_RPl27_11); go_simp; try with_reducible rfl))
            (try simp only [Act.put, List.setIfInBounds_toArray, List.set_cons_zero, List.set_cons_succ])
            (refine wpAnyH_take (i := 12) (oi := R_RPl27_12) (v := ?_) rfl (by kernel_rfl) (by kernel_rfl) (by kernel_rfl) (fun _ _ _ h => h) (Or.inl ⟨by rfl, ?_⟩) (by assumption) ?_; rotate_left; next => (intro w hSw; (try dsimp only at hSw); (try delta R_RPl27_12); go_simp; try with_reducible rfl))
            (try simp only [Act.put, List.setIfInBounds_toArray, List.set_cons_zero, List.set_cons_succ])
            refine wpAnyH_ready (rs := [6]) (by kernel_rfl) (by simp) ?_
            refine AllReadyH.cons (o := R_RPl27_6) rfl (fun K hK => ?_) AllReadyH.nil
            (try delta R_RPl27_6)
            go_simp
            (first | (go_at_call 15; (with_reducible refine (HA.out).mono ?_); rintro e w5 ⟨bv5, v5, rfl, hd5, hc5⟩; have HLD5 := Lib.hid hd5; have HRL5 := Lib.hid (HRL.out.chl hc5); have HRD5 := Lib.hid (HRD.out.chl hc5); have HB5 := Lib.hid (hc5.below HBd.out (Nat.le_refl _)); have t2 := (HRW2.out _ HB5.out).2.2.1; clear hd5 hc5) | (go_at_call 25; (with_reducible refine (HX.out _ HRL5.out HRD5.out HB5.out).mono ?_); rintro e w6 ⟨bv6, o6, s6, v6, lf6, rfl, hl6, hd6, hc6⟩; have HRL6 := Lib.hid hl6; have HRD6 := Lib.hid hd6; have HLD6 := Lib.hid (HLD5.out.chrl hc6); have HB6 := Lib.hid (hc6.below HB5.out (Nat.le_refl _)); have t2 := (HRW2.out _ HB6.out).2.2.1; clear hl6 hd6 hc6))
            (try go_wp2_with fail)
            refine hK.out _ _ ?_ (fun hHeld => ?_)
            · (exact t2)
            clear hK K
            (try simp only [Act.put, List.setIfInBounds_toArray, List.set_cons_zero, List.set_cons_succ])
            refine wpAnyH_ready (rs := [13]) (by kernel_rfl) (by simp) ?_
            refine AllReadyH.cons (o := R_RPl27_13) rfl (fun K hK => ?_) AllReadyH.nil
            (try delta R_RPl27_13)
            go_simp
            (first | (go_at_call 15; (with_reducible refine (HA.out).mono ?_); rintro e w5 ⟨bv5, v5, rfl, hd5, hc5⟩; have HLD5 := Lib.hid hd5; have HRL5 := Lib.hid (HRL.out.chl hc5); have HRD5 := Lib.hid (HRD.out.chl hc5); have HB5 := Lib.hid (hc5.below HBd.out (Nat.le_refl _)); have t2 := (HRW2.out _ HB5.out).2.2.1; clear hd5 hc5) | (go_at_call 25; (with_reducible refine (HX.out _ HRL5.out HRD5.out HB5.out).mono ?_); rintro e w6 ⟨bv6, o6, s6, v6, lf6, rfl, hl6, hd6, hc6⟩; have HRL6 := Lib.hid hl6; have HRD6 := Lib.hid hd6; have HLD6 := Lib.hid (HLD5.out.chrl hc6); have HB6 := Lib.hid (hc6.below HB5.out (Nat.le_refl _)); have t2 := (HRW2.out _ HB6.out).2.2.1; clear hl6 hd6 hc6))
            (try go_wp2_with fail)
            refine hK.out _ _ ?_ (fun hHeld => ?_)
            · (exact t2)
            clear hK K
            (try simp only [Act.put, List.setIfInBounds_toArray, List.set_cons_zero, List.set_cons_succ])
            (refine wpAnyH_take (i := 14) (oi := R_RPl27_14) (v := ?_) rfl (by kernel_rfl) (by kernel_rfl) (by kernel_rfl) (fun _ _ _ h => h) (Or.inl ⟨by rfl, ?_⟩) (by assumption) ?_; rotate_left; next => (intro w hSw; (try dsimp only at hSw); (try delta R_RPl27_14); go_simp; try with_reducible rfl))
            (try simp only [Act.put, List.setIfInBounds_toArray, List.set_cons_zero, List.set_cons_succ])
            refine wpAnyH_done (by kernel_rfl) ?_ _
            go_wp2_with fail
            go_meet
            exact ⟨D', g', m', L', L2', X', v5, bv5, bv6, o6, s6, v6, lf6, l1, d1, rfl, rfl, rfl, rfl, HN1.out, ⟨HLD6.out, HRL6.out, HRD6.out, HF.out, HB6.out⟩⟩
        by_cases hk4 : kd = 4
        · as_aux_lemma =>
            subst hk4
            have t1 := (HRW2.out _ HBl.out).2.1
            have HFu := Lib.hid (ldFuse HT.out.ld ix hix)
            have HX : Hid (∀ W, RDAt w.heap.size W X' ov' sv' wv' d lf' → Calls Tryd.prog 26 #[.pointer (some ⟨X', 0, none⟩), .int .i64 ix] W (RDTo w.heap.size X' ov' sv' wv' W (.tuple #[]) { d with fuse := max ix (-1) })) := Lib.hid (fun W h => RFuse_c h ix hix)
            clear hk1 hk2
            go_wp2_with (first | (go_at_call 12; (with_reducible refine (HFu.out).mono ?_); rintro e w5 ⟨rfl, hd5, hc5⟩; have HLD5 := Lib.hid hd5; have HRL5 := Lib.hid (HT.out.rl.chl hc5); have HRD5 := Lib.hid (HT.out.rd.chl hc5); have HB5 := Lib.hid (hc5.below HBl.out (Nat.le_refl _)); have t1 := (HRW2.out _ HB5.out).2.1; clear hd5 hc5) | (go_at_call 26; (with_reducible refine (HX.out _ HRD5.out).mono ?_); rintro e w6 ⟨lf6, rfl, hd6, hc6⟩; have HRD6 := Lib.hid hd6; have HLD6 := Lib.hid (HLD5.out.chrR hc6); have HRL6 := Lib.hid (HRL5.out.chr hc6); have HB6 := Lib.hid ((ChRL.ofChR hc6).below HB5.out (Nat.le_refl _)); clear hd6 hc6) | fail)
            go_meet
            exact ⟨D', g', m', L', L2', X', _, _, _, _, _, _, lf6, l, { d with fuse := max ix (-1) }, rfl, rfl, rfl, rfl, HDN.out, ⟨HLD6.out, HRL6.out, HRD6.out, HT.out.fit.fuse _, HB6.out⟩⟩
        have e1 : (kd == 1) = false := by simpa using hk1
        have e2 : (kd == 2) = false := by simpa using hk2
        have e4 : (kd == 4) = false := by simpa using hk4
        go_upto_if 80 with fail
        go_cut [5, 6] (fun s5 s6 wx => ∃ (D g m X : Nat) (v ov sv wv : Value) (lf : Int) (d2 : PD), s5 = .pointer (some ⟨D, 0, none⟩) ∧ s6 = .pointer (some ⟨X, 0, none⟩) ∧ DrumAt w.heap.size wx D g m v d2 ∧ RDAt w.heap.size wx X ov sv wv d2 lf ∧ d2.n = n ∧ d2.wait.length ≤ 1000 * (j + 1) ∧ Below w.heap.size w wx)
        case first => as_aux_lemma =>
          clear e1 e2 e4 hk1 hk2 hk4
          have hwt := HT.out.fit.wait
          by_cases hk5 : kd = 5
          · as_aux_lemma =>
              subst hk5
              have t1 := (HRW2.out _ HBl.out).2.1
              have t2 := (HRW2.out _ HBl.out).2.2.1
              have HWr := Lib.hid (Write_c (HT.out.ld.drum.below (Below.refl _ wr).drew) ix pa pc p (HPV.out _ HBd.out) (fun w' hc => HPV.out _ ((ChL.ofChg hc).below HBd.out (Nat.le_refl _))) (by omega))
              have HX : Hid (∀ W, RDAt w.heap.size W X' ov' sv' wv' d lf' → Below w.heap.size w W → Calls Tryd.prog 28 #[.pointer (some ⟨X', 0, none⟩), .int .i64 ix, .slice pa p.length pc] W (RDGo w.heap.size X' W (.int .i64 (writeP d ix p).1) (writeP d ix p).2)) := Lib.hid (fun W h hb => RWrite_c h ix pa pc p (HPV.out _ hb) (fun w' hc => HPV.out _ ((ChRL.ofChR hc).below hb (Nat.le_refl _))) (by omega))
              have HRD := Lib.hid (HT.out.rd.below (Below.refl _ wr).drew)
              have HWN : Hid ((writeP d ix p).2.n = n ∧ (writeP d ix p).2.wait.length ≤ 1000 * (j + 1)) := Lib.hid ⟨(writeP_n d ix p).trans HDN.out, by have := writeP_w d ix p; omega⟩
              generalize writeP d ix p = ww at *
              obtain ⟨e5, d5⟩ := ww
              dsimp only at HWr HX HWN
              go_wp2_with fail
              refine wp_region_held_drew (S := (fun W => W.cell? ⟨B, o + j * 4 + 1, none⟩ = some (.int .i64 ix) ∧ W.cell? ⟨B, o + j * 4 + 2, none⟩ = some (.slice pa p.length pc))) (by kernel_rfl) ?_ (fun hHeld => ?_)
              · (exact ⟨t1, t2⟩)
              (refine wpAnyH_take (i := 0) (oi := R_RPl13_0) (v := ?_) rfl (by kernel_rfl) (by kernel_rfl) (by kernel_rfl) (fun _ _ _ h => h) (Or.inl ⟨by rfl, ?_⟩) (by assumption) ?_; rotate_left; next => (intro w hSw; (try dsimp only at hSw); (try delta R_RPl13_0); go_simp; try with_reducible rfl))
              (try simp only [Act.put, List.setIfInBounds_toArray, List.set_cons_zero, List.set_cons_succ])
              (refine wpAnyH_take (i := 1) (oi := R_RPl13_1) (v := ?_) rfl (by kernel_rfl) (by kernel_rfl) (by kernel_rfl) (fun _ _ _ h => h) (Or.inl ⟨by rfl, ?_⟩) (by assumption) ?_; rotate_left; next => (intro w hSw; (try dsimp only at hSw); (try delta R_RPl13_1); go_simp; try with_reducible rfl))
              (try simp only [Act.put, List.setIfInBounds_toArray, List.set_cons_zero, List.set_cons_succ])
              (refine wpAnyH_take (i := 2) (oi := R_RPl13_2) (v := ?_) rfl (by kernel_rfl) (by kernel_rfl) (by kernel_rfl) (fun _ _ _ h => h) (Or.inl ⟨by rfl, ?_⟩) (by assumption) ?_; rotate_left; next => (intro w hSw; (try dsimp only at hSw); (try delta R_RPl13_2); go_simp; try with_reducible rfl))
              (try simp only [Act.put, List.setIfInBounds_toArray, List.set_cons_zero, List.set_cons_succ])
              (refine wpAnyH_take (i := 3) (oi := R_RPl13_3) (v := ?_) rfl (by kernel_rfl) (by kernel_rfl) (by kernel_rfl) (fun _ _ _ h => h) (Or.inl ⟨by rfl, ?_⟩) (by assumption) ?_; rotate_left; next => (intro w hSw; (try dsimp only at hSw); (try delta R_RPl13_3); go_simp; try with_reducible rfl))
              (try simp only [Act.put, List.setIfInBounds_toArray, List.set_cons_zero, List.set_cons_succ])
              (refine wpAnyH_take (i := 4) (oi := R_RPl13_4) (v := ?_) rfl (by kernel_rfl) (by kernel_rfl) (by kernel_rfl) (fun _ _ _ h => h) (Or.inl ⟨by rfl, ?_⟩) (by assumption) ?_; rotate_left; next => (intro w hSw; (try dsimp only at hSw); (try delta R_RPl13_4); go_simp; try with_reducible rfl))
              (try simp only [Act.put, List.setIfInBounds_toArray, List.set_cons_zero, List.set_cons_succ])
              (refine wpAnyH_take (i := 5) (oi := R_RPl13_5) (v := ?_) rfl (by kernel_rfl) (by kernel_rfl) (by kernel_rfl) (fun _ _ _ h => h) (Or.inl ⟨by rfl, ?_⟩) (by assumption) ?_; rotate_left; next => (intro w hSw; (try dsimp only at hSw); (try delta R_RPl13_5); go_simp; try with_reducible rfl))
              (try simp only [Act.put, List.setIfInBounds_toArray, List.set_cons_zero, List.set_cons_succ])
              (refine wpAnyH_take (i := 6) (oi := R_RPl13_6) (v := ?_) rfl (by kernel_rfl) (by kernel_rfl) (by kernel_rfl) (fun _ _ _ h => h) (Or.inl ⟨by rfl, ?_⟩) (by assumption) ?_; rotate_left; next => (intro w hSw; (try dsimp only at hSw); (try delta R_RPl13_6); go_simp; try with_reducible rfl))
              (try simp only [Act.put, List.setIfInBounds_toArray, List.set_cons_zero, List.set_cons_succ])
              (refine wpAnyH_take (i := 7) (oi := R_RPl13_7) (v := ?_) rfl (by kernel_rfl) (by kernel_rfl) (by kernel_rfl) (fun _ _ _ h => h) (Or.inl ⟨by rfl, ?_⟩) (by assumption) ?_; rotate_left; next => (intro w hSw; (try dsimp only at hSw); (try delta R_RPl13_7); go_simp; try with_reducible rfl))
              (try simp only [Act.put, List.setIfInBounds_toArray, List.set_cons_zero, List.set_cons_succ])
              (refine wpAnyH_take (i := 8) (oi := R_RPl13_8) (v := ?_) rfl (by kernel_rfl) (by kernel_rfl) (by kernel_rfl) (fun _ _ _ h => h) (Or.inl ⟨by rfl, ?_⟩) (by assumption) ?_; rotate_left; next => (intro w hSw; (try dsimp only at hSw); (try delta R_RPl13_8); go_simp; try with_reducible rfl))
              (try simp only [Act.put, List.setIfInBounds_toArray, List.set_cons_zero, List.set_cons_succ])
              (refine wpAnyH_take (i := 9) (oi := R_RPl13_9) (v := ?_) rfl (by kernel_rfl) (by kernel_rfl) (by kernel_rfl) (fun _ _ _ h => h) (Or.inl ⟨by rfl, ?_⟩) (by assumption) ?_; rotate_left; next => (intro w hSw; (try dsimp only at hSw); (try delta R_RPl13_9); go_simp; try with_reducible rfl))
              (try simp only [Act.put, List.setIfInBounds_toArray, List.set_cons_zero, List.set_cons_succ])
              (refine wpAnyH_take (i := 10) (oi := R_RPl13_10) (v := ?_) rfl (by kernel_rfl) (by kernel_rfl) (by kernel_rfl) (fun _ _ _ h => h) (Or.inl ⟨by rfl, ?_⟩) (by assumption) ?_; rotate_left; next => (intro w hSw; (try dsimp only at hSw); (try delta R_RPl13_10); go_simp; try with_reducible rfl))
              (try simp only [Act.put, List.setIfInBounds_toArray, List.set_cons_zero, List.set_cons_succ])
              refine wpAnyH_ready (rs := [11]) (by kernel_rfl) (by simp) ?_
              refine AllReadyH.cons (o := R_RPl13_11) rfl (fun K hK => ?_) AllReadyH.nil
              (try delta R_RPl13_11)
              go_simp
              (first | (go_at_call 27; (with_reducible refine (HWr.out).mono ?_); rintro e w5 ⟨v5, rfl, hd5, hc5⟩; have HD5 := Lib.hid (hd5.below (Below.refl _ w5).drew); have HRD5 := Lib.hid ((HRD.out.chl (ChL.ofChg hc5)).below (Below.refl _ w5).drew); have HB5 := Lib.hid ((ChL.ofChg hc5).below HBd.out (Nat.le_refl _)); have HB5d := Lib.hid HB5.out.drew; have t1 := (HRW2.out _ HB5.out).2.1; have t2 := (HRW2.out _ HB5.out).2.2.1; clear hd5 hc5) | fail)
              (try go_wp2_with fail)
              refine hK.out _ _ ?_ (fun hHeld => ?_)
              · (exact ⟨t1, t2⟩)
              clear hK K
              (try simp only [Act.put, List.setIfInBounds_toArray, List.set_cons_zero, List.set_cons_succ])
              refine wpAnyH_done (by kernel_rfl) ?_ _
              go_wp2_with fail
              refine wp_region_held_drew (S := (fun W => W.cell? ⟨B, o + j * 4 + 1, none⟩ = some (.int .i64 ix) ∧ W.cell? ⟨B, o + j * 4 + 2, none⟩ = some (.slice pa p.length pc))) (by kernel_rfl) ?_ (fun hHeld => ?_)
              · (exact ⟨t1, t2⟩)
              (refine wpAnyH_take (i := 0) (oi := R_RPl14_0) (v := ?_) rfl (by kernel_rfl) (by kernel_rfl) (by kernel_rfl) (fun _ _ _ h => h) (Or.inl ⟨by rfl, ?_⟩) (by assumption) ?_; rotate_left; next => (intro w hSw; (try dsimp only at hSw); (try delta R_RPl14_0); go_simp; try with_reducible rfl))
              (try simp only [Act.put, List.setIfInBounds_toArray, List.set_cons_zero, List.set_cons_succ])
              (refine wpAnyH_take (i := 1) (oi := R_RPl14_1) (v := ?_) rfl (by kernel_rfl) (by kernel_rfl) (by kernel_rfl) (fun _ _ _ h => h) (Or.inl ⟨by rfl, ?_⟩) (by assumption) ?_; rotate_left; next => (intro w hSw; (try dsimp only at hSw); (try delta R_RPl14_1); go_simp; try with_reducible rfl))
              (try simp only [Act.put, List.setIfInBounds_toArray, List.set_cons_zero, List.set_cons_succ])
              (refine wpAnyH_take (i := 2) (oi := R_RPl14_2) (v := ?_) rfl (by kernel_rfl) (by kernel_rfl) (by kernel_rfl) (fun _ _ _ h => h) (Or.inl ⟨by rfl, ?_⟩) (by assumption) ?_; rotate_left; next => (intro w hSw; (try dsimp only at hSw); (try delta R_RPl14_2); go_simp; try with_reducible rfl))
              (try simp only [Act.put, List.setIfInBounds_toArray, List.set_cons_zero, List.set_cons_succ])
              (refine wpAnyH_take (i := 3) (oi := R_RPl14_3) (v := ?_) rfl (by kernel_rfl) (by kernel_rfl) (by kernel_rfl) (fun _ _ _ h => h) (Or.inl ⟨by rfl, ?_⟩) (by assumption) ?_; rotate_left; next => (intro w hSw; (try dsimp only at hSw); (try delta R_RPl14_3); go_simp; try with_reducible rfl))
              (try simp only [Act.put, List.setIfInBounds_toArray, List.set_cons_zero, List.set_cons_succ])
              (refine wpAnyH_take (i := 4) (oi := R_RPl14_4) (v := ?_) rfl (by kernel_rfl) (by kernel_rfl) (by kernel_rfl) (fun _ _ _ h => h) (Or.inl ⟨by rfl, ?_⟩) (by assumption) ?_; rotate_left; next => (intro w hSw; (try dsimp only at hSw); (try delta R_RPl14_4); go_simp; try with_reducible rfl))
              (try simp only [Act.put, List.setIfInBounds_toArray, List.set_cons_zero, List.set_cons_succ])
              (refine wpAnyH_take (i := 5) (oi := R_RPl14_5) (v := ?_) rfl (by kernel_rfl) (by kernel_rfl) (by kernel_rfl) (fun _ _ _ h => h) (Or.inl ⟨by rfl, ?_⟩) (by assumption) ?_; rotate_left; next => (intro w hSw; (try dsimp only at hSw); (try delta R_RPl14_5); go_simp; try with_reducible rfl))
              (try simp only [Act.put, List.setIfInBounds_toArray, List.set_cons_zero, List.set_cons_succ])
              (refine wpAnyH_take (i := 6) (oi := R_RPl14_6) (v := ?_) rfl (by kernel_rfl) (by kernel_rfl) (by kernel_rfl) (fun _ _ _ h => h) (Or.inl ⟨by rfl, ?_⟩) (by assumption) ?_; rotate_left; next => (intro w hSw; (try dsimp only at hSw); (try delta R_RPl14_6); go_simp; try with_reducible rfl))
              (try simp only [Act.put, List.setIfInBounds_toArray, List.set_cons_zero, List.set_cons_succ])
              (refine wpAnyH_take (i := 7) (oi := R_RPl14_7) (v := ?_) rfl (by kernel_rfl) (by kernel_rfl) (by kernel_rfl) (fun _ _ _ h => h) (Or.inl ⟨by rfl, ?_⟩) (by assumption) ?_; rotate_left; next => (intro w hSw; (try dsimp only at hSw); (try delta R_RPl14_7); go_simp; try with_reducible rfl))
              (try simp only [Act.put, List.setIfInBounds_toArray, List.set_cons_zero, List.set_cons_succ])
              (refine wpAnyH_take (i := 8) (oi := R_RPl14_8) (v := ?_) rfl (by kernel_rfl) (by kernel_rfl) (by kernel_rfl) (fun _ _ _ h => h) (Or.inl ⟨by rfl, ?_⟩) (by assumption) ?_; rotate_left; next => (intro w hSw; (try dsimp only at hSw); (try delta R_RPl14_8); go_simp; try with_reducible rfl))
              (try simp only [Act.put, List.setIfInBounds_toArray, List.set_cons_zero, List.set_cons_succ])
              (refine wpAnyH_take (i := 9) (oi := R_RPl14_9) (v := ?_) rfl (by kernel_rfl) (by kernel_rfl) (by kernel_rfl) (fun _ _ _ h => h) (Or.inl ⟨by rfl, ?_⟩) (by assumption) ?_; rotate_left; next => (intro w hSw; (try dsimp only at hSw); (try delta R_RPl14_9); go_simp; try with_reducible rfl))
              (try simp only [Act.put, List.setIfInBounds_toArray, List.set_cons_zero, List.set_cons_succ])
              (refine wpAnyH_take (i := 10) (oi := R_RPl14_10) (v := ?_) rfl (by kernel_rfl) (by kernel_rfl) (by kernel_rfl) (fun _ _ _ h => h) (Or.inl ⟨by rfl, ?_⟩) (by assumption) ?_; rotate_left; next => (intro w hSw; (try dsimp only at hSw); (try delta R_RPl14_10); go_simp; try with_reducible rfl))
              (try simp only [Act.put, List.setIfInBounds_toArray, List.set_cons_zero, List.set_cons_succ])
              refine wpAnyH_ready (rs := [11]) (by kernel_rfl) (by simp) ?_
              refine AllReadyH.cons (o := R_RPl14_11) rfl (fun K hK => ?_) AllReadyH.nil
              (try delta R_RPl14_11)
              go_simp
              (first | (go_at_call 28; (with_reducible refine (HX.out _ HRD5.out HB5d.out).mono ?_); rintro e w6 ⟨o6, s6, v6, lf6, rfl, hd6, hc6⟩; have HRD6 := Lib.hid hd6; have HD6 := Lib.hid (HD5.out.chrl (ChRL.ofChR hc6)); have HB6 := Lib.hid ((ChRL.ofChR hc6).below HB5d.out (Nat.le_refl _)); have t1 := (HRW2.out _ HB6.out).2.1; have t2 := (HRW2.out _ HB6.out).2.2.1; clear hd6 hc6) | fail)
              (try go_wp2_with fail)
              refine hK.out _ _ ?_ (fun hHeld => ?_)
              · (exact ⟨t1, t2⟩)
              clear hK K
              (try simp only [Act.put, List.setIfInBounds_toArray, List.set_cons_zero, List.set_cons_succ])
              refine wpAnyH_done (by kernel_rfl) ?_ _
              go_wp2_with fail
              go_meet
              exact ⟨D', g', m', X', v5, o6, s6, v6, lf6, d5, rfl, rfl, HD6.out, HRD6.out, HWN.out.1, HWN.out.2, HB6.out⟩
          · as_aux_lemma =>
              have e5 : (kd == 5) = false := by simpa using hk5
              have t3 := (HRW2.out _ HBl.out).2.2.2
              have HCr := Lib.hid (Crash_c (HT.out.ld.drum.below (Below.refl _ wr).drew) kp ka kc (HKV.out _ HBd.out) (by omega))
              have HX : Hid (∀ W, RDAt w.heap.size W X' ov' sv' wv' d lf' → Below w.heap.size w W → Calls Tryd.prog 29 #[.pointer (some ⟨X', 0, none⟩), .slice ka kp.length kc] W (RCrashTo W d kp)) := Lib.hid (fun W h hb => RCrash_c h kp ka kc (HKV.out _ hb))
              have HRD := Lib.hid (HT.out.rd.below (Below.refl _ wr).drew)
              have HCN : Hid ((crashP d kp).n = n ∧ (crashP d kp).wait.length ≤ 1000 * (j + 1)) := Lib.hid ⟨HDN.out, Nat.zero_le _⟩
              go_wp2_with fail
              refine wp_region_held_drew (S := (fun W => W.cell? ⟨B, o + j * 4 + 3, none⟩ = some (.slice ka kp.length kc))) (by kernel_rfl) ?_ (fun hHeld => ?_)
              · (exact t3)
              (refine wpAnyH_take (i := 0) (oi := R_RPl15_0) (v := ?_) rfl (by kernel_rfl) (by kernel_rfl) (by kernel_rfl) (fun _ _ _ h => h) (Or.inl ⟨by rfl, ?_⟩) (by assumption) ?_; rotate_left; next => (intro w hSw; (try dsimp only at hSw); (try delta R_RPl15_0); go_simp; try with_reducible rfl))
              (try simp only [Act.put, List.setIfInBounds_toArray, List.set_cons_zero, List.set_cons_succ])
              (refine wpAnyH_take (i := 1) (oi := R_RPl15_1) (v := ?_) rfl (by kernel_rfl) (by kernel_rfl) (by kernel_rfl) (fun _ _ _ h => h) (Or.inl ⟨by rfl, ?_⟩) (by assumption) ?_; rotate_left; next => (intro w hSw; (try dsimp only at hSw); (try delta R_RPl15_1); go_simp; try with_reducible rfl))
              (try simp only [Act.put, List.setIfInBounds_toArray, List.set_cons_zero, List.set_cons_succ])
              (refine wpAnyH_take (i := 2) (oi := R_RPl15_2) (v := ?_) rfl (by kernel_rfl) (by kernel_rfl) (by kernel_rfl) (fun _ _ _ h => h) (Or.inl ⟨by rfl, ?_⟩) (by assumption) ?_; rotate_left; next => (intro w hSw; (try dsimp only at hSw); (try delta R_RPl15_2); go_simp; try with_reducible rfl))
              (try simp only [Act.put, List.setIfInBounds_toArray, List.set_cons_zero, List.set_cons_succ])
              (refine wpAnyH_take (i := 3) (oi := R_RPl15_3) (v := ?_) rfl (by kernel_rfl) (by kernel_rfl) (by kernel_rfl) (fun _ _ _ h => h) (Or.inl ⟨by rfl, ?_⟩) (by assumption) ?_; rotate_left; next => (intro w hSw; (try dsimp only at hSw); (try delta R_RPl15_3); go_simp; try with_reducible rfl))
              (try simp only [Act.put, List.setIfInBounds_toArray, List.set_cons_zero, List.set_cons_succ])
              (refine wpAnyH_take (i := 4) (oi := R_RPl15_4) (v := ?_) rfl (by kernel_rfl) (by kernel_rfl) (by kernel_rfl) (fun _ _ _ h => h) (Or.inl ⟨by rfl, ?_⟩) (by assumption) ?_; rotate_left; next => (intro w hSw; (try dsimp only at hSw); (try delta R_RPl15_4); go_simp; try with_reducible rfl))
              (try simp only [Act.put, List.setIfInBounds_toArray, List.set_cons_zero, List.set_cons_succ])
              (refine wpAnyH_take (i := 5) (oi := R_RPl15_5) (v := ?_) rfl (by kernel_rfl) (by kernel_rfl) (by kernel_rfl) (fun _ _ _ h => h) (Or.inl ⟨by rfl, ?_⟩) (by assumption) ?_; rotate_left; next => (intro w hSw; (try dsimp only at hSw); (try delta R_RPl15_5); go_simp; try with_reducible rfl))
              (try simp only [Act.put, List.setIfInBounds_toArray, List.set_cons_zero, List.set_cons_succ])
              (refine wpAnyH_take (i := 7) (oi := R_RPl15_7) (v := ?_) rfl (by kernel_rfl) (by kernel_rfl) (by kernel_rfl) (fun _ _ _ h => h) (Or.inl ⟨by rfl, ?_⟩) (by assumption) ?_; rotate_left; next => (intro w hSw; (try dsimp only at hSw); (try delta R_RPl15_7); go_simp; try with_reducible rfl))
              (try simp only [Act.put, List.setIfInBounds_toArray, List.set_cons_zero, List.set_cons_succ])
              (refine wpAnyH_take (i := 8) (oi := R_RPl15_8) (v := ?_) rfl (by kernel_rfl) (by kernel_rfl) (by kernel_rfl) (fun _ _ _ h => h) (Or.inl ⟨by rfl, ?_⟩) (by assumption) ?_; rotate_left; next => (intro w hSw; (try dsimp only at hSw); (try delta R_RPl15_8); go_simp; try with_reducible rfl))
              (try simp only [Act.put, List.setIfInBounds_toArray, List.set_cons_zero, List.set_cons_succ])
              (refine wpAnyH_take (i := 9) (oi := R_RPl15_9) (v := ?_) rfl (by kernel_rfl) (by kernel_rfl) (by kernel_rfl) (fun _ _ _ h => h) (Or.inl ⟨by rfl, ?_⟩) (by assumption) ?_; rotate_left; next => (intro w hSw; (try dsimp only at hSw); (try delta R_RPl15_9); go_simp; try with_reducible rfl))
              (try simp only [Act.put, List.setIfInBounds_toArray, List.set_cons_zero, List.set_cons_succ])
              (refine wpAnyH_take (i := 10) (oi := R_RPl15_10) (v := ?_) rfl (by kernel_rfl) (by kernel_rfl) (by kernel_rfl) (fun _ _ _ h => h) (Or.inl ⟨by rfl, ?_⟩) (by assumption) ?_; rotate_left; next => (intro w hSw; (try dsimp only at hSw); (try delta R_RPl15_10); go_simp; try with_reducible rfl))
              (try simp only [Act.put, List.setIfInBounds_toArray, List.set_cons_zero, List.set_cons_succ])
              (refine wpAnyH_take (i := 11) (oi := R_RPl15_11) (v := ?_) rfl (by kernel_rfl) (by kernel_rfl) (by kernel_rfl) (fun _ _ _ h => h) (Or.inl ⟨by rfl, ?_⟩) (by assumption) ?_; rotate_left; next => (intro w hSw; (try dsimp only at hSw); (try delta R_RPl15_11); go_simp; try with_reducible rfl))
              (try simp only [Act.put, List.setIfInBounds_toArray, List.set_cons_zero, List.set_cons_succ])
              (refine wpAnyH_take (i := 12) (oi := R_RPl15_12) (v := ?_) rfl (by kernel_rfl) (by kernel_rfl) (by kernel_rfl) (fun _ _ _ h => h) (Or.inl ⟨by rfl, ?_⟩) (by assumption) ?_; rotate_left; next => (intro w hSw; (try dsimp only at hSw); (try delta R_RPl15_12); go_simp; try with_reducible rfl))
              (try simp only [Act.put, List.setIfInBounds_toArray, List.set_cons_zero, List.set_cons_succ])
              refine wpAnyH_ready (rs := [6]) (by kernel_rfl) (by simp) ?_
              refine AllReadyH.cons (o := R_RPl15_6) rfl (fun K hK => ?_) AllReadyH.nil
              (try delta R_RPl15_6)
              go_simp
              (first | (go_at_call 20; (with_reducible refine (HCr.out).mono ?_); rintro e w5 ⟨D5, g5, m5, rfl, hd5, hb5⟩; have HD5 := Lib.hid (hd5.mono HBd.out.size); have HRD5 := Lib.hid (HRD.out.below hb5); have HB5 := Lib.hid (HBd.out.trans (hb5.mono HBd.out.size)); have t3 := (HRW2.out _ HB5.out).2.2.2; clear hd5 hb5) | (go_at_call 29; (with_reducible refine (HX.out _ HRD5.out HB5.out).mono ?_); rintro e w6 ⟨X6, o6, s6, v6, lf6, rfl, hx6, hb6⟩; have HRD6 := Lib.hid (hx6.mono HB5.out.size); have HD6 := Lib.hid (HD5.out.below hb6); have HB6 := Lib.hid (HB5.out.trans (hb6.mono HB5.out.size)); have t3 := (HRW2.out _ HB6.out).2.2.2; clear hx6 hb6))
              (try go_wp2_with fail)
              refine hK.out _ _ ?_ (fun hHeld => ?_)
              · (exact t3)
              clear hK K
              (try simp only [Act.put, List.setIfInBounds_toArray, List.set_cons_zero, List.set_cons_succ])
              refine wpAnyH_ready (rs := [13]) (by kernel_rfl) (by simp) ?_
              refine AllReadyH.cons (o := R_RPl15_13) rfl (fun K hK => ?_) AllReadyH.nil
              (try delta R_RPl15_13)
              go_simp
              (first | (go_at_call 20; (with_reducible refine (HCr.out).mono ?_); rintro e w5 ⟨D5, g5, m5, rfl, hd5, hb5⟩; have HD5 := Lib.hid (hd5.mono HBd.out.size); have HRD5 := Lib.hid (HRD.out.below hb5); have HB5 := Lib.hid (HBd.out.trans (hb5.mono HBd.out.size)); have t3 := (HRW2.out _ HB5.out).2.2.2; clear hd5 hb5) | (go_at_call 29; (with_reducible refine (HX.out _ HRD5.out HB5.out).mono ?_); rintro e w6 ⟨X6, o6, s6, v6, lf6, rfl, hx6, hb6⟩; have HRD6 := Lib.hid (hx6.mono HB5.out.size); have HD6 := Lib.hid (HD5.out.below hb6); have HB6 := Lib.hid (HB5.out.trans (hb6.mono HB5.out.size)); have t3 := (HRW2.out _ HB6.out).2.2.2; clear hx6 hb6))
              (try go_wp2_with fail)
              refine hK.out _ _ ?_ (fun hHeld => ?_)
              · (exact t3)
              clear hK K
              (try simp only [Act.put, List.setIfInBounds_toArray, List.set_cons_zero, List.set_cons_succ])
              (refine wpAnyH_take (i := 14) (oi := R_RPl15_14) (v := ?_) rfl (by kernel_rfl) (by kernel_rfl) (by kernel_rfl) (fun _ _ _ h => h) (Or.inl ⟨by rfl, ?_⟩) (by assumption) ?_; rotate_left; next => (intro w hSw; (try dsimp only at hSw); (try delta R_RPl15_14); go_simp; try with_reducible rfl))
              (try simp only [Act.put, List.setIfInBounds_toArray, List.set_cons_zero, List.set_cons_succ])
              (refine wpAnyH_take (i := 15) (oi := R_RPl15_15) (v := ?_) rfl (by kernel_rfl) (by kernel_rfl) (by kernel_rfl) (fun _ _ _ h => h) (Or.inl ⟨by rfl, ?_⟩) (by assumption) ?_; rotate_left; next => (intro w hSw; (try dsimp only at hSw); (try delta R_RPl15_15); go_simp; try with_reducible rfl))
              (try simp only [Act.put, List.setIfInBounds_toArray, List.set_cons_zero, List.set_cons_succ])
              refine wpAnyH_done (by kernel_rfl) ?_ _
              go_wp2_with fail
              go_meet
              exact ⟨D5, g5, m5, X6, _, o6, s6, v6, lf6, crashP d kp, rfl, rfl, HD6.out, HRD6.out, HCN.out.1, HCN.out.2, HB6.out⟩
        case rest => as_aux_lemma =>
          obtain ⟨D2, g2, m2, X2, v2, ov2, sv2, wv2, lf2, d2, rfl, rfl, hd2, hx2, hdn2, hw2, hb2⟩ := hcut
          have h4d : 4 ≤ d2.n := by rw [hdn2]; exact H4.out
          have HD2 := Lib.hid hd2
          have HX2 := Lib.hid hx2
          have HB2 := Lib.hid hb2
          have HFI : Hid (Fit (logP d2) d2 (j + 1)) := Lib.hid (Fit.opened hd2.ok h4d (by omega) hw2)
          have HN2 := Lib.hid hdn2
          have hO := ROpen_c hd2 h4d
          have hXO : ∀ W, Below wc.heap.size wc W → Calls Tryd.prog 23 #[.pointer (some ⟨X2, 0, none⟩)] W (XOpenTo W X2 d2) := fun W hb => XOpen_c (hx2.below hb) h4d
          clear hd2 hx2 hb2 hdn2 hw2 t0 HBl HBd h4d e1 e2 e4 hk1 hk2 hk4 HT
          cases hE : (entP (logB d2)).2 with
          | false => as_aux_lemma =>
            have HO : Hid (Calls Tryd.prog 11 #[.pointer (some ⟨D2, 0, none⟩)] wc (fun e w' => e = .returned (.tuple #[.pointer none, .slice none 0 0, .int .i64 2]) ∧ Below wc.heap.size wc w')) := Lib.hid (hO.mono (by
              rintro e w' (⟨h1, _⟩ | ⟨_, h2, h3⟩)
              · rw [hE] at h1; cases h1
              · exact ⟨h2, h3⟩))
            have HXO : Hid (∀ W, Below wc.heap.size wc W → Calls Tryd.prog 23 #[.pointer (some ⟨X2, 0, none⟩)] W (fun e w' => e = .returned (.tuple #[.pointer none, .slice none 0 0, .int .i64 2]) ∧ Below W.heap.size W w')) := Lib.hid (fun W hb => (hXO W hb).mono (by
              rintro e w' (⟨h1, _⟩ | ⟨_, h2, h3⟩)
              · rw [hE] at h1; cases h1
              · exact ⟨h2, h3⟩))
            clear hO hXO hE
            go_wp2_with (first | (go_at_call 11; (with_reducible refine (HO.out).mono ?_); rintro e w5 ⟨rfl, hb5⟩; have HB5 := Lib.hid hb5; clear hb5) | (go_at_call 23; (with_reducible refine (HXO.out _ HB5.out).mono ?_); rintro e w6 ⟨rfl, hb6⟩; have HB6 := Lib.hid (HB5.out.trans (hb6.mono HB5.out.size)); clear hb6) | (go_at_call 19; (with_reducible refine (rows_same (RowsU.nil 0 _).b (RowsU.nil 0 _).b).mono ?_); rintro e w7 ⟨rfl, hb7⟩; have HB7 := Lib.hid (HB6.out.trans (hb7.mono HB6.out.size)); clear hb7) | (go_at_call 16; (with_reducible refine (known5_c _).mono ?_); rintro e w9 ⟨rfl, hb9⟩; have HB9 := Lib.hid (HB7.out.trans (hb9.mono HB7.out.size)); clear hb9) | fail)
            go_ret
            exact ⟨rfl, HB2.out.trans (HB9.out.mono HB2.out.size)⟩
          | true => as_aux_lemma =>
            have HO : Hid (Calls Tryd.prog 11 #[.pointer (some ⟨D2, 0, none⟩)] wc (fun e w' => ∃ L bv rv, e = .returned (.tuple #[.pointer (some ⟨L, 0, none⟩), rv, .int .i64 0]) ∧ LogAt wc.heap.size w' L D2 bv (logP d2) ∧ RowsU wc.heap.size w' rv (entP (logB d2)).1 ∧ Below wc.heap.size wc w')) := Lib.hid (hO.mono (by
              rintro e w' (⟨_, h2⟩ | ⟨h1, _⟩)
              · exact h2
              · rw [hE] at h1; cases h1))
            have HXO : Hid (∀ W, Below wc.heap.size wc W → Calls Tryd.prog 23 #[.pointer (some ⟨X2, 0, none⟩)] W (fun e w' => ∃ L bv rv, e = .returned (.tuple #[.pointer (some ⟨L, 0, none⟩), rv, .int .i64 0]) ∧ RLAt W.heap.size w' L X2 bv (logP d2) ∧ RowsU W.heap.size w' rv (entP (logB d2)).1 ∧ Below W.heap.size W w')) := Lib.hid (fun W hb => (hXO W hb).mono (by
              rintro e w' (⟨_, h2⟩ | ⟨h1, _⟩)
              · exact h2
              · rw [hE] at h1; cases h1))
            clear hO hXO hE
            generalize (entP (logB d2)).1 = es at *
            go_wp2_with (first | (go_at_call 11; (with_reducible refine (HO.out).mono ?_); rintro e w5 ⟨L5, bv5, rv5, rfl, hl5, hr5, hb5⟩; have HB5 := Lib.hid hb5; have HL5 := Lib.hid hl5; have HR5 := Lib.hid hr5; clear hb5 hl5 hr5) | (go_at_call 23; (with_reducible refine (HXO.out _ HB5.out).mono ?_); rintro e w6 ⟨L6, bv6, rv6, rfl, hl6, hr6, hb6⟩; have HL6 := Lib.hid (HL5.out.chg (Chg.ofBelow (lo := 0) hb6)); have HR6 := Lib.hid (HR5.out.below hb6); have HX6 := Lib.hid (hl6.mono HB5.out.size); have HRX6 := Lib.hid hr6; have HB6 := Lib.hid (HB5.out.trans (hb6.mono HB5.out.size)); clear hl6 hr6 hb6) | (go_at_call 19; (with_reducible refine (rows_same HR6.out.b HRX6.out.b).mono ?_); rintro e w7 ⟨rfl, hb7⟩; have HB7 := Lib.hid (HB6.out.trans (hb7.mono HB6.out.size)); have HL7 := Lib.hid (HL6.out.chg (Chg.ofBelow (lo := 0) hb7)); have HX7 := Lib.hid (HX6.out.below hb7); clear hb7) | fail)
            go_meet
            exact ⟨D2, g2, m2, L5, L6, X2, v2, bv5, bv6, ov2, sv2, wv2, lf2, logP d2, d2, rfl, rfl, rfl, rfl, HN2.out, ⟨⟨HL7.out.mono HB2.out.size, HD2.out.below HB7.out⟩, HX7.out.mono HB2.out.size, HX2.out.below HB7.out, HFI.out, HB2.out.trans (HB7.out.mono HB2.out.size)⟩⟩
  · go_ret
    exact ⟨rfl, HB.out⟩
set_option maxRecDepth 100000 in
set_option maxHeartbeats 16000000 in
theorem RedoPlays_core (a0 : Int) (v1 : Value) (x1 : List AA) (w : World) (w0 : (Lit.int .i64 a0).wf = true) (w1 : RowK 4 w v1 (x1.map AA.cells)) (y1 : ∀ p ∈ x1, p.at w ∧ okAA p) (z1 : x1.length ≤ 2199023255552) :
    Calls Tryd.prog 9 #[.int .i64 a0, v1] w fun e w' => e = .returned (.bool true) ∧ Below w.heap.size w w' := by
  by_cases hout : a0 < 0 ∨ 20 < a0
  · exact RedoPlays_out a0 v1 x1 w w0 w1 y1 z1 hout
  obtain ⟨n, rfl⟩ : ∃ n : Nat, a0 = (n : Int) := ⟨a0.toNat, by omega⟩
  by_cases h4 : 4 ≤ n
  · exact RedoPlays_big n v1 x1 w w1 y1 z1 (by omega) h4
  · exact RedoPlays_small n v1 x1 w w1 y1 z1 (by omega) h4
end Go.Proofs.YtlllbacjdjllbaaDoor
