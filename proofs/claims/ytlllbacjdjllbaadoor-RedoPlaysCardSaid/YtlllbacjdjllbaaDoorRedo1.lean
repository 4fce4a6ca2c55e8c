
/- Contracts of package redo: bank, sector, headOf. -/
import Derived.Test.YtlllbacjdjllbaaDoorDrum5
import Derived.Test.YtlllbacjdjllbaaDoorCur2
import Derived.Shelf.Strings.Trim
import Derived.Shelf.Lay
import Derived.Ground.NamesProg
import Derived.OrdersHeld
import Derived.Laws.ResultCell
namespace Go.Proofs.YtlllbacjdjllbaaDoor
open Go Go.Proofs Go.Shelf Go.RowKit Go.Great
set_option linter.unusedVariables false
set_option linter.unusedSimpArgs false
abbrev R_Head8_0 : Oper := { dst := some 43, op := Op.move (Operand.tmp 7), type := 74, pos := "redo.go:43", after := #[], guard := none }
abbrev R_Head8_1 : Oper := { dst := some 44, op := Op.call { callee := Callee.value (Operand.func 38), args := #[Operand.tmp 43], argTypes := #[74] }, type := 4, pos := "redo.go:43", after := #[{ on := 0, ground := Ground.data }], guard := none }
abbrev R_Head8_10 : Oper := { dst := some 53, op := Op.pick (Operand.tmp 49) (Operand.tmp 52) (Operand.const (Value.bool false)), type := 4, pos := "redo.go:43", after := #[{ on := 6, ground := Ground.data }, { on := 9, ground := Ground.data }], guard := none }
abbrev R_Head8_11 : Oper := { dst := some 54, op := Op.move (Operand.tmp 53), type := 4, pos := "redo.go:43", after := #[{ on := 10, ground := Ground.data }, { on := 6, ground := Ground.chain }], guard := none }
abbrev R_Head8_12 : Oper := { dst := some 55, op := Op.fieldAddr 67 (Operand.tmp 8) 0, type := 0, pos := "redo.go:43", after := #[{ on := 11, ground := Ground.guard }], guard := some (11, true) }
abbrev R_Head8_13 : Oper := { dst := some 56, op := Op.load 3 (Operand.tmp 55), type := 3, pos := "redo.go:43", after := #[{ on := 12, ground := Ground.data }, { on := 11, ground := Ground.guard }], guard := some (11, true) }
abbrev R_Head8_14 : Oper := { dst := some 57, op := Op.binOp BinOp.leq 3 (Operand.tmp 56) (Operand.const (Value.int IntKind.i64 1099511627776)) 3, type := 4, pos := "redo.go:43", after := #[{ on := 13, ground := Ground.data }, { on := 11, ground := Ground.guard }], guard := some (11, true) }
abbrev R_Head8_15 : Oper := { dst := some 58, op := Op.pick (Operand.tmp 54) (Operand.tmp 57) (Operand.const (Value.bool false)), type := 4, pos := "redo.go:43", after := #[{ on := 11, ground := Ground.data }, { on := 14, ground := Ground.data }], guard := none }
abbrev R_Head8_16 : Oper := { dst := some 59, op := Op.move (Operand.tmp 58), type := 4, pos := "redo.go:43", after := #[{ on := 15, ground := Ground.data }, { on := 11, ground := Ground.chain }], guard := none }
abbrev R_Head8_17 : Oper := { dst := some 60, op := Op.fieldAddr 67 (Operand.tmp 8) 1, type := 0, pos := "redo.go:43", after := #[{ on := 16, ground := Ground.guard }], guard := some (16, true) }
abbrev R_Head8_18 : Oper := { dst := some 61, op := Op.load 3 (Operand.tmp 60), type := 3, pos := "redo.go:43", after := #[{ on := 17, ground := Ground.data }, { on := 16, ground := Ground.guard }], guard := some (16, true) }
abbrev R_Head8_19 : Oper := { dst := some 62, op := Op.binOp BinOp.eql 3 (Operand.tmp 61) (Operand.const (Value.int IntKind.i64 0)) 3, type := 4, pos := "redo.go:43", after := #[{ on := 18, ground := Ground.data }, { on := 16, ground := Ground.guard }], guard := some (16, true) }
abbrev R_Head8_2 : Oper := { dst := some 45, op := Op.move (Operand.tmp 44), type := 4, pos := "redo.go:43", after := #[{ on := 1, ground := Ground.data }, { on := 1, ground := Ground.chain }], guard := none }
abbrev R_Head8_20 : Oper := { dst := some 63, op := Op.move (Operand.tmp 62), type := 4, pos := "redo.go:43", after := #[{ on := 19, ground := Ground.data }, { on := 16, ground := Ground.chain }, { on := 16, ground := Ground.guard }], guard := some (16, true) }
abbrev R_Head8_21 : Oper := { dst := some 64, op := Op.fieldAddr 67 (Operand.tmp 8) 1, type := 0, pos := "redo.go:43", after := #[{ on := 20, ground := Ground.guard }], guard := some (20, false) }
abbrev R_Head8_22 : Oper := { dst := some 65, op := Op.load 3 (Operand.tmp 64), type := 3, pos := "redo.go:43", after := #[{ on := 21, ground := Ground.data }, { on := 20, ground := Ground.guard }], guard := some (20, false) }
abbrev R_Head8_23 : Oper := { dst := some 66, op := Op.binOp BinOp.eql 3 (Operand.tmp 65) (Operand.const (Value.int IntKind.i64 1)) 3, type := 4, pos := "redo.go:43", after := #[{ on := 22, ground := Ground.data }, { on := 20, ground := Ground.guard }], guard := some (20, false) }
abbrev R_Head8_24 : Oper := { dst := some 67, op := Op.pick (Operand.tmp 63) (Operand.const (Value.bool true)) (Operand.tmp 66), type := 4, pos := "redo.go:43", after := #[{ on := 20, ground := Ground.data }, { on := 23, ground := Ground.data }, { on := 16, ground := Ground.guard }], guard := some (16, true) }
abbrev R_Head8_25 : Oper := { dst := some 68, op := Op.pick (Operand.tmp 59) (Operand.tmp 67) (Operand.const (Value.bool false)), type := 4, pos := "redo.go:43", after := #[{ on := 16, ground := Ground.data }, { on := 24, ground := Ground.data }], guard := none }
abbrev R_Head8_26 : Oper := { dst := some 69, op := Op.move (Operand.tmp 68), type := 4, pos := "redo.go:43", after := #[{ on := 25, ground := Ground.data }, { on := 20, ground := Ground.chain }], guard := none }
abbrev R_Head8_27 : Oper := { dst := some 70, op := Op.fieldAddr 67 (Operand.tmp 8) 2, type := 0, pos := "redo.go:43", after := #[{ on := 26, ground := Ground.guard }], guard := some (26, true) }
abbrev R_Head8_28 : Oper := { dst := some 71, op := Op.load 3 (Operand.tmp 70), type := 3, pos := "redo.go:43", after := #[{ on := 27, ground := Ground.data }, { on := 26, ground := Ground.guard }], guard := some (26, true) }
abbrev R_Head8_29 : Oper := { dst := some 72, op := Op.binOp BinOp.geq 3 (Operand.tmp 71) (Operand.const (Value.int IntKind.i64 0)) 3, type := 4, pos := "redo.go:43", after := #[{ on := 28, ground := Ground.data }, { on := 26, ground := Ground.guard }], guard := some (26, true) }
abbrev R_Head8_3 : Oper := { dst := some 46, op := Op.move (Operand.tmp 10), type := 9, pos := "redo.go:43", after := #[{ on := 2, ground := Ground.guard }], guard := some (2, true) }
abbrev R_Head8_30 : Oper := { dst := some 73, op := Op.pick (Operand.tmp 69) (Operand.tmp 72) (Operand.const (Value.bool false)), type := 4, pos := "redo.go:43", after := #[{ on := 26, ground := Ground.data }, { on := 29, ground := Ground.data }], guard := none }
abbrev R_Head8_31 : Oper := { dst := some 74, op := Op.move (Operand.tmp 73), type := 4, pos := "redo.go:43", after := #[{ on := 30, ground := Ground.data }, { on := 26, ground := Ground.chain }], guard := none }
abbrev R_Head8_32 : Oper := { dst := some 75, op := Op.fieldAddr 67 (Operand.tmp 8) 2, type := 0, pos := "redo.go:43", after := #[{ on := 31, ground := Ground.guard }], guard := some (31, true) }
abbrev R_Head8_33 : Oper := { dst := some 76, op := Op.load 3 (Operand.tmp 75), type := 3, pos := "redo.go:43", after := #[{ on := 32, ground := Ground.data }, { on := 31, ground := Ground.guard }], guard := some (31, true) }
abbrev R_Head8_34 : Oper := { dst := some 77, op := Op.move (Operand.tmp 0), type := 23, pos := "redo.go:43", after := #[{ on := 31, ground := Ground.guard }], guard := some (31, true) }
abbrev R_Head8_35 : Oper := { dst := some 78, op := Op.call { callee := Callee.value (Operand.func 34), args := #[Operand.tmp 77], argTypes := #[23] }, type := 3, pos := "redo.go:43", after := #[{ on := 34, ground := Ground.data }, { on := 31, ground := Ground.chain }, { on := 31, ground := Ground.guard }], guard := some (31, true) }
abbrev R_Head8_36 : Oper := { dst := some 79, op := Op.binOp BinOp.mul 3 (Operand.tmp 78) (Operand.const (Value.int IntKind.i64 64)) 3, type := 3, pos := "redo.go:43", after := #[{ on := 35, ground := Ground.data }, { on := 31, ground := Ground.guard }], guard := some (31, true) }
abbrev R_Head8_37 : Oper := { dst := some 80, op := Op.binOp BinOp.leq 3 (Operand.tmp 76) (Operand.tmp 79) 3, type := 4, pos := "redo.go:43", after := #[{ on := 33, ground := Ground.data }, { on := 36, ground := Ground.data }, { on := 31, ground := Ground.guard }], guard := some (31, true) }
abbrev R_Head8_38 : Oper := { dst := some 81, op := Op.pick (Operand.tmp 74) (Operand.tmp 80) (Operand.const (Value.bool false)), type := 4, pos := "redo.go:43", after := #[{ on := 31, ground := Ground.data }, { on := 37, ground := Ground.data }], guard := none }
abbrev R_Head8_39 : Oper := { dst := some 11, op := Op.assign (Operand.tmp 81), type := 4, pos := "redo.go:43", after := #[{ on := 38, ground := Ground.data }, { on := 35, ground := Ground.chain }, { on := 0, ground := Ground.phase }, { on := 1, ground := Ground.phase }, { on := 2, ground := Ground.phase }, { on := 3, ground := Ground.phase }, { on := 4, ground := Ground.phase }, { on := 5, ground := Ground.phase }, { on := 6, ground := Ground.phase }, { on := 7, ground := Ground.phase }, { on := 8, ground := Ground.phase }, { on := 9, ground := Ground.phase }, { on := 10, ground := Ground.phase }, { on := 11, ground := Ground.phase }, { on := 12, ground := Ground.phase }, { on := 13, ground := Ground.phase }, { on := 14, ground := Ground.phase }, { on := 15, ground := Ground.phase }, { on := 16, ground := Ground.phase }, { on := 17, ground := Ground.phase }, { on := 18, ground := Ground.phase }, { on := 19, ground := Ground.phase }, { on := 20, ground := Ground.phase }, { on := 21, ground := Ground.phase }, { on := 22, ground := Ground.phase }, { on := 23, ground := Ground.phase }, { on := 24, ground := Ground.phase }, { on := 25, ground := Ground.phase }, { on := 26, ground := Ground.phase }, { on := 27, ground := Ground.phase }, { on := 28, ground := Ground.phase }, { on := 29, ground := Ground.phase }, { on := 30, ground := Ground.phase }, { on := 31, ground := Ground.phase }, { on := 32, ground := Ground.phase }, { on := 33, ground := Ground.phase }, { on := 34, ground := Ground.phase }, { on := 35, ground := Ground.phase }, { on := 36, ground := Ground.phase }, { on := 37, ground := Ground.phase }, { on := 38, ground := Ground.phase }], guard := none }
abbrev R_Head8_4 : Oper := { dst := some 47, op := Op.binOp BinOp.eql 9 (Operand.tmp 46) (Operand.const (Value.string { data := #[] })) 9, type := 4, pos := "redo.go:43", after := #[{ on := 3, ground := Ground.data }, { on := 2, ground := Ground.guard }], guard := some (2, true) }
abbrev R_Head8_5 : Oper := { dst := some 48, op := Op.pick (Operand.tmp 45) (Operand.tmp 47) (Operand.const (Value.bool false)), type := 4, pos := "redo.go:43", after := #[{ on := 2, ground := Ground.data }, { on := 4, ground := Ground.data }], guard := none }
abbrev R_Head8_6 : Oper := { dst := some 49, op := Op.move (Operand.tmp 48), type := 4, pos := "redo.go:43", after := #[{ on := 5, ground := Ground.data }, { on := 2, ground := Ground.chain }], guard := none }
abbrev R_Head8_7 : Oper := { dst := some 50, op := Op.fieldAddr 67 (Operand.tmp 8) 0, type := 0, pos := "redo.go:43", after := #[{ on := 6, ground := Ground.guard }], guard := some (6, true) }
abbrev R_Head8_8 : Oper := { dst := some 51, op := Op.load 3 (Operand.tmp 50), type := 3, pos := "redo.go:43", after := #[{ on := 7, ground := Ground.data }, { on := 6, ground := Ground.guard }], guard := some (6, true) }
abbrev R_Head8_9 : Oper := { dst := some 52, op := Op.binOp BinOp.geq 3 (Operand.tmp 51) (Operand.const (Value.int IntKind.i64 1)) 3, type := 4, pos := "redo.go:43", after := #[{ on := 8, ground := Ground.data }, { on := 6, ground := Ground.guard }], guard := some (6, true) }

shelf_lay Lays.n160 Nm 160 at Tryd as Tryd.l160
/-- a head, plainly: its number, its bank, its bytes. -/
structure HD3 where
  number : Int
  bank : Int
  bytes : Int
def bankP (d : PD) : Nat := (d.n - 2) / 2
def headRd (b : List UInt8) : HD3 × Cur :=
  let r1 := curInt (some b)
  let r2 := curInt r1.2
  let r3 := curInt r2.2
  (⟨r1.1, r2.1, r3.1⟩, r3.2)
def HD3.laid (h : HD3) : List UInt8 := lebInts [h.number, h.bank, h.bytes]
def restOf (h : HD3) (b : List UInt8) : List UInt8 := Lib.trimB (b.drop h.laid.length) 0
def headOk (d : PD) (h : HD3) (c : Cur) (b : List UInt8) : Bool :=
  c.isSome && (restOf h b).isEmpty && decide (1 ≤ h.number) && decide (h.number ≤ 1099511627776) && (decide (h.bank = 0) || decide (h.bank = 1)) && decide (0 ≤ h.bytes) && decide (h.bytes ≤ (bankP d : Int) * 64)
def headOfP (d : PD) (i : Nat) : HD3 × Bool :=
  let b := sec d.now i
  ((headRd b).1, headOk d (headRd b).1 (headRd b).2 b)
def HD3.val (h : HD3) : Value := .agg #[.int .i64 h.number, .int .i64 h.bank, .int .i64 h.bytes]
section
variable {lo D g m : Nat} {v : Value} {d : PD} {w : World}
theorem bank_c (h : DrumAt lo w D g m v d) (hn : 2 ≤ d.n) : Calls Tryd.prog 34 #[.pointer (some ⟨D, 0, none⟩)] w fun e w' => e = .returned (.int .i64 (bankP d : Int)) ∧ w = w' := by
  have CL := Lib.hid (Len_c h)
  have hn2 := h.ok.n
  clear h
  go_enter Tryd.func34, Tryd.ntmps34
  go_wp2_with (first | (go_at_call 32; (with_reducible refine CL.out.mono ?_); rintro e wz ⟨rfl, rfl⟩))
  go_ret
  refine ⟨?_, rfl⟩
  show Ending.returned (.int .i64 (((d.n : Int) - 2) / 2)) = _
  congr 2
  unfold bankP; omega
theorem sector_c (h : DrumAt lo w D g m v d) (hn : 2 ≤ d.n) (k i : Nat) (hk : k ≤ 1) (hi : i ≤ 1099511627776) : Calls Tryd.prog 36 #[.pointer (some ⟨D, 0, none⟩), .int .i64 (k : Int), .int .i64 (i : Int)] w fun e w' => e = .returned (.int .i64 ((2 + k * bankP d + i : Nat) : Int)) ∧ w = w' := by
  have CB := Lib.hid (bank_c h hn)
  have hb : bankP d ≤ 100 := by unfold bankP; have := h.ok.n; omega
  clear h
  generalize bankP d = q at *
  have hk2 : k = 0 ∨ k = 1 := by omega
  rcases hk2 with rfl | rfl
  · go_enter Tryd.func36, Tryd.ntmps36
    go_wp2_with (first | (go_at_call 34; (with_reducible refine CB.out.mono ?_); rintro e wz ⟨rfl, rfl⟩))
    go_ret
    refine ⟨?_, rfl⟩
    simp
  · go_enter Tryd.func36, Tryd.ntmps36
    go_wp2_with (first | (go_at_call 34; (with_reducible refine CB.out.mono ?_); rintro e wz ⟨rfl, rfl⟩))
    go_ret
    refine ⟨?_, rfl⟩
    simp
theorem BlkT.below {W W' : World} {g : Nat} {cs : List Value} {t : TypeId} (h : BlkT W g cs t) (hb : Below W.heap.size W W') : BlkT W' g cs t := by
  have e := hb.block g (BlkT.lt h)
  unfold BlkT at h ⊢
  rw [e]; exact h
theorem results_row_tmpH {P : Program} {fn : Func} {p u : Tmp} {ty : TypeId} (h : fn.results = #[.cell p ty, .tmp u]) (tmps : Array Value) (w : World) (g : Nat) (t : TypeId) (cs : Array Value) (fr : Nat × Nat) (d : TypeDesc)
    (hp : tmps.getD p undef = .pointer (some ⟨g, 0, none⟩)) (hg : w.heap[g]? = some (.cells cs t fr))
    (hu : P.underlying ty = some d) (hd : (match d with | .struct _ | .array _ _ => true | _ => false) = true) (hi : (P.info? ty).map (·.size) = some cs.size) :
    (results fn tmps).run P w = .ok (.tuple #[.agg cs, tmps.getD u undef]) w := by
  rw [results_cell_tmp h, hp]
  simp [asAddr, run_loadVar_row w g t ty cs fr d hg hu hd hi, Result.andThen]
theorem infoHead : (Tryd.prog.info? 67).map (·.size) = some 3 := by kernel_rfl
theorem headEnd {w w7 : World} {n1 n2 n3 : Int} (h : BlkT w7 w.heap.size [.int .i64 0, .int .i64 0, .int .i64 0] 67) (hb : Below w.heap.size w w7) :
    BlkT (((w7.setCell ⟨w.heap.size, 0, none⟩ (.int .i64 n1)).setCell ⟨w.heap.size, 1, none⟩ (.int .i64 n2)).setCell ⟨w.heap.size, 2, none⟩ (.int .i64 n3)).drew w.heap.size [.int .i64 n1, .int .i64 n2, .int .i64 n3] 67 ∧
    Below w.heap.size w (((w7.setCell ⟨w.heap.size, 0, none⟩ (.int .i64 n1)).setCell ⟨w.heap.size, 1, none⟩ (.int .i64 n2)).setCell ⟨w.heap.size, 2, none⟩ (.int .i64 n3)).drew := by
  have g1 : ∀ {W : World} (j : Nat) (u : Value), Below w.heap.size w W → Below w.heap.size w (W.setCell ⟨w.heap.size, j, none⟩ u) := fun {W} j u hb => hb.grown (grownBy_set W w.heap.size j u) hb.size (fun k hk => by cases hk; exact Nat.le_refl _)
  exact ⟨(((h.set 0 _).set 1 _).set 2 _).below (Below.refl _ _).drew, (g1 2 _ (g1 1 _ (g1 0 _ hb))).drew⟩
theorem headRd_ok (b : List UInt8) : IntsOk [(headRd b).1.number, (headRd b).1.bank, (headRd b).1.bytes] := by
  have hu : ∀ c : Cur, -9223372036854775808 ≤ (curInt c).1 ∧ (curInt c).1 ≤ 9223372036854775807 := fun c => by
    have := curU_lt c
    rw [curInt_U]
    unfold W64 at this
    show -9223372036854775808 ≤ unzig _ ∧ unzig _ ≤ 9223372036854775807
    unfold unzig
    split <;> omega
  intro n hn
  simp only [List.mem_cons, List.not_mem_nil, or_false] at hn
  rcases hn with rfl | rfl | rfl <;> exact hu _
/-- a cursor of the call's own stands as c says. -/
structure CS (R : Option Nat) (B : Nat) (w1 : World) (c : Cur) (W : World) : Prop where
  cur : CurAt R W B c
  bel : Below w1.heap.size w1 W
  ge : w1.heap.size ≤ B
theorem cstart {R : Option Nat} {B : Nat} {w1 W : World} {c : Cur} (h : CurAt R W B c) (hb : Below w1.heap.size w1 W) (hB : w1.heap.size ≤ B) : CS R B w1 c W := ⟨h, hb, hB⟩
theorem CS.call {R : Option Nat} {B : Nat} {w1 W W' : World} {c c' : Cur} (h : CS R B w1 c W) (h' : CurAt R W' B c') (hg : W.grownBy W' (some B)) : CS R B w1 c' W' :=
  ⟨h', h.bel.grown hg h.bel.size (fun j hj => by cases hj; exact h.ge), h.ge⟩
theorem CS.below {R : Option Nat} {B : Nat} {w1 W W' : World} {c : Cur} (h : CS R B w1 c W) (hb : Below W.heap.size W W') : CS R B w1 c W' :=
  ⟨h.cur.below hb, h.bel.trans (hb.mono h.bel.size), h.ge⟩
theorem CS.set {R : Option Nat} {B : Nat} {w1 W : World} {c : Cur} (h : CS R B w1 c W) {q : Nat} (hq : w1.heap.size ≤ q) (hqB : B ≠ q) (hR : R ≠ some q) (j : Nat) (u : Value) : CS R B w1 c (W.setCell ⟨q, j, none⟩ u) :=
  ⟨h.cur.grown (grownBy_set W q j u) hqB hR, h.bel.grown (grownBy_set W q j u) h.bel.size (fun k hk => by cases hk; exact hq), h.ge⟩
set_option maxRecDepth 100000 in
set_option maxHeartbeats 8000000 in
theorem headOf_c (h : DrumAt lo w D g m v d) (hn : 4 ≤ d.n) (i : Nat) (hi : i < d.n) : Calls Tryd.prog 51 #[.pointer (some ⟨D, 0, none⟩), .int .i64 (i : Int)] w fun e w' => e = .returned (.tuple #[(headOfP d i).1.val, .bool (headOfP d i).2]) ∧ Below w.heap.size w w' := by
  have HD := Lib.hid h
  have HRD := Lib.hid (fun (W : World) (hb : Below w.heap.size w W) => Read_c (h.below hb) (i : Int))
  have HRP : Hid (readP d (i : Int) = sec d.now i) := Lib.hid (by unfold readP; rw [if_pos ⟨by omega, by omega⟩, Int.toNat_natCast])
  rw [HRP.out] at HRD
  have hl := sec_len h.ok.now hi
  have HP : Hid (headOfP d i = ((headRd (sec d.now i)).1, headOk d (headRd (sec d.now i)).1 (headRd (sec d.now i)).2 (sec d.now i))) := Lib.hid rfl
  rw [HP.out]
  clear h HP HRP
  generalize sec d.now i = b at *
  have hok := headRd_ok b
  have HL := Lib.hid hl
  clear hl
  go_enter Tryd.func51, Tryd.ntmps51
  go_wp2_with fail
  with_reducible refine (HRD.out _ ((Below.refl _ w).alloc (Nat.le_refl _) _)).mono ?_
  rintro e w1 ⟨v1, rfl, hown, hb1⟩
  have hr1 := RowAt.ofOwns hown
  obtain ⟨a1, c1, rfl⟩ := hr1.shapeB
  have HR1 := Lib.hid hr1
  have HB1 := Lib.hid (((Below.refl _ w).alloc (Nat.le_refl _) _).trans (hb1.mono (by simp)))
  have HA0 : Hid (BlkT w1 w.heap.size [.int .i64 0, .int .i64 0, .int .i64 0] 67) := Lib.hid ((BlkT.new w [.int .i64 0, .int .i64 0, .int .i64 0] 67).below hb1)
  have HB0 : Hid (w.heap.size < w1.heap.size) := Lib.hid (by have := hb1.size; simp at this; omega)
  clear hown hb1 hr1
  go_wp2_with fail
  with_reducible refine (Open_c _ b w1 HR1.out (by have := HL.out; omega)).mono ?_
  rintro e w2 ⟨B, R, rfl, hB, hcur, hb2, hR, hBl⟩
  have H2 := Lib.hid (cstart hcur hb2 hB)
  have HW1 := hb2.size
  clear hcur hb2
  have HLB := Lib.hid (show (w1.heap.size ≤ w2.heap.size ∧ B < w2.heap.size ∧ ∀ r, R = some r → r < w2.heap.size) from ⟨HW1, hBl, fun r hr => (hR r hr).2⟩)
  go_wp2_with fail
  with_reducible refine (CInt_c B _ w2 H2.out.cur).mono ?_
  rintro e w3 ⟨rfl, hc3, hg3⟩
  have H3 := Lib.hid (H2.out.call hc3 hg3)
  have HS3 := hg3.size
  clear hc3 hg3
  have hdr : headRd b = (⟨(curInt (some b)).1, (curInt (curInt (some b)).2).1, (curInt (curInt (curInt (some b)).2).2).1⟩, (curInt (curInt (curInt (some b)).2).2).2) := rfl
  generalize hX : headRd b = hh at *
  have HX := Lib.hid hX
  clear hX
  obtain ⟨⟨n1, n2, n3⟩, c3⟩ := hh
  injection hdr with hdr hdc
  injection hdr with hd1 hd2 hd3
  rw [← hd1]
  generalize (curInt (some b)).2 = cc1 at *
  clear hd1
  have HD2 := Lib.hid hd2
  have HD3 := Lib.hid hd3
  have HDC := Lib.hid hdc
  clear hd2 hd3 hdc
  go_wp2_with fail
  have A3 : Hid (CS R B w1 cc1 (w3.alloc (.cells #[.int .i64 n1, .int .i64 0, .int .i64 0] 67))) := Lib.hid (H3.out.below ((Below.refl _ w3).alloc (Nat.le_refl _) _))
  have B3 : Hid (Blk (w3.alloc (.cells #[.int .i64 n1, .int .i64 0, .int .i64 0] 67)) w3.heap.size [.int .i64 n1, .int .i64 0, .int .i64 0]) := Lib.hid (Blk.new w3 _ _)
  have HLX : Hid (w1.heap.size ≤ w3.heap.size ∧ B ≠ w3.heap.size ∧ R ≠ some w3.heap.size ∧ w.heap.size < w1.heap.size) := Lib.hid ⟨by omega, by omega, fun e => by have := hR _ e; omega, by have := HB0.out; omega⟩
  clear hR hBl HLB
  generalize w3.heap.size = lb at *
  with_reducible refine (CInt_c B _ _ A3.out.cur).mono ?_
  rintro e w4 ⟨rfl, hc4, hg4⟩
  have H4 := Lib.hid (A3.out.call hc4 hg4)
  have B4 := Lib.hid (B3.out.grown hg4 (fun e => HLX.out.2.1 (Option.some.inj e)))
  clear hc4 hg4 A3 B3 H3 HS3
  rw [← HD2.out]
  generalize (curInt cc1).2 = cc2 at *
  clear HD2
  have e1 := B4.out.cell 1 _ rfl
  have f1 := B4.out.thaw 1
  go_wp2_with fail
  clear e1 f1
  have H5 := Lib.hid (H4.out.set HLX.out.1 HLX.out.2.1 HLX.out.2.2.1 1 (.int .i64 n2))
  have B5 := Lib.hid (B4.out.set 1 (.int .i64 n2))
  clear H4 B4
  with_reducible refine (CInt_c B _ _ H5.out.cur).mono ?_
  rintro e w5 ⟨rfl, hc5, hg5⟩
  have H6 := Lib.hid (H5.out.call hc5 hg5)
  have B6 := Lib.hid (B5.out.grown hg5 (fun e => HLX.out.2.1 (Option.some.inj e)))
  clear hc5 hg5 H5 B5
  rw [← HD3.out]
  rw [← HDC.out] at H6
  clear HD3 HDC
  have e2 := B6.out.cell 2 _ rfl
  have f2 := B6.out.thaw 2
  have H7 := Lib.hid (H6.out.set HLX.out.1 HLX.out.2.1 HLX.out.2.2.1 2 (.int .i64 n3))
  have B7 := Lib.hid (B6.out.set 2 (.int .i64 n3))
  clear H6 B6
  have g0 := B7.out.cell 0 _ rfl
  have g1 := B7.out.cell 1 _ rfl
  have g2 := B7.out.cell 2 _ rfl
  go_wp2_with fail
  have HI := Lib.hid (Int_c (.slice none 0 0) (.slice (some ⟨w5.heap.size, 0, none⟩) 3 3) [] [n1, n2, n3] _ (RowAt.nil _) (show RowAt ((w5.setCell ⟨lb, 2, none⟩ (.int .i64 n3)).alloc (.cells #[.int .i64 n1, .int .i64 n2, .int .i64 n3] 3)) _ (intsV [n1, n2, n3]) from by
    have h := RowAt.new (hc := by simp) (w5.setCell ⟨lb, 2, none⟩ (.int .i64 n3)) [.int .i64 n1, .int .i64 n2, .int .i64 n3] 3 3 (by simp [maxLen])
    simp only [World.size_setCell] at h
    exact h) hok (by simp))
  have H8 := Lib.hid (H7.out.below ((Below.refl _ _).alloc (Nat.le_refl _) (.cells #[.int .i64 n1, .int .i64 n2, .int .i64 n3] 3)))
  have B8 := Lib.hid (B7.out.below ((Below.refl _ _).alloc (Nat.le_refl _) (.cells #[.int .i64 n1, .int .i64 n2, .int .i64 n3] 3)))
  have HLN : Hid ((lebInts [n1, n2, n3]).length ≤ 30) := Lib.hid (lebInts_len _ hok)
  clear H7 B7 g0 g1 g2 e2 f2
  have HLD : Hid (HD3.laid ⟨n1, n2, n3⟩ = lebInts [n1, n2, n3]) := Lib.hid rfl
  rw [List.nil_append] at HI
  generalize lebInts [n1, n2, n3] = L at *
  with_reducible refine HI.out.mono ?_
  rintro e w6 ⟨v6, rfl, hown, hb6⟩
  obtain ⟨va6, vc6, rfl⟩ := owns_shape hown
  have H9 := Lib.hid (H8.out.below hb6)
  have B9 := Lib.hid (B8.out.below hb6)
  clear hown hb6 H8 B8 HI
  have hr6 := HR1.out.below H9.out.bel
  have hmin : min (L.length : Int) (b.length : Int) = (L.length : Int) := by have := HLN.out; have := HL.out; omega
  obtain ⟨v7, hs7, hr7, _⟩ := hr6.sliceLo (t := 30) Tryd.underlying30 (fun _ => by kernel_rfl) L.length (by rw [bytesV_length]; have := HLN.out; have := HL.out; omega)
  have e7 : (bytesV b).drop L.length = bytesV (b.drop L.length) := by unfold bytesV; rw [List.map_drop]
  rw [e7] at hr7
  have hcv := hr7.toStr 30 9 5 Tryd.underlying30 Tryd.underlying5 Tryd.underlying9
  clear e7 hr7
  have HR6 := Lib.hid hr6
  clear hr6
  go_wp2_with fail
  have HTR : Hid (Calls Tryd.prog 62 #[.string ⟨(b.drop L.length).toArray⟩, .string ⟨#[0]⟩] w6 fun e w' => e = .returned (.string ⟨(Lib.trimB (b.drop L.length) 0).toArray⟩) ∧ (w' = w6 ∨ w' = w6.drew)) := Lib.hid (Any.strings_Trim_one Tryd.l160 ⟨(b.drop L.length).toArray⟩ 0 (by decide) w6 (by have := HL.out; show (b.drop L.length).toArray.size ≤ _; simp; omega))
  with_reducible refine HTR.out.mono ?_
  rintro e w7 ⟨rfl, hw7⟩
  have hb7 : Below w6.heap.size w6 w7 := by
    rcases hw7 with rfl | rfl
    · exact Below.refl _ _
    · exact (Below.refl _ _).drew
  have H10 := Lib.hid (H9.out.below hb7)
  have B10 := Lib.hid (B9.out.below hb7)
  clear hw7 hb7 H9 B9 HTR hs7 hcv HR6 hmin
  have HT : Hid (restOf ⟨n1, n2, n3⟩ b = Lib.trimB (b.drop L.length) 0) := Lib.hid (by unfold restOf; rw [HLD.out])
  generalize Lib.trimB (b.drop L.length) 0 = T at *
  have HOK : Hid (headOk d ⟨n1, n2, n3⟩ c3 b = (c3.isSome && T.isEmpty && decide (1 ≤ n1) && decide (n1 ≤ 1099511627776) && (decide (n2 = 0) || decide (n2 = 1)) && decide (0 ≤ n3) && decide (n3 ≤ (bankP d : Int) * 64))) := Lib.hid (by unfold headOk; rw [HT.out])
  have HBW : Hid (Below w.heap.size w w7) := Lib.hid (HB1.out.trans (H10.out.bel.mono (Nat.le_of_lt HB0.out)))
  have CBK := Lib.hid (fun W (hb : Below w.heap.size w W) => bank_c (HD.out.below hb) (by omega : 2 ≤ d.n))
  have CGD := Lib.hid (fun W (hb : Below w7.heap.size w7 W) => Good_c B c3 W (H10.out.cur.below hb))
  clear HLD HLN HT HL
  have p0 := B10.out.cell 0 _ rfl
  have p1 := B10.out.cell 1 _ rfl
  have p2 := B10.out.cell 2 _ rfl
  have s0 := (B10.out.below (Below.refl _ w7).drew).cell 0 _ rfl
  have s1 := (B10.out.below (Below.refl _ w7).drew).cell 1 _ rfl
  have s2 := (B10.out.below (Below.refl _ w7).drew).cell 2 _ rfl
  have HBD := Lib.hid (HBW.out.drew)
  have HDD := Lib.hid ((Below.refl w7.heap.size w7).drew)
  have HA4 : Hid (BlkT w7 w.heap.size [.int .i64 0, .int .i64 0, .int .i64 0] 67) := Lib.hid (HA0.out.below H10.out.bel)
  have a0 := HA4.out.blk.cell 0 _ rfl
  have a1' := HA4.out.blk.cell 1 _ rfl
  have a2 := HA4.out.blk.cell 2 _ rfl
  have q0 := HA4.out.blk.thaw 0
  have q1 := HA4.out.blk.thaw 1
  have q2 := HA4.out.blk.thaw 2
  have hlw : ¬ lb = w.heap.size := by have := HLX.out; omega
  go_wp2_with fail
  have HE := Lib.hid (headEnd (n1 := n1) (n2 := n2) (n3 := n3) HA4.out HBW.out)
  have HE := Lib.hid (headEnd (n1 := n1) (n2 := n2) (n3 := n3) HA4.out HBW.out)
  have hqb : bankP d ≤ 100 := by unfold bankP; have := HD.out.ok.n; omega
  generalize bankP d = qb at *
  have HWQ : Hid (IntKind.i64.wrap ((qb : Int) * 64) = (qb : Int) * 64) := Lib.hid (by rw [IntKind.wrap_i64]; omega)
  cases c3
  case none =>
    simp only [Option.isSome_none] at CGD
    refine wp_region_held_drew (S := (fun W => W.cell? ⟨lb, 0, none⟩ = some (.int .i64 n1) ∧ W.cell? ⟨lb, 1, none⟩ = some (.int .i64 n2) ∧ W.cell? ⟨lb, 2, none⟩ = some (.int .i64 n3))) (by kernel_rfl) ?_ (fun hHeld => ?_)
    · (exact ⟨s0, s1, s2⟩)
    (refine wpAnyH_take (i := 0) (oi := R_Head8_0) (v := ?_) rfl (by kernel_rfl) (by kernel_rfl) (by kernel_rfl) (fun _ _ _ h => h) (Or.inl ⟨by rfl, ?_⟩) (by assumption) ?_; rotate_left; next => (intro w hSw; (try dsimp only at hSw); (try delta R_Head8_0); go_simp; try with_reducible rfl))
    (try simp only [Act.put, List.setIfInBounds_toArray, List.set_cons_zero, List.set_cons_succ])
    refine wpAnyH_ready (rs := [1]) (by kernel_rfl) (by simp) ?_
    refine AllReadyH.cons (o := R_Head8_1) rfl (fun K hK => ?_) AllReadyH.nil
    (try delta R_Head8_1)
    go_simp
    (first | (go_at_call 38; (with_reducible refine (CGD.out w7.drew HDD.out).mono ?_); rintro e wz ⟨rfl, rfl⟩) | (go_at_call 34; (with_reducible refine (CBK.out w7.drew HBD.out).mono ?_); rintro e wz ⟨rfl, rfl⟩))
    (try go_wp2_with fail)
    refine hK.out _ _ ?_ (fun hHeld => ?_)
    · (exact ⟨s0, s1, s2⟩)
    clear hK K
    (try simp only [Act.put, List.setIfInBounds_toArray, List.set_cons_zero, List.set_cons_succ])
    (refine wpAnyH_take (i := 2) (oi := R_Head8_2) (v := ?_) rfl (by kernel_rfl) (by kernel_rfl) (by kernel_rfl) (fun _ _ _ h => h) (Or.inl ⟨by rfl, ?_⟩) (by assumption) ?_; rotate_left; next => (intro w hSw; (try dsimp only at hSw); (try delta R_Head8_2); go_simp; try with_reducible rfl))
    (try simp only [Act.put, List.setIfInBounds_toArray, List.set_cons_zero, List.set_cons_succ])
    first | (refine wpAnyH_take (i := 3) (oi := R_Head8_3) (v := undef) rfl (by kernel_rfl) (by kernel_rfl) (by kernel_rfl) (fun _ _ _ h => h) (Or.inr ⟨by rfl, rfl⟩) (by assumption) ?_) | (refine wpAnyH_take (i := 3) (oi := R_Head8_3) (v := ?_) rfl (by kernel_rfl) (by kernel_rfl) (by kernel_rfl) (fun _ _ _ h => h) (Or.inl ⟨by rfl, ?_⟩) (by assumption) ?_; rotate_left; next => (intro w hSw; (try dsimp only at hSw); (try delta R_Head8_3); go_simp; try with_reducible rfl))
    (try simp only [Act.put, List.setIfInBounds_toArray, List.set_cons_zero, List.set_cons_succ])
    first | (refine wpAnyH_take (i := 4) (oi := R_Head8_4) (v := undef) rfl (by kernel_rfl) (by kernel_rfl) (by kernel_rfl) (fun _ _ _ h => h) (Or.inr ⟨by rfl, rfl⟩) (by assumption) ?_) | (refine wpAnyH_take (i := 4) (oi := R_Head8_4) (v := ?_) rfl (by kernel_rfl) (by kernel_rfl) (by kernel_rfl) (fun _ _ _ h => h) (Or.inl ⟨by rfl, ?_⟩) (by assumption) ?_; rotate_left; next => (intro w hSw; (try dsimp only at hSw); (try delta R_Head8_4); go_simp; try with_reducible rfl))
    (try simp only [Act.put, List.setIfInBounds_toArray, List.set_cons_zero, List.set_cons_succ])
    (refine wpAnyH_take (i := 5) (oi := R_Head8_5) (v := ?_) rfl (by kernel_rfl) (by kernel_rfl) (by kernel_rfl) (fun _ _ _ h => h) (Or.inl ⟨by rfl, ?_⟩) (by assumption) ?_; rotate_left; next => (intro w hSw; (try dsimp only at hSw); (try delta R_Head8_5); go_simp; try with_reducible rfl))
    (try simp only [Act.put, List.setIfInBounds_toArray, List.set_cons_zero, List.set_cons_succ])
    (refine wpAnyH_take (i := 6) (oi := R_Head8_6) (v := ?_) rfl (by kernel_rfl) (by kernel_rfl) (by kernel_rfl) (fun _ _ _ h => h) (Or.inl ⟨by rfl, ?_⟩) (by assumption) ?_; rotate_left; next => (intro w hSw; (try dsimp only at hSw); (try delta R_Head8_6); go_simp; try with_reducible rfl))
    (try simp only [Act.put, List.setIfInBounds_toArray, List.set_cons_zero, List.set_cons_succ])
    first | (refine wpAnyH_take (i := 7) (oi := R_Head8_7) (v := undef) rfl (by kernel_rfl) (by kernel_rfl) (by kernel_rfl) (fun _ _ _ h => h) (Or.inr ⟨by rfl, rfl⟩) (by assumption) ?_) | (refine wpAnyH_take (i := 7) (oi := R_Head8_7) (v := ?_) rfl (by kernel_rfl) (by kernel_rfl) (by kernel_rfl) (fun _ _ _ h => h) (Or.inl ⟨by rfl, ?_⟩) (by assumption) ?_; rotate_left; next => (intro w hSw; (try dsimp only at hSw); (try delta R_Head8_7); go_simp; try with_reducible rfl))
    (try simp only [Act.put, List.setIfInBounds_toArray, List.set_cons_zero, List.set_cons_succ])
    first | (refine wpAnyH_take (i := 8) (oi := R_Head8_8) (v := undef) rfl (by kernel_rfl) (by kernel_rfl) (by kernel_rfl) (fun _ _ _ h => h) (Or.inr ⟨by rfl, rfl⟩) (by assumption) ?_) | (refine wpAnyH_take (i := 8) (oi := R_Head8_8) (v := ?_) rfl (by kernel_rfl) (by kernel_rfl) (by kernel_rfl) (fun _ _ _ h => h) (Or.inl ⟨by rfl, ?_⟩) (by assumption) ?_; rotate_left; next => (intro w hSw; (try dsimp only at hSw); (try delta R_Head8_8); go_simp; try with_reducible rfl))
    (try simp only [Act.put, List.setIfInBounds_toArray, List.set_cons_zero, List.set_cons_succ])
    first | (refine wpAnyH_take (i := 9) (oi := R_Head8_9) (v := undef) rfl (by kernel_rfl) (by kernel_rfl) (by kernel_rfl) (fun _ _ _ h => h) (Or.inr ⟨by rfl, rfl⟩) (by assumption) ?_) | (refine wpAnyH_take (i := 9) (oi := R_Head8_9) (v := ?_) rfl (by kernel_rfl) (by kernel_rfl) (by kernel_rfl) (fun _ _ _ h => h) (Or.inl ⟨by rfl, ?_⟩) (by assumption) ?_; rotate_left; next => (intro w hSw; (try dsimp only at hSw); (try delta R_Head8_9); go_simp; try with_reducible rfl))
    (try simp only [Act.put, List.setIfInBounds_toArray, List.set_cons_zero, List.set_cons_succ])
    (refine wpAnyH_take (i := 10) (oi := R_Head8_10) (v := ?_) rfl (by kernel_rfl) (by kernel_rfl) (by kernel_rfl) (fun _ _ _ h => h) (Or.inl ⟨by rfl, ?_⟩) (by assumption) ?_; rotate_left; next => (intro w hSw; (try dsimp only at hSw); (try delta R_Head8_10); go_simp; try with_reducible rfl))
    (try simp only [Act.put, List.setIfInBounds_toArray, List.set_cons_zero, List.set_cons_succ])
    (refine wpAnyH_take (i := 11) (oi := R_Head8_11) (v := ?_) rfl (by kernel_rfl) (by kernel_rfl) (by kernel_rfl) (fun _ _ _ h => h) (Or.inl ⟨by rfl, ?_⟩) (by assumption) ?_; rotate_left; next => (intro w hSw; (try dsimp only at hSw); (try delta R_Head8_11); go_simp; try with_reducible rfl))
    (try simp only [Act.put, List.setIfInBounds_toArray, List.set_cons_zero, List.set_cons_succ])
    first | (refine wpAnyH_take (i := 12) (oi := R_Head8_12) (v := undef) rfl (by kernel_rfl) (by kernel_rfl) (by kernel_rfl) (fun _ _ _ h => h) (Or.inr ⟨by rfl, rfl⟩) (by assumption) ?_) | (refine wpAnyH_take (i := 12) (oi := R_Head8_12) (v := ?_) rfl (by kernel_rfl) (by kernel_rfl) (by kernel_rfl) (fun _ _ _ h => h) (Or.inl ⟨by rfl, ?_⟩) (by assumption) ?_; rotate_left; next => (intro w hSw; (try dsimp only at hSw); (try delta R_Head8_12); go_simp; try with_reducible rfl))
    (try simp only [Act.put, List.setIfInBounds_toArray, List.set_cons_zero, List.set_cons_succ])
    first | (refine wpAnyH_take (i := 13) (oi := R_Head8_13) (v := undef) rfl (by kernel_rfl) (by kernel_rfl) (by kernel_rfl) (fun _ _ _ h => h) (Or.inr ⟨by rfl, rfl⟩) (by assumption) ?_) | (refine wpAnyH_take (i := 13) (oi := R_Head8_13) (v := ?_) rfl (by kernel_rfl) (by kernel_rfl) (by kernel_rfl) (fun _ _ _ h => h) (Or.inl ⟨by rfl, ?_⟩) (by assumption) ?_; rotate_left; next => (intro w hSw; (try dsimp only at hSw); (try delta R_Head8_13); go_simp; try with_reducible rfl))
    (try simp only [Act.put, List.setIfInBounds_toArray, List.set_cons_zero, List.set_cons_succ])
    first | (refine wpAnyH_take (i := 14) (oi := R_Head8_14) (v := undef) rfl (by kernel_rfl) (by kernel_rfl) (by kernel_rfl) (fun _ _ _ h => h) (Or.inr ⟨by rfl, rfl⟩) (by assumption) ?_) | (refine wpAnyH_take (i := 14) (oi := R_Head8_14) (v := ?_) rfl (by kernel_rfl) (by kernel_rfl) (by kernel_rfl) (fun _ _ _ h => h) (Or.inl ⟨by rfl, ?_⟩) (by assumption) ?_; rotate_left; next => (intro w hSw; (try dsimp only at hSw); (try delta R_Head8_14); go_simp; try with_reducible rfl))
    (try simp only [Act.put, List.setIfInBounds_toArray, List.set_cons_zero, List.set_cons_succ])
    (refine wpAnyH_take (i := 15) (oi := R_Head8_15) (v := ?_) rfl (by kernel_rfl) (by kernel_rfl) (by kernel_rfl) (fun _ _ _ h => h) (Or.inl ⟨by rfl, ?_⟩) (by assumption) ?_; rotate_left; next => (intro w hSw; (try dsimp only at hSw); (try delta R_Head8_15); go_simp; try with_reducible rfl))
    (try simp only [Act.put, List.setIfInBounds_toArray, List.set_cons_zero, List.set_cons_succ])
    (refine wpAnyH_take (i := 16) (oi := R_Head8_16) (v := ?_) rfl (by kernel_rfl) (by kernel_rfl) (by kernel_rfl) (fun _ _ _ h => h) (Or.inl ⟨by rfl, ?_⟩) (by assumption) ?_; rotate_left; next => (intro w hSw; (try dsimp only at hSw); (try delta R_Head8_16); go_simp; try with_reducible rfl))
    (try simp only [Act.put, List.setIfInBounds_toArray, List.set_cons_zero, List.set_cons_succ])
    first | (refine wpAnyH_take (i := 17) (oi := R_Head8_17) (v := undef) rfl (by kernel_rfl) (by kernel_rfl) (by kernel_rfl) (fun _ _ _ h => h) (Or.inr ⟨by rfl, rfl⟩) (by assumption) ?_) | (refine wpAnyH_take (i := 17) (oi := R_Head8_17) (v := ?_) rfl (by kernel_rfl) (by kernel_rfl) (by kernel_rfl) (fun _ _ _ h => h) (Or.inl ⟨by rfl, ?_⟩) (by assumption) ?_; rotate_left; next => (intro w hSw; (try dsimp only at hSw); (try delta R_Head8_17); go_simp; try with_reducible rfl))
    (try simp only [Act.put, List.setIfInBounds_toArray, List.set_cons_zero, List.set_cons_succ])
    first | (refine wpAnyH_take (i := 18) (oi := R_Head8_18) (v := undef) rfl (by kernel_rfl) (by kernel_rfl) (by kernel_rfl) (fun _ _ _ h => h) (Or.inr ⟨by rfl, rfl⟩) (by assumption) ?_) | (refine wpAnyH_take (i := 18) (oi := R_Head8_18) (v := ?_) rfl (by kernel_rfl) (by kernel_rfl) (by kernel_rfl) (fun _ _ _ h => h) (Or.inl ⟨by rfl, ?_⟩) (by assumption) ?_; rotate_left; next => (intro w hSw; (try dsimp only at hSw); (try delta R_Head8_18); go_simp; try with_reducible rfl))
    (try simp only [Act.put, List.setIfInBounds_toArray, List.set_cons_zero, List.set_cons_succ])
    first | (refine wpAnyH_take (i := 19) (oi := R_Head8_19) (v := undef) rfl (by kernel_rfl) (by kernel_rfl) (by kernel_rfl) (fun _ _ _ h => h) (Or.inr ⟨by rfl, rfl⟩) (by assumption) ?_) | (refine wpAnyH_take (i := 19) (oi := R_Head8_19) (v := ?_) rfl (by kernel_rfl) (by kernel_rfl) (by kernel_rfl) (fun _ _ _ h => h) (Or.inl ⟨by rfl, ?_⟩) (by assumption) ?_; rotate_left; next => (intro w hSw; (try dsimp only at hSw); (try delta R_Head8_19); go_simp; try with_reducible rfl))
    (try simp only [Act.put, List.setIfInBounds_toArray, List.set_cons_zero, List.set_cons_succ])
    first | (refine wpAnyH_take (i := 20) (oi := R_Head8_20) (v := undef) rfl (by kernel_rfl) (by kernel_rfl) (by kernel_rfl) (fun _ _ _ h => h) (Or.inr ⟨by rfl, rfl⟩) (by assumption) ?_) | (refine wpAnyH_take (i := 20) (oi := R_Head8_20) (v := ?_) rfl (by kernel_rfl) (by kernel_rfl) (by kernel_rfl) (fun _ _ _ h => h) (Or.inl ⟨by rfl, ?_⟩) (by assumption) ?_; rotate_left; next => (intro w hSw; (try dsimp only at hSw); (try delta R_Head8_20); go_simp; try with_reducible rfl))
    (try simp only [Act.put, List.setIfInBounds_toArray, List.set_cons_zero, List.set_cons_succ])
    first | (refine wpAnyH_take (i := 21) (oi := R_Head8_21) (v := undef) rfl (by kernel_rfl) (by kernel_rfl) (by kernel_rfl) (fun _ _ _ h => h) (Or.inr ⟨by rfl, rfl⟩) (by assumption) ?_) | (refine wpAnyH_take (i := 21) (oi := R_Head8_21) (v := ?_) rfl (by kernel_rfl) (by kernel_rfl) (by kernel_rfl) (fun _ _ _ h => h) (Or.inl ⟨by rfl, ?_⟩) (by assumption) ?_; rotate_left; next => (intro w hSw; (try dsimp only at hSw); (try delta R_Head8_21); go_simp; try with_reducible rfl))
    (try simp only [Act.put, List.setIfInBounds_toArray, List.set_cons_zero, List.set_cons_succ])
    first | (refine wpAnyH_take (i := 22) (oi := R_Head8_22) (v := undef) rfl (by kernel_rfl) (by kernel_rfl) (by kernel_rfl) (fun _ _ _ h => h) (Or.inr ⟨by rfl, rfl⟩) (by assumption) ?_) | (refine wpAnyH_take (i := 22) (oi := R_Head8_22) (v := ?_) rfl (by kernel_rfl) (by kernel_rfl) (by kernel_rfl) (fun _ _ _ h => h) (Or.inl ⟨by rfl, ?_⟩) (by assumption) ?_; rotate_left; next => (intro w hSw; (try dsimp only at hSw); (try delta R_Head8_22); go_simp; try with_reducible rfl))
    (try simp only [Act.put, List.setIfInBounds_toArray, List.set_cons_zero, List.set_cons_succ])
    first | (refine wpAnyH_take (i := 23) (oi := R_Head8_23) (v := undef) rfl (by kernel_rfl) (by kernel_rfl) (by kernel_rfl) (fun _ _ _ h => h) (Or.inr ⟨by rfl, rfl⟩) (by assumption) ?_) | (refine wpAnyH_take (i := 23) (oi := R_Head8_23) (v := ?_) rfl (by kernel_rfl) (by kernel_rfl) (by kernel_rfl) (fun _ _ _ h => h) (Or.inl ⟨by rfl, ?_⟩) (by assumption) ?_; rotate_left; next => (intro w hSw; (try dsimp only at hSw); (try delta R_Head8_23); go_simp; try with_reducible rfl))
    (try simp only [Act.put, List.setIfInBounds_toArray, List.set_cons_zero, List.set_cons_succ])
    first | (refine wpAnyH_take (i := 24) (oi := R_Head8_24) (v := undef) rfl (by kernel_rfl) (by kernel_rfl) (by kernel_rfl) (fun _ _ _ h => h) (Or.inr ⟨by rfl, rfl⟩) (by assumption) ?_) | (refine wpAnyH_take (i := 24) (oi := R_Head8_24) (v := ?_) rfl (by kernel_rfl) (by kernel_rfl) (by kernel_rfl) (fun _ _ _ h => h) (Or.inl ⟨by rfl, ?_⟩) (by assumption) ?_; rotate_left; next => (intro w hSw; (try dsimp only at hSw); (try delta R_Head8_24); go_simp; try with_reducible rfl))
    (try simp only [Act.put, List.setIfInBounds_toArray, List.set_cons_zero, List.set_cons_succ])
    (refine wpAnyH_take (i := 25) (oi := R_Head8_25) (v := ?_) rfl (by kernel_rfl) (by kernel_rfl) (by kernel_rfl) (fun _ _ _ h => h) (Or.inl ⟨by rfl, ?_⟩) (by assumption) ?_; rotate_left; next => (intro w hSw; (try dsimp only at hSw); (try delta R_Head8_25); go_simp; try with_reducible rfl))
    (try simp only [Act.put, List.setIfInBounds_toArray, List.set_cons_zero, List.set_cons_succ])
    (refine wpAnyH_take (i := 26) (oi := R_Head8_26) (v := ?_) rfl (by kernel_rfl) (by kernel_rfl) (by kernel_rfl) (fun _ _ _ h => h) (Or.inl ⟨by rfl, ?_⟩) (by assumption) ?_; rotate_left; next => (intro w hSw; (try dsimp only at hSw); (try delta R_Head8_26); go_simp; try with_reducible rfl))
    (try simp only [Act.put, List.setIfInBounds_toArray, List.set_cons_zero, List.set_cons_succ])
    first | (refine wpAnyH_take (i := 27) (oi := R_Head8_27) (v := undef) rfl (by kernel_rfl) (by kernel_rfl) (by kernel_rfl) (fun _ _ _ h => h) (Or.inr ⟨by rfl, rfl⟩) (by assumption) ?_) | (refine wpAnyH_take (i := 27) (oi := R_Head8_27) (v := ?_) rfl (by kernel_rfl) (by kernel_rfl) (by kernel_rfl) (fun _ _ _ h => h) (Or.inl ⟨by rfl, ?_⟩) (by assumption) ?_; rotate_left; next => (intro w hSw; (try dsimp only at hSw); (try delta R_Head8_27); go_simp; try with_reducible rfl))
    (try simp only [Act.put, List.setIfInBounds_toArray, List.set_cons_zero, List.set_cons_succ])
    first | (refine wpAnyH_take (i := 28) (oi := R_Head8_28) (v := undef) rfl (by kernel_rfl) (by kernel_rfl) (by kernel_rfl) (fun _ _ _ h => h) (Or.inr ⟨by rfl, rfl⟩) (by assumption) ?_) | (refine wpAnyH_take (i := 28) (oi := R_Head8_28) (v := ?_) rfl (by kernel_rfl) (by kernel_rfl) (by kernel_rfl) (fun _ _ _ h => h) (Or.inl ⟨by rfl, ?_⟩) (by assumption) ?_; rotate_left; next => (intro w hSw; (try dsimp only at hSw); (try delta R_Head8_28); go_simp; try with_reducible rfl))
    (try simp only [Act.put, List.setIfInBounds_toArray, List.set_cons_zero, List.set_cons_succ])
    first | (refine wpAnyH_take (i := 29) (oi := R_Head8_29) (v := undef) rfl (by kernel_rfl) (by kernel_rfl) (by kernel_rfl) (fun _ _ _ h => h) (Or.inr ⟨by rfl, rfl⟩) (by assumption) ?_) | (refine wpAnyH_take (i := 29) (oi := R_Head8_29) (v := ?_) rfl (by kernel_rfl) (by kernel_rfl) (by kernel_rfl) (fun _ _ _ h => h) (Or.inl ⟨by rfl, ?_⟩) (by assumption) ?_; rotate_left; next => (intro w hSw; (try dsimp only at hSw); (try delta R_Head8_29); go_simp; try with_reducible rfl))
    (try simp only [Act.put, List.setIfInBounds_toArray, List.set_cons_zero, List.set_cons_succ])
    (refine wpAnyH_take (i := 30) (oi := R_Head8_30) (v := ?_) rfl (by kernel_rfl) (by kernel_rfl) (by kernel_rfl) (fun _ _ _ h => h) (Or.inl ⟨by rfl, ?_⟩) (by assumption) ?_; rotate_left; next => (intro w hSw; (try dsimp only at hSw); (try delta R_Head8_30); go_simp; try with_reducible rfl))
    (try simp only [Act.put, List.setIfInBounds_toArray, List.set_cons_zero, List.set_cons_succ])
    (refine wpAnyH_take (i := 31) (oi := R_Head8_31) (v := ?_) rfl (by kernel_rfl) (by kernel_rfl) (by kernel_rfl) (fun _ _ _ h => h) (Or.inl ⟨by rfl, ?_⟩) (by assumption) ?_; rotate_left; next => (intro w hSw; (try dsimp only at hSw); (try delta R_Head8_31); go_simp; try with_reducible rfl))
    (try simp only [Act.put, List.setIfInBounds_toArray, List.set_cons_zero, List.set_cons_succ])
    first | (refine wpAnyH_take (i := 32) (oi := R_Head8_32) (v := undef) rfl (by kernel_rfl) (by kernel_rfl) (by kernel_rfl) (fun _ _ _ h => h) (Or.inr ⟨by rfl, rfl⟩) (by assumption) ?_) | (refine wpAnyH_take (i := 32) (oi := R_Head8_32) (v := ?_) rfl (by kernel_rfl) (by kernel_rfl) (by kernel_rfl) (fun _ _ _ h => h) (Or.inl ⟨by rfl, ?_⟩) (by assumption) ?_; rotate_left; next => (intro w hSw; (try dsimp only at hSw); (try delta R_Head8_32); go_simp; try with_reducible rfl))
    (try simp only [Act.put, List.setIfInBounds_toArray, List.set_cons_zero, List.set_cons_succ])
    first | (refine wpAnyH_take (i := 33) (oi := R_Head8_33) (v := undef) rfl (by kernel_rfl) (by kernel_rfl) (by kernel_rfl) (fun _ _ _ h => h) (Or.inr ⟨by rfl, rfl⟩) (by assumption) ?_) | (refine wpAnyH_take (i := 33) (oi := R_Head8_33) (v := ?_) rfl (by kernel_rfl) (by kernel_rfl) (by kernel_rfl) (fun _ _ _ h => h) (Or.inl ⟨by rfl, ?_⟩) (by assumption) ?_; rotate_left; next => (intro w hSw; (try dsimp only at hSw); (try delta R_Head8_33); go_simp; try with_reducible rfl))
    (try simp only [Act.put, List.setIfInBounds_toArray, List.set_cons_zero, List.set_cons_succ])
    first | (refine wpAnyH_take (i := 34) (oi := R_Head8_34) (v := undef) rfl (by kernel_rfl) (by kernel_rfl) (by kernel_rfl) (fun _ _ _ h => h) (Or.inr ⟨by rfl, rfl⟩) (by assumption) ?_) | (refine wpAnyH_take (i := 34) (oi := R_Head8_34) (v := ?_) rfl (by kernel_rfl) (by kernel_rfl) (by kernel_rfl) (fun _ _ _ h => h) (Or.inl ⟨by rfl, ?_⟩) (by assumption) ?_; rotate_left; next => (intro w hSw; (try dsimp only at hSw); (try delta R_Head8_34); go_simp; try with_reducible rfl))
    (try simp only [Act.put, List.setIfInBounds_toArray, List.set_cons_zero, List.set_cons_succ])
    first
    | (refine wpAnyH_take (i := 35) (oi := R_Head8_35) (v := undef) rfl (by kernel_rfl) (by kernel_rfl) (by kernel_rfl) (fun _ _ _ h => h) (Or.inr ⟨by rfl, rfl⟩) (by assumption) ?_
       (try simp only [Act.put, List.setIfInBounds_toArray, List.set_cons_zero, List.set_cons_succ]))
    | (refine wpAnyH_ready (rs := [35]) (by kernel_rfl) (by simp) ?_
       refine AllReadyH.cons (o := R_Head8_35) rfl (fun K hK => ?_) AllReadyH.nil
       (try delta R_Head8_35)
       go_simp
       (first | (go_at_call 38; (with_reducible refine (CGD.out w7.drew HDD.out).mono ?_); rintro e wz ⟨rfl, rfl⟩) | (go_at_call 34; (with_reducible refine (CBK.out w7.drew HBD.out).mono ?_); rintro e wz ⟨rfl, rfl⟩))
       (try go_wp2_with fail)
       refine hK.out _ _ ?_ (fun hHeld => ?_)
       · (exact ⟨s0, s1, s2⟩)
       clear hK K
       (try simp only [Act.put, List.setIfInBounds_toArray, List.set_cons_zero, List.set_cons_succ]))
    first | (refine wpAnyH_take (i := 36) (oi := R_Head8_36) (v := undef) rfl (by kernel_rfl) (by kernel_rfl) (by kernel_rfl) (fun _ _ _ h => h) (Or.inr ⟨by rfl, rfl⟩) (by assumption) ?_) | (refine wpAnyH_take (i := 36) (oi := R_Head8_36) (v := ?_) rfl (by kernel_rfl) (by kernel_rfl) (by kernel_rfl) (fun _ _ _ h => h) (Or.inl ⟨by rfl, ?_⟩) (by assumption) ?_; rotate_left; next => (intro w hSw; (try dsimp only at hSw); (try delta R_Head8_36); go_simp; try with_reducible rfl))
    (try simp only [Act.put, List.setIfInBounds_toArray, List.set_cons_zero, List.set_cons_succ])
    first | (refine wpAnyH_take (i := 37) (oi := R_Head8_37) (v := undef) rfl (by kernel_rfl) (by kernel_rfl) (by kernel_rfl) (fun _ _ _ h => h) (Or.inr ⟨by rfl, rfl⟩) (by assumption) ?_) | (refine wpAnyH_take (i := 37) (oi := R_Head8_37) (v := ?_) rfl (by kernel_rfl) (by kernel_rfl) (by kernel_rfl) (fun _ _ _ h => h) (Or.inl ⟨by rfl, ?_⟩) (by assumption) ?_; rotate_left; next => (intro w hSw; (try dsimp only at hSw); (try delta R_Head8_37); go_simp; try with_reducible rfl))
    (try simp only [Act.put, List.setIfInBounds_toArray, List.set_cons_zero, List.set_cons_succ])
    (refine wpAnyH_take (i := 38) (oi := R_Head8_38) (v := ?_) rfl (by kernel_rfl) (by kernel_rfl) (by kernel_rfl) (fun _ _ _ h => h) (Or.inl ⟨by rfl, ?_⟩) (by assumption) ?_; rotate_left; next => (intro w hSw; (try dsimp only at hSw); (try delta R_Head8_38); go_simp; try with_reducible rfl))
    (try simp only [Act.put, List.setIfInBounds_toArray, List.set_cons_zero, List.set_cons_succ])
    (refine wpAnyH_take (i := 39) (oi := R_Head8_39) (v := ?_) rfl (by kernel_rfl) (by kernel_rfl) (by kernel_rfl) (fun _ _ _ h => h) (Or.inl ⟨by rfl, ?_⟩) (by assumption) ?_; rotate_left; next => (intro w hSw; (try dsimp only at hSw); (try delta R_Head8_39); go_simp; try with_reducible rfl))
    (try simp only [Act.put, List.setIfInBounds_toArray, List.set_cons_zero, List.set_cons_succ])
    refine wpAnyH_done (by kernel_rfl) ?_ _
    go_wp2_with fail
    refine bodyPost_ret (results_row_tmpH rfl _ _ w.heap.size 67 #[_, _, _] (0, 0) _ rfl HE.out.1 Tryd.underlying67 rfl infoHead) rfl ?_
    exact ⟨by rw [HX.out]; dsimp only; rw [HOK.out]; simp [HD3.val], HE.out.2⟩
  rename_i l3
  simp only [Option.isSome_some] at CGD
  cases T
  case cons tx tr =>
    refine wp_region_held_drew (S := (fun W => W.cell? ⟨lb, 0, none⟩ = some (.int .i64 n1) ∧ W.cell? ⟨lb, 1, none⟩ = some (.int .i64 n2) ∧ W.cell? ⟨lb, 2, none⟩ = some (.int .i64 n3))) (by kernel_rfl) ?_ (fun hHeld => ?_)
    · (exact ⟨s0, s1, s2⟩)
    (refine wpAnyH_take (i := 0) (oi := R_Head8_0) (v := ?_) rfl (by kernel_rfl) (by kernel_rfl) (by kernel_rfl) (fun _ _ _ h => h) (Or.inl ⟨by rfl, ?_⟩) (by assumption) ?_; rotate_left; next => (intro w hSw; (try dsimp only at hSw); (try delta R_Head8_0); go_simp; try with_reducible rfl))
    (try simp only [Act.put, List.setIfInBounds_toArray, List.set_cons_zero, List.set_cons_succ])
    refine wpAnyH_ready (rs := [1]) (by kernel_rfl) (by simp) ?_
    refine AllReadyH.cons (o := R_Head8_1) rfl (fun K hK => ?_) AllReadyH.nil
    (try delta R_Head8_1)
    go_simp
    (first | (go_at_call 38; (with_reducible refine (CGD.out w7.drew HDD.out).mono ?_); rintro e wz ⟨rfl, rfl⟩) | (go_at_call 34; (with_reducible refine (CBK.out w7.drew HBD.out).mono ?_); rintro e wz ⟨rfl, rfl⟩))
    (try go_wp2_with fail)
    refine hK.out _ _ ?_ (fun hHeld => ?_)
    · (exact ⟨s0, s1, s2⟩)
    clear hK K
    (try simp only [Act.put, List.setIfInBounds_toArray, List.set_cons_zero, List.set_cons_succ])
    (refine wpAnyH_take (i := 2) (oi := R_Head8_2) (v := ?_) rfl (by kernel_rfl) (by kernel_rfl) (by kernel_rfl) (fun _ _ _ h => h) (Or.inl ⟨by rfl, ?_⟩) (by assumption) ?_; rotate_left; next => (intro w hSw; (try dsimp only at hSw); (try delta R_Head8_2); go_simp; try with_reducible rfl))
    (try simp only [Act.put, List.setIfInBounds_toArray, List.set_cons_zero, List.set_cons_succ])
    first | (refine wpAnyH_take (i := 3) (oi := R_Head8_3) (v := undef) rfl (by kernel_rfl) (by kernel_rfl) (by kernel_rfl) (fun _ _ _ h => h) (Or.inr ⟨by rfl, rfl⟩) (by assumption) ?_) | (refine wpAnyH_take (i := 3) (oi := R_Head8_3) (v := ?_) rfl (by kernel_rfl) (by kernel_rfl) (by kernel_rfl) (fun _ _ _ h => h) (Or.inl ⟨by rfl, ?_⟩) (by assumption) ?_; rotate_left; next => (intro w hSw; (try dsimp only at hSw); (try delta R_Head8_3); go_simp; try with_reducible rfl))
    (try simp only [Act.put, List.setIfInBounds_toArray, List.set_cons_zero, List.set_cons_succ])
    first | (refine wpAnyH_take (i := 4) (oi := R_Head8_4) (v := undef) rfl (by kernel_rfl) (by kernel_rfl) (by kernel_rfl) (fun _ _ _ h => h) (Or.inr ⟨by rfl, rfl⟩) (by assumption) ?_) | (refine wpAnyH_take (i := 4) (oi := R_Head8_4) (v := ?_) rfl (by kernel_rfl) (by kernel_rfl) (by kernel_rfl) (fun _ _ _ h => h) (Or.inl ⟨by rfl, ?_⟩) (by assumption) ?_; rotate_left; next => (intro w hSw; (try dsimp only at hSw); (try delta R_Head8_4); go_simp; try with_reducible rfl))
    (try simp only [Act.put, List.setIfInBounds_toArray, List.set_cons_zero, List.set_cons_succ])
    (refine wpAnyH_take (i := 5) (oi := R_Head8_5) (v := ?_) rfl (by kernel_rfl) (by kernel_rfl) (by kernel_rfl) (fun _ _ _ h => h) (Or.inl ⟨by rfl, ?_⟩) (by assumption) ?_; rotate_left; next => (intro w hSw; (try dsimp only at hSw); (try delta R_Head8_5); go_simp; try with_reducible rfl))
    (try simp only [Act.put, List.setIfInBounds_toArray, List.set_cons_zero, List.set_cons_succ])
    (refine wpAnyH_take (i := 6) (oi := R_Head8_6) (v := ?_) rfl (by kernel_rfl) (by kernel_rfl) (by kernel_rfl) (fun _ _ _ h => h) (Or.inl ⟨by rfl, ?_⟩) (by assumption) ?_; rotate_left; next => (intro w hSw; (try dsimp only at hSw); (try delta R_Head8_6); go_simp; try with_reducible rfl))
    (try simp only [Act.put, List.setIfInBounds_toArray, List.set_cons_zero, List.set_cons_succ])
    first | (refine wpAnyH_take (i := 7) (oi := R_Head8_7) (v := undef) rfl (by kernel_rfl) (by kernel_rfl) (by kernel_rfl) (fun _ _ _ h => h) (Or.inr ⟨by rfl, rfl⟩) (by assumption) ?_) | (refine wpAnyH_take (i := 7) (oi := R_Head8_7) (v := ?_) rfl (by kernel_rfl) (by kernel_rfl) (by kernel_rfl) (fun _ _ _ h => h) (Or.inl ⟨by rfl, ?_⟩) (by assumption) ?_; rotate_left; next => (intro w hSw; (try dsimp only at hSw); (try delta R_Head8_7); go_simp; try with_reducible rfl))
    (try simp only [Act.put, List.setIfInBounds_toArray, List.set_cons_zero, List.set_cons_succ])
    first | (refine wpAnyH_take (i := 8) (oi := R_Head8_8) (v := undef) rfl (by kernel_rfl) (by kernel_rfl) (by kernel_rfl) (fun _ _ _ h => h) (Or.inr ⟨by rfl, rfl⟩) (by assumption) ?_) | (refine wpAnyH_take (i := 8) (oi := R_Head8_8) (v := ?_) rfl (by kernel_rfl) (by kernel_rfl) (by kernel_rfl) (fun _ _ _ h => h) (Or.inl ⟨by rfl, ?_⟩) (by assumption) ?_; rotate_left; next => (intro w hSw; (try dsimp only at hSw); (try delta R_Head8_8); go_simp; try with_reducible rfl))
    (try simp only [Act.put, List.setIfInBounds_toArray, List.set_cons_zero, List.set_cons_succ])
    first | (refine wpAnyH_take (i := 9) (oi := R_Head8_9) (v := undef) rfl (by kernel_rfl) (by kernel_rfl) (by kernel_rfl) (fun _ _ _ h => h) (Or.inr ⟨by rfl, rfl⟩) (by assumption) ?_) | (refine wpAnyH_take (i := 9) (oi := R_Head8_9) (v := ?_) rfl (by kernel_rfl) (by kernel_rfl) (by kernel_rfl) (fun _ _ _ h => h) (Or.inl ⟨by rfl, ?_⟩) (by assumption) ?_; rotate_left; next => (intro w hSw; (try dsimp only at hSw); (try delta R_Head8_9); go_simp; try with_reducible rfl))
    (try simp only [Act.put, List.setIfInBounds_toArray, List.set_cons_zero, List.set_cons_succ])
    (refine wpAnyH_take (i := 10) (oi := R_Head8_10) (v := ?_) rfl (by kernel_rfl) (by kernel_rfl) (by kernel_rfl) (fun _ _ _ h => h) (Or.inl ⟨by rfl, ?_⟩) (by assumption) ?_; rotate_left; next => (intro w hSw; (try dsimp only at hSw); (try delta R_Head8_10); go_simp; try with_reducible rfl))
    (try simp only [Act.put, List.setIfInBounds_toArray, List.set_cons_zero, List.set_cons_succ])
    (refine wpAnyH_take (i := 11) (oi := R_Head8_11) (v := ?_) rfl (by kernel_rfl) (by kernel_rfl) (by kernel_rfl) (fun _ _ _ h => h) (Or.inl ⟨by rfl, ?_⟩) (by assumption) ?_; rotate_left; next => (intro w hSw; (try dsimp only at hSw); (try delta R_Head8_11); go_simp; try with_reducible rfl))
    (try simp only [Act.put, List.setIfInBounds_toArray, List.set_cons_zero, List.set_cons_succ])
    first | (refine wpAnyH_take (i := 12) (oi := R_Head8_12) (v := undef) rfl (by kernel_rfl) (by kernel_rfl) (by kernel_rfl) (fun _ _ _ h => h) (Or.inr ⟨by rfl, rfl⟩) (by assumption) ?_) | (refine wpAnyH_take (i := 12) (oi := R_Head8_12) (v := ?_) rfl (by kernel_rfl) (by kernel_rfl) (by kernel_rfl) (fun _ _ _ h => h) (Or.inl ⟨by rfl, ?_⟩) (by assumption) ?_; rotate_left; next => (intro w hSw; (try dsimp only at hSw); (try delta R_Head8_12); go_simp; try with_reducible rfl))
    (try simp only [Act.put, List.setIfInBounds_toArray, List.set_cons_zero, List.set_cons_succ])
    first | (refine wpAnyH_take (i := 13) (oi := R_Head8_13) (v := undef) rfl (by kernel_rfl) (by kernel_rfl) (by kernel_rfl) (fun _ _ _ h => h) (Or.inr ⟨by rfl, rfl⟩) (by assumption) ?_) | (refine wpAnyH_take (i := 13) (oi := R_Head8_13) (v := ?_) rfl (by kernel_rfl) (by kernel_rfl) (by kernel_rfl) (fun _ _ _ h => h) (Or.inl ⟨by rfl, ?_⟩) (by assumption) ?_; rotate_left; next => (intro w hSw; (try dsimp only at hSw); (try delta R_Head8_13); go_simp; try with_reducible rfl))
    (try simp only [Act.put, List.setIfInBounds_toArray, List.set_cons_zero, List.set_cons_succ])
    first | (refine wpAnyH_take (i := 14) (oi := R_Head8_14) (v := undef) rfl (by kernel_rfl) (by kernel_rfl) (by kernel_rfl) (fun _ _ _ h => h) (Or.inr ⟨by rfl, rfl⟩) (by assumption) ?_) | (refine wpAnyH_take (i := 14) (oi := R_Head8_14) (v := ?_) rfl (by kernel_rfl) (by kernel_rfl) (by kernel_rfl) (fun _ _ _ h => h) (Or.inl ⟨by rfl, ?_⟩) (by assumption) ?_; rotate_left; next => (intro w hSw; (try dsimp only at hSw); (try delta R_Head8_14); go_simp; try with_reducible rfl))
    (try simp only [Act.put, List.setIfInBounds_toArray, List.set_cons_zero, List.set_cons_succ])
    (refine wpAnyH_take (i := 15) (oi := R_Head8_15) (v := ?_) rfl (by kernel_rfl) (by kernel_rfl) (by kernel_rfl) (fun _ _ _ h => h) (Or.inl ⟨by rfl, ?_⟩) (by assumption) ?_; rotate_left; next => (intro w hSw; (try dsimp only at hSw); (try delta R_Head8_15); go_simp; try with_reducible rfl))
    (try simp only [Act.put, List.setIfInBounds_toArray, List.set_cons_zero, List.set_cons_succ])
    (refine wpAnyH_take (i := 16) (oi := R_Head8_16) (v := ?_) rfl (by kernel_rfl) (by kernel_rfl) (by kernel_rfl) (fun _ _ _ h => h) (Or.inl ⟨by rfl, ?_⟩) (by assumption) ?_; rotate_left; next => (intro w hSw; (try dsimp only at hSw); (try delta R_Head8_16); go_simp; try with_reducible rfl))
    (try simp only [Act.put, List.setIfInBounds_toArray, List.set_cons_zero, List.set_cons_succ])
    first | (refine wpAnyH_take (i := 17) (oi := R_Head8_17) (v := undef) rfl (by kernel_rfl) (by kernel_rfl) (by kernel_rfl) (fun _ _ _ h => h) (Or.inr ⟨by rfl, rfl⟩) (by assumption) ?_) | (refine wpAnyH_take (i := 17) (oi := R_Head8_17) (v := ?_) rfl (by kernel_rfl) (by kernel_rfl) (by kernel_rfl) (fun _ _ _ h => h) (Or.inl ⟨by rfl, ?_⟩) (by assumption) ?_; rotate_left; next => (intro w hSw; (try dsimp only at hSw); (try delta R_Head8_17); go_simp; try with_reducible rfl))
    (try simp only [Act.put, List.setIfInBounds_toArray, List.set_cons_zero, List.set_cons_succ])
    first | (refine wpAnyH_take (i := 18) (oi := R_Head8_18) (v := undef) rfl (by kernel_rfl) (by kernel_rfl) (by kernel_rfl) (fun _ _ _ h => h) (Or.inr ⟨by rfl, rfl⟩) (by assumption) ?_) | (refine wpAnyH_take (i := 18) (oi := R_Head8_18) (v := ?_) rfl (by kernel_rfl) (by kernel_rfl) (by kernel_rfl) (fun _ _ _ h => h) (Or.inl ⟨by rfl, ?_⟩) (by assumption) ?_; rotate_left; next => (intro w hSw; (try dsimp only at hSw); (try delta R_Head8_18); go_simp; try with_reducible rfl))
    (try simp only [Act.put, List.setIfInBounds_toArray, List.set_cons_zero, List.set_cons_succ])
    first | (refine wpAnyH_take (i := 19) (oi := R_Head8_19) (v := undef) rfl (by kernel_rfl) (by kernel_rfl) (by kernel_rfl) (fun _ _ _ h => h) (Or.inr ⟨by rfl, rfl⟩) (by assumption) ?_) | (refine wpAnyH_take (i := 19) (oi := R_Head8_19) (v := ?_) rfl (by kernel_rfl) (by kernel_rfl) (by kernel_rfl) (fun _ _ _ h => h) (Or.inl ⟨by rfl, ?_⟩) (by assumption) ?_; rotate_left; next => (intro w hSw; (try dsimp only at hSw); (try delta R_Head8_19); go_simp; try with_reducible rfl))
    (try simp only [Act.put, List.setIfInBounds_toArray, List.set_cons_zero, List.set_cons_succ])
    first | (refine wpAnyH_take (i := 20) (oi := R_Head8_20) (v := undef) rfl (by kernel_rfl) (by kernel_rfl) (by kernel_rfl) (fun _ _ _ h => h) (Or.inr ⟨by rfl, rfl⟩) (by assumption) ?_) | (refine wpAnyH_take (i := 20) (oi := R_Head8_20) (v := ?_) rfl (by kernel_rfl) (by kernel_rfl) (by kernel_rfl) (fun _ _ _ h => h) (Or.inl ⟨by rfl, ?_⟩) (by assumption) ?_; rotate_left; next => (intro w hSw; (try dsimp only at hSw); (try delta R_Head8_20); go_simp; try with_reducible rfl))
    (try simp only [Act.put, List.setIfInBounds_toArray, List.set_cons_zero, List.set_cons_succ])
    first | (refine wpAnyH_take (i := 21) (oi := R_Head8_21) (v := undef) rfl (by kernel_rfl) (by kernel_rfl) (by kernel_rfl) (fun _ _ _ h => h) (Or.inr ⟨by rfl, rfl⟩) (by assumption) ?_) | (refine wpAnyH_take (i := 21) (oi := R_Head8_21) (v := ?_) rfl (by kernel_rfl) (by kernel_rfl) (by kernel_rfl) (fun _ _ _ h => h) (Or.inl ⟨by rfl, ?_⟩) (by assumption) ?_; rotate_left; next => (intro w hSw; (try dsimp only at hSw); (try delta R_Head8_21); go_simp; try with_reducible rfl))
    (try simp only [Act.put, List.setIfInBounds_toArray, List.set_cons_zero, List.set_cons_succ])
    first | (refine wpAnyH_take (i := 22) (oi := R_Head8_22) (v := undef) rfl (by kernel_rfl) (by kernel_rfl) (by kernel_rfl) (fun _ _ _ h => h) (Or.inr ⟨by rfl, rfl⟩) (by assumption) ?_) | (refine wpAnyH_take (i := 22) (oi := R_Head8_22) (v := ?_) rfl (by kernel_rfl) (by kernel_rfl) (by kernel_rfl) (fun _ _ _ h => h) (Or.inl ⟨by rfl, ?_⟩) (by assumption) ?_; rotate_left; next => (intro w hSw; (try dsimp only at hSw); (try delta R_Head8_22); go_simp; try with_reducible rfl))
    (try simp only [Act.put, List.setIfInBounds_toArray, List.set_cons_zero, List.set_cons_succ])
    first | (refine wpAnyH_take (i := 23) (oi := R_Head8_23) (v := undef) rfl (by kernel_rfl) (by kernel_rfl) (by kernel_rfl) (fun _ _ _ h => h) (Or.inr ⟨by rfl, rfl⟩) (by assumption) ?_) | (refine wpAnyH_take (i := 23) (oi := R_Head8_23) (v := ?_) rfl (by kernel_rfl) (by kernel_rfl) (by kernel_rfl) (fun _ _ _ h => h) (Or.inl ⟨by rfl, ?_⟩) (by assumption) ?_; rotate_left; next => (intro w hSw; (try dsimp only at hSw); (try delta R_Head8_23); go_simp; try with_reducible rfl))
    (try simp only [Act.put, List.setIfInBounds_toArray, List.set_cons_zero, List.set_cons_succ])
    first | (refine wpAnyH_take (i := 24) (oi := R_Head8_24) (v := undef) rfl (by kernel_rfl) (by kernel_rfl) (by kernel_rfl) (fun _ _ _ h => h) (Or.inr ⟨by rfl, rfl⟩) (by assumption) ?_) | (refine wpAnyH_take (i := 24) (oi := R_Head8_24) (v := ?_) rfl (by kernel_rfl) (by kernel_rfl) (by kernel_rfl) (fun _ _ _ h => h) (Or.inl ⟨by rfl, ?_⟩) (by assumption) ?_; rotate_left; next => (intro w hSw; (try dsimp only at hSw); (try delta R_Head8_24); go_simp; try with_reducible rfl))
    (try simp only [Act.put, List.setIfInBounds_toArray, List.set_cons_zero, List.set_cons_succ])
    (refine wpAnyH_take (i := 25) (oi := R_Head8_25) (v := ?_) rfl (by kernel_rfl) (by kernel_rfl) (by kernel_rfl) (fun _ _ _ h => h) (Or.inl ⟨by rfl, ?_⟩) (by assumption) ?_; rotate_left; next => (intro w hSw; (try dsimp only at hSw); (try delta R_Head8_25); go_simp; try with_reducible rfl))
    (try simp only [Act.put, List.setIfInBounds_toArray, List.set_cons_zero, List.set_cons_succ])
    (refine wpAnyH_take (i := 26) (oi := R_Head8_26) (v := ?_) rfl (by kernel_rfl) (by kernel_rfl) (by kernel_rfl) (fun _ _ _ h => h) (Or.inl ⟨by rfl, ?_⟩) (by assumption) ?_; rotate_left; next => (intro w hSw; (try dsimp only at hSw); (try delta R_Head8_26); go_simp; try with_reducible rfl))
    (try simp only [Act.put, List.setIfInBounds_toArray, List.set_cons_zero, List.set_cons_succ])
    first | (refine wpAnyH_take (i := 27) (oi := R_Head8_27) (v := undef) rfl (by kernel_rfl) (by kernel_rfl) (by kernel_rfl) (fun _ _ _ h => h) (Or.inr ⟨by rfl, rfl⟩) (by assumption) ?_) | (refine wpAnyH_take (i := 27) (oi := R_Head8_27) (v := ?_) rfl (by kernel_rfl) (by kernel_rfl) (by kernel_rfl) (fun _ _ _ h => h) (Or.inl ⟨by rfl, ?_⟩) (by assumption) ?_; rotate_left; next => (intro w hSw; (try dsimp only at hSw); (try delta R_Head8_27); go_simp; try with_reducible rfl))
    (try simp only [Act.put, List.setIfInBounds_toArray, List.set_cons_zero, List.set_cons_succ])
    first | (refine wpAnyH_take (i := 28) (oi := R_Head8_28) (v := undef) rfl (by kernel_rfl) (by kernel_rfl) (by kernel_rfl) (fun _ _ _ h => h) (Or.inr ⟨by rfl, rfl⟩) (by assumption) ?_) | (refine wpAnyH_take (i := 28) (oi := R_Head8_28) (v := ?_) rfl (by kernel_rfl) (by kernel_rfl) (by kernel_rfl) (fun _ _ _ h => h) (Or.inl ⟨by rfl, ?_⟩) (by assumption) ?_; rotate_left; next => (intro w hSw; (try dsimp only at hSw); (try delta R_Head8_28); go_simp; try with_reducible rfl))
    (try simp only [Act.put, List.setIfInBounds_toArray, List.set_cons_zero, List.set_cons_succ])
    first | (refine wpAnyH_take (i := 29) (oi := R_Head8_29) (v := undef) rfl (by kernel_rfl) (by kernel_rfl) (by kernel_rfl) (fun _ _ _ h => h) (Or.inr ⟨by rfl, rfl⟩) (by assumption) ?_) | (refine wpAnyH_take (i := 29) (oi := R_Head8_29) (v := ?_) rfl (by kernel_rfl) (by kernel_rfl) (by kernel_rfl) (fun _ _ _ h => h) (Or.inl ⟨by rfl, ?_⟩) (by assumption) ?_; rotate_left; next => (intro w hSw; (try dsimp only at hSw); (try delta R_Head8_29); go_simp; try with_reducible rfl))
    (try simp only [Act.put, List.setIfInBounds_toArray, List.set_cons_zero, List.set_cons_succ])
    (refine wpAnyH_take (i := 30) (oi := R_Head8_30) (v := ?_) rfl (by kernel_rfl) (by kernel_rfl) (by kernel_rfl) (fun _ _ _ h => h) (Or.inl ⟨by rfl, ?_⟩) (by assumption) ?_; rotate_left; next => (intro w hSw; (try dsimp only at hSw); (try delta R_Head8_30); go_simp; try with_reducible rfl))
    (try simp only [Act.put, List.setIfInBounds_toArray, List.set_cons_zero, List.set_cons_succ])
    (refine wpAnyH_take (i := 31) (oi := R_Head8_31) (v := ?_) rfl (by kernel_rfl) (by kernel_rfl) (by kernel_rfl) (fun _ _ _ h => h) (Or.inl ⟨by rfl, ?_⟩) (by assumption) ?_; rotate_left; next => (intro w hSw; (try dsimp only at hSw); (try delta R_Head8_31); go_simp; try with_reducible rfl))
    (try simp only [Act.put, List.setIfInBounds_toArray, List.set_cons_zero, List.set_cons_succ])
    first | (refine wpAnyH_take (i := 32) (oi := R_Head8_32) (v := undef) rfl (by kernel_rfl) (by kernel_rfl) (by kernel_rfl) (fun _ _ _ h => h) (Or.inr ⟨by rfl, rfl⟩) (by assumption) ?_) | (refine wpAnyH_take (i := 32) (oi := R_Head8_32) (v := ?_) rfl (by kernel_rfl) (by kernel_rfl) (by kernel_rfl) (fun _ _ _ h => h) (Or.inl ⟨by rfl, ?_⟩) (by assumption) ?_; rotate_left; next => (intro w hSw; (try dsimp only at hSw); (try delta R_Head8_32); go_simp; try with_reducible rfl))
    (try simp only [Act.put, List.setIfInBounds_toArray, List.set_cons_zero, List.set_cons_succ])
    first | (refine wpAnyH_take (i := 33) (oi := R_Head8_33) (v := undef) rfl (by kernel_rfl) (by kernel_rfl) (by kernel_rfl) (fun _ _ _ h => h) (Or.inr ⟨by rfl, rfl⟩) (by assumption) ?_) | (refine wpAnyH_take (i := 33) (oi := R_Head8_33) (v := ?_) rfl (by kernel_rfl) (by kernel_rfl) (by kernel_rfl) (fun _ _ _ h => h) (Or.inl ⟨by rfl, ?_⟩) (by assumption) ?_; rotate_left; next => (intro w hSw; (try dsimp only at hSw); (try delta R_Head8_33); go_simp; try with_reducible rfl))
    (try simp only [Act.put, List.setIfInBounds_toArray, List.set_cons_zero, List.set_cons_succ])
    first | (refine wpAnyH_take (i := 34) (oi := R_Head8_34) (v := undef) rfl (by kernel_rfl) (by kernel_rfl) (by kernel_rfl) (fun _ _ _ h => h) (Or.inr ⟨by rfl, rfl⟩) (by assumption) ?_) | (refine wpAnyH_take (i := 34) (oi := R_Head8_34) (v := ?_) rfl (by kernel_rfl) (by kernel_rfl) (by kernel_rfl) (fun _ _ _ h => h) (Or.inl ⟨by rfl, ?_⟩) (by assumption) ?_; rotate_left; next => (intro w hSw; (try dsimp only at hSw); (try delta R_Head8_34); go_simp; try with_reducible rfl))
    (try simp only [Act.put, List.setIfInBounds_toArray, List.set_cons_zero, List.set_cons_succ])
    first
    | (refine wpAnyH_take (i := 35) (oi := R_Head8_35) (v := undef) rfl (by kernel_rfl) (by kernel_rfl) (by kernel_rfl) (fun _ _ _ h => h) (Or.inr ⟨by rfl, rfl⟩) (by assumption) ?_
       (try simp only [Act.put, List.setIfInBounds_toArray, List.set_cons_zero, List.set_cons_succ]))
    | (refine wpAnyH_ready (rs := [35]) (by kernel_rfl) (by simp) ?_
       refine AllReadyH.cons (o := R_Head8_35) rfl (fun K hK => ?_) AllReadyH.nil
       (try delta R_Head8_35)
       go_simp
       (first | (go_at_call 38; (with_reducible refine (CGD.out w7.drew HDD.out).mono ?_); rintro e wz ⟨rfl, rfl⟩) | (go_at_call 34; (with_reducible refine (CBK.out w7.drew HBD.out).mono ?_); rintro e wz ⟨rfl, rfl⟩))
       (try go_wp2_with fail)
       refine hK.out _ _ ?_ (fun hHeld => ?_)
       · (exact ⟨s0, s1, s2⟩)
       clear hK K
       (try simp only [Act.put, List.setIfInBounds_toArray, List.set_cons_zero, List.set_cons_succ]))
    first | (refine wpAnyH_take (i := 36) (oi := R_Head8_36) (v := undef) rfl (by kernel_rfl) (by kernel_rfl) (by kernel_rfl) (fun _ _ _ h => h) (Or.inr ⟨by rfl, rfl⟩) (by assumption) ?_) | (refine wpAnyH_take (i := 36) (oi := R_Head8_36) (v := ?_) rfl (by kernel_rfl) (by kernel_rfl) (by kernel_rfl) (fun _ _ _ h => h) (Or.inl ⟨by rfl, ?_⟩) (by assumption) ?_; rotate_left; next => (intro w hSw; (try dsimp only at hSw); (try delta R_Head8_36); go_simp; try with_reducible rfl))
    (try simp only [Act.put, List.setIfInBounds_toArray, List.set_cons_zero, List.set_cons_succ])
    first | (refine wpAnyH_take (i := 37) (oi := R_Head8_37) (v := undef) rfl (by kernel_rfl) (by kernel_rfl) (by kernel_rfl) (fun _ _ _ h => h) (Or.inr ⟨by rfl, rfl⟩) (by assumption) ?_) | (refine wpAnyH_take (i := 37) (oi := R_Head8_37) (v := ?_) rfl (by kernel_rfl) (by kernel_rfl) (by kernel_rfl) (fun _ _ _ h => h) (Or.inl ⟨by rfl, ?_⟩) (by assumption) ?_; rotate_left; next => (intro w hSw; (try dsimp only at hSw); (try delta R_Head8_37); go_simp; try with_reducible rfl))
    (try simp only [Act.put, List.setIfInBounds_toArray, List.set_cons_zero, List.set_cons_succ])
    (refine wpAnyH_take (i := 38) (oi := R_Head8_38) (v := ?_) rfl (by kernel_rfl) (by kernel_rfl) (by kernel_rfl) (fun _ _ _ h => h) (Or.inl ⟨by rfl, ?_⟩) (by assumption) ?_; rotate_left; next => (intro w hSw; (try dsimp only at hSw); (try delta R_Head8_38); go_simp; try with_reducible rfl))
    (try simp only [Act.put, List.setIfInBounds_toArray, List.set_cons_zero, List.set_cons_succ])
    (refine wpAnyH_take (i := 39) (oi := R_Head8_39) (v := ?_) rfl (by kernel_rfl) (by kernel_rfl) (by kernel_rfl) (fun _ _ _ h => h) (Or.inl ⟨by rfl, ?_⟩) (by assumption) ?_; rotate_left; next => (intro w hSw; (try dsimp only at hSw); (try delta R_Head8_39); go_simp; try with_reducible rfl))
    (try simp only [Act.put, List.setIfInBounds_toArray, List.set_cons_zero, List.set_cons_succ])
    refine wpAnyH_done (by kernel_rfl) ?_ _
    go_wp2_with fail
    refine bodyPost_ret (results_row_tmpH rfl _ _ w.heap.size 67 #[_, _, _] (0, 0) _ rfl HE.out.1 Tryd.underlying67 rfl infoHead) rfl ?_
    exact ⟨by rw [HX.out]; dsimp only; rw [HOK.out]; simp [HD3.val], HE.out.2⟩
  by_cases k1 : n1 < 1
  · have KD1 : Hid (decide (1 ≤ n1) = false) := Lib.hid (by simp; omega)
    refine wp_region_held_drew (S := (fun W => W.cell? ⟨lb, 0, none⟩ = some (.int .i64 n1) ∧ W.cell? ⟨lb, 1, none⟩ = some (.int .i64 n2) ∧ W.cell? ⟨lb, 2, none⟩ = some (.int .i64 n3))) (by kernel_rfl) ?_ (fun hHeld => ?_)
    · (exact ⟨s0, s1, s2⟩)
    (refine wpAnyH_take (i := 0) (oi := R_Head8_0) (v := ?_) rfl (by kernel_rfl) (by kernel_rfl) (by kernel_rfl) (fun _ _ _ h => h) (Or.inl ⟨by rfl, ?_⟩) (by assumption) ?_; rotate_left; next => (intro w hSw; (try dsimp only at hSw); (try delta R_Head8_0); go_simp; try with_reducible rfl))
    ((try simp only [Act.put, List.setIfInBounds_toArray, List.set_cons_zero, List.set_cons_succ]); (try simp only [KD1.out]))
    refine wpAnyH_ready (rs := [1]) (by kernel_rfl) (by simp) ?_
    refine AllReadyH.cons (o := R_Head8_1) rfl (fun K hK => ?_) AllReadyH.nil
    (try delta R_Head8_1)
    go_simp
    (first | (go_at_call 38; (with_reducible refine (CGD.out w7.drew HDD.out).mono ?_); rintro e wz ⟨rfl, rfl⟩) | (go_at_call 34; (with_reducible refine (CBK.out w7.drew HBD.out).mono ?_); rintro e wz ⟨rfl, rfl⟩))
    (try go_wp2_with fail)
    refine hK.out _ _ ?_ (fun hHeld => ?_)
    · (exact ⟨s0, s1, s2⟩)
    clear hK K
    ((try simp only [Act.put, List.setIfInBounds_toArray, List.set_cons_zero, List.set_cons_succ]); (try simp only [KD1.out]))
    (refine wpAnyH_take (i := 2) (oi := R_Head8_2) (v := ?_) rfl (by kernel_rfl) (by kernel_rfl) (by kernel_rfl) (fun _ _ _ h => h) (Or.inl ⟨by rfl, ?_⟩) (by assumption) ?_; rotate_left; next => (intro w hSw; (try dsimp only at hSw); (try delta R_Head8_2); go_simp; try with_reducible rfl))
    ((try simp only [Act.put, List.setIfInBounds_toArray, List.set_cons_zero, List.set_cons_succ]); (try simp only [KD1.out]))
    first | (refine wpAnyH_take (i := 3) (oi := R_Head8_3) (v := undef) rfl (by kernel_rfl) (by kernel_rfl) (by kernel_rfl) (fun _ _ _ h => h) (Or.inr ⟨by rfl, rfl⟩) (by assumption) ?_) | (refine wpAnyH_take (i := 3) (oi := R_Head8_3) (v := ?_) rfl (by kernel_rfl) (by kernel_rfl) (by kernel_rfl) (fun _ _ _ h => h) (Or.inl ⟨by rfl, ?_⟩) (by assumption) ?_; rotate_left; next => (intro w hSw; (try dsimp only at hSw); (try delta R_Head8_3); go_simp; try with_reducible rfl))
    ((try simp only [Act.put, List.setIfInBounds_toArray, List.set_cons_zero, List.set_cons_succ]); (try simp only [KD1.out]))
    first | (refine wpAnyH_take (i := 4) (oi := R_Head8_4) (v := undef) rfl (by kernel_rfl) (by kernel_rfl) (by kernel_rfl) (fun _ _ _ h => h) (Or.inr ⟨by rfl, rfl⟩) (by assumption) ?_) | (refine wpAnyH_take (i := 4) (oi := R_Head8_4) (v := ?_) rfl (by kernel_rfl) (by kernel_rfl) (by kernel_rfl) (fun _ _ _ h => h) (Or.inl ⟨by rfl, ?_⟩) (by assumption) ?_; rotate_left; next => (intro w hSw; (try dsimp only at hSw); (try delta R_Head8_4); go_simp; try with_reducible rfl))
    ((try simp only [Act.put, List.setIfInBounds_toArray, List.set_cons_zero, List.set_cons_succ]); (try simp only [KD1.out]))
    (refine wpAnyH_take (i := 5) (oi := R_Head8_5) (v := ?_) rfl (by kernel_rfl) (by kernel_rfl) (by kernel_rfl) (fun _ _ _ h => h) (Or.inl ⟨by rfl, ?_⟩) (by assumption) ?_; rotate_left; next => (intro w hSw; (try dsimp only at hSw); (try delta R_Head8_5); go_simp; try with_reducible rfl))
    ((try simp only [Act.put, List.setIfInBounds_toArray, List.set_cons_zero, List.set_cons_succ]); (try simp only [KD1.out]))
    (refine wpAnyH_take (i := 6) (oi := R_Head8_6) (v := ?_) rfl (by kernel_rfl) (by kernel_rfl) (by kernel_rfl) (fun _ _ _ h => h) (Or.inl ⟨by rfl, ?_⟩) (by assumption) ?_; rotate_left; next => (intro w hSw; (try dsimp only at hSw); (try delta R_Head8_6); go_simp; try with_reducible rfl))
    ((try simp only [Act.put, List.setIfInBounds_toArray, List.set_cons_zero, List.set_cons_succ]); (try simp only [KD1.out]))
    first | (refine wpAnyH_take (i := 7) (oi := R_Head8_7) (v := undef) rfl (by kernel_rfl) (by kernel_rfl) (by kernel_rfl) (fun _ _ _ h => h) (Or.inr ⟨by rfl, rfl⟩) (by assumption) ?_) | (refine wpAnyH_take (i := 7) (oi := R_Head8_7) (v := ?_) rfl (by kernel_rfl) (by kernel_rfl) (by kernel_rfl) (fun _ _ _ h => h) (Or.inl ⟨by rfl, ?_⟩) (by assumption) ?_; rotate_left; next => (intro w hSw; (try dsimp only at hSw); (try delta R_Head8_7); go_simp; try with_reducible rfl))
    ((try simp only [Act.put, List.setIfInBounds_toArray, List.set_cons_zero, List.set_cons_succ]); (try simp only [KD1.out]))
    first | (refine wpAnyH_take (i := 8) (oi := R_Head8_8) (v := undef) rfl (by kernel_rfl) (by kernel_rfl) (by kernel_rfl) (fun _ _ _ h => h) (Or.inr ⟨by rfl, rfl⟩) (by assumption) ?_) | (refine wpAnyH_take (i := 8) (oi := R_Head8_8) (v := ?_) rfl (by kernel_rfl) (by kernel_rfl) (by kernel_rfl) (fun _ _ _ h => h) (Or.inl ⟨by rfl, ?_⟩) (by assumption) ?_; rotate_left; next => (intro w hSw; (try dsimp only at hSw); (try delta R_Head8_8); go_simp; try with_reducible rfl))
    ((try simp only [Act.put, List.setIfInBounds_toArray, List.set_cons_zero, List.set_cons_succ]); (try simp only [KD1.out]))
    first | (refine wpAnyH_take (i := 9) (oi := R_Head8_9) (v := undef) rfl (by kernel_rfl) (by kernel_rfl) (by kernel_rfl) (fun _ _ _ h => h) (Or.inr ⟨by rfl, rfl⟩) (by assumption) ?_) | (refine wpAnyH_take (i := 9) (oi := R_Head8_9) (v := ?_) rfl (by kernel_rfl) (by kernel_rfl) (by kernel_rfl) (fun _ _ _ h => h) (Or.inl ⟨by rfl, ?_⟩) (by assumption) ?_; rotate_left; next => (intro w hSw; (try dsimp only at hSw); (try delta R_Head8_9); go_simp; try with_reducible rfl))
    ((try simp only [Act.put, List.setIfInBounds_toArray, List.set_cons_zero, List.set_cons_succ]); (try simp only [KD1.out]))
    (refine wpAnyH_take (i := 10) (oi := R_Head8_10) (v := ?_) rfl (by kernel_rfl) (by kernel_rfl) (by kernel_rfl) (fun _ _ _ h => h) (Or.inl ⟨by rfl, ?_⟩) (by assumption) ?_; rotate_left; next => (intro w hSw; (try dsimp only at hSw); (try delta R_Head8_10); go_simp; try with_reducible rfl))
    ((try simp only [Act.put, List.setIfInBounds_toArray, List.set_cons_zero, List.set_cons_succ]); (try simp only [KD1.out]))
    (refine wpAnyH_take (i := 11) (oi := R_Head8_11) (v := ?_) rfl (by kernel_rfl) (by kernel_rfl) (by kernel_rfl) (fun _ _ _ h => h) (Or.inl ⟨by rfl, ?_⟩) (by assumption) ?_; rotate_left; next => (intro w hSw; (try dsimp only at hSw); (try delta R_Head8_11); go_simp; try with_reducible rfl))
    ((try simp only [Act.put, List.setIfInBounds_toArray, List.set_cons_zero, List.set_cons_succ]); (try simp only [KD1.out]))
    first | (refine wpAnyH_take (i := 12) (oi := R_Head8_12) (v := undef) rfl (by kernel_rfl) (by kernel_rfl) (by kernel_rfl) (fun _ _ _ h => h) (Or.inr ⟨by rfl, rfl⟩) (by assumption) ?_) | (refine wpAnyH_take (i := 12) (oi := R_Head8_12) (v := ?_) rfl (by kernel_rfl) (by kernel_rfl) (by kernel_rfl) (fun _ _ _ h => h) (Or.inl ⟨by rfl, ?_⟩) (by assumption) ?_; rotate_left; next => (intro w hSw; (try dsimp only at hSw); (try delta R_Head8_12); go_simp; try with_reducible rfl))
    ((try simp only [Act.put, List.setIfInBounds_toArray, List.set_cons_zero, List.set_cons_succ]); (try simp only [KD1.out]))
    first | (refine wpAnyH_take (i := 13) (oi := R_Head8_13) (v := undef) rfl (by kernel_rfl) (by kernel_rfl) (by kernel_rfl) (fun _ _ _ h => h) (Or.inr ⟨by rfl, rfl⟩) (by assumption) ?_) | (refine wpAnyH_take (i := 13) (oi := R_Head8_13) (v := ?_) rfl (by kernel_rfl) (by kernel_rfl) (by kernel_rfl) (fun _ _ _ h => h) (Or.inl ⟨by rfl, ?_⟩) (by assumption) ?_; rotate_left; next => (intro w hSw; (try dsimp only at hSw); (try delta R_Head8_13); go_simp; try with_reducible rfl))
    ((try simp only [Act.put, List.setIfInBounds_toArray, List.set_cons_zero, List.set_cons_succ]); (try simp only [KD1.out]))
    first | (refine wpAnyH_take (i := 14) (oi := R_Head8_14) (v := undef) rfl (by kernel_rfl) (by kernel_rfl) (by kernel_rfl) (fun _ _ _ h => h) (Or.inr ⟨by rfl, rfl⟩) (by assumption) ?_) | (refine wpAnyH_take (i := 14) (oi := R_Head8_14) (v := ?_) rfl (by kernel_rfl) (by kernel_rfl) (by kernel_rfl) (fun _ _ _ h => h) (Or.inl ⟨by rfl, ?_⟩) (by assumption) ?_; rotate_left; next => (intro w hSw; (try dsimp only at hSw); (try delta R_Head8_14); go_simp; try with_reducible rfl))
    ((try simp only [Act.put, List.setIfInBounds_toArray, List.set_cons_zero, List.set_cons_succ]); (try simp only [KD1.out]))
    (refine wpAnyH_take (i := 15) (oi := R_Head8_15) (v := ?_) rfl (by kernel_rfl) (by kernel_rfl) (by kernel_rfl) (fun _ _ _ h => h) (Or.inl ⟨by rfl, ?_⟩) (by assumption) ?_; rotate_left; next => (intro w hSw; (try dsimp only at hSw); (try delta R_Head8_15); go_simp; try with_reducible rfl))
    ((try simp only [Act.put, List.setIfInBounds_toArray, List.set_cons_zero, List.set_cons_succ]); (try simp only [KD1.out]))
    (refine wpAnyH_take (i := 16) (oi := R_Head8_16) (v := ?_) rfl (by kernel_rfl) (by kernel_rfl) (by kernel_rfl) (fun _ _ _ h => h) (Or.inl ⟨by rfl, ?_⟩) (by assumption) ?_; rotate_left; next => (intro w hSw; (try dsimp only at hSw); (try delta R_Head8_16); go_simp; try with_reducible rfl))
    ((try simp only [Act.put, List.setIfInBounds_toArray, List.set_cons_zero, List.set_cons_succ]); (try simp only [KD1.out]))
    first | (refine wpAnyH_take (i := 17) (oi := R_Head8_17) (v := undef) rfl (by kernel_rfl) (by kernel_rfl) (by kernel_rfl) (fun _ _ _ h => h) (Or.inr ⟨by rfl, rfl⟩) (by assumption) ?_) | (refine wpAnyH_take (i := 17) (oi := R_Head8_17) (v := ?_) rfl (by kernel_rfl) (by kernel_rfl) (by kernel_rfl) (fun _ _ _ h => h) (Or.inl ⟨by rfl, ?_⟩) (by assumption) ?_; rotate_left; next => (intro w hSw; (try dsimp only at hSw); (try delta R_Head8_17); go_simp; try with_reducible rfl))
    ((try simp only [Act.put, List.setIfInBounds_toArray, List.set_cons_zero, List.set_cons_succ]); (try simp only [KD1.out]))
    first | (refine wpAnyH_take (i := 18) (oi := R_Head8_18) (v := undef) rfl (by kernel_rfl) (by kernel_rfl) (by kernel_rfl) (fun _ _ _ h => h) (Or.inr ⟨by rfl, rfl⟩) (by assumption) ?_) | (refine wpAnyH_take (i := 18) (oi := R_Head8_18) (v := ?_) rfl (by kernel_rfl) (by kernel_rfl) (by kernel_rfl) (fun _ _ _ h => h) (Or.inl ⟨by rfl, ?_⟩) (by assumption) ?_; rotate_left; next => (intro w hSw; (try dsimp only at hSw); (try delta R_Head8_18); go_simp; try with_reducible rfl))
    ((try simp only [Act.put, List.setIfInBounds_toArray, List.set_cons_zero, List.set_cons_succ]); (try simp only [KD1.out]))
    first | (refine wpAnyH_take (i := 19) (oi := R_Head8_19) (v := undef) rfl (by kernel_rfl) (by kernel_rfl) (by kernel_rfl) (fun _ _ _ h => h) (Or.inr ⟨by rfl, rfl⟩) (by assumption) ?_) | (refine wpAnyH_take (i := 19) (oi := R_Head8_19) (v := ?_) rfl (by kernel_rfl) (by kernel_rfl) (by kernel_rfl) (fun _ _ _ h => h) (Or.inl ⟨by rfl, ?_⟩) (by assumption) ?_; rotate_left; next => (intro w hSw; (try dsimp only at hSw); (try delta R_Head8_19); go_simp; try with_reducible rfl))
    ((try simp only [Act.put, List.setIfInBounds_toArray, List.set_cons_zero, List.set_cons_succ]); (try simp only [KD1.out]))
    first | (refine wpAnyH_take (i := 20) (oi := R_Head8_20) (v := undef) rfl (by kernel_rfl) (by kernel_rfl) (by kernel_rfl) (fun _ _ _ h => h) (Or.inr ⟨by rfl, rfl⟩) (by assumption) ?_) | (refine wpAnyH_take (i := 20) (oi := R_Head8_20) (v := ?_) rfl (by kernel_rfl) (by kernel_rfl) (by kernel_rfl) (fun _ _ _ h => h) (Or.inl ⟨by rfl, ?_⟩) (by assumption) ?_; rotate_left; next => (intro w hSw; (try dsimp only at hSw); (try delta R_Head8_20); go_simp; try with_reducible rfl))
    ((try simp only [Act.put, List.setIfInBounds_toArray, List.set_cons_zero, List.set_cons_succ]); (try simp only [KD1.out]))
    first | (refine wpAnyH_take (i := 21) (oi := R_Head8_21) (v := undef) rfl (by kernel_rfl) (by kernel_rfl) (by kernel_rfl) (fun _ _ _ h => h) (Or.inr ⟨by rfl, rfl⟩) (by assumption) ?_) | (refine wpAnyH_take (i := 21) (oi := R_Head8_21) (v := ?_) rfl (by kernel_rfl) (by kernel_rfl) (by kernel_rfl) (fun _ _ _ h => h) (Or.inl ⟨by rfl, ?_⟩) (by assumption) ?_; rotate_left; next => (intro w hSw; (try dsimp only at hSw); (try delta R_Head8_21); go_simp; try with_reducible rfl))
    ((try simp only [Act.put, List.setIfInBounds_toArray, List.set_cons_zero, List.set_cons_succ]); (try simp only [KD1.out]))
    first | (refine wpAnyH_take (i := 22) (oi := R_Head8_22) (v := undef) rfl (by kernel_rfl) (by kernel_rfl) (by kernel_rfl) (fun _ _ _ h => h) (Or.inr ⟨by rfl, rfl⟩) (by assumption) ?_) | (refine wpAnyH_take (i := 22) (oi := R_Head8_22) (v := ?_) rfl (by kernel_rfl) (by kernel_rfl) (by kernel_rfl) (fun _ _ _ h => h) (Or.inl ⟨by rfl, ?_⟩) (by assumption) ?_; rotate_left; next => (intro w hSw; (try dsimp only at hSw); (try delta R_Head8_22); go_simp; try with_reducible rfl))
    ((try simp only [Act.put, List.setIfInBounds_toArray, List.set_cons_zero, List.set_cons_succ]); (try simp only [KD1.out]))
    first | (refine wpAnyH_take (i := 23) (oi := R_Head8_23) (v := undef) rfl (by kernel_rfl) (by kernel_rfl) (by kernel_rfl) (fun _ _ _ h => h) (Or.inr ⟨by rfl, rfl⟩) (by assumption) ?_) | (refine wpAnyH_take (i := 23) (oi := R_Head8_23) (v := ?_) rfl (by kernel_rfl) (by kernel_rfl) (by kernel_rfl) (fun _ _ _ h => h) (Or.inl ⟨by rfl, ?_⟩) (by assumption) ?_; rotate_left; next => (intro w hSw; (try dsimp only at hSw); (try delta R_Head8_23); go_simp; try with_reducible rfl))
    ((try simp only [Act.put, List.setIfInBounds_toArray, List.set_cons_zero, List.set_cons_succ]); (try simp only [KD1.out]))
    first | (refine wpAnyH_take (i := 24) (oi := R_Head8_24) (v := undef) rfl (by kernel_rfl) (by kernel_rfl) (by kernel_rfl) (fun _ _ _ h => h) (Or.inr ⟨by rfl, rfl⟩) (by assumption) ?_) | (refine wpAnyH_take (i := 24) (oi := R_Head8_24) (v := ?_) rfl (by kernel_rfl) (by kernel_rfl) (by kernel_rfl) (fun _ _ _ h => h) (Or.inl ⟨by rfl, ?_⟩) (by assumption) ?_; rotate_left; next => (intro w hSw; (try dsimp only at hSw); (try delta R_Head8_24); go_simp; try with_reducible rfl))
    ((try simp only [Act.put, List.setIfInBounds_toArray, List.set_cons_zero, List.set_cons_succ]); (try simp only [KD1.out]))
    (refine wpAnyH_take (i := 25) (oi := R_Head8_25) (v := ?_) rfl (by kernel_rfl) (by kernel_rfl) (by kernel_rfl) (fun _ _ _ h => h) (Or.inl ⟨by rfl, ?_⟩) (by assumption) ?_; rotate_left; next => (intro w hSw; (try dsimp only at hSw); (try delta R_Head8_25); go_simp; try with_reducible rfl))
    ((try simp only [Act.put, List.setIfInBounds_toArray, List.set_cons_zero, List.set_cons_succ]); (try simp only [KD1.out]))
    (refine wpAnyH_take (i := 26) (oi := R_Head8_26) (v := ?_) rfl (by kernel_rfl) (by kernel_rfl) (by kernel_rfl) (fun _ _ _ h => h) (Or.inl ⟨by rfl, ?_⟩) (by assumption) ?_; rotate_left; next => (intro w hSw; (try dsimp only at hSw); (try delta R_Head8_26); go_simp; try with_reducible rfl))
    ((try simp only [Act.put, List.setIfInBounds_toArray, List.set_cons_zero, List.set_cons_succ]); (try simp only [KD1.out]))
    first | (refine wpAnyH_take (i := 27) (oi := R_Head8_27) (v := undef) rfl (by kernel_rfl) (by kernel_rfl) (by kernel_rfl) (fun _ _ _ h => h) (Or.inr ⟨by rfl, rfl⟩) (by assumption) ?_) | (refine wpAnyH_take (i := 27) (oi := R_Head8_27) (v := ?_) rfl (by kernel_rfl) (by kernel_rfl) (by kernel_rfl) (fun _ _ _ h => h) (Or.inl ⟨by rfl, ?_⟩) (by assumption) ?_; rotate_left; next => (intro w hSw; (try dsimp only at hSw); (try delta R_Head8_27); go_simp; try with_reducible rfl))
    ((try simp only [Act.put, List.setIfInBounds_toArray, List.set_cons_zero, List.set_cons_succ]); (try simp only [KD1.out]))
    first | (refine wpAnyH_take (i := 28) (oi := R_Head8_28) (v := undef) rfl (by kernel_rfl) (by kernel_rfl) (by kernel_rfl) (fun _ _ _ h => h) (Or.inr ⟨by rfl, rfl⟩) (by assumption) ?_) | (refine wpAnyH_take (i := 28) (oi := R_Head8_28) (v := ?_) rfl (by kernel_rfl) (by kernel_rfl) (by kernel_rfl) (fun _ _ _ h => h) (Or.inl ⟨by rfl, ?_⟩) (by assumption) ?_; rotate_left; next => (intro w hSw; (try dsimp only at hSw); (try delta R_Head8_28); go_simp; try with_reducible rfl))
    ((try simp only [Act.put, List.setIfInBounds_toArray, List.set_cons_zero, List.set_cons_succ]); (try simp only [KD1.out]))
    first | (refine wpAnyH_take (i := 29) (oi := R_Head8_29) (v := undef) rfl (by kernel_rfl) (by kernel_rfl) (by kernel_rfl) (fun _ _ _ h => h) (Or.inr ⟨by rfl, rfl⟩) (by assumption) ?_) | (refine wpAnyH_take (i := 29) (oi := R_Head8_29) (v := ?_) rfl (by kernel_rfl) (by kernel_rfl) (by kernel_rfl) (fun _ _ _ h => h) (Or.inl ⟨by rfl, ?_⟩) (by assumption) ?_; rotate_left; next => (intro w hSw; (try dsimp only at hSw); (try delta R_Head8_29); go_simp; try with_reducible rfl))
    ((try simp only [Act.put, List.setIfInBounds_toArray, List.set_cons_zero, List.set_cons_succ]); (try simp only [KD1.out]))
    (refine wpAnyH_take (i := 30) (oi := R_Head8_30) (v := ?_) rfl (by kernel_rfl) (by kernel_rfl) (by kernel_rfl) (fun _ _ _ h => h) (Or.inl ⟨by rfl, ?_⟩) (by assumption) ?_; rotate_left; next => (intro w hSw; (try dsimp only at hSw); (try delta R_Head8_30); go_simp; try with_reducible rfl))
    ((try simp only [Act.put, List.setIfInBounds_toArray, List.set_cons_zero, List.set_cons_succ]); (try simp only [KD1.out]))
    (refine wpAnyH_take (i := 31) (oi := R_Head8_31) (v := ?_) rfl (by kernel_rfl) (by kernel_rfl) (by kernel_rfl) (fun _ _ _ h => h) (Or.inl ⟨by rfl, ?_⟩) (by assumption) ?_; rotate_left; next => (intro w hSw; (try dsimp only at hSw); (try delta R_Head8_31); go_simp; try with_reducible rfl))
    ((try simp only [Act.put, List.setIfInBounds_toArray, List.set_cons_zero, List.set_cons_succ]); (try simp only [KD1.out]))
    first | (refine wpAnyH_take (i := 32) (oi := R_Head8_32) (v := undef) rfl (by kernel_rfl) (by kernel_rfl) (by kernel_rfl) (fun _ _ _ h => h) (Or.inr ⟨by rfl, rfl⟩) (by assumption) ?_) | (refine wpAnyH_take (i := 32) (oi := R_Head8_32) (v := ?_) rfl (by kernel_rfl) (by kernel_rfl) (by kernel_rfl) (fun _ _ _ h => h) (Or.inl ⟨by rfl, ?_⟩) (by assumption) ?_; rotate_left; next => (intro w hSw; (try dsimp only at hSw); (try delta R_Head8_32); go_simp; try with_reducible rfl))
    ((try simp only [Act.put, List.setIfInBounds_toArray, List.set_cons_zero, List.set_cons_succ]); (try simp only [KD1.out]))
    first | (refine wpAnyH_take (i := 33) (oi := R_Head8_33) (v := undef) rfl (by kernel_rfl) (by kernel_rfl) (by kernel_rfl) (fun _ _ _ h => h) (Or.inr ⟨by rfl, rfl⟩) (by assumption) ?_) | (refine wpAnyH_take (i := 33) (oi := R_Head8_33) (v := ?_) rfl (by kernel_rfl) (by kernel_rfl) (by kernel_rfl) (fun _ _ _ h => h) (Or.inl ⟨by rfl, ?_⟩) (by assumption) ?_; rotate_left; next => (intro w hSw; (try dsimp only at hSw); (try delta R_Head8_33); go_simp; try with_reducible rfl))
    ((try simp only [Act.put, List.setIfInBounds_toArray, List.set_cons_zero, List.set_cons_succ]); (try simp only [KD1.out]))
    first | (refine wpAnyH_take (i := 34) (oi := R_Head8_34) (v := undef) rfl (by kernel_rfl) (by kernel_rfl) (by kernel_rfl) (fun _ _ _ h => h) (Or.inr ⟨by rfl, rfl⟩) (by assumption) ?_) | (refine wpAnyH_take (i := 34) (oi := R_Head8_34) (v := ?_) rfl (by kernel_rfl) (by kernel_rfl) (by kernel_rfl) (fun _ _ _ h => h) (Or.inl ⟨by rfl, ?_⟩) (by assumption) ?_; rotate_left; next => (intro w hSw; (try dsimp only at hSw); (try delta R_Head8_34); go_simp; try with_reducible rfl))
    ((try simp only [Act.put, List.setIfInBounds_toArray, List.set_cons_zero, List.set_cons_succ]); (try simp only [KD1.out]))
    first
    | (refine wpAnyH_take (i := 35) (oi := R_Head8_35) (v := undef) rfl (by kernel_rfl) (by kernel_rfl) (by kernel_rfl) (fun _ _ _ h => h) (Or.inr ⟨by rfl, rfl⟩) (by assumption) ?_
       ((try simp only [Act.put, List.setIfInBounds_toArray, List.set_cons_zero, List.set_cons_succ]); (try simp only [KD1.out])))
    | (refine wpAnyH_ready (rs := [35]) (by kernel_rfl) (by simp) ?_
       refine AllReadyH.cons (o := R_Head8_35) rfl (fun K hK => ?_) AllReadyH.nil
       (try delta R_Head8_35)
       go_simp
       (first | (go_at_call 38; (with_reducible refine (CGD.out w7.drew HDD.out).mono ?_); rintro e wz ⟨rfl, rfl⟩) | (go_at_call 34; (with_reducible refine (CBK.out w7.drew HBD.out).mono ?_); rintro e wz ⟨rfl, rfl⟩))
       (try go_wp2_with fail)
       refine hK.out _ _ ?_ (fun hHeld => ?_)
       · (exact ⟨s0, s1, s2⟩)
       clear hK K
       ((try simp only [Act.put, List.setIfInBounds_toArray, List.set_cons_zero, List.set_cons_succ]); (try simp only [KD1.out])))
    first | (refine wpAnyH_take (i := 36) (oi := R_Head8_36) (v := undef) rfl (by kernel_rfl) (by kernel_rfl) (by kernel_rfl) (fun _ _ _ h => h) (Or.inr ⟨by rfl, rfl⟩) (by assumption) ?_) | (refine wpAnyH_take (i := 36) (oi := R_Head8_36) (v := ?_) rfl (by kernel_rfl) (by kernel_rfl) (by kernel_rfl) (fun _ _ _ h => h) (Or.inl ⟨by rfl, ?_⟩) (by assumption) ?_; rotate_left; next => (intro w hSw; (try dsimp only at hSw); (try delta R_Head8_36); go_simp; try with_reducible rfl))
    ((try simp only [Act.put, List.setIfInBounds_toArray, List.set_cons_zero, List.set_cons_succ]); (try simp only [KD1.out]))
    first | (refine wpAnyH_take (i := 37) (oi := R_Head8_37) (v := undef) rfl (by kernel_rfl) (by kernel_rfl) (by kernel_rfl) (fun _ _ _ h => h) (Or.inr ⟨by rfl, rfl⟩) (by assumption) ?_) | (refine wpAnyH_take (i := 37) (oi := R_Head8_37) (v := ?_) rfl (by kernel_rfl) (by kernel_rfl) (by kernel_rfl) (fun _ _ _ h => h) (Or.inl ⟨by rfl, ?_⟩) (by assumption) ?_; rotate_left; next => (intro w hSw; (try dsimp only at hSw); (try delta R_Head8_37); go_simp; try with_reducible rfl))
    ((try simp only [Act.put, List.setIfInBounds_toArray, List.set_cons_zero, List.set_cons_succ]); (try simp only [KD1.out]))
    (refine wpAnyH_take (i := 38) (oi := R_Head8_38) (v := ?_) rfl (by kernel_rfl) (by kernel_rfl) (by kernel_rfl) (fun _ _ _ h => h) (Or.inl ⟨by rfl, ?_⟩) (by assumption) ?_; rotate_left; next => (intro w hSw; (try dsimp only at hSw); (try delta R_Head8_38); go_simp; try with_reducible rfl))
    ((try simp only [Act.put, List.setIfInBounds_toArray, List.set_cons_zero, List.set_cons_succ]); (try simp only [KD1.out]))
    (refine wpAnyH_take (i := 39) (oi := R_Head8_39) (v := ?_) rfl (by kernel_rfl) (by kernel_rfl) (by kernel_rfl) (fun _ _ _ h => h) (Or.inl ⟨by rfl, ?_⟩) (by assumption) ?_; rotate_left; next => (intro w hSw; (try dsimp only at hSw); (try delta R_Head8_39); go_simp; try with_reducible rfl))
    ((try simp only [Act.put, List.setIfInBounds_toArray, List.set_cons_zero, List.set_cons_succ]); (try simp only [KD1.out]))
    refine wpAnyH_done (by kernel_rfl) ?_ _
    go_wp2_with fail
    refine bodyPost_ret (results_row_tmpH rfl _ _ w.heap.size 67 #[_, _, _] (0, 0) _ rfl HE.out.1 Tryd.underlying67 rfl infoHead) rfl ?_
    exact ⟨by rw [HX.out]; dsimp only; rw [HOK.out]; simp [HD3.val, KD1.out], HE.out.2⟩
  have KD1 : Hid (decide (1 ≤ n1) = true) := Lib.hid (by simp; omega)
  by_cases k2 : 1099511627776 < n1
  · have KD2 : Hid (decide (n1 ≤ 1099511627776) = false) := Lib.hid (by simp; omega)
    refine wp_region_held_drew (S := (fun W => W.cell? ⟨lb, 0, none⟩ = some (.int .i64 n1) ∧ W.cell? ⟨lb, 1, none⟩ = some (.int .i64 n2) ∧ W.cell? ⟨lb, 2, none⟩ = some (.int .i64 n3))) (by kernel_rfl) ?_ (fun hHeld => ?_)
    · (exact ⟨s0, s1, s2⟩)
    (refine wpAnyH_take (i := 0) (oi := R_Head8_0) (v := ?_) rfl (by kernel_rfl) (by kernel_rfl) (by kernel_rfl) (fun _ _ _ h => h) (Or.inl ⟨by rfl, ?_⟩) (by assumption) ?_; rotate_left; next => (intro w hSw; (try dsimp only at hSw); (try delta R_Head8_0); go_simp; try with_reducible rfl))
    ((try simp only [Act.put, List.setIfInBounds_toArray, List.set_cons_zero, List.set_cons_succ]); (try simp only [KD1.out, KD2.out]))
    refine wpAnyH_ready (rs := [1]) (by kernel_rfl) (by simp) ?_
    refine AllReadyH.cons (o := R_Head8_1) rfl (fun K hK => ?_) AllReadyH.nil
    (try delta R_Head8_1)
    go_simp
    (first | (go_at_call 38; (with_reducible refine (CGD.out w7.drew HDD.out).mono ?_); rintro e wz ⟨rfl, rfl⟩) | (go_at_call 34; (with_reducible refine (CBK.out w7.drew HBD.out).mono ?_); rintro e wz ⟨rfl, rfl⟩))
    (try go_wp2_with fail)
    refine hK.out _ _ ?_ (fun hHeld => ?_)
    · (exact ⟨s0, s1, s2⟩)
    clear hK K
    ((try simp only [Act.put, List.setIfInBounds_toArray, List.set_cons_zero, List.set_cons_succ]); (try simp only [KD1.out, KD2.out]))
    (refine wpAnyH_take (i := 2) (oi := R_Head8_2) (v := ?_) rfl (by kernel_rfl) (by kernel_rfl) (by kernel_rfl) (fun _ _ _ h => h) (Or.inl ⟨by rfl, ?_⟩) (by assumption) ?_; rotate_left; next => (intro w hSw; (try dsimp only at hSw); (try delta R_Head8_2); go_simp; try with_reducible rfl))
    ((try simp only [Act.put, List.setIfInBounds_toArray, List.set_cons_zero, List.set_cons_succ]); (try simp only [KD1.out, KD2.out]))
    first | (refine wpAnyH_take (i := 3) (oi := R_Head8_3) (v := undef) rfl (by kernel_rfl) (by kernel_rfl) (by kernel_rfl) (fun _ _ _ h => h) (Or.inr ⟨by rfl, rfl⟩) (by assumption) ?_) | (refine wpAnyH_take (i := 3) (oi := R_Head8_3) (v := ?_) rfl (by kernel_rfl) (by kernel_rfl) (by kernel_rfl) (fun _ _ _ h => h) (Or.inl ⟨by rfl, ?_⟩) (by assumption) ?_; rotate_left; next => (intro w hSw; (try dsimp only at hSw); (try delta R_Head8_3); go_simp; try with_reducible rfl))
    ((try simp only [Act.put, List.setIfInBounds_toArray, List.set_cons_zero, List.set_cons_succ]); (try simp only [KD1.out, KD2.out]))
    first | (refine wpAnyH_take (i := 4) (oi := R_Head8_4) (v := undef) rfl (by kernel_rfl) (by kernel_rfl) (by kernel_rfl) (fun _ _ _ h => h) (Or.inr ⟨by rfl, rfl⟩) (by assumption) ?_) | (refine wpAnyH_take (i := 4) (oi := R_Head8_4) (v := ?_) rfl (by kernel_rfl) (by kernel_rfl) (by kernel_rfl) (fun _ _ _ h => h) (Or.inl ⟨by rfl, ?_⟩) (by assumption) ?_; rotate_left; next => (intro w hSw; (try dsimp only at hSw); (try delta R_Head8_4); go_simp; try with_reducible rfl))
    ((try simp only [Act.put, List.setIfInBounds_toArray, List.set_cons_zero, List.set_cons_succ]); (try simp only [KD1.out, KD2.out]))
    (refine wpAnyH_take (i := 5) (oi := R_Head8_5) (v := ?_) rfl (by kernel_rfl) (by kernel_rfl) (by kernel_rfl) (fun _ _ _ h => h) (Or.inl ⟨by rfl, ?_⟩) (by assumption) ?_; rotate_left; next => (intro w hSw; (try dsimp only at hSw); (try delta R_Head8_5); go_simp; try with_reducible rfl))
    ((try simp only [Act.put, List.setIfInBounds_toArray, List.set_cons_zero, List.set_cons_succ]); (try simp only [KD1.out, KD2.out]))
    (refine wpAnyH_take (i := 6) (oi := R_Head8_6) (v := ?_) rfl (by kernel_rfl) (by kernel_rfl) (by kernel_rfl) (fun _ _ _ h => h) (Or.inl ⟨by rfl, ?_⟩) (by assumption) ?_; rotate_left; next => (intro w hSw; (try dsimp only at hSw); (try delta R_Head8_6); go_simp; try with_reducible rfl))
    ((try simp only [Act.put, List.setIfInBounds_toArray, List.set_cons_zero, List.set_cons_succ]); (try simp only [KD1.out, KD2.out]))
    first | (refine wpAnyH_take (i := 7) (oi := R_Head8_7) (v := undef) rfl (by kernel_rfl) (by kernel_rfl) (by kernel_rfl) (fun _ _ _ h => h) (Or.inr ⟨by rfl, rfl⟩) (by assumption) ?_) | (refine wpAnyH_take (i := 7) (oi := R_Head8_7) (v := ?_) rfl (by kernel_rfl) (by kernel_rfl) (by kernel_rfl) (fun _ _ _ h => h) (Or.inl ⟨by rfl, ?_⟩) (by assumption) ?_; rotate_left; next => (intro w hSw; (try dsimp only at hSw); (try delta R_Head8_7); go_simp; try with_reducible rfl))
    ((try simp only [Act.put, List.setIfInBounds_toArray, List.set_cons_zero, List.set_cons_succ]); (try simp only [KD1.out, KD2.out]))
    first | (refine wpAnyH_take (i := 8) (oi := R_Head8_8) (v := undef) rfl (by kernel_rfl) (by kernel_rfl) (by kernel_rfl) (fun _ _ _ h => h) (Or.inr ⟨by rfl, rfl⟩) (by assumption) ?_) | (refine wpAnyH_take (i := 8) (oi := R_Head8_8) (v := ?_) rfl (by kernel_rfl) (by kernel_rfl) (by kernel_rfl) (fun _ _ _ h => h) (Or.inl ⟨by rfl, ?_⟩) (by assumption) ?_; rotate_left; next => (intro w hSw; (try dsimp only at hSw); (try delta R_Head8_8); go_simp; try with_reducible rfl))
    ((try simp only [Act.put, List.setIfInBounds_toArray, List.set_cons_zero, List.set_cons_succ]); (try simp only [KD1.out, KD2.out]))
    first | (refine wpAnyH_take (i := 9) (oi := R_Head8_9) (v := undef) rfl (by kernel_rfl) (by kernel_rfl) (by kernel_rfl) (fun _ _ _ h => h) (Or.inr ⟨by rfl, rfl⟩) (by assumption) ?_) | (refine wpAnyH_take (i := 9) (oi := R_Head8_9) (v := ?_) rfl (by kernel_rfl) (by kernel_rfl) (by kernel_rfl) (fun _ _ _ h => h) (Or.inl ⟨by rfl, ?_⟩) (by assumption) ?_; rotate_left; next => (intro w hSw; (try dsimp only at hSw); (try delta R_Head8_9); go_simp; try with_reducible rfl))
    ((try simp only [Act.put, List.setIfInBounds_toArray, List.set_cons_zero, List.set_cons_succ]); (try simp only [KD1.out, KD2.out]))
    (refine wpAnyH_take (i := 10) (oi := R_Head8_10) (v := ?_) rfl (by kernel_rfl) (by kernel_rfl) (by kernel_rfl) (fun _ _ _ h => h) (Or.inl ⟨by rfl, ?_⟩) (by assumption) ?_; rotate_left; next => (intro w hSw; (try dsimp only at hSw); (try delta R_Head8_10); go_simp; try with_reducible rfl))
    ((try simp only [Act.put, List.setIfInBounds_toArray, List.set_cons_zero, List.set_cons_succ]); (try simp only [KD1.out, KD2.out]))
    (refine wpAnyH_take (i := 11) (oi := R_Head8_11) (v := ?_) rfl (by kernel_rfl) (by kernel_rfl) (by kernel_rfl) (fun _ _ _ h => h) (Or.inl ⟨by rfl, ?_⟩) (by assumption) ?_; rotate_left; next => (intro w hSw; (try dsimp only at hSw); (try delta R_Head8_11); go_simp; try with_reducible rfl))
    ((try simp only [Act.put, List.setIfInBounds_toArray, List.set_cons_zero, List.set_cons_succ]); (try simp only [KD1.out, KD2.out]))
    first | (refine wpAnyH_take (i := 12) (oi := R_Head8_12) (v := undef) rfl (by kernel_rfl) (by kernel_rfl) (by kernel_rfl) (fun _ _ _ h => h) (Or.inr ⟨by rfl, rfl⟩) (by assumption) ?_) | (refine wpAnyH_take (i := 12) (oi := R_Head8_12) (v := ?_) rfl (by kernel_rfl) (by kernel_rfl) (by kernel_rfl) (fun _ _ _ h => h) (Or.inl ⟨by rfl, ?_⟩) (by assumption) ?_; rotate_left; next => (intro w hSw; (try dsimp only at hSw); (try delta R_Head8_12); go_simp; try with_reducible rfl))
    ((try simp only [Act.put, List.setIfInBounds_toArray, List.set_cons_zero, List.set_cons_succ]); (try simp only [KD1.out, KD2.out]))
    first | (refine wpAnyH_take (i := 13) (oi := R_Head8_13) (v := undef) rfl (by kernel_rfl) (by kernel_rfl) (by kernel_rfl) (fun _ _ _ h => h) (Or.inr ⟨by rfl, rfl⟩) (by assumption) ?_) | (refine wpAnyH_take (i := 13) (oi := R_Head8_13) (v := ?_) rfl (by kernel_rfl) (by kernel_rfl) (by kernel_rfl) (fun _ _ _ h => h) (Or.inl ⟨by rfl, ?_⟩) (by assumption) ?_; rotate_left; next => (intro w hSw; (try dsimp only at hSw); (try delta R_Head8_13); go_simp; try with_reducible rfl))
    ((try simp only [Act.put, List.setIfInBounds_toArray, List.set_cons_zero, List.set_cons_succ]); (try simp only [KD1.out, KD2.out]))
    first | (refine wpAnyH_take (i := 14) (oi := R_Head8_14) (v := undef) rfl (by kernel_rfl) (by kernel_rfl) (by kernel_rfl) (fun _ _ _ h => h) (Or.inr ⟨by rfl, rfl⟩) (by assumption) ?_) | (refine wpAnyH_take (i := 14) (oi := R_Head8_14) (v := ?_) rfl (by kernel_rfl) (by kernel_rfl) (by kernel_rfl) (fun _ _ _ h => h) (Or.inl ⟨by rfl, ?_⟩) (by assumption) ?_; rotate_left; next => (intro w hSw; (try dsimp only at hSw); (try delta R_Head8_14); go_simp; try with_reducible rfl))
    ((try simp only [Act.put, List.setIfInBounds_toArray, List.set_cons_zero, List.set_cons_succ]); (try simp only [KD1.out, KD2.out]))
    (refine wpAnyH_take (i := 15) (oi := R_Head8_15) (v := ?_) rfl (by kernel_rfl) (by kernel_rfl) (by kernel_rfl) (fun _ _ _ h => h) (Or.inl ⟨by rfl, ?_⟩) (by assumption) ?_; rotate_left; next => (intro w hSw; (try dsimp only at hSw); (try delta R_Head8_15); go_simp; try with_reducible rfl))
    ((try simp only [Act.put, List.setIfInBounds_toArray, List.set_cons_zero, List.set_cons_succ]); (try simp only [KD1.out, KD2.out]))
    (refine wpAnyH_take (i := 16) (oi := R_Head8_16) (v := ?_) rfl (by kernel_rfl) (by kernel_rfl) (by kernel_rfl) (fun _ _ _ h => h) (Or.inl ⟨by rfl, ?_⟩) (by assumption) ?_; rotate_left; next => (intro w hSw; (try dsimp only at hSw); (try delta R_Head8_16); go_simp; try with_reducible rfl))
    ((try simp only [Act.put, List.setIfInBounds_toArray, List.set_cons_zero, List.set_cons_succ]); (try simp only [KD1.out, KD2.out]))
    first | (refine wpAnyH_take (i := 17) (oi := R_Head8_17) (v := undef) rfl (by kernel_rfl) (by kernel_rfl) (by kernel_rfl) (fun _ _ _ h => h) (Or.inr ⟨by rfl, rfl⟩) (by assumption) ?_) | (refine wpAnyH_take (i := 17) (oi := R_Head8_17) (v := ?_) rfl (by kernel_rfl) (by kernel_rfl) (by kernel_rfl) (fun _ _ _ h => h) (Or.inl ⟨by rfl, ?_⟩) (by assumption) ?_; rotate_left; next => (intro w hSw; (try dsimp only at hSw); (try delta R_Head8_17); go_simp; try with_reducible rfl))
    ((try simp only [Act.put, List.setIfInBounds_toArray, List.set_cons_zero, List.set_cons_succ]); (try simp only [KD1.out, KD2.out]))
    first | (refine wpAnyH_take (i := 18) (oi := R_Head8_18) (v := undef) rfl (by kernel_rfl) (by kernel_rfl) (by kernel_rfl) (fun _ _ _ h => h) (Or.inr ⟨by rfl, rfl⟩) (by assumption) ?_) | (refine wpAnyH_take (i := 18) (oi := R_Head8_18) (v := ?_) rfl (by kernel_rfl) (by kernel_rfl) (by kernel_rfl) (fun _ _ _ h => h) (Or.inl ⟨by rfl, ?_⟩) (by assumption) ?_; rotate_left; next => (intro w hSw; (try dsimp only at hSw); (try delta R_Head8_18); go_simp; try with_reducible rfl))
    ((try simp only [Act.put, List.setIfInBounds_toArray, List.set_cons_zero, List.set_cons_succ]); (try simp only [KD1.out, KD2.out]))
    first | (refine wpAnyH_take (i := 19) (oi := R_Head8_19) (v := undef) rfl (by kernel_rfl) (by kernel_rfl) (by kernel_rfl) (fun _ _ _ h => h) (Or.inr ⟨by rfl, rfl⟩) (by assumption) ?_) | (refine wpAnyH_take (i := 19) (oi := R_Head8_19) (v := ?_) rfl (by kernel_rfl) (by kernel_rfl) (by kernel_rfl) (fun _ _ _ h => h) (Or.inl ⟨by rfl, ?_⟩) (by assumption) ?_; rotate_left; next => (intro w hSw; (try dsimp only at hSw); (try delta R_Head8_19); go_simp; try with_reducible rfl))
    ((try simp only [Act.put, List.setIfInBounds_toArray, List.set_cons_zero, List.set_cons_succ]); (try simp only [KD1.out, KD2.out]))
    first | (refine wpAnyH_take (i := 20) (oi := R_Head8_20) (v := undef) rfl (by kernel_rfl) (by kernel_rfl) (by kernel_rfl) (fun _ _ _ h => h) (Or.inr ⟨by rfl, rfl⟩) (by assumption) ?_) | (refine wpAnyH_take (i := 20) (oi := R_Head8_20) (v := ?_) rfl (by kernel_rfl) (by kernel_rfl) (by kernel_rfl) (fun _ _ _ h => h) (Or.inl ⟨by rfl, ?_⟩) (by assumption) ?_; rotate_left; next => (intro w hSw; (try dsimp only at hSw); (try delta R_Head8_20); go_simp; try with_reducible rfl))
    ((try simp only [Act.put, List.setIfInBounds_toArray, List.set_cons_zero, List.set_cons_succ]); (try simp only [KD1.out, KD2.out]))
    first | (refine wpAnyH_take (i := 21) (oi := R_Head8_21) (v := undef) rfl (by kernel_rfl) (by kernel_rfl) (by kernel_rfl) (fun _ _ _ h => h) (Or.inr ⟨by rfl, rfl⟩) (by assumption) ?_) | (refine wpAnyH_take (i := 21) (oi := R_Head8_21) (v := ?_) rfl (by kernel_rfl) (by kernel_rfl) (by kernel_rfl) (fun _ _ _ h => h) (Or.inl ⟨by rfl, ?_⟩) (by assumption) ?_; rotate_left; next => (intro w hSw; (try dsimp only at hSw); (try delta R_Head8_21); go_simp; try with_reducible rfl))
    ((try simp only [Act.put, List.setIfInBounds_toArray, List.set_cons_zero, List.set_cons_succ]); (try simp only [KD1.out, KD2.out]))
    first | (refine wpAnyH_take (i := 22) (oi := R_Head8_22) (v := undef) rfl (by kernel_rfl) (by kernel_rfl) (by kernel_rfl) (fun _ _ _ h => h) (Or.inr ⟨by rfl, rfl⟩) (by assumption) ?_) | (refine wpAnyH_take (i := 22) (oi := R_Head8_22) (v := ?_) rfl (by kernel_rfl) (by kernel_rfl) (by kernel_rfl) (fun _ _ _ h => h) (Or.inl ⟨by rfl, ?_⟩) (by assumption) ?_; rotate_left; next => (intro w hSw; (try dsimp only at hSw); (try delta R_Head8_22); go_simp; try with_reducible rfl))
    ((try simp only [Act.put, List.setIfInBounds_toArray, List.set_cons_zero, List.set_cons_succ]); (try simp only [KD1.out, KD2.out]))
    first | (refine wpAnyH_take (i := 23) (oi := R_Head8_23) (v := undef) rfl (by kernel_rfl) (by kernel_rfl) (by kernel_rfl) (fun _ _ _ h => h) (Or.inr ⟨by rfl, rfl⟩) (by assumption) ?_) | (refine wpAnyH_take (i := 23) (oi := R_Head8_23) (v := ?_) rfl (by kernel_rfl) (by kernel_rfl) (by kernel_rfl) (fun _ _ _ h => h) (Or.inl ⟨by rfl, ?_⟩) (by assumption) ?_; rotate_left; next => (intro w hSw; (try dsimp only at hSw); (try delta R_Head8_23); go_simp; try with_reducible rfl))
    ((try simp only [Act.put, List.setIfInBounds_toArray, List.set_cons_zero, List.set_cons_succ]); (try simp only [KD1.out, KD2.out]))
    first | (refine wpAnyH_take (i := 24) (oi := R_Head8_24) (v := undef) rfl (by kernel_rfl) (by kernel_rfl) (by kernel_rfl) (fun _ _ _ h => h) (Or.inr ⟨by rfl, rfl⟩) (by assumption) ?_) | (refine wpAnyH_take (i := 24) (oi := R_Head8_24) (v := ?_) rfl (by kernel_rfl) (by kernel_rfl) (by kernel_rfl) (fun _ _ _ h => h) (Or.inl ⟨by rfl, ?_⟩) (by assumption) ?_; rotate_left; next => (intro w hSw; (try dsimp only at hSw); (try delta R_Head8_24); go_simp; try with_reducible rfl))
    ((try simp only [Act.put, List.setIfInBounds_toArray, List.set_cons_zero, List.set_cons_succ]); (try simp only [KD1.out, KD2.out]))
    (refine wpAnyH_take (i := 25) (oi := R_Head8_25) (v := ?_) rfl (by kernel_rfl) (by kernel_rfl) (by kernel_rfl) (fun _ _ _ h => h) (Or.inl ⟨by rfl, ?_⟩) (by assumption) ?_; rotate_left; next => (intro w hSw; (try dsimp only at hSw); (try delta R_Head8_25); go_simp; try with_reducible rfl))
    ((try simp only [Act.put, List.setIfInBounds_toArray, List.set_cons_zero, List.set_cons_succ]); (try simp only [KD1.out, KD2.out]))
    (refine wpAnyH_take (i := 26) (oi := R_Head8_26) (v := ?_) rfl (by kernel_rfl) (by kernel_rfl) (by kernel_rfl) (fun _ _ _ h => h) (Or.inl ⟨by rfl, ?_⟩) (by assumption) ?_; rotate_left; next => (intro w hSw; (try dsimp only at hSw); (try delta R_Head8_26); go_simp; try with_reducible rfl))
    ((try simp only [Act.put, List.setIfInBounds_toArray, List.set_cons_zero, List.set_cons_succ]); (try simp only [KD1.out, KD2.out]))
    first | (refine wpAnyH_take (i := 27) (oi := R_Head8_27) (v := undef) rfl (by kernel_rfl) (by kernel_rfl) (by kernel_rfl) (fun _ _ _ h => h) (Or.inr ⟨by rfl, rfl⟩) (by assumption) ?_) | (refine wpAnyH_take (i := 27) (oi := R_Head8_27) (v := ?_) rfl (by kernel_rfl) (by kernel_rfl) (by kernel_rfl) (fun _ _ _ h => h) (Or.inl ⟨by rfl, ?_⟩) (by assumption) ?_; rotate_left; next => (intro w hSw; (try dsimp only at hSw); (try delta R_Head8_27); go_simp; try with_reducible rfl))
    ((try simp only [Act.put, List.setIfInBounds_toArray, List.set_cons_zero, List.set_cons_succ]); (try simp only [KD1.out, KD2.out]))
    first | (refine wpAnyH_take (i := 28) (oi := R_Head8_28) (v := undef) rfl (by kernel_rfl) (by kernel_rfl) (by kernel_rfl) (fun _ _ _ h => h) (Or.inr ⟨by rfl, rfl⟩) (by assumption) ?_) | (refine wpAnyH_take (i := 28) (oi := R_Head8_28) (v := ?_) rfl (by kernel_rfl) (by kernel_rfl) (by kernel_rfl) (fun _ _ _ h => h) (Or.inl ⟨by rfl, ?_⟩) (by assumption) ?_; rotate_left; next => (intro w hSw; (try dsimp only at hSw); (try delta R_Head8_28); go_simp; try with_reducible rfl))
    ((try simp only [Act.put, List.setIfInBounds_toArray, List.set_cons_zero, List.set_cons_succ]); (try simp only [KD1.out, KD2.out]))
    first | (refine wpAnyH_take (i := 29) (oi := R_Head8_29) (v := undef) rfl (by kernel_rfl) (by kernel_rfl) (by kernel_rfl) (fun _ _ _ h => h) (Or.inr ⟨by rfl, rfl⟩) (by assumption) ?_) | (refine wpAnyH_take (i := 29) (oi := R_Head8_29) (v := ?_) rfl (by kernel_rfl) (by kernel_rfl) (by kernel_rfl) (fun _ _ _ h => h) (Or.inl ⟨by rfl, ?_⟩) (by assumption) ?_; rotate_left; next => (intro w hSw; (try dsimp only at hSw); (try delta R_Head8_29); go_simp; try with_reducible rfl))
    ((try simp only [Act.put, List.setIfInBounds_toArray, List.set_cons_zero, List.set_cons_succ]); (try simp only [KD1.out, KD2.out]))
    (refine wpAnyH_take (i := 30) (oi := R_Head8_30) (v := ?_) rfl (by kernel_rfl) (by kernel_rfl) (by kernel_rfl) (fun _ _ _ h => h) (Or.inl ⟨by rfl, ?_⟩) (by assumption) ?_; rotate_left; next => (intro w hSw; (try dsimp only at hSw); (try delta R_Head8_30); go_simp; try with_reducible rfl))
    ((try simp only [Act.put, List.setIfInBounds_toArray, List.set_cons_zero, List.set_cons_succ]); (try simp only [KD1.out, KD2.out]))
    (refine wpAnyH_take (i := 31) (oi := R_Head8_31) (v := ?_) rfl (by kernel_rfl) (by kernel_rfl) (by kernel_rfl) (fun _ _ _ h => h) (Or.inl ⟨by rfl, ?_⟩) (by assumption) ?_; rotate_left; next => (intro w hSw; (try dsimp only at hSw); (try delta R_Head8_31); go_simp; try with_reducible rfl))
    ((try simp only [Act.put, List.setIfInBounds_toArray, List.set_cons_zero, List.set_cons_succ]); (try simp only [KD1.out, KD2.out]))
    first | (refine wpAnyH_take (i := 32) (oi := R_Head8_32) (v := undef) rfl (by kernel_rfl) (by kernel_rfl) (by kernel_rfl) (fun _ _ _ h => h) (Or.inr ⟨by rfl, rfl⟩) (by assumption) ?_) | (refine wpAnyH_take (i := 32) (oi := R_Head8_32) (v := ?_) rfl (by kernel_rfl) (by kernel_rfl) (by kernel_rfl) (fun _ _ _ h => h) (Or.inl ⟨by rfl, ?_⟩) (by assumption) ?_; rotate_left; next => (intro w hSw; (try dsimp only at hSw); (try delta R_Head8_32); go_simp; try with_reducible rfl))
    ((try simp only [Act.put, List.setIfInBounds_toArray, List.set_cons_zero, List.set_cons_succ]); (try simp only [KD1.out, KD2.out]))
    first | (refine wpAnyH_take (i := 33) (oi := R_Head8_33) (v := undef) rfl (by kernel_rfl) (by kernel_rfl) (by kernel_rfl) (fun _ _ _ h => h) (Or.inr ⟨by rfl, rfl⟩) (by assumption) ?_) | (refine wpAnyH_take (i := 33) (oi := R_Head8_33) (v := ?_) rfl (by kernel_rfl) (by kernel_rfl) (by kernel_rfl) (fun _ _ _ h => h) (Or.inl ⟨by rfl, ?_⟩) (by assumption) ?_; rotate_left; next => (intro w hSw; (try dsimp only at hSw); (try delta R_Head8_33); go_simp; try with_reducible rfl))
    ((try simp only [Act.put, List.setIfInBounds_toArray, List.set_cons_zero, List.set_cons_succ]); (try simp only [KD1.out, KD2.out]))
    first | (refine wpAnyH_take (i := 34) (oi := R_Head8_34) (v := undef) rfl (by kernel_rfl) (by kernel_rfl) (by kernel_rfl) (fun _ _ _ h => h) (Or.inr ⟨by rfl, rfl⟩) (by assumption) ?_) | (refine wpAnyH_take (i := 34) (oi := R_Head8_34) (v := ?_) rfl (by kernel_rfl) (by kernel_rfl) (by kernel_rfl) (fun _ _ _ h => h) (Or.inl ⟨by rfl, ?_⟩) (by assumption) ?_; rotate_left; next => (intro w hSw; (try dsimp only at hSw); (try delta R_Head8_34); go_simp; try with_reducible rfl))
    ((try simp only [Act.put, List.setIfInBounds_toArray, List.set_cons_zero, List.set_cons_succ]); (try simp only [KD1.out, KD2.out]))
    first
    | (refine wpAnyH_take (i := 35) (oi := R_Head8_35) (v := undef) rfl (by kernel_rfl) (by kernel_rfl) (by kernel_rfl) (fun _ _ _ h => h) (Or.inr ⟨by rfl, rfl⟩) (by assumption) ?_
       ((try simp only [Act.put, List.setIfInBounds_toArray, List.set_cons_zero, List.set_cons_succ]); (try simp only [KD1.out, KD2.out])))
    | (refine wpAnyH_ready (rs := [35]) (by kernel_rfl) (by simp) ?_
       refine AllReadyH.cons (o := R_Head8_35) rfl (fun K hK => ?_) AllReadyH.nil
       (try delta R_Head8_35)
       go_simp
       (first | (go_at_call 38; (with_reducible refine (CGD.out w7.drew HDD.out).mono ?_); rintro e wz ⟨rfl, rfl⟩) | (go_at_call 34; (with_reducible refine (CBK.out w7.drew HBD.out).mono ?_); rintro e wz ⟨rfl, rfl⟩))
       (try go_wp2_with fail)
       refine hK.out _ _ ?_ (fun hHeld => ?_)
       · (exact ⟨s0, s1, s2⟩)
       clear hK K
       ((try simp only [Act.put, List.setIfInBounds_toArray, List.set_cons_zero, List.set_cons_succ]); (try simp only [KD1.out, KD2.out])))
    first | (refine wpAnyH_take (i := 36) (oi := R_Head8_36) (v := undef) rfl (by kernel_rfl) (by kernel_rfl) (by kernel_rfl) (fun _ _ _ h => h) (Or.inr ⟨by rfl, rfl⟩) (by assumption) ?_) | (refine wpAnyH_take (i := 36) (oi := R_Head8_36) (v := ?_) rfl (by kernel_rfl) (by kernel_rfl) (by kernel_rfl) (fun _ _ _ h => h) (Or.inl ⟨by rfl, ?_⟩) (by assumption) ?_; rotate_left; next => (intro w hSw; (try dsimp only at hSw); (try delta R_Head8_36); go_simp; try with_reducible rfl))
    ((try simp only [Act.put, List.setIfInBounds_toArray, List.set_cons_zero, List.set_cons_succ]); (try simp only [KD1.out, KD2.out]))
    first | (refine wpAnyH_take (i := 37) (oi := R_Head8_37) (v := undef) rfl (by kernel_rfl) (by kernel_rfl) (by kernel_rfl) (fun _ _ _ h => h) (Or.inr ⟨by rfl, rfl⟩) (by assumption) ?_) | (refine wpAnyH_take (i := 37) (oi := R_Head8_37) (v := ?_) rfl (by kernel_rfl) (by kernel_rfl) (by kernel_rfl) (fun _ _ _ h => h) (Or.inl ⟨by rfl, ?_⟩) (by assumption) ?_; rotate_left; next => (intro w hSw; (try dsimp only at hSw); (try delta R_Head8_37); go_simp; try with_reducible rfl))
    ((try simp only [Act.put, List.setIfInBounds_toArray, List.set_cons_zero, List.set_cons_succ]); (try simp only [KD1.out, KD2.out]))
    (refine wpAnyH_take (i := 38) (oi := R_Head8_38) (v := ?_) rfl (by kernel_rfl) (by kernel_rfl) (by kernel_rfl) (fun _ _ _ h => h) (Or.inl ⟨by rfl, ?_⟩) (by assumption) ?_; rotate_left; next => (intro w hSw; (try dsimp only at hSw); (try delta R_Head8_38); go_simp; try with_reducible rfl))
    ((try simp only [Act.put, List.setIfInBounds_toArray, List.set_cons_zero, List.set_cons_succ]); (try simp only [KD1.out, KD2.out]))
    (refine wpAnyH_take (i := 39) (oi := R_Head8_39) (v := ?_) rfl (by kernel_rfl) (by kernel_rfl) (by kernel_rfl) (fun _ _ _ h => h) (Or.inl ⟨by rfl, ?_⟩) (by assumption) ?_; rotate_left; next => (intro w hSw; (try dsimp only at hSw); (try delta R_Head8_39); go_simp; try with_reducible rfl))
    ((try simp only [Act.put, List.setIfInBounds_toArray, List.set_cons_zero, List.set_cons_succ]); (try simp only [KD1.out, KD2.out]))
    refine wpAnyH_done (by kernel_rfl) ?_ _
    go_wp2_with fail
    refine bodyPost_ret (results_row_tmpH rfl _ _ w.heap.size 67 #[_, _, _] (0, 0) _ rfl HE.out.1 Tryd.underlying67 rfl infoHead) rfl ?_
    exact ⟨by rw [HX.out]; dsimp only; rw [HOK.out]; simp [HD3.val, KD1.out, KD2.out], HE.out.2⟩
  have KD2 : Hid (decide (n1 ≤ 1099511627776) = true) := Lib.hid (by simp; omega)
  clear k1 k2
  by_cases k3 : n2 = 0
  · subst k3
    by_cases k4 : n3 < 0
    · have KD4 : Hid (decide (0 ≤ n3) = false) := Lib.hid (by simp; omega)
      refine wp_region_held_drew (S := (fun W => W.cell? ⟨lb, 0, none⟩ = some (.int .i64 n1) ∧ W.cell? ⟨lb, 1, none⟩ = some (.int .i64 0) ∧ W.cell? ⟨lb, 2, none⟩ = some (.int .i64 n3))) (by kernel_rfl) ?_ (fun hHeld => ?_)
      · (exact ⟨s0, s1, s2⟩)
      (refine wpAnyH_take (i := 0) (oi := R_Head8_0) (v := ?_) rfl (by kernel_rfl) (by kernel_rfl) (by kernel_rfl) (fun _ _ _ h => h) (Or.inl ⟨by rfl, ?_⟩) (by assumption) ?_; rotate_left; next => (intro w hSw; (try dsimp only at hSw); (try delta R_Head8_0); go_simp; try with_reducible rfl))
      ((try simp only [Act.put, List.setIfInBounds_toArray, List.set_cons_zero, List.set_cons_succ]); (try simp only [KD1.out, KD2.out, KD4.out]))
      refine wpAnyH_ready (rs := [1]) (by kernel_rfl) (by simp) ?_
      refine AllReadyH.cons (o := R_Head8_1) rfl (fun K hK => ?_) AllReadyH.nil
      (try delta R_Head8_1)
      go_simp
      (first | (go_at_call 38; (with_reducible refine (CGD.out w7.drew HDD.out).mono ?_); rintro e wz ⟨rfl, rfl⟩) | (go_at_call 34; (with_reducible refine (CBK.out w7.drew HBD.out).mono ?_); rintro e wz ⟨rfl, rfl⟩))
      (try go_wp2_with fail)
      refine hK.out _ _ ?_ (fun hHeld => ?_)
      · (exact ⟨s0, s1, s2⟩)
      clear hK K
      ((try simp only [Act.put, List.setIfInBounds_toArray, List.set_cons_zero, List.set_cons_succ]); (try simp only [KD1.out, KD2.out, KD4.out]))
      (refine wpAnyH_take (i := 2) (oi := R_Head8_2) (v := ?_) rfl (by kernel_rfl) (by kernel_rfl) (by kernel_rfl) (fun _ _ _ h => h) (Or.inl ⟨by rfl, ?_⟩) (by assumption) ?_; rotate_left; next => (intro w hSw; (try dsimp only at hSw); (try delta R_Head8_2); go_simp; try with_reducible rfl))
      ((try simp only [Act.put, List.setIfInBounds_toArray, List.set_cons_zero, List.set_cons_succ]); (try simp only [KD1.out, KD2.out, KD4.out]))
      first | (refine wpAnyH_take (i := 3) (oi := R_Head8_3) (v := undef) rfl (by kernel_rfl) (by kernel_rfl) (by kernel_rfl) (fun _ _ _ h => h) (Or.inr ⟨by rfl, rfl⟩) (by assumption) ?_) | (refine wpAnyH_take (i := 3) (oi := R_Head8_3) (v := ?_) rfl (by kernel_rfl) (by kernel_rfl) (by kernel_rfl) (fun _ _ _ h => h) (Or.inl ⟨by rfl, ?_⟩) (by assumption) ?_; rotate_left; next => (intro w hSw; (try dsimp only at hSw); (try delta R_Head8_3); go_simp; try with_reducible rfl))
      ((try simp only [Act.put, List.setIfInBounds_toArray, List.set_cons_zero, List.set_cons_succ]); (try simp only [KD1.out, KD2.out, KD4.out]))
      first | (refine wpAnyH_take (i := 4) (oi := R_Head8_4) (v := undef) rfl (by kernel_rfl) (by kernel_rfl) (by kernel_rfl) (fun _ _ _ h => h) (Or.inr ⟨by rfl, rfl⟩) (by assumption) ?_) | (refine wpAnyH_take (i := 4) (oi := R_Head8_4) (v := ?_) rfl (by kernel_rfl) (by kernel_rfl) (by kernel_rfl) (fun _ _ _ h => h) (Or.inl ⟨by rfl, ?_⟩) (by assumption) ?_; rotate_left; next => (intro w hSw; (try dsimp only at hSw); (try delta R_Head8_4); go_simp; try with_reducible rfl))
      ((try simp only [Act.put, List.setIfInBounds_toArray, List.set_cons_zero, List.set_cons_succ]); (try simp only [KD1.out, KD2.out, KD4.out]))
      (refine wpAnyH_take (i := 5) (oi := R_Head8_5) (v := ?_) rfl (by kernel_rfl) (by kernel_rfl) (by kernel_rfl) (fun _ _ _ h => h) (Or.inl ⟨by rfl, ?_⟩) (by assumption) ?_; rotate_left; next => (intro w hSw; (try dsimp only at hSw); (try delta R_Head8_5); go_simp; try with_reducible rfl))
      ((try simp only [Act.put, List.setIfInBounds_toArray, List.set_cons_zero, List.set_cons_succ]); (try simp only [KD1.out, KD2.out, KD4.out]))
      (refine wpAnyH_take (i := 6) (oi := R_Head8_6) (v := ?_) rfl (by kernel_rfl) (by kernel_rfl) (by kernel_rfl) (fun _ _ _ h => h) (Or.inl ⟨by rfl, ?_⟩) (by assumption) ?_; rotate_left; next => (intro w hSw; (try dsimp only at hSw); (try delta R_Head8_6); go_simp; try with_reducible rfl))
      ((try simp only [Act.put, List.setIfInBounds_toArray, List.set_cons_zero, List.set_cons_succ]); (try simp only [KD1.out, KD2.out, KD4.out]))
      first | (refine wpAnyH_take (i := 7) (oi := R_Head8_7) (v := undef) rfl (by kernel_rfl) (by kernel_rfl) (by kernel_rfl) (fun _ _ _ h => h) (Or.inr ⟨by rfl, rfl⟩) (by assumption) ?_) | (refine wpAnyH_take (i := 7) (oi := R_Head8_7) (v := ?_) rfl (by kernel_rfl) (by kernel_rfl) (by kernel_rfl) (fun _ _ _ h => h) (Or.inl ⟨by rfl, ?_⟩) (by assumption) ?_; rotate_left; next => (intro w hSw; (try dsimp only at hSw); (try delta R_Head8_7); go_simp; try with_reducible rfl))
      ((try simp only [Act.put, List.setIfInBounds_toArray, List.set_cons_zero, List.set_cons_succ]); (try simp only [KD1.out, KD2.out, KD4.out]))
      first | (refine wpAnyH_take (i := 8) (oi := R_Head8_8) (v := undef) rfl (by kernel_rfl) (by kernel_rfl) (by kernel_rfl) (fun _ _ _ h => h) (Or.inr ⟨by rfl, rfl⟩) (by assumption) ?_) | (refine wpAnyH_take (i := 8) (oi := R_Head8_8) (v := ?_) rfl (by kernel_rfl) (by kernel_rfl) (by kernel_rfl) (fun _ _ _ h => h) (Or.inl ⟨by rfl, ?_⟩) (by assumption) ?_; rotate_left; next => (intro w hSw; (try dsimp only at hSw); (try delta R_Head8_8); go_simp; try with_reducible rfl))
      ((try simp only [Act.put, List.setIfInBounds_toArray, List.set_cons_zero, List.set_cons_succ]); (try simp only [KD1.out, KD2.out, KD4.out]))
      first | (refine wpAnyH_take (i := 9) (oi := R_Head8_9) (v := undef) rfl (by kernel_rfl) (by kernel_rfl) (by kernel_rfl) (fun _ _ _ h => h) (Or.inr ⟨by rfl, rfl⟩) (by assumption) ?_) | (refine wpAnyH_take (i := 9) (oi := R_Head8_9) (v := ?_) rfl (by kernel_rfl) (by kernel_rfl) (by kernel_rfl) (fun _ _ _ h => h) (Or.inl ⟨by rfl, ?_⟩) (by assumption) ?_; rotate_left; next => (intro w hSw; (try dsimp only at hSw); (try delta R_Head8_9); go_simp; try with_reducible rfl))
      ((try simp only [Act.put, List.setIfInBounds_toArray, List.set_cons_zero, List.set_cons_succ]); (try simp only [KD1.out, KD2.out, KD4.out]))
      (refine wpAnyH_take (i := 10) (oi := R_Head8_10) (v := ?_) rfl (by kernel_rfl) (by kernel_rfl) (by kernel_rfl) (fun _ _ _ h => h) (Or.inl ⟨by rfl, ?_⟩) (by assumption) ?_; rotate_left; next => (intro w hSw; (try dsimp only at hSw); (try delta R_Head8_10); go_simp; try with_reducible rfl))
      ((try simp only [Act.put, List.setIfInBounds_toArray, List.set_cons_zero, List.set_cons_succ]); (try simp only [KD1.out, KD2.out, KD4.out]))
      (refine wpAnyH_take (i := 11) (oi := R_Head8_11) (v := ?_) rfl (by kernel_rfl) (by kernel_rfl) (by kernel_rfl) (fun _ _ _ h => h) (Or.inl ⟨by rfl, ?_⟩) (by assumption) ?_; rotate_left; next => (intro w hSw; (try dsimp only at hSw); (try delta R_Head8_11); go_simp; try with_reducible rfl))
      ((try simp only [Act.put, List.setIfInBounds_toArray, List.set_cons_zero, List.set_cons_succ]); (try simp only [KD1.out, KD2.out, KD4.out]))
      first | (refine wpAnyH_take (i := 12) (oi := R_Head8_12) (v := undef) rfl (by kernel_rfl) (by kernel_rfl) (by kernel_rfl) (fun _ _ _ h => h) (Or.inr ⟨by rfl, rfl⟩) (by assumption) ?_) | (refine wpAnyH_take (i := 12) (oi := R_Head8_12) (v := ?_) rfl (by kernel_rfl) (by kernel_rfl) (by kernel_rfl) (fun _ _ _ h => h) (Or.inl ⟨by rfl, ?_⟩) (by assumption) ?_; rotate_left; next => (intro w hSw; (try dsimp only at hSw); (try delta R_Head8_12); go_simp; try with_reducible rfl))
      ((try simp only [Act.put, List.setIfInBounds_toArray, List.set_cons_zero, List.set_cons_succ]); (try simp only [KD1.out, KD2.out, KD4.out]))
      first | (refine wpAnyH_take (i := 13) (oi := R_Head8_13) (v := undef) rfl (by kernel_rfl) (by kernel_rfl) (by kernel_rfl) (fun _ _ _ h => h) (Or.inr ⟨by rfl, rfl⟩) (by assumption) ?_) | (refine wpAnyH_take (i := 13) (oi := R_Head8_13) (v := ?_) rfl (by kernel_rfl) (by kernel_rfl) (by kernel_rfl) (fun _ _ _ h => h) (Or.inl ⟨by rfl, ?_⟩) (by assumption) ?_; rotate_left; next => (intro w hSw; (try dsimp only at hSw); (try delta R_Head8_13); go_simp; try with_reducible rfl))
      ((try simp only [Act.put, List.setIfInBounds_toArray, List.set_cons_zero, List.set_cons_succ]); (try simp only [KD1.out, KD2.out, KD4.out]))
      first | (refine wpAnyH_take (i := 14) (oi := R_Head8_14) (v := undef) rfl (by kernel_rfl) (by kernel_rfl) (by kernel_rfl) (fun _ _ _ h => h) (Or.inr ⟨by rfl, rfl⟩) (by assumption) ?_) | (refine wpAnyH_take (i := 14) (oi := R_Head8_14) (v := ?_) rfl (by kernel_rfl) (by kernel_rfl) (by kernel_rfl) (fun _ _ _ h => h) (Or.inl ⟨by rfl, ?_⟩) (by assumption) ?_; rotate_left; next => (intro w hSw; (try dsimp only at hSw); (try delta R_Head8_14); go_simp; try with_reducible rfl))
      ((try simp only [Act.put, List.setIfInBounds_toArray, List.set_cons_zero, List.set_cons_succ]); (try simp only [KD1.out, KD2.out, KD4.out]))
      (refine wpAnyH_take (i := 15) (oi := R_Head8_15) (v := ?_) rfl (by kernel_rfl) (by kernel_rfl) (by kernel_rfl) (fun _ _ _ h => h) (Or.inl ⟨by rfl, ?_⟩) (by assumption) ?_; rotate_left; next => (intro w hSw; (try dsimp only at hSw); (try delta R_Head8_15); go_simp; try with_reducible rfl))
      ((try simp only [Act.put, List.setIfInBounds_toArray, List.set_cons_zero, List.set_cons_succ]); (try simp only [KD1.out, KD2.out, KD4.out]))
      (refine wpAnyH_take (i := 16) (oi := R_Head8_16) (v := ?_) rfl (by kernel_rfl) (by kernel_rfl) (by kernel_rfl) (fun _ _ _ h => h) (Or.inl ⟨by rfl, ?_⟩) (by assumption) ?_; rotate_left; next => (intro w hSw; (try dsimp only at hSw); (try delta R_Head8_16); go_simp; try with_reducible rfl))
      ((try simp only [Act.put, List.setIfInBounds_toArray, List.set_cons_zero, List.set_cons_succ]); (try simp only [KD1.out, KD2.out, KD4.out]))
      first | (refine wpAnyH_take (i := 17) (oi := R_Head8_17) (v := undef) rfl (by kernel_rfl) (by kernel_rfl) (by kernel_rfl) (fun _ _ _ h => h) (Or.inr ⟨by rfl, rfl⟩) (by assumption) ?_) | (refine wpAnyH_take (i := 17) (oi := R_Head8_17) (v := ?_) rfl (by kernel_rfl) (by kernel_rfl) (by kernel_rfl) (fun _ _ _ h => h) (Or.inl ⟨by rfl, ?_⟩) (by assumption) ?_; rotate_left; next => (intro w hSw; (try dsimp only at hSw); (try delta R_Head8_17); go_simp; try with_reducible rfl))
      ((try simp only [Act.put, List.setIfInBounds_toArray, List.set_cons_zero, List.set_cons_succ]); (try simp only [KD1.out, KD2.out, KD4.out]))
      first | (refine wpAnyH_take (i := 18) (oi := R_Head8_18) (v := undef) rfl (by kernel_rfl) (by kernel_rfl) (by kernel_rfl) (fun _ _ _ h => h) (Or.inr ⟨by rfl, rfl⟩) (by assumption) ?_) | (refine wpAnyH_take (i := 18) (oi := R_Head8_18) (v := ?_) rfl (by kernel_rfl) (by kernel_rfl) (by kernel_rfl) (fun _ _ _ h => h) (Or.inl ⟨by rfl, ?_⟩) (by assumption) ?_; rotate_left; next => (intro w hSw; (try dsimp only at hSw); (try delta R_Head8_18); go_simp; try with_reducible rfl))
      ((try simp only [Act.put, List.setIfInBounds_toArray, List.set_cons_zero, List.set_cons_succ]); (try simp only [KD1.out, KD2.out, KD4.out]))
      first | (refine wpAnyH_take (i := 19) (oi := R_Head8_19) (v := undef) rfl (by kernel_rfl) (by kernel_rfl) (by kernel_rfl) (fun _ _ _ h => h) (Or.inr ⟨by rfl, rfl⟩) (by assumption) ?_) | (refine wpAnyH_take (i := 19) (oi := R_Head8_19) (v := ?_) rfl (by kernel_rfl) (by kernel_rfl) (by kernel_rfl) (fun _ _ _ h => h) (Or.inl ⟨by rfl, ?_⟩) (by assumption) ?_; rotate_left; next => (intro w hSw; (try dsimp only at hSw); (try delta R_Head8_19); go_simp; try with_reducible rfl))
      ((try simp only [Act.put, List.setIfInBounds_toArray, List.set_cons_zero, List.set_cons_succ]); (try simp only [KD1.out, KD2.out, KD4.out]))
      first | (refine wpAnyH_take (i := 20) (oi := R_Head8_20) (v := undef) rfl (by kernel_rfl) (by kernel_rfl) (by kernel_rfl) (fun _ _ _ h => h) (Or.inr ⟨by rfl, rfl⟩) (by assumption) ?_) | (refine wpAnyH_take (i := 20) (oi := R_Head8_20) (v := ?_) rfl (by kernel_rfl) (by kernel_rfl) (by kernel_rfl) (fun _ _ _ h => h) (Or.inl ⟨by rfl, ?_⟩) (by assumption) ?_; rotate_left; next => (intro w hSw; (try dsimp only at hSw); (try delta R_Head8_20); go_simp; try with_reducible rfl))
      ((try simp only [Act.put, List.setIfInBounds_toArray, List.set_cons_zero, List.set_cons_succ]); (try simp only [KD1.out, KD2.out, KD4.out]))
      first | (refine wpAnyH_take (i := 21) (oi := R_Head8_21) (v := undef) rfl (by kernel_rfl) (by kernel_rfl) (by kernel_rfl) (fun _ _ _ h => h) (Or.inr ⟨by rfl, rfl⟩) (by assumption) ?_) | (refine wpAnyH_take (i := 21) (oi := R_Head8_21) (v := ?_) rfl (by kernel_rfl) (by kernel_rfl) (by kernel_rfl) (fun _ _ _ h => h) (Or.inl ⟨by rfl, ?_⟩) (by assumption) ?_; rotate_left; next => (intro w hSw; (try dsimp only at hSw); (try delta R_Head8_21); go_simp; try with_reducible rfl))
      ((try simp only [Act.put, List.setIfInBounds_toArray, List.set_cons_zero, List.set_cons_succ]); (try simp only [KD1.out, KD2.out, KD4.out]))
      first | (refine wpAnyH_take (i := 22) (oi := R_Head8_22) (v := undef) rfl (by kernel_rfl) (by kernel_rfl) (by kernel_rfl) (fun _ _ _ h => h) (Or.inr ⟨by rfl, rfl⟩) (by assumption) ?_) | (refine wpAnyH_take (i := 22) (oi := R_Head8_22) (v := ?_) rfl (by kernel_rfl) (by kernel_rfl) (by kernel_rfl) (fun _ _ _ h => h) (Or.inl ⟨by rfl, ?_⟩) (by assumption) ?_; rotate_left; next => (intro w hSw; (try dsimp only at hSw); (try delta R_Head8_22); go_simp; try with_reducible rfl))
      ((try simp only [Act.put, List.setIfInBounds_toArray, List.set_cons_zero, List.set_cons_succ]); (try simp only [KD1.out, KD2.out, KD4.out]))
      first | (refine wpAnyH_take (i := 23) (oi := R_Head8_23) (v := undef) rfl (by kernel_rfl) (by kernel_rfl) (by kernel_rfl) (fun _ _ _ h => h) (Or.inr ⟨by rfl, rfl⟩) (by assumption) ?_) | (refine wpAnyH_take (i := 23) (oi := R_Head8_23) (v := ?_) rfl (by kernel_rfl) (by kernel_rfl) (by kernel_rfl) (fun _ _ _ h => h) (Or.inl ⟨by rfl, ?_⟩) (by assumption) ?_; rotate_left; next => (intro w hSw; (try dsimp only at hSw); (try delta R_Head8_23); go_simp; try with_reducible rfl))
      ((try simp only [Act.put, List.setIfInBounds_toArray, List.set_cons_zero, List.set_cons_succ]); (try simp only [KD1.out, KD2.out, KD4.out]))
      first | (refine wpAnyH_take (i := 24) (oi := R_Head8_24) (v := undef) rfl (by kernel_rfl) (by kernel_rfl) (by kernel_rfl) (fun _ _ _ h => h) (Or.inr ⟨by rfl, rfl⟩) (by assumption) ?_) | (refine wpAnyH_take (i := 24) (oi := R_Head8_24) (v := ?_) rfl (by kernel_rfl) (by kernel_rfl) (by kernel_rfl) (fun _ _ _ h => h) (Or.inl ⟨by rfl, ?_⟩) (by assumption) ?_; rotate_left; next => (intro w hSw; (try dsimp only at hSw); (try delta R_Head8_24); go_simp; try with_reducible rfl))
      ((try simp only [Act.put, List.setIfInBounds_toArray, List.set_cons_zero, List.set_cons_succ]); (try simp only [KD1.out, KD2.out, KD4.out]))
      (refine wpAnyH_take (i := 25) (oi := R_Head8_25) (v := ?_) rfl (by kernel_rfl) (by kernel_rfl) (by kernel_rfl) (fun _ _ _ h => h) (Or.inl ⟨by rfl, ?_⟩) (by assumption) ?_; rotate_left; next => (intro w hSw; (try dsimp only at hSw); (try delta R_Head8_25); go_simp; try with_reducible rfl))
      ((try simp only [Act.put, List.setIfInBounds_toArray, List.set_cons_zero, List.set_cons_succ]); (try simp only [KD1.out, KD2.out, KD4.out]))
      (refine wpAnyH_take (i := 26) (oi := R_Head8_26) (v := ?_) rfl (by kernel_rfl) (by kernel_rfl) (by kernel_rfl) (fun _ _ _ h => h) (Or.inl ⟨by rfl, ?_⟩) (by assumption) ?_; rotate_left; next => (intro w hSw; (try dsimp only at hSw); (try delta R_Head8_26); go_simp; try with_reducible rfl))
      ((try simp only [Act.put, List.setIfInBounds_toArray, List.set_cons_zero, List.set_cons_succ]); (try simp only [KD1.out, KD2.out, KD4.out]))
      first | (refine wpAnyH_take (i := 27) (oi := R_Head8_27) (v := undef) rfl (by kernel_rfl) (by kernel_rfl) (by kernel_rfl) (fun _ _ _ h => h) (Or.inr ⟨by rfl, rfl⟩) (by assumption) ?_) | (refine wpAnyH_take (i := 27) (oi := R_Head8_27) (v := ?_) rfl (by kernel_rfl) (by kernel_rfl) (by kernel_rfl) (fun _ _ _ h => h) (Or.inl ⟨by rfl, ?_⟩) (by assumption) ?_; rotate_left; next => (intro w hSw; (try dsimp only at hSw); (try delta R_Head8_27); go_simp; try with_reducible rfl))
      ((try simp only [Act.put, List.setIfInBounds_toArray, List.set_cons_zero, List.set_cons_succ]); (try simp only [KD1.out, KD2.out, KD4.out]))
      first | (refine wpAnyH_take (i := 28) (oi := R_Head8_28) (v := undef) rfl (by kernel_rfl) (by kernel_rfl) (by kernel_rfl) (fun _ _ _ h => h) (Or.inr ⟨by rfl, rfl⟩) (by assumption) ?_) | (refine wpAnyH_take (i := 28) (oi := R_Head8_28) (v := ?_) rfl (by kernel_rfl) (by kernel_rfl) (by kernel_rfl) (fun _ _ _ h => h) (Or.inl ⟨by rfl, ?_⟩) (by assumption) ?_; rotate_left; next => (intro w hSw; (try dsimp only at hSw); (try delta R_Head8_28); go_simp; try with_reducible rfl))
      ((try simp only [Act.put, List.setIfInBounds_toArray, List.set_cons_zero, List.set_cons_succ]); (try simp only [KD1.out, KD2.out, KD4.out]))
      first | (refine wpAnyH_take (i := 29) (oi := R_Head8_29) (v := undef) rfl (by kernel_rfl) (by kernel_rfl) (by kernel_rfl) (fun _ _ _ h => h) (Or.inr ⟨by rfl, rfl⟩) (by assumption) ?_) | (refine wpAnyH_take (i := 29) (oi := R_Head8_29) (v := ?_) rfl (by kernel_rfl) (by kernel_rfl) (by kernel_rfl) (fun _ _ _ h => h) (Or.inl ⟨by rfl, ?_⟩) (by assumption) ?_; rotate_left; next => (intro w hSw; (try dsimp only at hSw); (try delta R_Head8_29); go_simp; try with_reducible rfl))
      ((try simp only [Act.put, List.setIfInBounds_toArray, List.set_cons_zero, List.set_cons_succ]); (try simp only [KD1.out, KD2.out, KD4.out]))
      (refine wpAnyH_take (i := 30) (oi := R_Head8_30) (v := ?_) rfl (by kernel_rfl) (by kernel_rfl) (by kernel_rfl) (fun _ _ _ h => h) (Or.inl ⟨by rfl, ?_⟩) (by assumption) ?_; rotate_left; next => (intro w hSw; (try dsimp only at hSw); (try delta R_Head8_30); go_simp; try with_reducible rfl))
      ((try simp only [Act.put, List.setIfInBounds_toArray, List.set_cons_zero, List.set_cons_succ]); (try simp only [KD1.out, KD2.out, KD4.out]))
      (refine wpAnyH_take (i := 31) (oi := R_Head8_31) (v := ?_) rfl (by kernel_rfl) (by kernel_rfl) (by kernel_rfl) (fun _ _ _ h => h) (Or.inl ⟨by rfl, ?_⟩) (by assumption) ?_; rotate_left; next => (intro w hSw; (try dsimp only at hSw); (try delta R_Head8_31); go_simp; try with_reducible rfl))
      ((try simp only [Act.put, List.setIfInBounds_toArray, List.set_cons_zero, List.set_cons_succ]); (try simp only [KD1.out, KD2.out, KD4.out]))
      first | (refine wpAnyH_take (i := 32) (oi := R_Head8_32) (v := undef) rfl (by kernel_rfl) (by kernel_rfl) (by kernel_rfl) (fun _ _ _ h => h) (Or.inr ⟨by rfl, rfl⟩) (by assumption) ?_) | (refine wpAnyH_take (i := 32) (oi := R_Head8_32) (v := ?_) rfl (by kernel_rfl) (by kernel_rfl) (by kernel_rfl) (fun _ _ _ h => h) (Or.inl ⟨by rfl, ?_⟩) (by assumption) ?_; rotate_left; next => (intro w hSw; (try dsimp only at hSw); (try delta R_Head8_32); go_simp; try with_reducible rfl))
      ((try simp only [Act.put, List.setIfInBounds_toArray, List.set_cons_zero, List.set_cons_succ]); (try simp only [KD1.out, KD2.out, KD4.out]))
      first | (refine wpAnyH_take (i := 33) (oi := R_Head8_33) (v := undef) rfl (by kernel_rfl) (by kernel_rfl) (by kernel_rfl) (fun _ _ _ h => h) (Or.inr ⟨by rfl, rfl⟩) (by assumption) ?_) | (refine wpAnyH_take (i := 33) (oi := R_Head8_33) (v := ?_) rfl (by kernel_rfl) (by kernel_rfl) (by kernel_rfl) (fun _ _ _ h => h) (Or.inl ⟨by rfl, ?_⟩) (by assumption) ?_; rotate_left; next => (intro w hSw; (try dsimp only at hSw); (try delta R_Head8_33); go_simp; try with_reducible rfl))
      ((try simp only [Act.put, List.setIfInBounds_toArray, List.set_cons_zero, List.set_cons_succ]); (try simp only [KD1.out, KD2.out, KD4.out]))
      first | (refine wpAnyH_take (i := 34) (oi := R_Head8_34) (v := undef) rfl (by kernel_rfl) (by kernel_rfl) (by kernel_rfl) (fun _ _ _ h => h) (Or.inr ⟨by rfl, rfl⟩) (by assumption) ?_) | (refine wpAnyH_take (i := 34) (oi := R_Head8_34) (v := ?_) rfl (by kernel_rfl) (by kernel_rfl) (by kernel_rfl) (fun _ _ _ h => h) (Or.inl ⟨by rfl, ?_⟩) (by assumption) ?_; rotate_left; next => (intro w hSw; (try dsimp only at hSw); (try delta R_Head8_34); go_simp; try with_reducible rfl))
      ((try simp only [Act.put, List.setIfInBounds_toArray, List.set_cons_zero, List.set_cons_succ]); (try simp only [KD1.out, KD2.out, KD4.out]))
      first
      | (refine wpAnyH_take (i := 35) (oi := R_Head8_35) (v := undef) rfl (by kernel_rfl) (by kernel_rfl) (by kernel_rfl) (fun _ _ _ h => h) (Or.inr ⟨by rfl, rfl⟩) (by assumption) ?_
         ((try simp only [Act.put, List.setIfInBounds_toArray, List.set_cons_zero, List.set_cons_succ]); (try simp only [KD1.out, KD2.out, KD4.out])))
      | (refine wpAnyH_ready (rs := [35]) (by kernel_rfl) (by simp) ?_
         refine AllReadyH.cons (o := R_Head8_35) rfl (fun K hK => ?_) AllReadyH.nil
         (try delta R_Head8_35)
         go_simp
         (first | (go_at_call 38; (with_reducible refine (CGD.out w7.drew HDD.out).mono ?_); rintro e wz ⟨rfl, rfl⟩) | (go_at_call 34; (with_reducible refine (CBK.out w7.drew HBD.out).mono ?_); rintro e wz ⟨rfl, rfl⟩))
         (try go_wp2_with fail)
         refine hK.out _ _ ?_ (fun hHeld => ?_)
         · (exact ⟨s0, s1, s2⟩)
         clear hK K
         ((try simp only [Act.put, List.setIfInBounds_toArray, List.set_cons_zero, List.set_cons_succ]); (try simp only [KD1.out, KD2.out, KD4.out])))
      first | (refine wpAnyH_take (i := 36) (oi := R_Head8_36) (v := undef) rfl (by kernel_rfl) (by kernel_rfl) (by kernel_rfl) (fun _ _ _ h => h) (Or.inr ⟨by rfl, rfl⟩) (by assumption) ?_) | (refine wpAnyH_take (i := 36) (oi := R_Head8_36) (v := ?_) rfl (by kernel_rfl) (by kernel_rfl) (by kernel_rfl) (fun _ _ _ h => h) (Or.inl ⟨by rfl, ?_⟩) (by assumption) ?_; rotate_left; next => (intro w hSw; (try dsimp only at hSw); (try delta R_Head8_36); go_simp; try with_reducible rfl))
      ((try simp only [Act.put, List.setIfInBounds_toArray, List.set_cons_zero, List.set_cons_succ]); (try simp only [KD1.out, KD2.out, KD4.out]))
      first | (refine wpAnyH_take (i := 37) (oi := R_Head8_37) (v := undef) rfl (by kernel_rfl) (by kernel_rfl) (by kernel_rfl) (fun _ _ _ h => h) (Or.inr ⟨by rfl, rfl⟩) (by assumption) ?_) | (refine wpAnyH_take (i := 37) (oi := R_Head8_37) (v := ?_) rfl (by kernel_rfl) (by kernel_rfl) (by kernel_rfl) (fun _ _ _ h => h) (Or.inl ⟨by rfl, ?_⟩) (by assumption) ?_; rotate_left; next => (intro w hSw; (try dsimp only at hSw); (try delta R_Head8_37); go_simp; try with_reducible rfl))
      ((try simp only [Act.put, List.setIfInBounds_toArray, List.set_cons_zero, List.set_cons_succ]); (try simp only [KD1.out, KD2.out, KD4.out]))
      (refine wpAnyH_take (i := 38) (oi := R_Head8_38) (v := ?_) rfl (by kernel_rfl) (by kernel_rfl) (by kernel_rfl) (fun _ _ _ h => h) (Or.inl ⟨by rfl, ?_⟩) (by assumption) ?_; rotate_left; next => (intro w hSw; (try dsimp only at hSw); (try delta R_Head8_38); go_simp; try with_reducible rfl))
      ((try simp only [Act.put, List.setIfInBounds_toArray, List.set_cons_zero, List.set_cons_succ]); (try simp only [KD1.out, KD2.out, KD4.out]))
      (refine wpAnyH_take (i := 39) (oi := R_Head8_39) (v := ?_) rfl (by kernel_rfl) (by kernel_rfl) (by kernel_rfl) (fun _ _ _ h => h) (Or.inl ⟨by rfl, ?_⟩) (by assumption) ?_; rotate_left; next => (intro w hSw; (try dsimp only at hSw); (try delta R_Head8_39); go_simp; try with_reducible rfl))
      ((try simp only [Act.put, List.setIfInBounds_toArray, List.set_cons_zero, List.set_cons_succ]); (try simp only [KD1.out, KD2.out, KD4.out]))
      refine wpAnyH_done (by kernel_rfl) ?_ _
      go_wp2_with fail
      refine bodyPost_ret (results_row_tmpH rfl _ _ w.heap.size 67 #[_, _, _] (0, 0) _ rfl HE.out.1 Tryd.underlying67 rfl infoHead) rfl ?_
      exact ⟨by rw [HX.out]; dsimp only; rw [HOK.out]; simp [HD3.val, KD1.out, KD2.out, KD4.out], HE.out.2⟩
    have KD4 : Hid (decide (0 ≤ n3) = true) := Lib.hid (by simp; omega)
    by_cases k5 : (qb : Int) * 64 < n3
    · have KD5 : Hid (decide (n3 ≤ (qb : Int) * 64) = false) := Lib.hid (by simp; omega)
      refine wp_region_held_drew (S := (fun W => W.cell? ⟨lb, 0, none⟩ = some (.int .i64 n1) ∧ W.cell? ⟨lb, 1, none⟩ = some (.int .i64 0) ∧ W.cell? ⟨lb, 2, none⟩ = some (.int .i64 n3))) (by kernel_rfl) ?_ (fun hHeld => ?_)
      · (exact ⟨s0, s1, s2⟩)
      (refine wpAnyH_take (i := 0) (oi := R_Head8_0) (v := ?_) rfl (by kernel_rfl) (by kernel_rfl) (by kernel_rfl) (fun _ _ _ h => h) (Or.inl ⟨by rfl, ?_⟩) (by assumption) ?_; rotate_left; next => (intro w hSw; (try dsimp only at hSw); (try delta R_Head8_0); go_simp; try with_reducible rfl))
      ((try simp only [Act.put, List.setIfInBounds_toArray, List.set_cons_zero, List.set_cons_succ]); (try simp only [KD1.out, KD2.out, KD4.out, KD5.out]))
      refine wpAnyH_ready (rs := [1]) (by kernel_rfl) (by simp) ?_
      refine AllReadyH.cons (o := R_Head8_1) rfl (fun K hK => ?_) AllReadyH.nil
      (try delta R_Head8_1)
      go_simp
      (first | (go_at_call 38; (with_reducible refine (CGD.out w7.drew HDD.out).mono ?_); rintro e wz ⟨rfl, rfl⟩) | (go_at_call 34; (with_reducible refine (CBK.out w7.drew HBD.out).mono ?_); rintro e wz ⟨rfl, rfl⟩))
      (try go_wp2_with fail)
      refine hK.out _ _ ?_ (fun hHeld => ?_)
      · (exact ⟨s0, s1, s2⟩)
      clear hK K
      ((try simp only [Act.put, List.setIfInBounds_toArray, List.set_cons_zero, List.set_cons_succ]); (try simp only [KD1.out, KD2.out, KD4.out, KD5.out]))
      (refine wpAnyH_take (i := 2) (oi := R_Head8_2) (v := ?_) rfl (by kernel_rfl) (by kernel_rfl) (by kernel_rfl) (fun _ _ _ h => h) (Or.inl ⟨by rfl, ?_⟩) (by assumption) ?_; rotate_left; next => (intro w hSw; (try dsimp only at hSw); (try delta R_Head8_2); go_simp; try with_reducible rfl))
      ((try simp only [Act.put, List.setIfInBounds_toArray, List.set_cons_zero, List.set_cons_succ]); (try simp only [KD1.out, KD2.out, KD4.out, KD5.out]))
      first | (refine wpAnyH_take (i := 3) (oi := R_Head8_3) (v := undef) rfl (by kernel_rfl) (by kernel_rfl) (by kernel_rfl) (fun _ _ _ h => h) (Or.inr ⟨by rfl, rfl⟩) (by assumption) ?_) | (refine wpAnyH_take (i := 3) (oi := R_Head8_3) (v := ?_) rfl (by kernel_rfl) (by kernel_rfl) (by kernel_rfl) (fun _ _ _ h => h) (Or.inl ⟨by rfl, ?_⟩) (by assumption) ?_; rotate_left; next => (intro w hSw; (try dsimp only at hSw); (try delta R_Head8_3); go_simp; try with_reducible rfl))
      ((try simp only [Act.put, List.setIfInBounds_toArray, List.set_cons_zero, List.set_cons_succ]); (try simp only [KD1.out, KD2.out, KD4.out, KD5.out]))
      first | (refine wpAnyH_take (i := 4) (oi := R_Head8_4) (v := undef) rfl (by kernel_rfl) (by kernel_rfl) (by kernel_rfl) (fun _ _ _ h => h) (Or.inr ⟨by rfl, rfl⟩) (by assumption) ?_) | (refine wpAnyH_take (i := 4) (oi := R_Head8_4) (v := ?_) rfl (by kernel_rfl) (by kernel_rfl) (by kernel_rfl) (fun _ _ _ h => h) (Or.inl ⟨by rfl, ?_⟩) (by assumption) ?_; rotate_left; next => (intro w hSw; (try dsimp only at hSw); (try delta R_Head8_4); go_simp; try with_reducible rfl))
      ((try simp only [Act.put, List.setIfInBounds_toArray, List.set_cons_zero, List.set_cons_succ]); (try simp only [KD1.out, KD2.out, KD4.out, KD5.out]))
      (refine wpAnyH_take (i := 5) (oi := R_Head8_5) (v := ?_) rfl (by kernel_rfl) (by kernel_rfl) (by kernel_rfl) (fun _ _ _ h => h) (Or.inl ⟨by rfl, ?_⟩) (by assumption) ?_; rotate_left; next => (intro w hSw; (try dsimp only at hSw); (try delta R_Head8_5); go_simp; try with_reducible rfl))
      ((try simp only [Act.put, List.setIfInBounds_toArray, List.set_cons_zero, List.set_cons_succ]); (try simp only [KD1.out, KD2.out, KD4.out, KD5.out]))
      (refine wpAnyH_take (i := 6) (oi := R_Head8_6) (v := ?_) rfl (by kernel_rfl) (by kernel_rfl) (by kernel_rfl) (fun _ _ _ h => h) (Or.inl ⟨by rfl, ?_⟩) (by assumption) ?_; rotate_left; next => (intro w hSw; (try dsimp only at hSw); (try delta R_Head8_6); go_simp; try with_reducible rfl))
      ((try simp only [Act.put, List.setIfInBounds_toArray, List.set_cons_zero, List.set_cons_succ]); (try simp only [KD1.out, KD2.out, KD4.out, KD5.out]))
      first | (refine wpAnyH_take (i := 7) (oi := R_Head8_7) (v := undef) rfl (by kernel_rfl) (by kernel_rfl) (by kernel_rfl) (fun _ _ _ h => h) (Or.inr ⟨by rfl, rfl⟩) (by assumption) ?_) | (refine wpAnyH_take (i := 7) (oi := R_Head8_7) (v := ?_) rfl (by kernel_rfl) (by kernel_rfl) (by kernel_rfl) (fun _ _ _ h => h) (Or.inl ⟨by rfl, ?_⟩) (by assumption) ?_; rotate_left; next => (intro w hSw; (try dsimp only at hSw); (try delta R_Head8_7); go_simp; try with_reducible rfl))
      ((try simp only [Act.put, List.setIfInBounds_toArray, List.set_cons_zero, List.set_cons_succ]); (try simp only [KD1.out, KD2.out, KD4.out, KD5.out]))
      first | (refine wpAnyH_take (i := 8) (oi := R_Head8_8) (v := undef) rfl (by kernel_rfl) (by kernel_rfl) (by kernel_rfl) (fun _ _ _ h => h) (Or.inr ⟨by rfl, rfl⟩) (by assumption) ?_) | (refine wpAnyH_take (i := 8) (oi := R_Head8_8) (v := ?_) rfl (by kernel_rfl) (by kernel_rfl) (by kernel_rfl) (fun _ _ _ h => h) (Or.inl ⟨by rfl, ?_⟩) (by assumption) ?_; rotate_left; next => (intro w hSw; (try dsimp only at hSw); (try delta R_Head8_8); go_simp; try with_reducible rfl))
      ((try simp only [Act.put, List.setIfInBounds_toArray, List.set_cons_zero, List.set_cons_succ]); (try simp only [KD1.out, KD2.out, KD4.out, KD5.out]))
      first | (refine wpAnyH_take (i := 9) (oi := R_Head8_9) (v := undef) rfl (by kernel_rfl) (by kernel_rfl) (by kernel_rfl) (fun _ _ _ h => h) (Or.inr ⟨by rfl, rfl⟩) (by assumption) ?_) | (refine wpAnyH_take (i := 9) (oi := R_Head8_9) (v := ?_) rfl (by kernel_rfl) (by kernel_rfl) (by kernel_rfl) (fun _ _ _ h => h) (Or.inl ⟨by rfl, ?_⟩) (by assumption) ?_; rotate_left; next => (intro w hSw; (try dsimp only at hSw); (try delta R_Head8_9); go_simp; try with_reducible rfl))
      ((try simp only [Act.put, List.setIfInBounds_toArray, List.set_cons_zero, List.set_cons_succ]); (try simp only [KD1.out, KD2.out, KD4.out, KD5.out]))
      (refine wpAnyH_take (i := 10) (oi := R_Head8_10) (v := ?_) rfl (by kernel_rfl) (by kernel_rfl) (by kernel_rfl) (fun _ _ _ h => h) (Or.inl ⟨by rfl, ?_⟩) (by assumption) ?_; rotate_left; next => (intro w hSw; (try dsimp only at hSw); (try delta R_Head8_10); go_simp; try with_reducible rfl))
      ((try simp only [Act.put, List.setIfInBounds_toArray, List.set_cons_zero, List.set_cons_succ]); (try simp only [KD1.out, KD2.out, KD4.out, KD5.out]))
      (refine wpAnyH_take (i := 11) (oi := R_Head8_11) (v := ?_) rfl (by kernel_rfl) (by kernel_rfl) (by kernel_rfl) (fun _ _ _ h => h) (Or.inl ⟨by rfl, ?_⟩) (by assumption) ?_; rotate_left; next => (intro w hSw; (try dsimp only at hSw); (try delta R_Head8_11); go_simp; try with_reducible rfl))
      ((try simp only [Act.put, List.setIfInBounds_toArray, List.set_cons_zero, List.set_cons_succ]); (try simp only [KD1.out, KD2.out, KD4.out, KD5.out]))
      first | (refine wpAnyH_take (i := 12) (oi := R_Head8_12) (v := undef) rfl (by kernel_rfl) (by kernel_rfl) (by kernel_rfl) (fun _ _ _ h => h) (Or.inr ⟨by rfl, rfl⟩) (by assumption) ?_) | (refine wpAnyH_take (i := 12) (oi := R_Head8_12) (v := ?_) rfl (by kernel_rfl) (by kernel_rfl) (by kernel_rfl) (fun _ _ _ h => h) (Or.inl ⟨by rfl, ?_⟩) (by assumption) ?_; rotate_left; next => (intro w hSw; (try dsimp only at hSw); (try delta R_Head8_12); go_simp; try with_reducible rfl))
      ((try simp only [Act.put, List.setIfInBounds_toArray, List.set_cons_zero, List.set_cons_succ]); (try simp only [KD1.out, KD2.out, KD4.out, KD5.out]))
      first | (refine wpAnyH_take (i := 13) (oi := R_Head8_13) (v := undef) rfl (by kernel_rfl) (by kernel_rfl) (by kernel_rfl) (fun _ _ _ h => h) (Or.inr ⟨by rfl, rfl⟩) (by assumption) ?_) | (refine wpAnyH_take (i := 13) (oi := R_Head8_13) (v := ?_) rfl (by kernel_rfl) (by kernel_rfl) (by kernel_rfl) (fun _ _ _ h => h) (Or.inl ⟨by rfl, ?_⟩) (by assumption) ?_; rotate_left; next => (intro w hSw; (try dsimp only at hSw); (try delta R_Head8_13); go_simp; try with_reducible rfl))
      ((try simp only [Act.put, List.setIfInBounds_toArray, List.set_cons_zero, List.set_cons_succ]); (try simp only [KD1.out, KD2.out, KD4.out, KD5.out]))
      first | (refine wpAnyH_take (i := 14) (oi := R_Head8_14) (v := undef) rfl (by kernel_rfl) (by kernel_rfl) (by kernel_rfl) (fun _ _ _ h => h) (Or.inr ⟨by rfl, rfl⟩) (by assumption) ?_) | (refine wpAnyH_take (i := 14) (oi := R_Head8_14) (v := ?_) rfl (by kernel_rfl) (by kernel_rfl) (by kernel_rfl) (fun _ _ _ h => h) (Or.inl ⟨by rfl, ?_⟩) (by assumption) ?_; rotate_left; next => (intro w hSw; (try dsimp only at hSw); (try delta R_Head8_14); go_simp; try with_reducible rfl))
      ((try simp only [Act.put, List.setIfInBounds_toArray, List.set_cons_zero, List.set_cons_succ]); (try simp only [KD1.out, KD2.out, KD4.out, KD5.out]))
      (refine wpAnyH_take (i := 15) (oi := R_Head8_15) (v := ?_) rfl (by kernel_rfl) (by kernel_rfl) (by kernel_rfl) (fun _ _ _ h => h) (Or.inl ⟨by rfl, ?_⟩) (by assumption) ?_; rotate_left; next => (intro w hSw; (try dsimp only at hSw); (try delta R_Head8_15); go_simp; try with_reducible rfl))
      ((try simp only [Act.put, List.setIfInBounds_toArray, List.set_cons_zero, List.set_cons_succ]); (try simp only [KD1.out, KD2.out, KD4.out, KD5.out]))
      (refine wpAnyH_take (i := 16) (oi := R_Head8_16) (v := ?_) rfl (by kernel_rfl) (by kernel_rfl) (by kernel_rfl) (fun _ _ _ h => h) (Or.inl ⟨by rfl, ?_⟩) (by assumption) ?_; rotate_left; next => (intro w hSw; (try dsimp only at hSw); (try delta R_Head8_16); go_simp; try with_reducible rfl))
      ((try simp only [Act.put, List.setIfInBounds_toArray, List.set_cons_zero, List.set_cons_succ]); (try simp only [KD1.out, KD2.out, KD4.out, KD5.out]))
      first | (refine wpAnyH_take (i := 17) (oi := R_Head8_17) (v := undef) rfl (by kernel_rfl) (by kernel_rfl) (by kernel_rfl) (fun _ _ _ h => h) (Or.inr ⟨by rfl, rfl⟩) (by assumption) ?_) | (refine wpAnyH_take (i := 17) (oi := R_Head8_17) (v := ?_) rfl (by kernel_rfl) (by kernel_rfl) (by kernel_rfl) (fun _ _ _ h => h) (Or.inl ⟨by rfl, ?_⟩) (by assumption) ?_; rotate_left; next => (intro w hSw; (try dsimp only at hSw); (try delta R_Head8_17); go_simp; try with_reducible rfl))
      ((try simp only [Act.put, List.setIfInBounds_toArray, List.set_cons_zero, List.set_cons_succ]); (try simp only [KD1.out, KD2.out, KD4.out, KD5.out]))
      first | (refine wpAnyH_take (i := 18) (oi := R_Head8_18) (v := undef) rfl (by kernel_rfl) (by kernel_rfl) (by kernel_rfl) (fun _ _ _ h => h) (Or.inr ⟨by rfl, rfl⟩) (by assumption) ?_) | (refine wpAnyH_take (i := 18) (oi := R_Head8_18) (v := ?_) rfl (by kernel_rfl) (by kernel_rfl) (by kernel_rfl) (fun _ _ _ h => h) (Or.inl ⟨by rfl, ?_⟩) (by assumption) ?_; rotate_left; next => (intro w hSw; (try dsimp only at hSw); (try delta R_Head8_18); go_simp; try with_reducible rfl))
      ((try simp only [Act.put, List.setIfInBounds_toArray, List.set_cons_zero, List.set_cons_succ]); (try simp only [KD1.out, KD2.out, KD4.out, KD5.out]))
      first | (refine wpAnyH_take (i := 19) (oi := R_Head8_19) (v := undef) rfl (by kernel_rfl) (by kernel_rfl) (by kernel_rfl) (fun _ _ _ h => h) (Or.inr ⟨by rfl, rfl⟩) (by assumption) ?_) | (refine wpAnyH_take (i := 19) (oi := R_Head8_19) (v := ?_) rfl (by kernel_rfl) (by kernel_rfl) (by kernel_rfl) (fun _ _ _ h => h) (Or.inl ⟨by rfl, ?_⟩) (by assumption) ?_; rotate_left; next => (intro w hSw; (try dsimp only at hSw); (try delta R_Head8_19); go_simp; try with_reducible rfl))
      ((try simp only [Act.put, List.setIfInBounds_toArray, List.set_cons_zero, List.set_cons_succ]); (try simp only [KD1.out, KD2.out, KD4.out, KD5.out]))
      first | (refine wpAnyH_take (i := 20) (oi := R_Head8_20) (v := undef) rfl (by kernel_rfl) (by kernel_rfl) (by kernel_rfl) (fun _ _ _ h => h) (Or.inr ⟨by rfl, rfl⟩) (by assumption) ?_) | (refine wpAnyH_take (i := 20) (oi := R_Head8_20) (v := ?_) rfl (by kernel_rfl) (by kernel_rfl) (by kernel_rfl) (fun _ _ _ h => h) (Or.inl ⟨by rfl, ?_⟩) (by assumption) ?_; rotate_left; next => (intro w hSw; (try dsimp only at hSw); (try delta R_Head8_20); go_simp; try with_reducible rfl))
      ((try simp only [Act.put, List.setIfInBounds_toArray, List.set_cons_zero, List.set_cons_succ]); (try simp only [KD1.out, KD2.out, KD4.out, KD5.out]))
      first | (refine wpAnyH_take (i := 21) (oi := R_Head8_21) (v := undef) rfl (by kernel_rfl) (by kernel_rfl) (by kernel_rfl) (fun _ _ _ h => h) (Or.inr ⟨by rfl, rfl⟩) (by assumption) ?_) | (refine wpAnyH_take (i := 21) (oi := R_Head8_21) (v := ?_) rfl (by kernel_rfl) (by kernel_rfl) (by kernel_rfl) (fun _ _ _ h => h) (Or.inl ⟨by rfl, ?_⟩) (by assumption) ?_; rotate_left; next => (intro w hSw; (try dsimp only at hSw); (try delta R_Head8_21); go_simp; try with_reducible rfl))
      ((try simp only [Act.put, List.setIfInBounds_toArray, List.set_cons_zero, List.set_cons_succ]); (try simp only [KD1.out, KD2.out, KD4.out, KD5.out]))
      first | (refine wpAnyH_take (i := 22) (oi := R_Head8_22) (v := undef) rfl (by kernel_rfl) (by kernel_rfl) (by kernel_rfl) (fun _ _ _ h => h) (Or.inr ⟨by rfl, rfl⟩) (by assumption) ?_) | (refine wpAnyH_take (i := 22) (oi := R_Head8_22) (v := ?_) rfl (by kernel_rfl) (by kernel_rfl) (by kernel_rfl) (fun _ _ _ h => h) (Or.inl ⟨by rfl, ?_⟩) (by assumption) ?_; rotate_left; next => (intro w hSw; (try dsimp only at hSw); (try delta R_Head8_22); go_simp; try with_reducible rfl))
      ((try simp only [Act.put, List.setIfInBounds_toArray, List.set_cons_zero, List.set_cons_succ]); (try simp only [KD1.out, KD2.out, KD4.out, KD5.out]))
      first | (refine wpAnyH_take (i := 23) (oi := R_Head8_23) (v := undef) rfl (by kernel_rfl) (by kernel_rfl) (by kernel_rfl) (fun _ _ _ h => h) (Or.inr ⟨by rfl, rfl⟩) (by assumption) ?_) | (refine wpAnyH_take (i := 23) (oi := R_Head8_23) (v := ?_) rfl (by kernel_rfl) (by kernel_rfl) (by kernel_rfl) (fun _ _ _ h => h) (Or.inl ⟨by rfl, ?_⟩) (by assumption) ?_; rotate_left; next => (intro w hSw; (try dsimp only at hSw); (try delta R_Head8_23); go_simp; try with_reducible rfl))
      ((try simp only [Act.put, List.setIfInBounds_toArray, List.set_cons_zero, List.set_cons_succ]); (try simp only [KD1.out, KD2.out, KD4.out, KD5.out]))
      first | (refine wpAnyH_take (i := 24) (oi := R_Head8_24) (v := undef) rfl (by kernel_rfl) (by kernel_rfl) (by kernel_rfl) (fun _ _ _ h => h) (Or.inr ⟨by rfl, rfl⟩) (by assumption) ?_) | (refine wpAnyH_take (i := 24) (oi := R_Head8_24) (v := ?_) rfl (by kernel_rfl) (by kernel_rfl) (by kernel_rfl) (fun _ _ _ h => h) (Or.inl ⟨by rfl, ?_⟩) (by assumption) ?_; rotate_left; next => (intro w hSw; (try dsimp only at hSw); (try delta R_Head8_24); go_simp; try with_reducible rfl))
      ((try simp only [Act.put, List.setIfInBounds_toArray, List.set_cons_zero, List.set_cons_succ]); (try simp only [KD1.out, KD2.out, KD4.out, KD5.out]))
      (refine wpAnyH_take (i := 25) (oi := R_Head8_25) (v := ?_) rfl (by kernel_rfl) (by kernel_rfl) (by kernel_rfl) (fun _ _ _ h => h) (Or.inl ⟨by rfl, ?_⟩) (by assumption) ?_; rotate_left; next => (intro w hSw; (try dsimp only at hSw); (try delta R_Head8_25); go_simp; try with_reducible rfl))
      ((try simp only [Act.put, List.setIfInBounds_toArray, List.set_cons_zero, List.set_cons_succ]); (try simp only [KD1.out, KD2.out, KD4.out, KD5.out]))
      (refine wpAnyH_take (i := 26) (oi := R_Head8_26) (v := ?_) rfl (by kernel_rfl) (by kernel_rfl) (by kernel_rfl) (fun _ _ _ h => h) (Or.inl ⟨by rfl, ?_⟩) (by assumption) ?_; rotate_left; next => (intro w hSw; (try dsimp only at hSw); (try delta R_Head8_26); go_simp; try with_reducible rfl))
      ((try simp only [Act.put, List.setIfInBounds_toArray, List.set_cons_zero, List.set_cons_succ]); (try simp only [KD1.out, KD2.out, KD4.out, KD5.out]))
      first | (refine wpAnyH_take (i := 27) (oi := R_Head8_27) (v := undef) rfl (by kernel_rfl) (by kernel_rfl) (by kernel_rfl) (fun _ _ _ h => h) (Or.inr ⟨by rfl, rfl⟩) (by assumption) ?_) | (refine wpAnyH_take (i := 27) (oi := R_Head8_27) (v := ?_) rfl (by kernel_rfl) (by kernel_rfl) (by kernel_rfl) (fun _ _ _ h => h) (Or.inl ⟨by rfl, ?_⟩) (by assumption) ?_; rotate_left; next => (intro w hSw; (try dsimp only at hSw); (try delta R_Head8_27); go_simp; try with_reducible rfl))
      ((try simp only [Act.put, List.setIfInBounds_toArray, List.set_cons_zero, List.set_cons_succ]); (try simp only [KD1.out, KD2.out, KD4.out, KD5.out]))
      first | (refine wpAnyH_take (i := 28) (oi := R_Head8_28) (v := undef) rfl (by kernel_rfl) (by kernel_rfl) (by kernel_rfl) (fun _ _ _ h => h) (Or.inr ⟨by rfl, rfl⟩) (by assumption) ?_) | (refine wpAnyH_take (i := 28) (oi := R_Head8_28) (v := ?_) rfl (by kernel_rfl) (by kernel_rfl) (by kernel_rfl) (fun _ _ _ h => h) (Or.inl ⟨by rfl, ?_⟩) (by assumption) ?_; rotate_left; next => (intro w hSw; (try dsimp only at hSw); (try delta R_Head8_28); go_simp; try with_reducible rfl))
      ((try simp only [Act.put, List.setIfInBounds_toArray, List.set_cons_zero, List.set_cons_succ]); (try simp only [KD1.out, KD2.out, KD4.out, KD5.out]))
      first | (refine wpAnyH_take (i := 29) (oi := R_Head8_29) (v := undef) rfl (by kernel_rfl) (by kernel_rfl) (by kernel_rfl) (fun _ _ _ h => h) (Or.inr ⟨by rfl, rfl⟩) (by assumption) ?_) | (refine wpAnyH_take (i := 29) (oi := R_Head8_29) (v := ?_) rfl (by kernel_rfl) (by kernel_rfl) (by kernel_rfl) (fun _ _ _ h => h) (Or.inl ⟨by rfl, ?_⟩) (by assumption) ?_; rotate_left; next => (intro w hSw; (try dsimp only at hSw); (try delta R_Head8_29); go_simp; try with_reducible rfl))
      ((try simp only [Act.put, List.setIfInBounds_toArray, List.set_cons_zero, List.set_cons_succ]); (try simp only [KD1.out, KD2.out, KD4.out, KD5.out]))
      (refine wpAnyH_take (i := 30) (oi := R_Head8_30) (v := ?_) rfl (by kernel_rfl) (by kernel_rfl) (by kernel_rfl) (fun _ _ _ h => h) (Or.inl ⟨by rfl, ?_⟩) (by assumption) ?_; rotate_left; next => (intro w hSw; (try dsimp only at hSw); (try delta R_Head8_30); go_simp; try with_reducible rfl))
      ((try simp only [Act.put, List.setIfInBounds_toArray, List.set_cons_zero, List.set_cons_succ]); (try simp only [KD1.out, KD2.out, KD4.out, KD5.out]))
      (refine wpAnyH_take (i := 31) (oi := R_Head8_31) (v := ?_) rfl (by kernel_rfl) (by kernel_rfl) (by kernel_rfl) (fun _ _ _ h => h) (Or.inl ⟨by rfl, ?_⟩) (by assumption) ?_; rotate_left; next => (intro w hSw; (try dsimp only at hSw); (try delta R_Head8_31); go_simp; try with_reducible rfl))
      ((try simp only [Act.put, List.setIfInBounds_toArray, List.set_cons_zero, List.set_cons_succ]); (try simp only [KD1.out, KD2.out, KD4.out, KD5.out]))
      first | (refine wpAnyH_take (i := 32) (oi := R_Head8_32) (v := undef) rfl (by kernel_rfl) (by kernel_rfl) (by kernel_rfl) (fun _ _ _ h => h) (Or.inr ⟨by rfl, rfl⟩) (by assumption) ?_) | (refine wpAnyH_take (i := 32) (oi := R_Head8_32) (v := ?_) rfl (by kernel_rfl) (by kernel_rfl) (by kernel_rfl) (fun _ _ _ h => h) (Or.inl ⟨by rfl, ?_⟩) (by assumption) ?_; rotate_left; next => (intro w hSw; (try dsimp only at hSw); (try delta R_Head8_32); go_simp; try with_reducible rfl))
      ((try simp only [Act.put, List.setIfInBounds_toArray, List.set_cons_zero, List.set_cons_succ]); (try simp only [KD1.out, KD2.out, KD4.out, KD5.out]))
      first | (refine wpAnyH_take (i := 33) (oi := R_Head8_33) (v := undef) rfl (by kernel_rfl) (by kernel_rfl) (by kernel_rfl) (fun _ _ _ h => h) (Or.inr ⟨by rfl, rfl⟩) (by assumption) ?_) | (refine wpAnyH_take (i := 33) (oi := R_Head8_33) (v := ?_) rfl (by kernel_rfl) (by kernel_rfl) (by kernel_rfl) (fun _ _ _ h => h) (Or.inl ⟨by rfl, ?_⟩) (by assumption) ?_; rotate_left; next => (intro w hSw; (try dsimp only at hSw); (try delta R_Head8_33); go_simp; try with_reducible rfl))
      ((try simp only [Act.put, List.setIfInBounds_toArray, List.set_cons_zero, List.set_cons_succ]); (try simp only [KD1.out, KD2.out, KD4.out, KD5.out]))
      first | (refine wpAnyH_take (i := 34) (oi := R_Head8_34) (v := undef) rfl (by kernel_rfl) (by kernel_rfl) (by kernel_rfl) (fun _ _ _ h => h) (Or.inr ⟨by rfl, rfl⟩) (by assumption) ?_) | (refine wpAnyH_take (i := 34) (oi := R_Head8_34) (v := ?_) rfl (by kernel_rfl) (by kernel_rfl) (by kernel_rfl) (fun _ _ _ h => h) (Or.inl ⟨by rfl, ?_⟩) (by assumption) ?_; rotate_left; next => (intro w hSw; (try dsimp only at hSw); (try delta R_Head8_34); go_simp; try with_reducible rfl))
      ((try simp only [Act.put, List.setIfInBounds_toArray, List.set_cons_zero, List.set_cons_succ]); (try simp only [KD1.out, KD2.out, KD4.out, KD5.out]))
      first
      | (refine wpAnyH_take (i := 35) (oi := R_Head8_35) (v := undef) rfl (by kernel_rfl) (by kernel_rfl) (by kernel_rfl) (fun _ _ _ h => h) (Or.inr ⟨by rfl, rfl⟩) (by assumption) ?_
         ((try simp only [Act.put, List.setIfInBounds_toArray, List.set_cons_zero, List.set_cons_succ]); (try simp only [KD1.out, KD2.out, KD4.out, KD5.out])))
      | (refine wpAnyH_ready (rs := [35]) (by kernel_rfl) (by simp) ?_
         refine AllReadyH.cons (o := R_Head8_35) rfl (fun K hK => ?_) AllReadyH.nil
         (try delta R_Head8_35)
         go_simp
         (first | (go_at_call 38; (with_reducible refine (CGD.out w7.drew HDD.out).mono ?_); rintro e wz ⟨rfl, rfl⟩) | (go_at_call 34; (with_reducible refine (CBK.out w7.drew HBD.out).mono ?_); rintro e wz ⟨rfl, rfl⟩))
         (try go_wp2_with fail)
         refine hK.out _ _ ?_ (fun hHeld => ?_)
         · (exact ⟨s0, s1, s2⟩)
         clear hK K
         ((try simp only [Act.put, List.setIfInBounds_toArray, List.set_cons_zero, List.set_cons_succ]); (try simp only [KD1.out, KD2.out, KD4.out, KD5.out])))
      first | (refine wpAnyH_take (i := 36) (oi := R_Head8_36) (v := undef) rfl (by kernel_rfl) (by kernel_rfl) (by kernel_rfl) (fun _ _ _ h => h) (Or.inr ⟨by rfl, rfl⟩) (by assumption) ?_) | (refine wpAnyH_take (i := 36) (oi := R_Head8_36) (v := ?_) rfl (by kernel_rfl) (by kernel_rfl) (by kernel_rfl) (fun _ _ _ h => h) (Or.inl ⟨by rfl, ?_⟩) (by assumption) ?_; rotate_left; next => (intro w hSw; (try dsimp only at hSw); (try delta R_Head8_36); go_simp; try with_reducible rfl))
      ((try simp only [Act.put, List.setIfInBounds_toArray, List.set_cons_zero, List.set_cons_succ]); (try simp only [KD1.out, KD2.out, KD4.out, KD5.out]))
      first | (refine wpAnyH_take (i := 37) (oi := R_Head8_37) (v := undef) rfl (by kernel_rfl) (by kernel_rfl) (by kernel_rfl) (fun _ _ _ h => h) (Or.inr ⟨by rfl, rfl⟩) (by assumption) ?_) | (refine wpAnyH_take (i := 37) (oi := R_Head8_37) (v := ?_) rfl (by kernel_rfl) (by kernel_rfl) (by kernel_rfl) (fun _ _ _ h => h) (Or.inl ⟨by rfl, ?_⟩) (by assumption) ?_; rotate_left; next => (intro w hSw; (try dsimp only at hSw); (try delta R_Head8_37); go_simp; try with_reducible rfl))
      ((try simp only [Act.put, List.setIfInBounds_toArray, List.set_cons_zero, List.set_cons_succ]); (try simp only [KD1.out, KD2.out, KD4.out, KD5.out]))
      (refine wpAnyH_take (i := 38) (oi := R_Head8_38) (v := ?_) rfl (by kernel_rfl) (by kernel_rfl) (by kernel_rfl) (fun _ _ _ h => h) (Or.inl ⟨by rfl, ?_⟩) (by assumption) ?_; rotate_left; next => (intro w hSw; (try dsimp only at hSw); (try delta R_Head8_38); go_simp; try with_reducible rfl))
      ((try simp only [Act.put, List.setIfInBounds_toArray, List.set_cons_zero, List.set_cons_succ]); (try simp only [KD1.out, KD2.out, KD4.out, KD5.out]))
      (refine wpAnyH_take (i := 39) (oi := R_Head8_39) (v := ?_) rfl (by kernel_rfl) (by kernel_rfl) (by kernel_rfl) (fun _ _ _ h => h) (Or.inl ⟨by rfl, ?_⟩) (by assumption) ?_; rotate_left; next => (intro w hSw; (try dsimp only at hSw); (try delta R_Head8_39); go_simp; try with_reducible rfl))
      ((try simp only [Act.put, List.setIfInBounds_toArray, List.set_cons_zero, List.set_cons_succ]); (try simp only [KD1.out, KD2.out, KD4.out, KD5.out]))
      refine wpAnyH_done (by kernel_rfl) ?_ _
      go_wp2_with fail
      refine bodyPost_ret (results_row_tmpH rfl _ _ w.heap.size 67 #[_, _, _] (0, 0) _ rfl HE.out.1 Tryd.underlying67 rfl infoHead) rfl ?_
      exact ⟨by rw [HX.out]; dsimp only; rw [HOK.out]; simp [HD3.val, KD1.out, KD2.out, KD4.out, KD5.out, HWQ.out], HE.out.2⟩
    have KD5 : Hid (decide (n3 ≤ (qb : Int) * 64) = true) := Lib.hid (by simp; omega)
    clear k4 k5
    refine wp_region_held_drew (S := (fun W => W.cell? ⟨lb, 0, none⟩ = some (.int .i64 n1) ∧ W.cell? ⟨lb, 1, none⟩ = some (.int .i64 0) ∧ W.cell? ⟨lb, 2, none⟩ = some (.int .i64 n3))) (by kernel_rfl) ?_ (fun hHeld => ?_)
    · (exact ⟨s0, s1, s2⟩)
    (refine wpAnyH_take (i := 0) (oi := R_Head8_0) (v := ?_) rfl (by kernel_rfl) (by kernel_rfl) (by kernel_rfl) (fun _ _ _ h => h) (Or.inl ⟨by rfl, ?_⟩) (by assumption) ?_; rotate_left; next => (intro w hSw; (try dsimp only at hSw); (try delta R_Head8_0); go_simp; try with_reducible rfl))
    ((try simp only [Act.put, List.setIfInBounds_toArray, List.set_cons_zero, List.set_cons_succ]); (try simp only [KD1.out, KD2.out, KD4.out, KD5.out]))
    refine wpAnyH_ready (rs := [1]) (by kernel_rfl) (by simp) ?_
    refine AllReadyH.cons (o := R_Head8_1) rfl (fun K hK => ?_) AllReadyH.nil
    (try delta R_Head8_1)
    go_simp
    (first | (go_at_call 38; (with_reducible refine (CGD.out w7.drew HDD.out).mono ?_); rintro e wz ⟨rfl, rfl⟩) | (go_at_call 34; (with_reducible refine (CBK.out w7.drew HBD.out).mono ?_); rintro e wz ⟨rfl, rfl⟩))
    (try go_wp2_with fail)
    refine hK.out _ _ ?_ (fun hHeld => ?_)
    · (exact ⟨s0, s1, s2⟩)
    clear hK K
    ((try simp only [Act.put, List.setIfInBounds_toArray, List.set_cons_zero, List.set_cons_succ]); (try simp only [KD1.out, KD2.out, KD4.out, KD5.out]))
    (refine wpAnyH_take (i := 2) (oi := R_Head8_2) (v := ?_) rfl (by kernel_rfl) (by kernel_rfl) (by kernel_rfl) (fun _ _ _ h => h) (Or.inl ⟨by rfl, ?_⟩) (by assumption) ?_; rotate_left; next => (intro w hSw; (try dsimp only at hSw); (try delta R_Head8_2); go_simp; try with_reducible rfl))
    ((try simp only [Act.put, List.setIfInBounds_toArray, List.set_cons_zero, List.set_cons_succ]); (try simp only [KD1.out, KD2.out, KD4.out, KD5.out]))
    first | (refine wpAnyH_take (i := 3) (oi := R_Head8_3) (v := undef) rfl (by kernel_rfl) (by kernel_rfl) (by kernel_rfl) (fun _ _ _ h => h) (Or.inr ⟨by rfl, rfl⟩) (by assumption) ?_) | (refine wpAnyH_take (i := 3) (oi := R_Head8_3) (v := ?_) rfl (by kernel_rfl) (by kernel_rfl) (by kernel_rfl) (fun _ _ _ h => h) (Or.inl ⟨by rfl, ?_⟩) (by assumption) ?_; rotate_left; next => (intro w hSw; (try dsimp only at hSw); (try delta R_Head8_3); go_simp; try with_reducible rfl))
    ((try simp only [Act.put, List.setIfInBounds_toArray, List.set_cons_zero, List.set_cons_succ]); (try simp only [KD1.out, KD2.out, KD4.out, KD5.out]))
    first | (refine wpAnyH_take (i := 4) (oi := R_Head8_4) (v := undef) rfl (by kernel_rfl) (by kernel_rfl) (by kernel_rfl) (fun _ _ _ h => h) (Or.inr ⟨by rfl, rfl⟩) (by assumption) ?_) | (refine wpAnyH_take (i := 4) (oi := R_Head8_4) (v := ?_) rfl (by kernel_rfl) (by kernel_rfl) (by kernel_rfl) (fun _ _ _ h => h) (Or.inl ⟨by rfl, ?_⟩) (by assumption) ?_; rotate_left; next => (intro w hSw; (try dsimp only at hSw); (try delta R_Head8_4); go_simp; try with_reducible rfl))
    ((try simp only [Act.put, List.setIfInBounds_toArray, List.set_cons_zero, List.set_cons_succ]); (try simp only [KD1.out, KD2.out, KD4.out, KD5.out]))
    (refine wpAnyH_take (i := 5) (oi := R_Head8_5) (v := ?_) rfl (by kernel_rfl) (by kernel_rfl) (by kernel_rfl) (fun _ _ _ h => h) (Or.inl ⟨by rfl, ?_⟩) (by assumption) ?_; rotate_left; next => (intro w hSw; (try dsimp only at hSw); (try delta R_Head8_5); go_simp; try with_reducible rfl))
    ((try simp only [Act.put, List.setIfInBounds_toArray, List.set_cons_zero, List.set_cons_succ]); (try simp only [KD1.out, KD2.out, KD4.out, KD5.out]))
    (refine wpAnyH_take (i := 6) (oi := R_Head8_6) (v := ?_) rfl (by kernel_rfl) (by kernel_rfl) (by kernel_rfl) (fun _ _ _ h => h) (Or.inl ⟨by rfl, ?_⟩) (by assumption) ?_; rotate_left; next => (intro w hSw; (try dsimp only at hSw); (try delta R_Head8_6); go_simp; try with_reducible rfl))
    ((try simp only [Act.put, List.setIfInBounds_toArray, List.set_cons_zero, List.set_cons_succ]); (try simp only [KD1.out, KD2.out, KD4.out, KD5.out]))
    first | (refine wpAnyH_take (i := 7) (oi := R_Head8_7) (v := undef) rfl (by kernel_rfl) (by kernel_rfl) (by kernel_rfl) (fun _ _ _ h => h) (Or.inr ⟨by rfl, rfl⟩) (by assumption) ?_) | (refine wpAnyH_take (i := 7) (oi := R_Head8_7) (v := ?_) rfl (by kernel_rfl) (by kernel_rfl) (by kernel_rfl) (fun _ _ _ h => h) (Or.inl ⟨by rfl, ?_⟩) (by assumption) ?_; rotate_left; next => (intro w hSw; (try dsimp only at hSw); (try delta R_Head8_7); go_simp; try with_reducible rfl))
    ((try simp only [Act.put, List.setIfInBounds_toArray, List.set_cons_zero, List.set_cons_succ]); (try simp only [KD1.out, KD2.out, KD4.out, KD5.out]))
    first | (refine wpAnyH_take (i := 8) (oi := R_Head8_8) (v := undef) rfl (by kernel_rfl) (by kernel_rfl) (by kernel_rfl) (fun _ _ _ h => h) (Or.inr ⟨by rfl, rfl⟩) (by assumption) ?_) | (refine wpAnyH_take (i := 8) (oi := R_Head8_8) (v := ?_) rfl (by kernel_rfl) (by kernel_rfl) (by kernel_rfl) (fun _ _ _ h => h) (Or.inl ⟨by rfl, ?_⟩) (by assumption) ?_; rotate_left; next => (intro w hSw; (try dsimp only at hSw); (try delta R_Head8_8); go_simp; try with_reducible rfl))
    ((try simp only [Act.put, List.setIfInBounds_toArray, List.set_cons_zero, List.set_cons_succ]); (try simp only [KD1.out, KD2.out, KD4.out, KD5.out]))
    first | (refine wpAnyH_take (i := 9) (oi := R_Head8_9) (v := undef) rfl (by kernel_rfl) (by kernel_rfl) (by kernel_rfl) (fun _ _ _ h => h) (Or.inr ⟨by rfl, rfl⟩) (by assumption) ?_) | (refine wpAnyH_take (i := 9) (oi := R_Head8_9) (v := ?_) rfl (by kernel_rfl) (by kernel_rfl) (by kernel_rfl) (fun _ _ _ h => h) (Or.inl ⟨by rfl, ?_⟩) (by assumption) ?_; rotate_left; next => (intro w hSw; (try dsimp only at hSw); (try delta R_Head8_9); go_simp; try with_reducible rfl))
    ((try simp only [Act.put, List.setIfInBounds_toArray, List.set_cons_zero, List.set_cons_succ]); (try simp only [KD1.out, KD2.out, KD4.out, KD5.out]))
    (refine wpAnyH_take (i := 10) (oi := R_Head8_10) (v := ?_) rfl (by kernel_rfl) (by kernel_rfl) (by kernel_rfl) (fun _ _ _ h => h) (Or.inl ⟨by rfl, ?_⟩) (by assumption) ?_; rotate_left; next => (intro w hSw; (try dsimp only at hSw); (try delta R_Head8_10); go_simp; try with_reducible rfl))
    ((try simp only [Act.put, List.setIfInBounds_toArray, List.set_cons_zero, List.set_cons_succ]); (try simp only [KD1.out, KD2.out, KD4.out, KD5.out]))
    (refine wpAnyH_take (i := 11) (oi := R_Head8_11) (v := ?_) rfl (by kernel_rfl) (by kernel_rfl) (by kernel_rfl) (fun _ _ _ h => h) (Or.inl ⟨by rfl, ?_⟩) (by assumption) ?_; rotate_left; next => (intro w hSw; (try dsimp only at hSw); (try delta R_Head8_11); go_simp; try with_reducible rfl))
    ((try simp only [Act.put, List.setIfInBounds_toArray, List.set_cons_zero, List.set_cons_succ]); (try simp only [KD1.out, KD2.out, KD4.out, KD5.out]))
    first | (refine wpAnyH_take (i := 12) (oi := R_Head8_12) (v := undef) rfl (by kernel_rfl) (by kernel_rfl) (by kernel_rfl) (fun _ _ _ h => h) (Or.inr ⟨by rfl, rfl⟩) (by assumption) ?_) | (refine wpAnyH_take (i := 12) (oi := R_Head8_12) (v := ?_) rfl (by kernel_rfl) (by kernel_rfl) (by kernel_rfl) (fun _ _ _ h => h) (Or.inl ⟨by rfl, ?_⟩) (by assumption) ?_; rotate_left; next => (intro w hSw; (try dsimp only at hSw); (try delta R_Head8_12); go_simp; try with_reducible rfl))
    ((try simp only [Act.put, List.setIfInBounds_toArray, List.set_cons_zero, List.set_cons_succ]); (try simp only [KD1.out, KD2.out, KD4.out, KD5.out]))
    first | (refine wpAnyH_take (i := 13) (oi := R_Head8_13) (v := undef) rfl (by kernel_rfl) (by kernel_rfl) (by kernel_rfl) (fun _ _ _ h => h) (Or.inr ⟨by rfl, rfl⟩) (by assumption) ?_) | (refine wpAnyH_take (i := 13) (oi := R_Head8_13) (v := ?_) rfl (by kernel_rfl) (by kernel_rfl) (by kernel_rfl) (fun _ _ _ h => h) (Or.inl ⟨by rfl, ?_⟩) (by assumption) ?_; rotate_left; next => (intro w hSw; (try dsimp only at hSw); (try delta R_Head8_13); go_simp; try with_reducible rfl))
    ((try simp only [Act.put, List.setIfInBounds_toArray, List.set_cons_zero, List.set_cons_succ]); (try simp only [KD1.out, KD2.out, KD4.out, KD5.out]))
    first | (refine wpAnyH_take (i := 14) (oi := R_Head8_14) (v := undef) rfl (by kernel_rfl) (by kernel_rfl) (by kernel_rfl) (fun _ _ _ h => h) (Or.inr ⟨by rfl, rfl⟩) (by assumption) ?_) | (refine wpAnyH_take (i := 14) (oi := R_Head8_14) (v := ?_) rfl (by kernel_rfl) (by kernel_rfl) (by kernel_rfl) (fun _ _ _ h => h) (Or.inl ⟨by rfl, ?_⟩) (by assumption) ?_; rotate_left; next => (intro w hSw; (try dsimp only at hSw); (try delta R_Head8_14); go_simp; try with_reducible rfl))
    ((try simp only [Act.put, List.setIfInBounds_toArray, List.set_cons_zero, List.set_cons_succ]); (try simp only [KD1.out, KD2.out, KD4.out, KD5.out]))
    (refine wpAnyH_take (i := 15) (oi := R_Head8_15) (v := ?_) rfl (by kernel_rfl) (by kernel_rfl) (by kernel_rfl) (fun _ _ _ h => h) (Or.inl ⟨by rfl, ?_⟩) (by assumption) ?_; rotate_left; next => (intro w hSw; (try dsimp only at hSw); (try delta R_Head8_15); go_simp; try with_reducible rfl))
    ((try simp only [Act.put, List.setIfInBounds_toArray, List.set_cons_zero, List.set_cons_succ]); (try simp only [KD1.out, KD2.out, KD4.out, KD5.out]))
    (refine wpAnyH_take (i := 16) (oi := R_Head8_16) (v := ?_) rfl (by kernel_rfl) (by kernel_rfl) (by kernel_rfl) (fun _ _ _ h => h) (Or.inl ⟨by rfl, ?_⟩) (by assumption) ?_; rotate_left; next => (intro w hSw; (try dsimp only at hSw); (try delta R_Head8_16); go_simp; try with_reducible rfl))
    ((try simp only [Act.put, List.setIfInBounds_toArray, List.set_cons_zero, List.set_cons_succ]); (try simp only [KD1.out, KD2.out, KD4.out, KD5.out]))
    first | (refine wpAnyH_take (i := 17) (oi := R_Head8_17) (v := undef) rfl (by kernel_rfl) (by kernel_rfl) (by kernel_rfl) (fun _ _ _ h => h) (Or.inr ⟨by rfl, rfl⟩) (by assumption) ?_) | (refine wpAnyH_take (i := 17) (oi := R_Head8_17) (v := ?_) rfl (by kernel_rfl) (by kernel_rfl) (by kernel_rfl) (fun _ _ _ h => h) (Or.inl ⟨by rfl, ?_⟩) (by assumption) ?_; rotate_left; next => (intro w hSw; (try dsimp only at hSw); (try delta R_Head8_17); go_simp; try with_reducible rfl))
    ((try simp only [Act.put, List.setIfInBounds_toArray, List.set_cons_zero, List.set_cons_succ]); (try simp only [KD1.out, KD2.out, KD4.out, KD5.out]))
    first | (refine wpAnyH_take (i := 18) (oi := R_Head8_18) (v := undef) rfl (by kernel_rfl) (by kernel_rfl) (by kernel_rfl) (fun _ _ _ h => h) (Or.inr ⟨by rfl, rfl⟩) (by assumption) ?_) | (refine wpAnyH_take (i := 18) (oi := R_Head8_18) (v := ?_) rfl (by kernel_rfl) (by kernel_rfl) (by kernel_rfl) (fun _ _ _ h => h) (Or.inl ⟨by rfl, ?_⟩) (by assumption) ?_; rotate_left; next => (intro w hSw; (try dsimp only at hSw); (try delta R_Head8_18); go_simp; try with_reducible rfl))
    ((try simp only [Act.put, List.setIfInBounds_toArray, List.set_cons_zero, List.set_cons_succ]); (try simp only [KD1.out, KD2.out, KD4.out, KD5.out]))
    first | (refine wpAnyH_take (i := 19) (oi := R_Head8_19) (v := undef) rfl (by kernel_rfl) (by kernel_rfl) (by kernel_rfl) (fun _ _ _ h => h) (Or.inr ⟨by rfl, rfl⟩) (by assumption) ?_) | (refine wpAnyH_take (i := 19) (oi := R_Head8_19) (v := ?_) rfl (by kernel_rfl) (by kernel_rfl) (by kernel_rfl) (fun _ _ _ h => h) (Or.inl ⟨by rfl, ?_⟩) (by assumption) ?_; rotate_left; next => (intro w hSw; (try dsimp only at hSw); (try delta R_Head8_19); go_simp; try with_reducible rfl))
    ((try simp only [Act.put, List.setIfInBounds_toArray, List.set_cons_zero, List.set_cons_succ]); (try simp only [KD1.out, KD2.out, KD4.out, KD5.out]))
    first | (refine wpAnyH_take (i := 20) (oi := R_Head8_20) (v := undef) rfl (by kernel_rfl) (by kernel_rfl) (by kernel_rfl) (fun _ _ _ h => h) (Or.inr ⟨by rfl, rfl⟩) (by assumption) ?_) | (refine wpAnyH_take (i := 20) (oi := R_Head8_20) (v := ?_) rfl (by kernel_rfl) (by kernel_rfl) (by kernel_rfl) (fun _ _ _ h => h) (Or.inl ⟨by rfl, ?_⟩) (by assumption) ?_; rotate_left; next => (intro w hSw; (try dsimp only at hSw); (try delta R_Head8_20); go_simp; try with_reducible rfl))
    ((try simp only [Act.put, List.setIfInBounds_toArray, List.set_cons_zero, List.set_cons_succ]); (try simp only [KD1.out, KD2.out, KD4.out, KD5.out]))
    first | (refine wpAnyH_take (i := 21) (oi := R_Head8_21) (v := undef) rfl (by kernel_rfl) (by kernel_rfl) (by kernel_rfl) (fun _ _ _ h => h) (Or.inr ⟨by rfl, rfl⟩) (by assumption) ?_) | (refine wpAnyH_take (i := 21) (oi := R_Head8_21) (v := ?_) rfl (by kernel_rfl) (by kernel_rfl) (by kernel_rfl) (fun _ _ _ h => h) (Or.inl ⟨by rfl, ?_⟩) (by assumption) ?_; rotate_left; next => (intro w hSw; (try dsimp only at hSw); (try delta R_Head8_21); go_simp; try with_reducible rfl))
    ((try simp only [Act.put, List.setIfInBounds_toArray, List.set_cons_zero, List.set_cons_succ]); (try simp only [KD1.out, KD2.out, KD4.out, KD5.out]))
    first | (refine wpAnyH_take (i := 22) (oi := R_Head8_22) (v := undef) rfl (by kernel_rfl) (by kernel_rfl) (by kernel_rfl) (fun _ _ _ h => h) (Or.inr ⟨by rfl, rfl⟩) (by assumption) ?_) | (refine wpAnyH_take (i := 22) (oi := R_Head8_22) (v := ?_) rfl (by kernel_rfl) (by kernel_rfl) (by kernel_rfl) (fun _ _ _ h => h) (Or.inl ⟨by rfl, ?_⟩) (by assumption) ?_; rotate_left; next => (intro w hSw; (try dsimp only at hSw); (try delta R_Head8_22); go_simp; try with_reducible rfl))
    ((try simp only [Act.put, List.setIfInBounds_toArray, List.set_cons_zero, List.set_cons_succ]); (try simp only [KD1.out, KD2.out, KD4.out, KD5.out]))
    first | (refine wpAnyH_take (i := 23) (oi := R_Head8_23) (v := undef) rfl (by kernel_rfl) (by kernel_rfl) (by kernel_rfl) (fun _ _ _ h => h) (Or.inr ⟨by rfl, rfl⟩) (by assumption) ?_) | (refine wpAnyH_take (i := 23) (oi := R_Head8_23) (v := ?_) rfl (by kernel_rfl) (by kernel_rfl) (by kernel_rfl) (fun _ _ _ h => h) (Or.inl ⟨by rfl, ?_⟩) (by assumption) ?_; rotate_left; next => (intro w hSw; (try dsimp only at hSw); (try delta R_Head8_23); go_simp; try with_reducible rfl))
    ((try simp only [Act.put, List.setIfInBounds_toArray, List.set_cons_zero, List.set_cons_succ]); (try simp only [KD1.out, KD2.out, KD4.out, KD5.out]))
    first | (refine wpAnyH_take (i := 24) (oi := R_Head8_24) (v := undef) rfl (by kernel_rfl) (by kernel_rfl) (by kernel_rfl) (fun _ _ _ h => h) (Or.inr ⟨by rfl, rfl⟩) (by assumption) ?_) | (refine wpAnyH_take (i := 24) (oi := R_Head8_24) (v := ?_) rfl (by kernel_rfl) (by kernel_rfl) (by kernel_rfl) (fun _ _ _ h => h) (Or.inl ⟨by rfl, ?_⟩) (by assumption) ?_; rotate_left; next => (intro w hSw; (try dsimp only at hSw); (try delta R_Head8_24); go_simp; try with_reducible rfl))
    ((try simp only [Act.put, List.setIfInBounds_toArray, List.set_cons_zero, List.set_cons_succ]); (try simp only [KD1.out, KD2.out, KD4.out, KD5.out]))
    (refine wpAnyH_take (i := 25) (oi := R_Head8_25) (v := ?_) rfl (by kernel_rfl) (by kernel_rfl) (by kernel_rfl) (fun _ _ _ h => h) (Or.inl ⟨by rfl, ?_⟩) (by assumption) ?_; rotate_left; next => (intro w hSw; (try dsimp only at hSw); (try delta R_Head8_25); go_simp; try with_reducible rfl))
    ((try simp only [Act.put, List.setIfInBounds_toArray, List.set_cons_zero, List.set_cons_succ]); (try simp only [KD1.out, KD2.out, KD4.out, KD5.out]))
    (refine wpAnyH_take (i := 26) (oi := R_Head8_26) (v := ?_) rfl (by kernel_rfl) (by kernel_rfl) (by kernel_rfl) (fun _ _ _ h => h) (Or.inl ⟨by rfl, ?_⟩) (by assumption) ?_; rotate_left; next => (intro w hSw; (try dsimp only at hSw); (try delta R_Head8_26); go_simp; try with_reducible rfl))
    ((try simp only [Act.put, List.setIfInBounds_toArray, List.set_cons_zero, List.set_cons_succ]); (try simp only [KD1.out, KD2.out, KD4.out, KD5.out]))
    first | (refine wpAnyH_take (i := 27) (oi := R_Head8_27) (v := undef) rfl (by kernel_rfl) (by kernel_rfl) (by kernel_rfl) (fun _ _ _ h => h) (Or.inr ⟨by rfl, rfl⟩) (by assumption) ?_) | (refine wpAnyH_take (i := 27) (oi := R_Head8_27) (v := ?_) rfl (by kernel_rfl) (by kernel_rfl) (by kernel_rfl) (fun _ _ _ h => h) (Or.inl ⟨by rfl, ?_⟩) (by assumption) ?_; rotate_left; next => (intro w hSw; (try dsimp only at hSw); (try delta R_Head8_27); go_simp; try with_reducible rfl))
    ((try simp only [Act.put, List.setIfInBounds_toArray, List.set_cons_zero, List.set_cons_succ]); (try simp only [KD1.out, KD2.out, KD4.out, KD5.out]))
    first | (refine wpAnyH_take (i := 28) (oi := R_Head8_28) (v := undef) rfl (by kernel_rfl) (by kernel_rfl) (by kernel_rfl) (fun _ _ _ h => h) (Or.inr ⟨by rfl, rfl⟩) (by assumption) ?_) | (refine wpAnyH_take (i := 28) (oi := R_Head8_28) (v := ?_) rfl (by kernel_rfl) (by kernel_rfl) (by kernel_rfl) (fun _ _ _ h => h) (Or.inl ⟨by rfl, ?_⟩) (by assumption) ?_; rotate_left; next => (intro w hSw; (try dsimp only at hSw); (try delta R_Head8_28); go_simp; try with_reducible rfl))
    ((try simp only [Act.put, List.setIfInBounds_toArray, List.set_cons_zero, List.set_cons_succ]); (try simp only [KD1.out, KD2.out, KD4.out, KD5.out]))
    first | (refine wpAnyH_take (i := 29) (oi := R_Head8_29) (v := undef) rfl (by kernel_rfl) (by kernel_rfl) (by kernel_rfl) (fun _ _ _ h => h) (Or.inr ⟨by rfl, rfl⟩) (by assumption) ?_) | (refine wpAnyH_take (i := 29) (oi := R_Head8_29) (v := ?_) rfl (by kernel_rfl) (by kernel_rfl) (by kernel_rfl) (fun _ _ _ h => h) (Or.inl ⟨by rfl, ?_⟩) (by assumption) ?_; rotate_left; next => (intro w hSw; (try dsimp only at hSw); (try delta R_Head8_29); go_simp; try with_reducible rfl))
    ((try simp only [Act.put, List.setIfInBounds_toArray, List.set_cons_zero, List.set_cons_succ]); (try simp only [KD1.out, KD2.out, KD4.out, KD5.out]))
    (refine wpAnyH_take (i := 30) (oi := R_Head8_30) (v := ?_) rfl (by kernel_rfl) (by kernel_rfl) (by kernel_rfl) (fun _ _ _ h => h) (Or.inl ⟨by rfl, ?_⟩) (by assumption) ?_; rotate_left; next => (intro w hSw; (try dsimp only at hSw); (try delta R_Head8_30); go_simp; try with_reducible rfl))
    ((try simp only [Act.put, List.setIfInBounds_toArray, List.set_cons_zero, List.set_cons_succ]); (try simp only [KD1.out, KD2.out, KD4.out, KD5.out]))
    (refine wpAnyH_take (i := 31) (oi := R_Head8_31) (v := ?_) rfl (by kernel_rfl) (by kernel_rfl) (by kernel_rfl) (fun _ _ _ h => h) (Or.inl ⟨by rfl, ?_⟩) (by assumption) ?_; rotate_left; next => (intro w hSw; (try dsimp only at hSw); (try delta R_Head8_31); go_simp; try with_reducible rfl))
    ((try simp only [Act.put, List.setIfInBounds_toArray, List.set_cons_zero, List.set_cons_succ]); (try simp only [KD1.out, KD2.out, KD4.out, KD5.out]))
    first | (refine wpAnyH_take (i := 32) (oi := R_Head8_32) (v := undef) rfl (by kernel_rfl) (by kernel_rfl) (by kernel_rfl) (fun _ _ _ h => h) (Or.inr ⟨by rfl, rfl⟩) (by assumption) ?_) | (refine wpAnyH_take (i := 32) (oi := R_Head8_32) (v := ?_) rfl (by kernel_rfl) (by kernel_rfl) (by kernel_rfl) (fun _ _ _ h => h) (Or.inl ⟨by rfl, ?_⟩) (by assumption) ?_; rotate_left; next => (intro w hSw; (try dsimp only at hSw); (try delta R_Head8_32); go_simp; try with_reducible rfl))
    ((try simp only [Act.put, List.setIfInBounds_toArray, List.set_cons_zero, List.set_cons_succ]); (try simp only [KD1.out, KD2.out, KD4.out, KD5.out]))
    first | (refine wpAnyH_take (i := 33) (oi := R_Head8_33) (v := undef) rfl (by kernel_rfl) (by kernel_rfl) (by kernel_rfl) (fun _ _ _ h => h) (Or.inr ⟨by rfl, rfl⟩) (by assumption) ?_) | (refine wpAnyH_take (i := 33) (oi := R_Head8_33) (v := ?_) rfl (by kernel_rfl) (by kernel_rfl) (by kernel_rfl) (fun _ _ _ h => h) (Or.inl ⟨by rfl, ?_⟩) (by assumption) ?_; rotate_left; next => (intro w hSw; (try dsimp only at hSw); (try delta R_Head8_33); go_simp; try with_reducible rfl))
    ((try simp only [Act.put, List.setIfInBounds_toArray, List.set_cons_zero, List.set_cons_succ]); (try simp only [KD1.out, KD2.out, KD4.out, KD5.out]))
    first | (refine wpAnyH_take (i := 34) (oi := R_Head8_34) (v := undef) rfl (by kernel_rfl) (by kernel_rfl) (by kernel_rfl) (fun _ _ _ h => h) (Or.inr ⟨by rfl, rfl⟩) (by assumption) ?_) | (refine wpAnyH_take (i := 34) (oi := R_Head8_34) (v := ?_) rfl (by kernel_rfl) (by kernel_rfl) (by kernel_rfl) (fun _ _ _ h => h) (Or.inl ⟨by rfl, ?_⟩) (by assumption) ?_; rotate_left; next => (intro w hSw; (try dsimp only at hSw); (try delta R_Head8_34); go_simp; try with_reducible rfl))
    ((try simp only [Act.put, List.setIfInBounds_toArray, List.set_cons_zero, List.set_cons_succ]); (try simp only [KD1.out, KD2.out, KD4.out, KD5.out]))
    first
    | (refine wpAnyH_take (i := 35) (oi := R_Head8_35) (v := undef) rfl (by kernel_rfl) (by kernel_rfl) (by kernel_rfl) (fun _ _ _ h => h) (Or.inr ⟨by rfl, rfl⟩) (by assumption) ?_
       ((try simp only [Act.put, List.setIfInBounds_toArray, List.set_cons_zero, List.set_cons_succ]); (try simp only [KD1.out, KD2.out, KD4.out, KD5.out])))
    | (refine wpAnyH_ready (rs := [35]) (by kernel_rfl) (by simp) ?_
       refine AllReadyH.cons (o := R_Head8_35) rfl (fun K hK => ?_) AllReadyH.nil
       (try delta R_Head8_35)
       go_simp
       (first | (go_at_call 38; (with_reducible refine (CGD.out w7.drew HDD.out).mono ?_); rintro e wz ⟨rfl, rfl⟩) | (go_at_call 34; (with_reducible refine (CBK.out w7.drew HBD.out).mono ?_); rintro e wz ⟨rfl, rfl⟩))
       (try go_wp2_with fail)
       refine hK.out _ _ ?_ (fun hHeld => ?_)
       · (exact ⟨s0, s1, s2⟩)
       clear hK K
       ((try simp only [Act.put, List.setIfInBounds_toArray, List.set_cons_zero, List.set_cons_succ]); (try simp only [KD1.out, KD2.out, KD4.out, KD5.out])))
    first | (refine wpAnyH_take (i := 36) (oi := R_Head8_36) (v := undef) rfl (by kernel_rfl) (by kernel_rfl) (by kernel_rfl) (fun _ _ _ h => h) (Or.inr ⟨by rfl, rfl⟩) (by assumption) ?_) | (refine wpAnyH_take (i := 36) (oi := R_Head8_36) (v := ?_) rfl (by kernel_rfl) (by kernel_rfl) (by kernel_rfl) (fun _ _ _ h => h) (Or.inl ⟨by rfl, ?_⟩) (by assumption) ?_; rotate_left; next => (intro w hSw; (try dsimp only at hSw); (try delta R_Head8_36); go_simp; try with_reducible rfl))
    ((try simp only [Act.put, List.setIfInBounds_toArray, List.set_cons_zero, List.set_cons_succ]); (try simp only [KD1.out, KD2.out, KD4.out, KD5.out]))
    first | (refine wpAnyH_take (i := 37) (oi := R_Head8_37) (v := undef) rfl (by kernel_rfl) (by kernel_rfl) (by kernel_rfl) (fun _ _ _ h => h) (Or.inr ⟨by rfl, rfl⟩) (by assumption) ?_) | (refine wpAnyH_take (i := 37) (oi := R_Head8_37) (v := ?_) rfl (by kernel_rfl) (by kernel_rfl) (by kernel_rfl) (fun _ _ _ h => h) (Or.inl ⟨by rfl, ?_⟩) (by assumption) ?_; rotate_left; next => (intro w hSw; (try dsimp only at hSw); (try delta R_Head8_37); go_simp; try with_reducible rfl))
    ((try simp only [Act.put, List.setIfInBounds_toArray, List.set_cons_zero, List.set_cons_succ]); (try simp only [KD1.out, KD2.out, KD4.out, KD5.out]))
    (refine wpAnyH_take (i := 38) (oi := R_Head8_38) (v := ?_) rfl (by kernel_rfl) (by kernel_rfl) (by kernel_rfl) (fun _ _ _ h => h) (Or.inl ⟨by rfl, ?_⟩) (by assumption) ?_; rotate_left; next => (intro w hSw; (try dsimp only at hSw); (try delta R_Head8_38); go_simp; try with_reducible rfl))
    ((try simp only [Act.put, List.setIfInBounds_toArray, List.set_cons_zero, List.set_cons_succ]); (try simp only [KD1.out, KD2.out, KD4.out, KD5.out]))
    (refine wpAnyH_take (i := 39) (oi := R_Head8_39) (v := ?_) rfl (by kernel_rfl) (by kernel_rfl) (by kernel_rfl) (fun _ _ _ h => h) (Or.inl ⟨by rfl, ?_⟩) (by assumption) ?_; rotate_left; next => (intro w hSw; (try dsimp only at hSw); (try delta R_Head8_39); go_simp; try with_reducible rfl))
    ((try simp only [Act.put, List.setIfInBounds_toArray, List.set_cons_zero, List.set_cons_succ]); (try simp only [KD1.out, KD2.out, KD4.out, KD5.out]))
    refine wpAnyH_done (by kernel_rfl) ?_ _
    go_wp2_with fail
    refine bodyPost_ret (results_row_tmpH rfl _ _ w.heap.size 67 #[_, _, _] (0, 0) _ rfl HE.out.1 Tryd.underlying67 rfl infoHead) rfl ?_
    exact ⟨by rw [HX.out]; dsimp only; rw [HOK.out]; simp [HD3.val, KD1.out, KD2.out, KD4.out, KD5.out, HWQ.out], HE.out.2⟩
  by_cases k6 : n2 = 1
  · subst k6
    by_cases k4 : n3 < 0
    · have KD4 : Hid (decide (0 ≤ n3) = false) := Lib.hid (by simp; omega)
      refine wp_region_held_drew (S := (fun W => W.cell? ⟨lb, 0, none⟩ = some (.int .i64 n1) ∧ W.cell? ⟨lb, 1, none⟩ = some (.int .i64 1) ∧ W.cell? ⟨lb, 2, none⟩ = some (.int .i64 n3))) (by kernel_rfl) ?_ (fun hHeld => ?_)
      · (exact ⟨s0, s1, s2⟩)
      (refine wpAnyH_take (i := 0) (oi := R_Head8_0) (v := ?_) rfl (by kernel_rfl) (by kernel_rfl) (by kernel_rfl) (fun _ _ _ h => h) (Or.inl ⟨by rfl, ?_⟩) (by assumption) ?_; rotate_left; next => (intro w hSw; (try dsimp only at hSw); (try delta R_Head8_0); go_simp; try with_reducible rfl))
      ((try simp only [Act.put, List.setIfInBounds_toArray, List.set_cons_zero, List.set_cons_succ]); (try simp only [KD1.out, KD2.out, KD4.out]))
      refine wpAnyH_ready (rs := [1]) (by kernel_rfl) (by simp) ?_
      refine AllReadyH.cons (o := R_Head8_1) rfl (fun K hK => ?_) AllReadyH.nil
      (try delta R_Head8_1)
      go_simp
      (first | (go_at_call 38; (with_reducible refine (CGD.out w7.drew HDD.out).mono ?_); rintro e wz ⟨rfl, rfl⟩) | (go_at_call 34; (with_reducible refine (CBK.out w7.drew HBD.out).mono ?_); rintro e wz ⟨rfl, rfl⟩))
      (try go_wp2_with fail)
      refine hK.out _ _ ?_ (fun hHeld => ?_)
      · (exact ⟨s0, s1, s2⟩)
      clear hK K
      ((try simp only [Act.put, List.setIfInBounds_toArray, List.set_cons_zero, List.set_cons_succ]); (try simp only [KD1.out, KD2.out, KD4.out]))
      (refine wpAnyH_take (i := 2) (oi := R_Head8_2) (v := ?_) rfl (by kernel_rfl) (by kernel_rfl) (by kernel_rfl) (fun _ _ _ h => h) (Or.inl ⟨by rfl, ?_⟩) (by assumption) ?_; rotate_left; next => (intro w hSw; (try dsimp only at hSw); (try delta R_Head8_2); go_simp; try with_reducible rfl))
      ((try simp only [Act.put, List.setIfInBounds_toArray, List.set_cons_zero, List.set_cons_succ]); (try simp only [KD1.out, KD2.out, KD4.out]))
      first | (refine wpAnyH_take (i := 3) (oi := R_Head8_3) (v := undef) rfl (by kernel_rfl) (by kernel_rfl) (by kernel_rfl) (fun _ _ _ h => h) (Or.inr ⟨by rfl, rfl⟩) (by assumption) ?_) | (refine wpAnyH_take (i := 3) (oi := R_Head8_3) (v := ?_) rfl (by kernel_rfl) (by kernel_rfl) (by kernel_rfl) (fun _ _ _ h => h) (Or.inl ⟨by rfl, ?_⟩) (by assumption) ?_; rotate_left; next => (intro w hSw; (try dsimp only at hSw); (try delta R_Head8_3); go_simp; try with_reducible rfl))
      ((try simp only [Act.put, List.setIfInBounds_toArray, List.set_cons_zero, List.set_cons_succ]); (try simp only [KD1.out, KD2.out, KD4.out]))
      first | (refine wpAnyH_take (i := 4) (oi := R_Head8_4) (v := undef) rfl (by kernel_rfl) (by kernel_rfl) (by kernel_rfl) (fun _ _ _ h => h) (Or.inr ⟨by rfl, rfl⟩) (by assumption) ?_) | (refine wpAnyH_take (i := 4) (oi := R_Head8_4) (v := ?_) rfl (by kernel_rfl) (by kernel_rfl) (by kernel_rfl) (fun _ _ _ h => h) (Or.inl ⟨by rfl, ?_⟩) (by assumption) ?_; rotate_left; next => (intro w hSw; (try dsimp only at hSw); (try delta R_Head8_4); go_simp; try with_reducible rfl))
      ((try simp only [Act.put, List.setIfInBounds_toArray, List.set_cons_zero, List.set_cons_succ]); (try simp only [KD1.out, KD2.out, KD4.out]))
      (refine wpAnyH_take (i := 5) (oi := R_Head8_5) (v := ?_) rfl (by kernel_rfl) (by kernel_rfl) (by kernel_rfl) (fun _ _ _ h => h) (Or.inl ⟨by rfl, ?_⟩) (by assumption) ?_; rotate_left; next => (intro w hSw; (try dsimp only at hSw); (try delta R_Head8_5); go_simp; try with_reducible rfl))
      ((try simp only [Act.put, List.setIfInBounds_toArray, List.set_cons_zero, List.set_cons_succ]); (try simp only [KD1.out, KD2.out, KD4.out]))
      (refine wpAnyH_take (i := 6) (oi := R_Head8_6) (v := ?_) rfl (by kernel_rfl) (by kernel_rfl) (by kernel_rfl) (fun _ _ _ h => h) (Or.inl ⟨by rfl, ?_⟩) (by assumption) ?_; rotate_left; next => (intro w hSw; (try dsimp only at hSw); (try delta R_Head8_6); go_simp; try with_reducible rfl))
      ((try simp only [Act.put, List.setIfInBounds_toArray, List.set_cons_zero, List.set_cons_succ]); (try simp only [KD1.out, KD2.out, KD4.out]))
      first | (refine wpAnyH_take (i := 7) (oi := R_Head8_7) (v := undef) rfl (by kernel_rfl) (by kernel_rfl) (by kernel_rfl) (fun _ _ _ h => h) (Or.inr ⟨by rfl, rfl⟩) (by assumption) ?_) | (refine wpAnyH_take (i := 7) (oi := R_Head8_7) (v := ?_) rfl (by kernel_rfl) (by kernel_rfl) (by kernel_rfl) (fun _ _ _ h => h) (Or.inl ⟨by rfl, ?_⟩) (by assumption) ?_; rotate_left; next => (intro w hSw; (try dsimp only at hSw); (try delta R_Head8_7); go_simp; try with_reducible rfl))
      ((try simp only [Act.put, List.setIfInBounds_toArray, List.set_cons_zero, List.set_cons_succ]); (try simp only [KD1.out, KD2.out, KD4.out]))
      first | (refine wpAnyH_take (i := 8) (oi := R_Head8_8) (v := undef) rfl (by kernel_rfl) (by kernel_rfl) (by kernel_rfl) (fun _ _ _ h => h) (Or.inr ⟨by rfl, rfl⟩) (by assumption) ?_) | (refine wpAnyH_take (i := 8) (oi := R_Head8_8) (v := ?_) rfl (by kernel_rfl) (by kernel_rfl) (by kernel_rfl) (fun _ _ _ h => h) (Or.inl ⟨by rfl, ?_⟩) (by assumption) ?_; rotate_left; next => (intro w hSw; (try dsimp only at hSw); (try delta R_Head8_8); go_simp; try with_reducible rfl))
      ((try simp only [Act.put, List.setIfInBounds_toArray, List.set_cons_zero, List.set_cons_succ]); (try simp only [KD1.out, KD2.out, KD4.out]))
      first | (refine wpAnyH_take (i := 9) (oi := R_Head8_9) (v := undef) rfl (by kernel_rfl) (by kernel_rfl) (by kernel_rfl) (fun _ _ _ h => h) (Or.inr ⟨by rfl, rfl⟩) (by assumption) ?_) | (refine wpAnyH_take (i := 9) (oi := R_Head8_9) (v := ?_) rfl (by kernel_rfl) (by kernel_rfl) (by kernel_rfl) (fun _ _ _ h => h) (Or.inl ⟨by rfl, ?_⟩) (by assumption) ?_; rotate_left; next => (intro w hSw; (try dsimp only at hSw); (try delta R_Head8_9); go_simp; try with_reducible rfl))
      ((try simp only [Act.put, List.setIfInBounds_toArray, List.set_cons_zero, List.set_cons_succ]); (try simp only [KD1.out, KD2.out, KD4.out]))
      (refine wpAnyH_take (i := 10) (oi := R_Head8_10) (v := ?_) rfl (by kernel_rfl) (by kernel_rfl) (by kernel_rfl) (fun _ _ _ h => h) (Or.inl ⟨by rfl, ?_⟩) (by assumption) ?_; rotate_left; next => (intro w hSw; (try dsimp only at hSw); (try delta R_Head8_10); go_simp; try with_reducible rfl))
      ((try simp only [Act.put, List.setIfInBounds_toArray, List.set_cons_zero, List.set_cons_succ]); (try simp only [KD1.out, KD2.out, KD4.out]))
      (refine wpAnyH_take (i := 11) (oi := R_Head8_11) (v := ?_) rfl (by kernel_rfl) (by kernel_rfl) (by kernel_rfl) (fun _ _ _ h => h) (Or.inl ⟨by rfl, ?_⟩) (by assumption) ?_; rotate_left; next => (intro w hSw; (try dsimp only at hSw); (try delta R_Head8_11); go_simp; try with_reducible rfl))
      ((try simp only [Act.put, List.setIfInBounds_toArray, List.set_cons_zero, List.set_cons_succ]); (try simp only [KD1.out, KD2.out, KD4.out]))
      first | (refine wpAnyH_take (i := 12) (oi := R_Head8_12) (v := undef) rfl (by kernel_rfl) (by kernel_rfl) (by kernel_rfl) (fun _ _ _ h => h) (Or.inr ⟨by rfl, rfl⟩) (by assumption) ?_) | (refine wpAnyH_take (i := 12) (oi := R_Head8_12) (v := ?_) rfl (by kernel_rfl) (by kernel_rfl) (by kernel_rfl) (fun _ _ _ h => h) (Or.inl ⟨by rfl, ?_⟩) (by assumption) ?_; rotate_left; next => (intro w hSw; (try dsimp only at hSw); (try delta R_Head8_12); go_simp; try with_reducible rfl))
      ((try simp only [Act.put, List.setIfInBounds_toArray, List.set_cons_zero, List.set_cons_succ]); (try simp only [KD1.out, KD2.out, KD4.out]))
      first | (refine wpAnyH_take (i := 13) (oi := R_Head8_13) (v := undef) rfl (by kernel_rfl) (by kernel_rfl) (by kernel_rfl) (fun _ _ _ h => h) (Or.inr ⟨by rfl, rfl⟩) (by assumption) ?_) | (refine wpAnyH_take (i := 13) (oi := R_Head8_13) (v := ?_) rfl (by kernel_rfl) (by kernel_rfl) (by kernel_rfl) (fun _ _ _ h => h) (Or.inl ⟨by rfl, ?_⟩) (by assumption) ?_; rotate_left; next => (intro w hSw; (try dsimp only at hSw); (try delta R_Head8_13); go_simp; try with_reducible rfl))
      ((try simp only [Act.put, List.setIfInBounds_toArray, List.set_cons_zero, List.set_cons_succ]); (try simp only [KD1.out, KD2.out, KD4.out]))
      first | (refine wpAnyH_take (i := 14) (oi := R_Head8_14) (v := undef) rfl (by kernel_rfl) (by kernel_rfl) (by kernel_rfl) (fun _ _ _ h => h) (Or.inr ⟨by rfl, rfl⟩) (by assumption) ?_) | (refine wpAnyH_take (i := 14) (oi := R_Head8_14) (v := ?_) rfl (by kernel_rfl) (by kernel_rfl) (by kernel_rfl) (fun _ _ _ h => h) (Or.inl ⟨by rfl, ?_⟩) (by assumption) ?_; rotate_left; next => (intro w hSw; (try dsimp only at hSw); (try delta R_Head8_14); go_simp; try with_reducible rfl))
      ((try simp only [Act.put, List.setIfInBounds_toArray, List.set_cons_zero, List.set_cons_succ]); (try simp only [KD1.out, KD2.out, KD4.out]))
      (refine wpAnyH_take (i := 15) (oi := R_Head8_15) (v := ?_) rfl (by kernel_rfl) (by kernel_rfl) (by kernel_rfl) (fun _ _ _ h => h) (Or.inl ⟨by rfl, ?_⟩) (by assumption) ?_; rotate_left; next => (intro w hSw; (try dsimp only at hSw); (try delta R_Head8_15); go_simp; try with_reducible rfl))
      ((try simp only [Act.put, List.setIfInBounds_toArray, List.set_cons_zero, List.set_cons_succ]); (try simp only [KD1.out, KD2.out, KD4.out]))
      (refine wpAnyH_take (i := 16) (oi := R_Head8_16) (v := ?_) rfl (by kernel_rfl) (by kernel_rfl) (by kernel_rfl) (fun _ _ _ h => h) (Or.inl ⟨by rfl, ?_⟩) (by assumption) ?_; rotate_left; next => (intro w hSw; (try dsimp only at hSw); (try delta R_Head8_16); go_simp; try with_reducible rfl))
      ((try simp only [Act.put, List.setIfInBounds_toArray, List.set_cons_zero, List.set_cons_succ]); (try simp only [KD1.out, KD2.out, KD4.out]))
      first | (refine wpAnyH_take (i := 17) (oi := R_Head8_17) (v := undef) rfl (by kernel_rfl) (by kernel_rfl) (by kernel_rfl) (fun _ _ _ h => h) (Or.inr ⟨by rfl, rfl⟩) (by assumption) ?_) | (refine wpAnyH_take (i := 17) (oi := R_Head8_17) (v := ?_) rfl (by kernel_rfl) (by kernel_rfl) (by kernel_rfl) (fun _ _ _ h => h) (Or.inl ⟨by rfl, ?_⟩) (by assumption) ?_; rotate_left; next => (intro w hSw; (try dsimp only at hSw); (try delta R_Head8_17); go_simp; try with_reducible rfl))
      ((try simp only [Act.put, List.setIfInBounds_toArray, List.set_cons_zero, List.set_cons_succ]); (try simp only [KD1.out, KD2.out, KD4.out]))
      first | (refine wpAnyH_take (i := 18) (oi := R_Head8_18) (v := undef) rfl (by kernel_rfl) (by kernel_rfl) (by kernel_rfl) (fun _ _ _ h => h) (Or.inr ⟨by rfl, rfl⟩) (by assumption) ?_) | (refine wpAnyH_take (i := 18) (oi := R_Head8_18) (v := ?_) rfl (by kernel_rfl) (by kernel_rfl) (by kernel_rfl) (fun _ _ _ h => h) (Or.inl ⟨by rfl, ?_⟩) (by assumption) ?_; rotate_left; next => (intro w hSw; (try dsimp only at hSw); (try delta R_Head8_18); go_simp; try with_reducible rfl))
      ((try simp only [Act.put, List.setIfInBounds_toArray, List.set_cons_zero, List.set_cons_succ]); (try simp only [KD1.out, KD2.out, KD4.out]))
      first | (refine wpAnyH_take (i := 19) (oi := R_Head8_19) (v := undef) rfl (by kernel_rfl) (by kernel_rfl) (by kernel_rfl) (fun _ _ _ h => h) (Or.inr ⟨by rfl, rfl⟩) (by assumption) ?_) | (refine wpAnyH_take (i := 19) (oi := R_Head8_19) (v := ?_) rfl (by kernel_rfl) (by kernel_rfl) (by kernel_rfl) (fun _ _ _ h => h) (Or.inl ⟨by rfl, ?_⟩) (by assumption) ?_; rotate_left; next => (intro w hSw; (try dsimp only at hSw); (try delta R_Head8_19); go_simp; try with_reducible rfl))
      ((try simp only [Act.put, List.setIfInBounds_toArray, List.set_cons_zero, List.set_cons_succ]); (try simp only [KD1.out, KD2.out, KD4.out]))
      first | (refine wpAnyH_take (i := 20) (oi := R_Head8_20) (v := undef) rfl (by kernel_rfl) (by kernel_rfl) (by kernel_rfl) (fun _ _ _ h => h) (Or.inr ⟨by rfl, rfl⟩) (by assumption) ?_) | (refine wpAnyH_take (i := 20) (oi := R_Head8_20) (v := ?_) rfl (by kernel_rfl) (by kernel_rfl) (by kernel_rfl) (fun _ _ _ h => h) (Or.inl ⟨by rfl, ?_⟩) (by assumption) ?_; rotate_left; next => (intro w hSw; (try dsimp only at hSw); (try delta R_Head8_20); go_simp; try with_reducible rfl))
      ((try simp only [Act.put, List.setIfInBounds_toArray, List.set_cons_zero, List.set_cons_succ]); (try simp only [KD1.out, KD2.out, KD4.out]))
      first | (refine wpAnyH_take (i := 21) (oi := R_Head8_21) (v := undef) rfl (by kernel_rfl) (by kernel_rfl) (by kernel_rfl) (fun _ _ _ h => h) (Or.inr ⟨by rfl, rfl⟩) (by assumption) ?_) | (refine wpAnyH_take (i := 21) (oi := R_Head8_21) (v := ?_) rfl (by kernel_rfl) (by kernel_rfl) (by kernel_rfl) (fun _ _ _ h => h) (Or.inl ⟨by rfl, ?_⟩) (by assumption) ?_; rotate_left; next => (intro w hSw; (try dsimp only at hSw); (try delta R_Head8_21); go_simp; try with_reducible rfl))
      ((try simp only [Act.put, List.setIfInBounds_toArray, List.set_cons_zero, List.set_cons_succ]); (try simp only [KD1.out, KD2.out, KD4.out]))
      first | (refine wpAnyH_take (i := 22) (oi := R_Head8_22) (v := undef) rfl (by kernel_rfl) (by kernel_rfl) (by kernel_rfl) (fun _ _ _ h => h) (Or.inr ⟨by rfl, rfl⟩) (by assumption) ?_) | (refine wpAnyH_take (i := 22) (oi := R_Head8_22) (v := ?_) rfl (by kernel_rfl) (by kernel_rfl) (by kernel_rfl) (fun _ _ _ h => h) (Or.inl ⟨by rfl, ?_⟩) (by assumption) ?_; rotate_left; next => (intro w hSw; (try dsimp only at hSw); (try delta R_Head8_22); go_simp; try with_reducible rfl))
      ((try simp only [Act.put, List.setIfInBounds_toArray, List.set_cons_zero, List.set_cons_succ]); (try simp only [KD1.out, KD2.out, KD4.out]))
      first | (refine wpAnyH_take (i := 23) (oi := R_Head8_23) (v := undef) rfl (by kernel_rfl) (by kernel_rfl) (by kernel_rfl) (fun _ _ _ h => h) (Or.inr ⟨by rfl, rfl⟩) (by assumption) ?_) | (refine wpAnyH_take (i := 23) (oi := R_Head8_23) (v := ?_) rfl (by kernel_rfl) (by kernel_rfl) (by kernel_rfl) (fun _ _ _ h => h) (Or.inl ⟨by rfl, ?_⟩) (by assumption) ?_; rotate_left; next => (intro w hSw; (try dsimp only at hSw); (try delta R_Head8_23); go_simp; try with_reducible rfl))
      ((try simp only [Act.put, List.setIfInBounds_toArray, List.set_cons_zero, List.set_cons_succ]); (try simp only [KD1.out, KD2.out, KD4.out]))
      first | (refine wpAnyH_take (i := 24) (oi := R_Head8_24) (v := undef) rfl (by kernel_rfl) (by kernel_rfl) (by kernel_rfl) (fun _ _ _ h => h) (Or.inr ⟨by rfl, rfl⟩) (by assumption) ?_) | (refine wpAnyH_take (i := 24) (oi := R_Head8_24) (v := ?_) rfl (by kernel_rfl) (by kernel_rfl) (by kernel_rfl) (fun _ _ _ h => h) (Or.inl ⟨by rfl, ?_⟩) (by assumption) ?_; rotate_left; next => (intro w hSw; (try dsimp only at hSw); (try delta R_Head8_24); go_simp; try with_reducible rfl))
      ((try simp only [Act.put, List.setIfInBounds_toArray, List.set_cons_zero, List.set_cons_succ]); (try simp only [KD1.out, KD2.out, KD4.out]))
      (refine wpAnyH_take (i := 25) (oi := R_Head8_25) (v := ?_) rfl (by kernel_rfl) (by kernel_rfl) (by kernel_rfl) (fun _ _ _ h => h) (Or.inl ⟨by rfl, ?_⟩) (by assumption) ?_; rotate_left; next => (intro w hSw; (try dsimp only at hSw); (try delta R_Head8_25); go_simp; try with_reducible rfl))
      ((try simp only [Act.put, List.setIfInBounds_toArray, List.set_cons_zero, List.set_cons_succ]); (try simp only [KD1.out, KD2.out, KD4.out]))
      (refine wpAnyH_take (i := 26) (oi := R_Head8_26) (v := ?_) rfl (by kernel_rfl) (by kernel_rfl) (by kernel_rfl) (fun _ _ _ h => h) (Or.inl ⟨by rfl, ?_⟩) (by assumption) ?_; rotate_left; next => (intro w hSw; (try dsimp only at hSw); (try delta R_Head8_26); go_simp; try with_reducible rfl))
      ((try simp only [Act.put, List.setIfInBounds_toArray, List.set_cons_zero, List.set_cons_succ]); (try simp only [KD1.out, KD2.out, KD4.out]))
      first | (refine wpAnyH_take (i := 27) (oi := R_Head8_27) (v := undef) rfl (by kernel_rfl) (by kernel_rfl) (by kernel_rfl) (fun _ _ _ h => h) (Or.inr ⟨by rfl, rfl⟩) (by assumption) ?_) | (refine wpAnyH_take (i := 27) (oi := R_Head8_27) (v := ?_) rfl (by kernel_rfl) (by kernel_rfl) (by kernel_rfl) (fun _ _ _ h => h) (Or.inl ⟨by rfl, ?_⟩) (by assumption) ?_; rotate_left; next => (intro w hSw; (try dsimp only at hSw); (try delta R_Head8_27); go_simp; try with_reducible rfl))
      ((try simp only [Act.put, List.setIfInBounds_toArray, List.set_cons_zero, List.set_cons_succ]); (try simp only [KD1.out, KD2.out, KD4.out]))
      first | (refine wpAnyH_take (i := 28) (oi := R_Head8_28) (v := undef) rfl (by kernel_rfl) (by kernel_rfl) (by kernel_rfl) (fun _ _ _ h => h) (Or.inr ⟨by rfl, rfl⟩) (by assumption) ?_) | (refine wpAnyH_take (i := 28) (oi := R_Head8_28) (v := ?_) rfl (by kernel_rfl) (by kernel_rfl) (by kernel_rfl) (fun _ _ _ h => h) (Or.inl ⟨by rfl, ?_⟩) (by assumption) ?_; rotate_left; next => (intro w hSw; (try dsimp only at hSw); (try delta R_Head8_28); go_simp; try with_reducible rfl))
      ((try simp only [Act.put, List.setIfInBounds_toArray, List.set_cons_zero, List.set_cons_succ]); (try simp only [KD1.out, KD2.out, KD4.out]))
      first | (refine wpAnyH_take (i := 29) (oi := R_Head8_29) (v := undef) rfl (by kernel_rfl) (by kernel_rfl) (by kernel_rfl) (fun _ _ _ h => h) (Or.inr ⟨by rfl, rfl⟩) (by assumption) ?_) | (refine wpAnyH_take (i := 29) (oi := R_Head8_29) (v := ?_) rfl (by kernel_rfl) (by kernel_rfl) (by kernel_rfl) (fun _ _ _ h => h) (Or.inl ⟨by rfl, ?_⟩) (by assumption) ?_; rotate_left; next => (intro w hSw; (try dsimp only at hSw); (try delta R_Head8_29); go_simp; try with_reducible rfl))
      ((try simp only [Act.put, List.setIfInBounds_toArray, List.set_cons_zero, List.set_cons_succ]); (try simp only [KD1.out, KD2.out, KD4.out]))
      (refine wpAnyH_take (i := 30) (oi := R_Head8_30) (v := ?_) rfl (by kernel_rfl) (by kernel_rfl) (by kernel_rfl) (fun _ _ _ h => h) (Or.inl ⟨by rfl, ?_⟩) (by assumption) ?_; rotate_left; next => (intro w hSw; (try dsimp only at hSw); (try delta R_Head8_30); go_simp; try with_reducible rfl))
      ((try simp only [Act.put, List.setIfInBounds_toArray, List.set_cons_zero, List.set_cons_succ]); (try simp only [KD1.out, KD2.out, KD4.out]))
      (refine wpAnyH_take (i := 31) (oi := R_Head8_31) (v := ?_) rfl (by kernel_rfl) (by kernel_rfl) (by kernel_rfl) (fun _ _ _ h => h) (Or.inl ⟨by rfl, ?_⟩) (by assumption) ?_; rotate_left; next => (intro w hSw; (try dsimp only at hSw); (try delta R_Head8_31); go_simp; try with_reducible rfl))
      ((try simp only [Act.put, List.setIfInBounds_toArray, List.set_cons_zero, List.set_cons_succ]); (try simp only [KD1.out, KD2.out, KD4.out]))
      first | (refine wpAnyH_take (i := 32) (oi := R_Head8_32) (v := undef) rfl (by kernel_rfl) (by kernel_rfl) (by kernel_rfl) (fun _ _ _ h => h) (Or.inr ⟨by rfl, rfl⟩) (by assumption) ?_) | (refine wpAnyH_take (i := 32) (oi := R_Head8_32) (v := ?_) rfl (by kernel_rfl) (by kernel_rfl) (by kernel_rfl) (fun _ _ _ h => h) (Or.inl ⟨by rfl, ?_⟩) (by assumption) ?_; rotate_left; next => (intro w hSw; (try dsimp only at hSw); (try delta R_Head8_32); go_simp; try with_reducible rfl))
      ((try simp only [Act.put, List.setIfInBounds_toArray, List.set_cons_zero, List.set_cons_succ]); (try simp only [KD1.out, KD2.out, KD4.out]))
      first | (refine wpAnyH_take (i := 33) (oi := R_Head8_33) (v := undef) rfl (by kernel_rfl) (by kernel_rfl) (by kernel_rfl) (fun _ _ _ h => h) (Or.inr ⟨by rfl, rfl⟩) (by assumption) ?_) | (refine wpAnyH_take (i := 33) (oi := R_Head8_33) (v := ?_) rfl (by kernel_rfl) (by kernel_rfl) (by kernel_rfl) (fun _ _ _ h => h) (Or.inl ⟨by rfl, ?_⟩) (by assumption) ?_; rotate_left; next => (intro w hSw; (try dsimp only at hSw); (try delta R_Head8_33); go_simp; try with_reducible rfl))
      ((try simp only [Act.put, List.setIfInBounds_toArray, List.set_cons_zero, List.set_cons_succ]); (try simp only [KD1.out, KD2.out, KD4.out]))
      first | (refine wpAnyH_take (i := 34) (oi := R_Head8_34) (v := undef) rfl (by kernel_rfl) (by kernel_rfl) (by kernel_rfl) (fun _ _ _ h => h) (Or.inr ⟨by rfl, rfl⟩) (by assumption) ?_) | (refine wpAnyH_take (i := 34) (oi := R_Head8_34) (v := ?_) rfl (by kernel_rfl) (by kernel_rfl) (by kernel_rfl) (fun _ _ _ h => h) (Or.inl ⟨by rfl, ?_⟩) (by assumption) ?_; rotate_left; next => (intro w hSw; (try dsimp only at hSw); (try delta R_Head8_34); go_simp; try with_reducible rfl))
      ((try simp only [Act.put, List.setIfInBounds_toArray, List.set_cons_zero, List.set_cons_succ]); (try simp only [KD1.out, KD2.out, KD4.out]))
      first
      | (refine wpAnyH_take (i := 35) (oi := R_Head8_35) (v := undef) rfl (by kernel_rfl) (by kernel_rfl) (by kernel_rfl) (fun _ _ _ h => h) (Or.inr ⟨by rfl, rfl⟩) (by assumption) ?_
         ((try simp only [Act.put, List.setIfInBounds_toArray, List.set_cons_zero, List.set_cons_succ]); (try simp only [KD1.out, KD2.out, KD4.out])))
      | (refine wpAnyH_ready (rs := [35]) (by kernel_rfl) (by simp) ?_
         refine AllReadyH.cons (o := R_Head8_35) rfl (fun K hK => ?_) AllReadyH.nil
         (try delta R_Head8_35)
         go_simp
         (first | (go_at_call 38; (with_reducible refine (CGD.out w7.drew HDD.out).mono ?_); rintro e wz ⟨rfl, rfl⟩) | (go_at_call 34; (with_reducible refine (CBK.out w7.drew HBD.out).mono ?_); rintro e wz ⟨rfl, rfl⟩))
         (try go_wp2_with fail)
         refine hK.out _ _ ?_ (fun hHeld => ?_)
         · (exact ⟨s0, s1, s2⟩)
         clear hK K
         ((try simp only [Act.put, List.setIfInBounds_toArray, List.set_cons_zero, List.set_cons_succ]); (try simp only [KD1.out, KD2.out, KD4.out])))
      first | (refine wpAnyH_take (i := 36) (oi := R_Head8_36) (v := undef) rfl (by kernel_rfl) (by kernel_rfl) (by kernel_rfl) (fun _ _ _ h => h) (Or.inr ⟨by rfl, rfl⟩) (by assumption) ?_) | (refine wpAnyH_take (i := 36) (oi := R_Head8_36) (v := ?_) rfl (by kernel_rfl) (by kernel_rfl) (by kernel_rfl) (fun _ _ _ h => h) (Or.inl ⟨by rfl, ?_⟩) (by assumption) ?_; rotate_left; next => (intro w hSw; (try dsimp only at hSw); (try delta R_Head8_36); go_simp; try with_reducible rfl))
      ((try simp only [Act.put, List.setIfInBounds_toArray, List.set_cons_zero, List.set_cons_succ]); (try simp only [KD1.out, KD2.out, KD4.out]))
      first | (refine wpAnyH_take (i := 37) (oi := R_Head8_37) (v := undef) rfl (by kernel_rfl) (by kernel_rfl) (by kernel_rfl) (fun _ _ _ h => h) (Or.inr ⟨by rfl, rfl⟩) (by assumption) ?_) | (refine wpAnyH_take (i := 37) (oi := R_Head8_37) (v := ?_) rfl (by kernel_rfl) (by kernel_rfl) (by kernel_rfl) (fun _ _ _ h => h) (Or.inl ⟨by rfl, ?_⟩) (by assumption) ?_; rotate_left; next => (intro w hSw; (try dsimp only at hSw); (try delta R_Head8_37); go_simp; try with_reducible rfl))
      ((try simp only [Act.put, List.setIfInBounds_toArray, List.set_cons_zero, List.set_cons_succ]); (try simp only [KD1.out, KD2.out, KD4.out]))
      (refine wpAnyH_take (i := 38) (oi := R_Head8_38) (v := ?_) rfl (by kernel_rfl) (by kernel_rfl) (by kernel_rfl) (fun _ _ _ h => h) (Or.inl ⟨by rfl, ?_⟩) (by assumption) ?_; rotate_left; next => (intro w hSw; (try dsimp only at hSw); (try delta R_Head8_38); go_simp; try with_reducible rfl))
      ((try simp only [Act.put, List.setIfInBounds_toArray, List.set_cons_zero, List.set_cons_succ]); (try simp only [KD1.out, KD2.out, KD4.out]))
      (refine wpAnyH_take (i := 39) (oi := R_Head8_39) (v := ?_) rfl (by kernel_rfl) (by kernel_rfl) (by kernel_rfl) (fun _ _ _ h => h) (Or.inl ⟨by rfl, ?_⟩) (by assumption) ?_; rotate_left; next => (intro w hSw; (try dsimp only at hSw); (try delta R_Head8_39); go_simp; try with_reducible rfl))
      ((try simp only [Act.put, List.setIfInBounds_toArray, List.set_cons_zero, List.set_cons_succ]); (try simp only [KD1.out, KD2.out, KD4.out]))
      refine wpAnyH_done (by kernel_rfl) ?_ _
      go_wp2_with fail
      refine bodyPost_ret (results_row_tmpH rfl _ _ w.heap.size 67 #[_, _, _] (0, 0) _ rfl HE.out.1 Tryd.underlying67 rfl infoHead) rfl ?_
      exact ⟨by rw [HX.out]; dsimp only; rw [HOK.out]; simp [HD3.val, KD1.out, KD2.out, KD4.out], HE.out.2⟩
    have KD4 : Hid (decide (0 ≤ n3) = true) := Lib.hid (by simp; omega)
    by_cases k5 : (qb : Int) * 64 < n3
    · have KD5 : Hid (decide (n3 ≤ (qb : Int) * 64) = false) := Lib.hid (by simp; omega)
      refine wp_region_held_drew (S := (fun W => W.cell? ⟨lb, 0, none⟩ = some (.int .i64 n1) ∧ W.cell? ⟨lb, 1, none⟩ = some (.int .i64 1) ∧ W.cell? ⟨lb, 2, none⟩ = some (.int .i64 n3))) (by kernel_rfl) ?_ (fun hHeld => ?_)
      · (exact ⟨s0, s1, s2⟩)
      (refine wpAnyH_take (i := 0) (oi := R_Head8_0) (v := ?_) rfl (by kernel_rfl) (by kernel_rfl) (by kernel_rfl) (fun _ _ _ h => h) (Or.inl ⟨by rfl, ?_⟩) (by assumption) ?_; rotate_left; next => (intro w hSw; (try dsimp only at hSw); (try delta R_Head8_0); go_simp; try with_reducible rfl))
      ((try simp only [Act.put, List.setIfInBounds_toArray, List.set_cons_zero, List.set_cons_succ]); (try simp only [KD1.out, KD2.out, KD4.out, KD5.out]))
      refine wpAnyH_ready (rs := [1]) (by kernel_rfl) (by simp) ?_
      refine AllReadyH.cons (o := R_Head8_1) rfl (fun K hK => ?_) AllReadyH.nil
      (try delta R_Head8_1)
      go_simp
      (first | (go_at_call 38; (with_reducible refine (CGD.out w7.drew HDD.out).mono ?_); rintro e wz ⟨rfl, rfl⟩) | (go_at_call 34; (with_reducible refine (CBK.out w7.drew HBD.out).mono ?_); rintro e wz ⟨rfl, rfl⟩))
      (try go_wp2_with fail)
      refine hK.out _ _ ?_ (fun hHeld => ?_)
      · (exact ⟨s0, s1, s2⟩)
      clear hK K
      ((try simp only [Act.put, List.setIfInBounds_toArray, List.set_cons_zero, List.set_cons_succ]); (try simp only [KD1.out, KD2.out, KD4.out, KD5.out]))
      (refine wpAnyH_take (i := 2) (oi := R_Head8_2) (v := ?_) rfl (by kernel_rfl) (by kernel_rfl) (by kernel_rfl) (fun _ _ _ h => h) (Or.inl ⟨by rfl, ?_⟩) (by assumption) ?_; rotate_left; next => (intro w hSw; (try dsimp only at hSw); (try delta R_Head8_2); go_simp; try with_reducible rfl))
      ((try simp only [Act.put, List.setIfInBounds_toArray, List.set_cons_zero, List.set_cons_succ]); (try simp only [KD1.out, KD2.out, KD4.out, KD5.out]))
      first | (refine wpAnyH_take (i := 3) (oi := R_Head8_3) (v := undef) rfl (by kernel_rfl) (by kernel_rfl) (by kernel_rfl) (fun _ _ _ h => h) (Or.inr ⟨by rfl, rfl⟩) (by assumption) ?_) | (refine wpAnyH_take (i := 3) (oi := R_Head8_3) (v := ?_) rfl (by kernel_rfl) (by kernel_rfl) (by kernel_rfl) (fun _ _ _ h => h) (Or.inl ⟨by rfl, ?_⟩) (by assumption) ?_; rotate_left; next => (intro w hSw; (try dsimp only at hSw); (try delta R_Head8_3); go_simp; try with_reducible rfl))
      ((try simp only [Act.put, List.setIfInBounds_toArray, List.set_cons_zero, List.set_cons_succ]); (try simp only [KD1.out, KD2.out, KD4.out, KD5.out]))
      first | (refine wpAnyH_take (i := 4) (oi := R_Head8_4) (v := undef) rfl (by kernel_rfl) (by kernel_rfl) (by kernel_rfl) (fun _ _ _ h => h) (Or.inr ⟨by rfl, rfl⟩) (by assumption) ?_) | (refine wpAnyH_take (i := 4) (oi := R_Head8_4) (v := ?_) rfl (by kernel_rfl) (by kernel_rfl) (by kernel_rfl) (fun _ _ _ h => h) (Or.inl ⟨by rfl, ?_⟩) (by assumption) ?_; rotate_left; next => (intro w hSw; (try dsimp only at hSw); (try delta R_Head8_4); go_simp; try with_reducible rfl))
      ((try simp only [Act.put, List.setIfInBounds_toArray, List.set_cons_zero, List.set_cons_succ]); (try simp only [KD1.out, KD2.out, KD4.out, KD5.out]))
      (refine wpAnyH_take (i := 5) (oi := R_Head8_5) (v := ?_) rfl (by kernel_rfl) (by kernel_rfl) (by kernel_rfl) (fun _ _ _ h => h) (Or.inl ⟨by rfl, ?_⟩) (by assumption) ?_; rotate_left; next => (intro w hSw; (try dsimp only at hSw); (try delta R_Head8_5); go_simp; try with_reducible rfl))
      ((try simp only [Act.put, List.setIfInBounds_toArray, List.set_cons_zero, List.set_cons_succ]); (try simp only [KD1.out, KD2.out, KD4.out, KD5.out]))
      (refine wpAnyH_take (i := 6) (oi := R_Head8_6) (v := ?_) rfl (by kernel_rfl) (by kernel_rfl) (by kernel_rfl) (fun _ _ _ h => h) (Or.inl ⟨by rfl, ?_⟩) (by assumption) ?_; rotate_left; next => (intro w hSw; (try dsimp only at hSw); (try delta R_Head8_6); go_simp; try with_reducible rfl))
      ((try simp only [Act.put, List.setIfInBounds_toArray, List.set_cons_zero, List.set_cons_succ]); (try simp only [KD1.out, KD2.out, KD4.out, KD5.out]))
      first | (refine wpAnyH_take (i := 7) (oi := R_Head8_7) (v := undef) rfl (by kernel_rfl) (by kernel_rfl) (by kernel_rfl) (fun _ _ _ h => h) (Or.inr ⟨by rfl, rfl⟩) (by assumption) ?_) | (refine wpAnyH_take (i := 7) (oi := R_Head8_7) (v := ?_) rfl (by kernel_rfl) (by kernel_rfl) (by kernel_rfl) (fun _ _ _ h => h) (Or.inl ⟨by rfl, ?_⟩) (by assumption) ?_; rotate_left; next => (intro w hSw; (try dsimp only at hSw); (try delta R_Head8_7); go_simp; try with_reducible rfl))
      ((try simp only [Act.put, List.setIfInBounds_toArray, List.set_cons_zero, List.set_cons_succ]); (try simp only [KD1.out, KD2.out, KD4.out, KD5.out]))
      first | (refine wpAnyH_take (i := 8) (oi := R_Head8_8) (v := undef) rfl (by kernel_rfl) (by kernel_rfl) (by kernel_rfl) (fun _ _ _ h => h) (Or.inr ⟨by rfl, rfl⟩) (by assumption) ?_) | (refine wpAnyH_take (i := 8) (oi := R_Head8_8) (v := ?_) rfl (by kernel_rfl) (by kernel_rfl) (by kernel_rfl) (fun _ _ _ h => h) (Or.inl ⟨by rfl, ?_⟩) (by assumption) ?_; rotate_left; next => (intro w hSw; (try dsimp only at hSw); (try delta R_Head8_8); go_simp; try with_reducible rfl))
      ((try simp only [Act.put, List.setIfInBounds_toArray, List.set_cons_zero, List.set_cons_succ]); (try simp only [KD1.out, KD2.out, KD4.out, KD5.out]))
      first | (refine wpAnyH_take (i := 9) (oi := R_Head8_9) (v := undef) rfl (by kernel_rfl) (by kernel_rfl) (by kernel_rfl) (fun _ _ _ h => h) (Or.inr ⟨by rfl, rfl⟩) (by assumption) ?_) | (refine wpAnyH_take (i := 9) (oi := R_Head8_9) (v := ?_) rfl (by kernel_rfl) (by kernel_rfl) (by kernel_rfl) (fun _ _ _ h => h) (Or.inl ⟨by rfl, ?_⟩) (by assumption) ?_; rotate_left; next => (intro w hSw; (try dsimp only at hSw); (try delta R_Head8_9); go_simp; try with_reducible rfl))
      ((try simp only [Act.put, List.setIfInBounds_toArray, List.set_cons_zero, List.set_cons_succ]); (try simp only [KD1.out, KD2.out, KD4.out, KD5.out]))
      (refine wpAnyH_take (i := 10) (oi := R_Head8_10) (v := ?_) rfl (by kernel_rfl) (by kernel_rfl) (by kernel_rfl) (fun _ _ _ h => h) (Or.inl ⟨by rfl, ?_⟩) (by assumption) ?_; rotate_left; next => (intro w hSw; (try dsimp only at hSw); (try delta R_Head8_10); go_simp; try with_reducible rfl))
      ((try simp only [Act.put, List.setIfInBounds_toArray, List.set_cons_zero, List.set_cons_succ]); (try simp only [KD1.out, KD2.out, KD4.out, KD5.out]))
      (refine wpAnyH_take (i := 11) (oi := R_Head8_11) (v := ?_) rfl (by kernel_rfl) (by kernel_rfl) (by kernel_rfl) (fun _ _ _ h => h) (Or.inl ⟨by rfl, ?_⟩) (by assumption) ?_; rotate_left; next => (intro w hSw; (try dsimp only at hSw); (try delta R_Head8_11); go_simp; try with_reducible rfl))
      ((try simp only [Act.put, List.setIfInBounds_toArray, List.set_cons_zero, List.set_cons_succ]); (try simp only [KD1.out, KD2.out, KD4.out, KD5.out]))
      first | (refine wpAnyH_take (i := 12) (oi := R_Head8_12) (v := undef) rfl (by kernel_rfl) (by kernel_rfl) (by kernel_rfl) (fun _ _ _ h => h) (Or.inr ⟨by rfl, rfl⟩) (by assumption) ?_) | (refine wpAnyH_take (i := 12) (oi := R_Head8_12) (v := ?_) rfl (by kernel_rfl) (by kernel_rfl) (by kernel_rfl) (fun _ _ _ h => h) (Or.inl ⟨by rfl, ?_⟩) (by assumption) ?_; rotate_left; next => (intro w hSw; (try dsimp only at hSw); (try delta R_Head8_12); go_simp; try with_reducible rfl))
      ((try simp only [Act.put, List.setIfInBounds_toArray, List.set_cons_zero, List.set_cons_succ]); (try simp only [KD1.out, KD2.out, KD4.out, KD5.out]))
      first | (refine wpAnyH_take (i := 13) (oi := R_Head8_13) (v := undef) rfl (by kernel_rfl) (by kernel_rfl) (by kernel_rfl) (fun _ _ _ h => h) (Or.inr ⟨by rfl, rfl⟩) (by assumption) ?_) | (refine wpAnyH_take (i := 13) (oi := R_Head8_13) (v := ?_) rfl (by kernel_rfl) (by kernel_rfl) (by kernel_rfl) (fun _ _ _ h => h) (Or.inl ⟨by rfl, ?_⟩) (by assumption) ?_; rotate_left; next => (intro w hSw; (try dsimp only at hSw); (try delta R_Head8_13); go_simp; try with_reducible rfl))
      ((try simp only [Act.put, List.setIfInBounds_toArray, List.set_cons_zero, List.set_cons_succ]); (try simp only [KD1.out, KD2.out, KD4.out, KD5.out]))
      first | (refine wpAnyH_take (i := 14) (oi := R_Head8_14) (v := undef) rfl (by kernel_rfl) (by kernel_rfl) (by kernel_rfl) (fun _ _ _ h => h) (Or.inr ⟨by rfl, rfl⟩) (by assumption) ?_) | (refine wpAnyH_take (i := 14) (oi := R_Head8_14) (v := ?_) rfl (by kernel_rfl) (by kernel_rfl) (by kernel_rfl) (fun _ _ _ h => h) (Or.inl ⟨by rfl, ?_⟩) (by assumption) ?_; rotate_left; next => (intro w hSw; (try dsimp only at hSw); (try delta R_Head8_14); go_simp; try with_reducible rfl))
      ((try simp only [Act.put, List.setIfInBounds_toArray, List.set_cons_zero, List.set_cons_succ]); (try simp only [KD1.out, KD2.out, KD4.out, KD5.out]))
      (refine wpAnyH_take (i := 15) (oi := R_Head8_15) (v := ?_) rfl (by kernel_rfl) (by kernel_rfl) (by kernel_rfl) (fun _ _ _ h => h) (Or.inl ⟨by rfl, ?_⟩) (by assumption) ?_; rotate_left; next => (intro w hSw; (try dsimp only at hSw); (try delta R_Head8_15); go_simp; try with_reducible rfl))
      ((try simp only [Act.put, List.setIfInBounds_toArray, List.set_cons_zero, List.set_cons_succ]); (try simp only [KD1.out, KD2.out, KD4.out, KD5.out]))
      (refine wpAnyH_take (i := 16) (oi := R_Head8_16) (v := ?_) rfl (by kernel_rfl) (by kernel_rfl) (by kernel_rfl) (fun _ _ _ h => h) (Or.inl ⟨by rfl, ?_⟩) (by assumption) ?_; rotate_left; next => (intro w hSw; (try dsimp only at hSw); (try delta R_Head8_16); go_simp; try with_reducible rfl))
      ((try simp only [Act.put, List.setIfInBounds_toArray, List.set_cons_zero, List.set_cons_succ]); (try simp only [KD1.out, KD2.out, KD4.out, KD5.out]))
      first | (refine wpAnyH_take (i := 17) (oi := R_Head8_17) (v := undef) rfl (by kernel_rfl) (by kernel_rfl) (by kernel_rfl) (fun _ _ _ h => h) (Or.inr ⟨by rfl, rfl⟩) (by assumption) ?_) | (refine wpAnyH_take (i := 17) (oi := R_Head8_17) (v := ?_) rfl (by kernel_rfl) (by kernel_rfl) (by kernel_rfl) (fun _ _ _ h => h) (Or.inl ⟨by rfl, ?_⟩) (by assumption) ?_; rotate_left; next => (intro w hSw; (try dsimp only at hSw); (try delta R_Head8_17); go_simp; try with_reducible rfl))
      ((try simp only [Act.put, List.setIfInBounds_toArray, List.set_cons_zero, List.set_cons_succ]); (try simp only [KD1.out, KD2.out, KD4.out, KD5.out]))
      first | (refine wpAnyH_take (i := 18) (oi := R_Head8_18) (v := undef) rfl (by kernel_rfl) (by kernel_rfl) (by kernel_rfl) (fun _ _ _ h => h) (Or.inr ⟨by rfl, rfl⟩) (by assumption) ?_) | (refine wpAnyH_take (i := 18) (oi := R_Head8_18) (v := ?_) rfl (by kernel_rfl) (by kernel_rfl) (by kernel_rfl) (fun _ _ _ h => h) (Or.inl ⟨by rfl, ?_⟩) (by assumption) ?_; rotate_left; next => (intro w hSw; (try dsimp only at hSw); (try delta R_Head8_18); go_simp; try with_reducible rfl))
      ((try simp only [Act.put, List.setIfInBounds_toArray, List.set_cons_zero, List.set_cons_succ]); (try simp only [KD1.out, KD2.out, KD4.out, KD5.out]))
      first | (refine wpAnyH_take (i := 19) (oi := R_Head8_19) (v := undef) rfl (by kernel_rfl) (by kernel_rfl) (by kernel_rfl) (fun _ _ _ h => h) (Or.inr ⟨by rfl, rfl⟩) (by assumption) ?_) | (refine wpAnyH_take (i := 19) (oi := R_Head8_19) (v := ?_) rfl (by kernel_rfl) (by kernel_rfl) (by kernel_rfl) (fun _ _ _ h => h) (Or.inl ⟨by rfl, ?_⟩) (by assumption) ?_; rotate_left; next => (intro w hSw; (try dsimp only at hSw); (try delta R_Head8_19); go_simp; try with_reducible rfl))
      ((try simp only [Act.put, List.setIfInBounds_toArray, List.set_cons_zero, List.set_cons_succ]); (try simp only [KD1.out, KD2.out, KD4.out, KD5.out]))
      first | (refine wpAnyH_take (i := 20) (oi := R_Head8_20) (v := undef) rfl (by kernel_rfl) (by kernel_rfl) (by kernel_rfl) (fun _ _ _ h => h) (Or.inr ⟨by rfl, rfl⟩) (by assumption) ?_) | (refine wpAnyH_take (i := 20) (oi := R_Head8_20) (v := ?_) rfl (by kernel_rfl) (by kernel_rfl) (by kernel_rfl) (fun _ _ _ h => h) (Or.inl ⟨by rfl, ?_⟩) (by assumption) ?_; rotate_left; next => (intro w hSw; (try dsimp only at hSw); (try delta R_Head8_20); go_simp; try with_reducible rfl))
      ((try simp only [Act.put, List.setIfInBounds_toArray, List.set_cons_zero, List.set_cons_succ]); (try simp only [KD1.out, KD2.out, KD4.out, KD5.out]))
      first | (refine wpAnyH_take (i := 21) (oi := R_Head8_21) (v := undef) rfl (by kernel_rfl) (by kernel_rfl) (by kernel_rfl) (fun _ _ _ h => h) (Or.inr ⟨by rfl, rfl⟩) (by assumption) ?_) | (refine wpAnyH_take (i := 21) (oi := R_Head8_21) (v := ?_) rfl (by kernel_rfl) (by kernel_rfl) (by kernel_rfl) (fun _ _ _ h => h) (Or.inl ⟨by rfl, ?_⟩) (by assumption) ?_; rotate_left; next => (intro w hSw; (try dsimp only at hSw); (try delta R_Head8_21); go_simp; try with_reducible rfl))
      ((try simp only [Act.put, List.setIfInBounds_toArray, List.set_cons_zero, List.set_cons_succ]); (try simp only [KD1.out, KD2.out, KD4.out, KD5.out]))
      first | (refine wpAnyH_take (i := 22) (oi := R_Head8_22) (v := undef) rfl (by kernel_rfl) (by kernel_rfl) (by kernel_rfl) (fun _ _ _ h => h) (Or.inr ⟨by rfl, rfl⟩) (by assumption) ?_) | (refine wpAnyH_take (i := 22) (oi := R_Head8_22) (v := ?_) rfl (by kernel_rfl) (by kernel_rfl) (by kernel_rfl) (fun _ _ _ h => h) (Or.inl ⟨by rfl, ?_⟩) (by assumption) ?_; rotate_left; next => (intro w hSw; (try dsimp only at hSw); (try delta R_Head8_22); go_simp; try with_reducible rfl))
      ((try simp only [Act.put, List.setIfInBounds_toArray, List.set_cons_zero, List.set_cons_succ]); (try simp only [KD1.out, KD2.out, KD4.out, KD5.out]))
      first | (refine wpAnyH_take (i := 23) (oi := R_Head8_23) (v := undef) rfl (by kernel_rfl) (by kernel_rfl) (by kernel_rfl) (fun _ _ _ h => h) (Or.inr ⟨by rfl, rfl⟩) (by assumption) ?_) | (refine wpAnyH_take (i := 23) (oi := R_Head8_23) (v := ?_) rfl (by kernel_rfl) (by kernel_rfl) (by kernel_rfl) (fun _ _ _ h => h) (Or.inl ⟨by rfl, ?_⟩) (by assumption) ?_; rotate_left; next => (intro w hSw; (try dsimp only at hSw); (try delta R_Head8_23); go_simp; try with_reducible rfl))
      ((try simp only [Act.put, List.setIfInBounds_toArray, List.set_cons_zero, List.set_cons_succ]); (try simp only [KD1.out, KD2.out, KD4.out, KD5.out]))
      first | (refine wpAnyH_take (i := 24) (oi := R_Head8_24) (v := undef) rfl (by kernel_rfl) (by kernel_rfl) (by kernel_rfl) (fun _ _ _ h => h) (Or.inr ⟨by rfl, rfl⟩) (by assumption) ?_) | (refine wpAnyH_take (i := 24) (oi := R_Head8_24) (v := ?_) rfl (by kernel_rfl) (by kernel_rfl) (by kernel_rfl) (fun _ _ _ h => h) (Or.inl ⟨by rfl, ?_⟩) (by assumption) ?_; rotate_left; next => (intro w hSw; (try dsimp only at hSw); (try delta R_Head8_24); go_simp; try with_reducible rfl))
      ((try simp only [Act.put, List.setIfInBounds_toArray, List.set_cons_zero, List.set_cons_succ]); (try simp only [KD1.out, KD2.out, KD4.out, KD5.out]))
      (refine wpAnyH_take (i := 25) (oi := R_Head8_25) (v := ?_) rfl (by kernel_rfl) (by kernel_rfl) (by kernel_rfl) (fun _ _ _ h => h) (Or.inl ⟨by rfl, ?_⟩) (by assumption) ?_; rotate_left; next => (intro w hSw; (try dsimp only at hSw); (try delta R_Head8_25); go_simp; try with_reducible rfl))
      ((try simp only [Act.put, List.setIfInBounds_toArray, List.set_cons_zero, List.set_cons_succ]); (try simp only [KD1.out, KD2.out, KD4.out, KD5.out]))
      (refine wpAnyH_take (i := 26) (oi := R_Head8_26) (v := ?_) rfl (by kernel_rfl) (by kernel_rfl) (by kernel_rfl) (fun _ _ _ h => h) (Or.inl ⟨by rfl, ?_⟩) (by assumption) ?_; rotate_left; next => (intro w hSw; (try dsimp only at hSw); (try delta R_Head8_26); go_simp; try with_reducible rfl))
      ((try simp only [Act.put, List.setIfInBounds_toArray, List.set_cons_zero, List.set_cons_succ]); (try simp only [KD1.out, KD2.out, KD4.out, KD5.out]))
      first | (refine wpAnyH_take (i := 27) (oi := R_Head8_27) (v := undef) rfl (by kernel_rfl) (by kernel_rfl) (by kernel_rfl) (fun _ _ _ h => h) (Or.inr ⟨by rfl, rfl⟩) (by assumption) ?_) | (refine wpAnyH_take (i := 27) (oi := R_Head8_27) (v := ?_) rfl (by kernel_rfl) (by kernel_rfl) (by kernel_rfl) (fun _ _ _ h => h) (Or.inl ⟨by rfl, ?_⟩) (by assumption) ?_; rotate_left; next => (intro w hSw; (try dsimp only at hSw); (try delta R_Head8_27); go_simp; try with_reducible rfl))
      ((try simp only [Act.put, List.setIfInBounds_toArray, List.set_cons_zero, List.set_cons_succ]); (try simp only [KD1.out, KD2.out, KD4.out, KD5.out]))
      first | (refine wpAnyH_take (i := 28) (oi := R_Head8_28) (v := undef) rfl (by kernel_rfl) (by kernel_rfl) (by kernel_rfl) (fun _ _ _ h => h) (Or.inr ⟨by rfl, rfl⟩) (by assumption) ?_) | (refine wpAnyH_take (i := 28) (oi := R_Head8_28) (v := ?_) rfl (by kernel_rfl) (by kernel_rfl) (by kernel_rfl) (fun _ _ _ h => h) (Or.inl ⟨by rfl, ?_⟩) (by assumption) ?_; rotate_left; next => (intro w hSw; (try dsimp only at hSw); (try delta R_Head8_28); go_simp; try with_reducible rfl))
      ((try simp only [Act.put, List.setIfInBounds_toArray, List.set_cons_zero, List.set_cons_succ]); (try simp only [KD1.out, KD2.out, KD4.out, KD5.out]))
      first | (refine wpAnyH_take (i := 29) (oi := R_Head8_29) (v := undef) rfl (by kernel_rfl) (by kernel_rfl) (by kernel_rfl) (fun _ _ _ h => h) (Or.inr ⟨by rfl, rfl⟩) (by assumption) ?_) | (refine wpAnyH_take (i := 29) (oi := R_Head8_29) (v := ?_) rfl (by kernel_rfl) (by kernel_rfl) (by kernel_rfl) (fun _ _ _ h => h) (Or.inl ⟨by rfl, ?_⟩) (by assumption) ?_; rotate_left; next => (intro w hSw; (try dsimp only at hSw); (try delta R_Head8_29); go_simp; try with_reducible rfl))
      ((try simp only [Act.put, List.setIfInBounds_toArray, List.set_cons_zero, List.set_cons_succ]); (try simp only [KD1.out, KD2.out, KD4.out, KD5.out]))
      (refine wpAnyH_take (i := 30) (oi := R_Head8_30) (v := ?_) rfl (by kernel_rfl) (by kernel_rfl) (by kernel_rfl) (fun _ _ _ h => h) (Or.inl ⟨by rfl, ?_⟩) (by assumption) ?_; rotate_left; next => (intro w hSw; (try dsimp only at hSw); (try delta R_Head8_30); go_simp; try with_reducible rfl))
      ((try simp only [Act.put, List.setIfInBounds_toArray, List.set_cons_zero, List.set_cons_succ]); (try simp only [KD1.out, KD2.out, KD4.out, KD5.out]))
      (refine wpAnyH_take (i := 31) (oi := R_Head8_31) (v := ?_) rfl (by kernel_rfl) (by kernel_rfl) (by kernel_rfl) (fun _ _ _ h => h) (Or.inl ⟨by rfl, ?_⟩) (by assumption) ?_; rotate_left; next => (intro w hSw; (try dsimp only at hSw); (try delta R_Head8_31); go_simp; try with_reducible rfl))
      ((try simp only [Act.put, List.setIfInBounds_toArray, List.set_cons_zero, List.set_cons_succ]); (try simp only [KD1.out, KD2.out, KD4.out, KD5.out]))
      first | (refine wpAnyH_take (i := 32) (oi := R_Head8_32) (v := undef) rfl (by kernel_rfl) (by kernel_rfl) (by kernel_rfl) (fun _ _ _ h => h) (Or.inr ⟨by rfl, rfl⟩) (by assumption) ?_) | (refine wpAnyH_take (i := 32) (oi := R_Head8_32) (v := ?_) rfl (by kernel_rfl) (by kernel_rfl) (by kernel_rfl) (fun _ _ _ h => h) (Or.inl ⟨by rfl, ?_⟩) (by assumption) ?_; rotate_left; next => (intro w hSw; (try dsimp only at hSw); (try delta R_Head8_32); go_simp; try with_reducible rfl))
      ((try simp only [Act.put, List.setIfInBounds_toArray, List.set_cons_zero, List.set_cons_succ]); (try simp only [KD1.out, KD2.out, KD4.out, KD5.out]))
      first | (refine wpAnyH_take (i := 33) (oi := R_Head8_33) (v := undef) rfl (by kernel_rfl) (by kernel_rfl) (by kernel_rfl) (fun _ _ _ h => h) (Or.inr ⟨by rfl, rfl⟩) (by assumption) ?_) | (refine wpAnyH_take (i := 33) (oi := R_Head8_33) (v := ?_) rfl (by kernel_rfl) (by kernel_rfl) (by kernel_rfl) (fun _ _ _ h => h) (Or.inl ⟨by rfl, ?_⟩) (by assumption) ?_; rotate_left; next => (intro w hSw; (try dsimp only at hSw); (try delta R_Head8_33); go_simp; try with_reducible rfl))
      ((try simp only [Act.put, List.setIfInBounds_toArray, List.set_cons_zero, List.set_cons_succ]); (try simp only [KD1.out, KD2.out, KD4.out, KD5.out]))
      first | (refine wpAnyH_take (i := 34) (oi := R_Head8_34) (v := undef) rfl (by kernel_rfl) (by kernel_rfl) (by kernel_rfl) (fun _ _ _ h => h) (Or.inr ⟨by rfl, rfl⟩) (by assumption) ?_) | (refine wpAnyH_take (i := 34) (oi := R_Head8_34) (v := ?_) rfl (by kernel_rfl) (by kernel_rfl) (by kernel_rfl) (fun _ _ _ h => h) (Or.inl ⟨by rfl, ?_⟩) (by assumption) ?_; rotate_left; next => (intro w hSw; (try dsimp only at hSw); (try delta R_Head8_34); go_simp; try with_reducible rfl))
      ((try simp only [Act.put, List.setIfInBounds_toArray, List.set_cons_zero, List.set_cons_succ]); (try simp only [KD1.out, KD2.out, KD4.out, KD5.out]))
      first
      | (refine wpAnyH_take (i := 35) (oi := R_Head8_35) (v := undef) rfl (by kernel_rfl) (by kernel_rfl) (by kernel_rfl) (fun _ _ _ h => h) (Or.inr ⟨by rfl, rfl⟩) (by assumption) ?_
         ((try simp only [Act.put, List.setIfInBounds_toArray, List.set_cons_zero, List.set_cons_succ]); (try simp only [KD1.out, KD2.out, KD4.out, KD5.out])))
      | (refine wpAnyH_ready (rs := [35]) (by kernel_rfl) (by simp) ?_
         refine AllReadyH.cons (o := R_Head8_35) rfl (fun K hK => ?_) AllReadyH.nil
         (try delta R_Head8_35)
         go_simp
         (first | (go_at_call 38; (with_reducible refine (CGD.out w7.drew HDD.out).mono ?_); rintro e wz ⟨rfl, rfl⟩) | (go_at_call 34; (with_reducible refine (CBK.out w7.drew HBD.out).mono ?_); rintro e wz ⟨rfl, rfl⟩))
         (try go_wp2_with fail)
         refine hK.out _ _ ?_ (fun hHeld => ?_)
         · (exact ⟨s0, s1, s2⟩)
         clear hK K
         ((try simp only [Act.put, List.setIfInBounds_toArray, List.set_cons_zero, List.set_cons_succ]); (try simp only [KD1.out, KD2.out, KD4.out, KD5.out])))
      first | (refine wpAnyH_take (i := 36) (oi := R_Head8_36) (v := undef) rfl (by kernel_rfl) (by kernel_rfl) (by kernel_rfl) (fun _ _ _ h => h) (Or.inr ⟨by rfl, rfl⟩) (by assumption) ?_) | (refine wpAnyH_take (i := 36) (oi := R_Head8_36) (v := ?_) rfl (by kernel_rfl) (by kernel_rfl) (by kernel_rfl) (fun _ _ _ h => h) (Or.inl ⟨by rfl, ?_⟩) (by assumption) ?_; rotate_left; next => (intro w hSw; (try dsimp only at hSw); (try delta R_Head8_36); go_simp; try with_reducible rfl))
      ((try simp only [Act.put, List.setIfInBounds_toArray, List.set_cons_zero, List.set_cons_succ]); (try simp only [KD1.out, KD2.out, KD4.out, KD5.out]))
      first | (refine wpAnyH_take (i := 37) (oi := R_Head8_37) (v := undef) rfl (by kernel_rfl) (by kernel_rfl) (by kernel_rfl) (fun _ _ _ h => h) (Or.inr ⟨by rfl, rfl⟩) (by assumption) ?_) | (refine wpAnyH_take (i := 37) (oi := R_Head8_37) (v := ?_) rfl (by kernel_rfl) (by kernel_rfl) (by kernel_rfl) (fun _ _ _ h => h) (Or.inl ⟨by rfl, ?_⟩) (by assumption) ?_; rotate_left; next => (intro w hSw; (try dsimp only at hSw); (try delta R_Head8_37); go_simp; try with_reducible rfl))
      ((try simp only [Act.put, List.setIfInBounds_toArray, List.set_cons_zero, List.set_cons_succ]); (try simp only [KD1.out, KD2.out, KD4.out, KD5.out]))
      (refine wpAnyH_take (i := 38) (oi := R_Head8_38) (v := ?_) rfl (by kernel_rfl) (by kernel_rfl) (by kernel_rfl) (fun _ _ _ h => h) (Or.inl ⟨by rfl, ?_⟩) (by assumption) ?_; rotate_left; next => (intro w hSw; (try dsimp only at hSw); (try delta R_Head8_38); go_simp; try with_reducible rfl))
      ((try simp only [Act.put, List.setIfInBounds_toArray, List.set_cons_zero, List.set_cons_succ]); (try simp only [KD1.out, KD2.out, KD4.out, KD5.out]))
      (refine wpAnyH_take (i := 39) (oi := R_Head8_39) (v := ?_) rfl (by kernel_rfl) (by kernel_rfl) (by kernel_rfl) (fun _ _ _ h => h) (Or.inl ⟨by rfl, ?_⟩) (by assumption) ?_; rotate_left; next => (intro w hSw; (try dsimp only at hSw); (try delta R_Head8_39); go_simp; try with_reducible rfl))
      ((try simp only [Act.put, List.setIfInBounds_toArray, List.set_cons_zero, List.set_cons_succ]); (try simp only [KD1.out, KD2.out, KD4.out, KD5.out]))
      refine wpAnyH_done (by kernel_rfl) ?_ _
      go_wp2_with fail
      refine bodyPost_ret (results_row_tmpH rfl _ _ w.heap.size 67 #[_, _, _] (0, 0) _ rfl HE.out.1 Tryd.underlying67 rfl infoHead) rfl ?_
      exact ⟨by rw [HX.out]; dsimp only; rw [HOK.out]; simp [HD3.val, KD1.out, KD2.out, KD4.out, KD5.out, HWQ.out], HE.out.2⟩
    have KD5 : Hid (decide (n3 ≤ (qb : Int) * 64) = true) := Lib.hid (by simp; omega)
    clear k4 k5
    refine wp_region_held_drew (S := (fun W => W.cell? ⟨lb, 0, none⟩ = some (.int .i64 n1) ∧ W.cell? ⟨lb, 1, none⟩ = some (.int .i64 1) ∧ W.cell? ⟨lb, 2, none⟩ = some (.int .i64 n3))) (by kernel_rfl) ?_ (fun hHeld => ?_)
    · (exact ⟨s0, s1, s2⟩)
    (refine wpAnyH_take (i := 0) (oi := R_Head8_0) (v := ?_) rfl (by kernel_rfl) (by kernel_rfl) (by kernel_rfl) (fun _ _ _ h => h) (Or.inl ⟨by rfl, ?_⟩) (by assumption) ?_; rotate_left; next => (intro w hSw; (try dsimp only at hSw); (try delta R_Head8_0); go_simp; try with_reducible rfl))
    ((try simp only [Act.put, List.setIfInBounds_toArray, List.set_cons_zero, List.set_cons_succ]); (try simp only [KD1.out, KD2.out, KD4.out, KD5.out]))
    refine wpAnyH_ready (rs := [1]) (by kernel_rfl) (by simp) ?_
    refine AllReadyH.cons (o := R_Head8_1) rfl (fun K hK => ?_) AllReadyH.nil
    (try delta R_Head8_1)
    go_simp
    (first | (go_at_call 38; (with_reducible refine (CGD.out w7.drew HDD.out).mono ?_); rintro e wz ⟨rfl, rfl⟩) | (go_at_call 34; (with_reducible refine (CBK.out w7.drew HBD.out).mono ?_); rintro e wz ⟨rfl, rfl⟩))
    (try go_wp2_with fail)
    refine hK.out _ _ ?_ (fun hHeld => ?_)
    · (exact ⟨s0, s1, s2⟩)
    clear hK K
    ((try simp only [Act.put, List.setIfInBounds_toArray, List.set_cons_zero, List.set_cons_succ]); (try simp only [KD1.out, KD2.out, KD4.out, KD5.out]))
    (refine wpAnyH_take (i := 2) (oi := R_Head8_2) (v := ?_) rfl (by kernel_rfl) (by kernel_rfl) (by kernel_rfl) (fun _ _ _ h => h) (Or.inl ⟨by rfl, ?_⟩) (by assumption) ?_; rotate_left; next => (intro w hSw; (try dsimp only at hSw); (try delta R_Head8_2); go_simp; try with_reducible rfl))
    ((try simp only [Act.put, List.setIfInBounds_toArray, List.set_cons_zero, List.set_cons_succ]); (try simp only [KD1.out, KD2.out, KD4.out, KD5.out]))
    first | (refine wpAnyH_take (i := 3) (oi := R_Head8_3) (v := undef) rfl (by kernel_rfl) (by kernel_rfl) (by kernel_rfl) (fun _ _ _ h => h) (Or.inr ⟨by rfl, rfl⟩) (by assumption) ?_) | (refine wpAnyH_take (i := 3) (oi := R_Head8_3) (v := ?_) rfl (by kernel_rfl) (by kernel_rfl) (by kernel_rfl) (fun _ _ _ h => h) (Or.inl ⟨by rfl, ?_⟩) (by assumption) ?_; rotate_left; next => (intro w hSw; (try dsimp only at hSw); (try delta R_Head8_3); go_simp; try with_reducible rfl))
    ((try simp only [Act.put, List.setIfInBounds_toArray, List.set_cons_zero, List.set_cons_succ]); (try simp only [KD1.out, KD2.out, KD4.out, KD5.out]))
    first | (refine wpAnyH_take (i := 4) (oi := R_Head8_4) (v := undef) rfl (by kernel_rfl) (by kernel_rfl) (by kernel_rfl) (fun _ _ _ h => h) (Or.inr ⟨by rfl, rfl⟩) (by assumption) ?_) | (refine wpAnyH_take (i := 4) (oi := R_Head8_4) (v := ?_) rfl (by kernel_rfl) (by kernel_rfl) (by kernel_rfl) (fun _ _ _ h => h) (Or.inl ⟨by rfl, ?_⟩) (by assumption) ?_; rotate_left; next => (intro w hSw; (try dsimp only at hSw); (try delta R_Head8_4); go_simp; try with_reducible rfl))
    ((try simp only [Act.put, List.setIfInBounds_toArray, List.set_cons_zero, List.set_cons_succ]); (try simp only [KD1.out, KD2.out, KD4.out, KD5.out]))
    (refine wpAnyH_take (i := 5) (oi := R_Head8_5) (v := ?_) rfl (by kernel_rfl) (by kernel_rfl) (by kernel_rfl) (fun _ _ _ h => h) (Or.inl ⟨by rfl, ?_⟩) (by assumption) ?_; rotate_left; next => (intro w hSw; (try dsimp only at hSw); (try delta R_Head8_5); go_simp; try with_reducible rfl))
    ((try simp only [Act.put, List.setIfInBounds_toArray, List.set_cons_zero, List.set_cons_succ]); (try simp only [KD1.out, KD2.out, KD4.out, KD5.out]))
    (refine wpAnyH_take (i := 6) (oi := R_Head8_6) (v := ?_) rfl (by kernel_rfl) (by kernel_rfl) (by kernel_rfl) (fun _ _ _ h => h) (Or.inl ⟨by rfl, ?_⟩) (by assumption) ?_; rotate_left; next => (intro w hSw; (try dsimp only at hSw); (try delta R_Head8_6); go_simp; try with_reducible rfl))
    ((try simp only [Act.put, List.setIfInBounds_toArray, List.set_cons_zero, List.set_cons_succ]); (try simp only [KD1.out, KD2.out, KD4.out, KD5.out]))
    first | (refine wpAnyH_take (i := 7) (oi := R_Head8_7) (v := undef) rfl (by kernel_rfl) (by kernel_rfl) (by kernel_rfl) (fun _ _ _ h => h) (Or.inr ⟨by rfl, rfl⟩) (by assumption) ?_) | (refine wpAnyH_take (i := 7) (oi := R_Head8_7) (v := ?_) rfl (by kernel_rfl) (by kernel_rfl) (by kernel_rfl) (fun _ _ _ h => h) (Or.inl ⟨by rfl, ?_⟩) (by assumption) ?_; rotate_left; next => (intro w hSw; (try dsimp only at hSw); (try delta R_Head8_7); go_simp; try with_reducible rfl))
    ((try simp only [Act.put, List.setIfInBounds_toArray, List.set_cons_zero, List.set_cons_succ]); (try simp only [KD1.out, KD2.out, KD4.out, KD5.out]))
    first | (refine wpAnyH_take (i := 8) (oi := R_Head8_8) (v := undef) rfl (by kernel_rfl) (by kernel_rfl) (by kernel_rfl) (fun _ _ _ h => h) (Or.inr ⟨by rfl, rfl⟩) (by assumption) ?_) | (refine wpAnyH_take (i := 8) (oi := R_Head8_8) (v := ?_) rfl (by kernel_rfl) (by kernel_rfl) (by kernel_rfl) (fun _ _ _ h => h) (Or.inl ⟨by rfl, ?_⟩) (by assumption) ?_; rotate_left; next => (intro w hSw; (try dsimp only at hSw); (try delta R_Head8_8); go_simp; try with_reducible rfl))
    ((try simp only [Act.put, List.setIfInBounds_toArray, List.set_cons_zero, List.set_cons_succ]); (try simp only [KD1.out, KD2.out, KD4.out, KD5.out]))
    first | (refine wpAnyH_take (i := 9) (oi := R_Head8_9) (v := undef) rfl (by kernel_rfl) (by kernel_rfl) (by kernel_rfl) (fun _ _ _ h => h) (Or.inr ⟨by rfl, rfl⟩) (by assumption) ?_) | (refine wpAnyH_take (i := 9) (oi := R_Head8_9) (v := ?_) rfl (by kernel_rfl) (by kernel_rfl) (by kernel_rfl) (fun _ _ _ h => h) (Or.inl ⟨by rfl, ?_⟩) (by assumption) ?_; rotate_left; next => (intro w hSw; (try dsimp only at hSw); (try delta R_Head8_9); go_simp; try with_reducible rfl))
    ((try simp only [Act.put, List.setIfInBounds_toArray, List.set_cons_zero, List.set_cons_succ]); (try simp only [KD1.out, KD2.out, KD4.out, KD5.out]))
    (refine wpAnyH_take (i := 10) (oi := R_Head8_10) (v := ?_) rfl (by kernel_rfl) (by kernel_rfl) (by kernel_rfl) (fun _ _ _ h => h) (Or.inl ⟨by rfl, ?_⟩) (by assumption) ?_; rotate_left; next => (intro w hSw; (try dsimp only at hSw); (try delta R_Head8_10); go_simp; try with_reducible rfl))
    ((try simp only [Act.put, List.setIfInBounds_toArray, List.set_cons_zero, List.set_cons_succ]); (try simp only [KD1.out, KD2.out, KD4.out, KD5.out]))
    (refine wpAnyH_take (i := 11) (oi := R_Head8_11) (v := ?_) rfl (by kernel_rfl) (by kernel_rfl) (by kernel_rfl) (fun _ _ _ h => h) (Or.inl ⟨by rfl, ?_⟩) (by assumption) ?_; rotate_left; next => (intro w hSw; (try dsimp only at hSw); (try delta R_Head8_11); go_simp; try with_reducible rfl))
    ((try simp only [Act.put, List.setIfInBounds_toArray, List.set_cons_zero, List.set_cons_succ]); (try simp only [KD1.out, KD2.out, KD4.out, KD5.out]))
    first | (refine wpAnyH_take (i := 12) (oi := R_Head8_12) (v := undef) rfl (by kernel_rfl) (by kernel_rfl) (by kernel_rfl) (fun _ _ _ h => h) (Or.inr ⟨by rfl, rfl⟩) (by assumption) ?_) | (refine wpAnyH_take (i := 12) (oi := R_Head8_12) (v := ?_) rfl (by kernel_rfl) (by kernel_rfl) (by kernel_rfl) (fun _ _ _ h => h) (Or.inl ⟨by rfl, ?_⟩) (by assumption) ?_; rotate_left; next => (intro w hSw; (try dsimp only at hSw); (try delta R_Head8_12); go_simp; try with_reducible rfl))
    ((try simp only [Act.put, List.setIfInBounds_toArray, List.set_cons_zero, List.set_cons_succ]); (try simp only [KD1.out, KD2.out, KD4.out, KD5.out]))
    first | (refine wpAnyH_take (i := 13) (oi := R_Head8_13) (v := undef) rfl (by kernel_rfl) (by kernel_rfl) (by kernel_rfl) (fun _ _ _ h => h) (Or.inr ⟨by rfl, rfl⟩) (by assumption) ?_) | (refine wpAnyH_take (i := 13) (oi := R_Head8_13) (v := ?_) rfl (by kernel_rfl) (by kernel_rfl) (by kernel_rfl) (fun _ _ _ h => h) (Or.inl ⟨by rfl, ?_⟩) (by assumption) ?_; rotate_left; next => (intro w hSw; (try dsimp only at hSw); (try delta R_Head8_13); go_simp; try with_reducible rfl))
    ((try simp only [Act.put, List.setIfInBounds_toArray, List.set_cons_zero, List.set_cons_succ]); (try simp only [KD1.out, KD2.out, KD4.out, KD5.out]))
    first | (refine wpAnyH_take (i := 14) (oi := R_Head8_14) (v := undef) rfl (by kernel_rfl) (by kernel_rfl) (by kernel_rfl) (fun _ _ _ h => h) (Or.inr ⟨by rfl, rfl⟩) (by assumption) ?_) | (refine wpAnyH_take (i := 14) (oi := R_Head8_14) (v := ?_) rfl (by kernel_rfl) (by kernel_rfl) (by kernel_rfl) (fun _ _ _ h => h) (Or.inl ⟨by rfl, ?_⟩) (by assumption) ?_; rotate_left; next => (intro w hSw; (try dsimp only at hSw); (try delta R_Head8_14); go_simp; try with_reducible rfl))
    ((try simp only [Act.put, List.setIfInBounds_toArray, List.set_cons_zero, List.set_cons_succ]); (try simp only [KD1.out, KD2.out, KD4.out, KD5.out]))
    (refine wpAnyH_take (i := 15) (oi := R_Head8_15) (v := ?_) rfl (by kernel_rfl) (by kernel_rfl) (by kernel_rfl) (fun _ _ _ h => h) (Or.inl ⟨by rfl, ?_⟩) (by assumption) ?_; rotate_left; next => (intro w hSw; (try dsimp only at hSw); (try delta R_Head8_15); go_simp; try with_reducible rfl))
    ((try simp only [Act.put, List.setIfInBounds_toArray, List.set_cons_zero, List.set_cons_succ]); (try simp only [KD1.out, KD2.out, KD4.out, KD5.out]))
    (refine wpAnyH_take (i := 16) (oi := R_Head8_16) (v := ?_) rfl (by kernel_rfl) (by kernel_rfl) (by kernel_rfl) (fun _ _ _ h => h) (Or.inl ⟨by rfl, ?_⟩) (by assumption) ?_; rotate_left; next => (intro w hSw; (try dsimp only at hSw); (try delta R_Head8_16); go_simp; try with_reducible rfl))
    ((try simp only [Act.put, List.setIfInBounds_toArray, List.set_cons_zero, List.set_cons_succ]); (try simp only [KD1.out, KD2.out, KD4.out, KD5.out]))
    first | (refine wpAnyH_take (i := 17) (oi := R_Head8_17) (v := undef) rfl (by kernel_rfl) (by kernel_rfl) (by kernel_rfl) (fun _ _ _ h => h) (Or.inr ⟨by rfl, rfl⟩) (by assumption) ?_) | (refine wpAnyH_take (i := 17) (oi := R_Head8_17) (v := ?_) rfl (by kernel_rfl) (by kernel_rfl) (by kernel_rfl) (fun _ _ _ h => h) (Or.inl ⟨by rfl, ?_⟩) (by assumption) ?_; rotate_left; next => (intro w hSw; (try dsimp only at hSw); (try delta R_Head8_17); go_simp; try with_reducible rfl))
    ((try simp only [Act.put, List.setIfInBounds_toArray, List.set_cons_zero, List.set_cons_succ]); (try simp only [KD1.out, KD2.out, KD4.out, KD5.out]))
    first | (refine wpAnyH_take (i := 18) (oi := R_Head8_18) (v := undef) rfl (by kernel_rfl) (by kernel_rfl) (by kernel_rfl) (fun _ _ _ h => h) (Or.inr ⟨by rfl, rfl⟩) (by assumption) ?_) | (refine wpAnyH_take (i := 18) (oi := R_Head8_18) (v := ?_) rfl (by kernel_rfl) (by kernel_rfl) (by kernel_rfl) (fun _ _ _ h => h) (Or.inl ⟨by rfl, ?_⟩) (by assumption) ?_; rotate_left; next => (intro w hSw; (try dsimp only at hSw); (try delta R_Head8_18); go_simp; try with_reducible rfl))
    ((try simp only [Act.put, List.setIfInBounds_toArray, List.set_cons_zero, List.set_cons_succ]); (try simp only [KD1.out, KD2.out, KD4.out, KD5.out]))
    first | (refine wpAnyH_take (i := 19) (oi := R_Head8_19) (v := undef) rfl (by kernel_rfl) (by kernel_rfl) (by kernel_rfl) (fun _ _ _ h => h) (Or.inr ⟨by rfl, rfl⟩) (by assumption) ?_) | (refine wpAnyH_take (i := 19) (oi := R_Head8_19) (v := ?_) rfl (by kernel_rfl) (by kernel_rfl) (by kernel_rfl) (fun _ _ _ h => h) (Or.inl ⟨by rfl, ?_⟩) (by assumption) ?_; rotate_left; next => (intro w hSw; (try dsimp only at hSw); (try delta R_Head8_19); go_simp; try with_reducible rfl))
    ((try simp only [Act.put, List.setIfInBounds_toArray, List.set_cons_zero, List.set_cons_succ]); (try simp only [KD1.out, KD2.out, KD4.out, KD5.out]))
    first | (refine wpAnyH_take (i := 20) (oi := R_Head8_20) (v := undef) rfl (by kernel_rfl) (by kernel_rfl) (by kernel_rfl) (fun _ _ _ h => h) (Or.inr ⟨by rfl, rfl⟩) (by assumption) ?_) | (refine wpAnyH_take (i := 20) (oi := R_Head8_20) (v := ?_) rfl (by kernel_rfl) (by kernel_rfl) (by kernel_rfl) (fun _ _ _ h => h) (Or.inl ⟨by rfl, ?_⟩) (by assumption) ?_; rotate_left; next => (intro w hSw; (try dsimp only at hSw); (try delta R_Head8_20); go_simp; try with_reducible rfl))
    ((try simp only [Act.put, List.setIfInBounds_toArray, List.set_cons_zero, List.set_cons_succ]); (try simp only [KD1.out, KD2.out, KD4.out, KD5.out]))
    first | (refine wpAnyH_take (i := 21) (oi := R_Head8_21) (v := undef) rfl (by kernel_rfl) (by kernel_rfl) (by kernel_rfl) (fun _ _ _ h => h) (Or.inr ⟨by rfl, rfl⟩) (by assumption) ?_) | (refine wpAnyH_take (i := 21) (oi := R_Head8_21) (v := ?_) rfl (by kernel_rfl) (by kernel_rfl) (by kernel_rfl) (fun _ _ _ h => h) (Or.inl ⟨by rfl, ?_⟩) (by assumption) ?_; rotate_left; next => (intro w hSw; (try dsimp only at hSw); (try delta R_Head8_21); go_simp; try with_reducible rfl))
    ((try simp only [Act.put, List.setIfInBounds_toArray, List.set_cons_zero, List.set_cons_succ]); (try simp only [KD1.out, KD2.out, KD4.out, KD5.out]))
    first | (refine wpAnyH_take (i := 22) (oi := R_Head8_22) (v := undef) rfl (by kernel_rfl) (by kernel_rfl) (by kernel_rfl) (fun _ _ _ h => h) (Or.inr ⟨by rfl, rfl⟩) (by assumption) ?_) | (refine wpAnyH_take (i := 22) (oi := R_Head8_22) (v := ?_) rfl (by kernel_rfl) (by kernel_rfl) (by kernel_rfl) (fun _ _ _ h => h) (Or.inl ⟨by rfl, ?_⟩) (by assumption) ?_; rotate_left; next => (intro w hSw; (try dsimp only at hSw); (try delta R_Head8_22); go_simp; try with_reducible rfl))
    ((try simp only [Act.put, List.setIfInBounds_toArray, List.set_cons_zero, List.set_cons_succ]); (try simp only [KD1.out, KD2.out, KD4.out, KD5.out]))
    first | (refine wpAnyH_take (i := 23) (oi := R_Head8_23) (v := undef) rfl (by kernel_rfl) (by kernel_rfl) (by kernel_rfl) (fun _ _ _ h => h) (Or.inr ⟨by rfl, rfl⟩) (by assumption) ?_) | (refine wpAnyH_take (i := 23) (oi := R_Head8_23) (v := ?_) rfl (by kernel_rfl) (by kernel_rfl) (by kernel_rfl) (fun _ _ _ h => h) (Or.inl ⟨by rfl, ?_⟩) (by assumption) ?_; rotate_left; next => (intro w hSw; (try dsimp only at hSw); (try delta R_Head8_23); go_simp; try with_reducible rfl))
    ((try simp only [Act.put, List.setIfInBounds_toArray, List.set_cons_zero, List.set_cons_succ]); (try simp only [KD1.out, KD2.out, KD4.out, KD5.out]))
    first | (refine wpAnyH_take (i := 24) (oi := R_Head8_24) (v := undef) rfl (by kernel_rfl) (by kernel_rfl) (by kernel_rfl) (fun _ _ _ h => h) (Or.inr ⟨by rfl, rfl⟩) (by assumption) ?_) | (refine wpAnyH_take (i := 24) (oi := R_Head8_24) (v := ?_) rfl (by kernel_rfl) (by kernel_rfl) (by kernel_rfl) (fun _ _ _ h => h) (Or.inl ⟨by rfl, ?_⟩) (by assumption) ?_; rotate_left; next => (intro w hSw; (try dsimp only at hSw); (try delta R_Head8_24); go_simp; try with_reducible rfl))
    ((try simp only [Act.put, List.setIfInBounds_toArray, List.set_cons_zero, List.set_cons_succ]); (try simp only [KD1.out, KD2.out, KD4.out, KD5.out]))
    (refine wpAnyH_take (i := 25) (oi := R_Head8_25) (v := ?_) rfl (by kernel_rfl) (by kernel_rfl) (by kernel_rfl) (fun _ _ _ h => h) (Or.inl ⟨by rfl, ?_⟩) (by assumption) ?_; rotate_left; next => (intro w hSw; (try dsimp only at hSw); (try delta R_Head8_25); go_simp; try with_reducible rfl))
    ((try simp only [Act.put, List.setIfInBounds_toArray, List.set_cons_zero, List.set_cons_succ]); (try simp only [KD1.out, KD2.out, KD4.out, KD5.out]))
    (refine wpAnyH_take (i := 26) (oi := R_Head8_26) (v := ?_) rfl (by kernel_rfl) (by kernel_rfl) (by kernel_rfl) (fun _ _ _ h => h) (Or.inl ⟨by rfl, ?_⟩) (by assumption) ?_; rotate_left; next => (intro w hSw; (try dsimp only at hSw); (try delta R_Head8_26); go_simp; try with_reducible rfl))
    ((try simp only [Act.put, List.setIfInBounds_toArray, List.set_cons_zero, List.set_cons_succ]); (try simp only [KD1.out, KD2.out, KD4.out, KD5.out]))
    first | (refine wpAnyH_take (i := 27) (oi := R_Head8_27) (v := undef) rfl (by kernel_rfl) (by kernel_rfl) (by kernel_rfl) (fun _ _ _ h => h) (Or.inr ⟨by rfl, rfl⟩) (by assumption) ?_) | (refine wpAnyH_take (i := 27) (oi := R_Head8_27) (v := ?_) rfl (by kernel_rfl) (by kernel_rfl) (by kernel_rfl) (fun _ _ _ h => h) (Or.inl ⟨by rfl, ?_⟩) (by assumption) ?_; rotate_left; next => (intro w hSw; (try dsimp only at hSw); (try delta R_Head8_27); go_simp; try with_reducible rfl))
    ((try simp only [Act.put, List.setIfInBounds_toArray, List.set_cons_zero, List.set_cons_succ]); (try simp only [KD1.out, KD2.out, KD4.out, KD5.out]))
    first | (refine wpAnyH_take (i := 28) (oi := R_Head8_28) (v := undef) rfl (by kernel_rfl) (by kernel_rfl) (by kernel_rfl) (fun _ _ _ h => h) (Or.inr ⟨by rfl, rfl⟩) (by assumption) ?_) | (refine wpAnyH_take (i := 28) (oi := R_Head8_28) (v := ?_) rfl (by kernel_rfl) (by kernel_rfl) (by kernel_rfl) (fun _ _ _ h => h) (Or.inl ⟨by rfl, ?_⟩) (by assumption) ?_; rotate_left; next => (intro w hSw; (try dsimp only at hSw); (try delta R_Head8_28); go_simp; try with_reducible rfl))
    ((try simp only [Act.put, List.setIfInBounds_toArray, List.set_cons_zero, List.set_cons_succ]); (try simp only [KD1.out, KD2.out, KD4.out, KD5.out]))
    first | (refine wpAnyH_take (i := 29) (oi := R_Head8_29) (v := undef) rfl (by kernel_rfl) (by kernel_rfl) (by kernel_rfl) (fun _ _ _ h => h) (Or.inr ⟨by rfl, rfl⟩) (by assumption) ?_) | (refine wpAnyH_take (i := 29) (oi := R_Head8_29) (v := ?_) rfl (by kernel_rfl) (by kernel_rfl) (by kernel_rfl) (fun _ _ _ h => h) (Or.inl ⟨by rfl, ?_⟩) (by assumption) ?_; rotate_left; next => (intro w hSw; (try dsimp only at hSw); (try delta R_Head8_29); go_simp; try with_reducible rfl))
    ((try simp only [Act.put, List.setIfInBounds_toArray, List.set_cons_zero, List.set_cons_succ]); (try simp only [KD1.out, KD2.out, KD4.out, KD5.out]))
    (refine wpAnyH_take (i := 30) (oi := R_Head8_30) (v := ?_) rfl (by kernel_rfl) (by kernel_rfl) (by kernel_rfl) (fun _ _ _ h => h) (Or.inl ⟨by rfl, ?_⟩) (by assumption) ?_; rotate_left; next => (intro w hSw; (try dsimp only at hSw); (try delta R_Head8_30); go_simp; try with_reducible rfl))
    ((try simp only [Act.put, List.setIfInBounds_toArray, List.set_cons_zero, List.set_cons_succ]); (try simp only [KD1.out, KD2.out, KD4.out, KD5.out]))
    (refine wpAnyH_take (i := 31) (oi := R_Head8_31) (v := ?_) rfl (by kernel_rfl) (by kernel_rfl) (by kernel_rfl) (fun _ _ _ h => h) (Or.inl ⟨by rfl, ?_⟩) (by assumption) ?_; rotate_left; next => (intro w hSw; (try dsimp only at hSw); (try delta R_Head8_31); go_simp; try with_reducible rfl))
    ((try simp only [Act.put, List.setIfInBounds_toArray, List.set_cons_zero, List.set_cons_succ]); (try simp only [KD1.out, KD2.out, KD4.out, KD5.out]))
    first | (refine wpAnyH_take (i := 32) (oi := R_Head8_32) (v := undef) rfl (by kernel_rfl) (by kernel_rfl) (by kernel_rfl) (fun _ _ _ h => h) (Or.inr ⟨by rfl, rfl⟩) (by assumption) ?_) | (refine wpAnyH_take (i := 32) (oi := R_Head8_32) (v := ?_) rfl (by kernel_rfl) (by kernel_rfl) (by kernel_rfl) (fun _ _ _ h => h) (Or.inl ⟨by rfl, ?_⟩) (by assumption) ?_; rotate_left; next => (intro w hSw; (try dsimp only at hSw); (try delta R_Head8_32); go_simp; try with_reducible rfl))
    ((try simp only [Act.put, List.setIfInBounds_toArray, List.set_cons_zero, List.set_cons_succ]); (try simp only [KD1.out, KD2.out, KD4.out, KD5.out]))
    first | (refine wpAnyH_take (i := 33) (oi := R_Head8_33) (v := undef) rfl (by kernel_rfl) (by kernel_rfl) (by kernel_rfl) (fun _ _ _ h => h) (Or.inr ⟨by rfl, rfl⟩) (by assumption) ?_) | (refine wpAnyH_take (i := 33) (oi := R_Head8_33) (v := ?_) rfl (by kernel_rfl) (by kernel_rfl) (by kernel_rfl) (fun _ _ _ h => h) (Or.inl ⟨by rfl, ?_⟩) (by assumption) ?_; rotate_left; next => (intro w hSw; (try dsimp only at hSw); (try delta R_Head8_33); go_simp; try with_reducible rfl))
    ((try simp only [Act.put, List.setIfInBounds_toArray, List.set_cons_zero, List.set_cons_succ]); (try simp only [KD1.out, KD2.out, KD4.out, KD5.out]))
    first | (refine wpAnyH_take (i := 34) (oi := R_Head8_34) (v := undef) rfl (by kernel_rfl) (by kernel_rfl) (by kernel_rfl) (fun _ _ _ h => h) (Or.inr ⟨by rfl, rfl⟩) (by assumption) ?_) | (refine wpAnyH_take (i := 34) (oi := R_Head8_34) (v := ?_) rfl (by kernel_rfl) (by kernel_rfl) (by kernel_rfl) (fun _ _ _ h => h) (Or.inl ⟨by rfl, ?_⟩) (by assumption) ?_; rotate_left; next => (intro w hSw; (try dsimp only at hSw); (try delta R_Head8_34); go_simp; try with_reducible rfl))
    ((try simp only [Act.put, List.setIfInBounds_toArray, List.set_cons_zero, List.set_cons_succ]); (try simp only [KD1.out, KD2.out, KD4.out, KD5.out]))
    first
    | (refine wpAnyH_take (i := 35) (oi := R_Head8_35) (v := undef) rfl (by kernel_rfl) (by kernel_rfl) (by kernel_rfl) (fun _ _ _ h => h) (Or.inr ⟨by rfl, rfl⟩) (by assumption) ?_
       ((try simp only [Act.put, List.setIfInBounds_toArray, List.set_cons_zero, List.set_cons_succ]); (try simp only [KD1.out, KD2.out, KD4.out, KD5.out])))
    | (refine wpAnyH_ready (rs := [35]) (by kernel_rfl) (by simp) ?_
       refine AllReadyH.cons (o := R_Head8_35) rfl (fun K hK => ?_) AllReadyH.nil
       (try delta R_Head8_35)
       go_simp
       (first | (go_at_call 38; (with_reducible refine (CGD.out w7.drew HDD.out).mono ?_); rintro e wz ⟨rfl, rfl⟩) | (go_at_call 34; (with_reducible refine (CBK.out w7.drew HBD.out).mono ?_); rintro e wz ⟨rfl, rfl⟩))
       (try go_wp2_with fail)
       refine hK.out _ _ ?_ (fun hHeld => ?_)
       · (exact ⟨s0, s1, s2⟩)
       clear hK K
       ((try simp only [Act.put, List.setIfInBounds_toArray, List.set_cons_zero, List.set_cons_succ]); (try simp only [KD1.out, KD2.out, KD4.out, KD5.out])))
    first | (refine wpAnyH_take (i := 36) (oi := R_Head8_36) (v := undef) rfl (by kernel_rfl) (by kernel_rfl) (by kernel_rfl) (fun _ _ _ h => h) (Or.inr ⟨by rfl, rfl⟩) (by assumption) ?_) | (refine wpAnyH_take (i := 36) (oi := R_Head8_36) (v := ?_) rfl (by kernel_rfl) (by kernel_rfl) (by kernel_rfl) (fun _ _ _ h => h) (Or.inl ⟨by rfl, ?_⟩) (by assumption) ?_; rotate_left; next => (intro w hSw; (try dsimp only at hSw); (try delta R_Head8_36); go_simp; try with_reducible rfl))
    ((try simp only [Act.put, List.setIfInBounds_toArray, List.set_cons_zero, List.set_cons_succ]); (try simp only [KD1.out, KD2.out, KD4.out, KD5.out]))
    first | (refine wpAnyH_take (i := 37) (oi := R_Head8_37) (v := undef) rfl (by kernel_rfl) (by kernel_rfl) (by kernel_rfl) (fun _ _ _ h => h) (Or.inr ⟨by rfl, rfl⟩) (by assumption) ?_) | (refine wpAnyH_take (i := 37) (oi := R_Head8_37) (v := ?_) rfl (by kernel_rfl) (by kernel_rfl) (by kernel_rfl) (fun _ _ _ h => h) (Or.inl ⟨by rfl, ?_⟩) (by assumption) ?_; rotate_left; next => (intro w hSw; (try dsimp only at hSw); (try delta R_Head8_37); go_simp; try with_reducible rfl))
    ((try simp only [Act.put, List.setIfInBounds_toArray, List.set_cons_zero, List.set_cons_succ]); (try simp only [KD1.out, KD2.out, KD4.out, KD5.out]))
    (refine wpAnyH_take (i := 38) (oi := R_Head8_38) (v := ?_) rfl (by kernel_rfl) (by kernel_rfl) (by kernel_rfl) (fun _ _ _ h => h) (Or.inl ⟨by rfl, ?_⟩) (by assumption) ?_; rotate_left; next => (intro w hSw; (try dsimp only at hSw); (try delta R_Head8_38); go_simp; try with_reducible rfl))
    ((try simp only [Act.put, List.setIfInBounds_toArray, List.set_cons_zero, List.set_cons_succ]); (try simp only [KD1.out, KD2.out, KD4.out, KD5.out]))
    (refine wpAnyH_take (i := 39) (oi := R_Head8_39) (v := ?_) rfl (by kernel_rfl) (by kernel_rfl) (by kernel_rfl) (fun _ _ _ h => h) (Or.inl ⟨by rfl, ?_⟩) (by assumption) ?_; rotate_left; next => (intro w hSw; (try dsimp only at hSw); (try delta R_Head8_39); go_simp; try with_reducible rfl))
    ((try simp only [Act.put, List.setIfInBounds_toArray, List.set_cons_zero, List.set_cons_succ]); (try simp only [KD1.out, KD2.out, KD4.out, KD5.out]))
    refine wpAnyH_done (by kernel_rfl) ?_ _
    go_wp2_with fail
    refine bodyPost_ret (results_row_tmpH rfl _ _ w.heap.size 67 #[_, _, _] (0, 0) _ rfl HE.out.1 Tryd.underlying67 rfl infoHead) rfl ?_
    exact ⟨by rw [HX.out]; dsimp only; rw [HOK.out]; simp [HD3.val, KD1.out, KD2.out, KD4.out, KD5.out, HWQ.out], HE.out.2⟩
  have KD3 : Hid ((n2 == 0) = false) := Lib.hid (by simpa using k3)
  have KD3b : Hid (decide (n2 = 0) = false) := Lib.hid (by simpa using k3)
  have KD6 : Hid ((n2 == 1) = false) := Lib.hid (by simpa using k6)
  have KD6b : Hid (decide (n2 = 1) = false) := Lib.hid (by simpa using k6)
  refine wp_region_held_drew (S := (fun W => W.cell? ⟨lb, 0, none⟩ = some (.int .i64 n1) ∧ W.cell? ⟨lb, 1, none⟩ = some (.int .i64 n2) ∧ W.cell? ⟨lb, 2, none⟩ = some (.int .i64 n3))) (by kernel_rfl) ?_ (fun hHeld => ?_)
  · (exact ⟨s0, s1, s2⟩)
  (refine wpAnyH_take (i := 0) (oi := R_Head8_0) (v := ?_) rfl (by kernel_rfl) (by kernel_rfl) (by kernel_rfl) (fun _ _ _ h => h) (Or.inl ⟨by rfl, ?_⟩) (by assumption) ?_; rotate_left; next => (intro w hSw; (try dsimp only at hSw); (try delta R_Head8_0); go_simp; try with_reducible rfl))
  ((try simp only [Act.put, List.setIfInBounds_toArray, List.set_cons_zero, List.set_cons_succ]); (try simp only [KD1.out, KD2.out, KD3.out, KD3b.out, KD6.out, KD6b.out]))
  refine wpAnyH_ready (rs := [1]) (by kernel_rfl) (by simp) ?_
  refine AllReadyH.cons (o := R_Head8_1) rfl (fun K hK => ?_) AllReadyH.nil
  (try delta R_Head8_1)
  go_simp
  (first | (go_at_call 38; (with_reducible refine (CGD.out w7.drew HDD.out).mono ?_); rintro e wz ⟨rfl, rfl⟩) | (go_at_call 34; (with_reducible refine (CBK.out w7.drew HBD.out).mono ?_); rintro e wz ⟨rfl, rfl⟩))
  (try go_wp2_with fail)
  refine hK.out _ _ ?_ (fun hHeld => ?_)
  · (exact ⟨s0, s1, s2⟩)
  clear hK K
  ((try simp only [Act.put, List.setIfInBounds_toArray, List.set_cons_zero, List.set_cons_succ]); (try simp only [KD1.out, KD2.out, KD3.out, KD3b.out, KD6.out, KD6b.out]))
  (refine wpAnyH_take (i := 2) (oi := R_Head8_2) (v := ?_) rfl (by kernel_rfl) (by kernel_rfl) (by kernel_rfl) (fun _ _ _ h => h) (Or.inl ⟨by rfl, ?_⟩) (by assumption) ?_; rotate_left; next => (intro w hSw; (try dsimp only at hSw); (try delta R_Head8_2); go_simp; try with_reducible rfl))
  ((try simp only [Act.put, List.setIfInBounds_toArray, List.set_cons_zero, List.set_cons_succ]); (try simp only [KD1.out, KD2.out, KD3.out, KD3b.out, KD6.out, KD6b.out]))
  first | (refine wpAnyH_take (i := 3) (oi := R_Head8_3) (v := undef) rfl (by kernel_rfl) (by kernel_rfl) (by kernel_rfl) (fun _ _ _ h => h) (Or.inr ⟨by rfl, rfl⟩) (by assumption) ?_) | (refine wpAnyH_take (i := 3) (oi := R_Head8_3) (v := ?_) rfl (by kernel_rfl) (by kernel_rfl) (by kernel_rfl) (fun _ _ _ h => h) (Or.inl ⟨by rfl, ?_⟩) (by assumption) ?_; rotate_left; next => (intro w hSw; (try dsimp only at hSw); (try delta R_Head8_3); go_simp; try with_reducible rfl))
  ((try simp only [Act.put, List.setIfInBounds_toArray, List.set_cons_zero, List.set_cons_succ]); (try simp only [KD1.out, KD2.out, KD3.out, KD3b.out, KD6.out, KD6b.out]))
  first | (refine wpAnyH_take (i := 4) (oi := R_Head8_4) (v := undef) rfl (by kernel_rfl) (by kernel_rfl) (by kernel_rfl) (fun _ _ _ h => h) (Or.inr ⟨by rfl, rfl⟩) (by assumption) ?_) | (refine wpAnyH_take (i := 4) (oi := R_Head8_4) (v := ?_) rfl (by kernel_rfl) (by kernel_rfl) (by kernel_rfl) (fun _ _ _ h => h) (Or.inl ⟨by rfl, ?_⟩) (by assumption) ?_; rotate_left; next => (intro w hSw; (try dsimp only at hSw); (try delta R_Head8_4); go_simp; try with_reducible rfl))
  ((try simp only [Act.put, List.setIfInBounds_toArray, List.set_cons_zero, List.set_cons_succ]); (try simp only [KD1.out, KD2.out, KD3.out, KD3b.out, KD6.out, KD6b.out]))
  (refine wpAnyH_take (i := 5) (oi := R_Head8_5) (v := ?_) rfl (by kernel_rfl) (by kernel_rfl) (by kernel_rfl) (fun _ _ _ h => h) (Or.inl ⟨by rfl, ?_⟩) (by assumption) ?_; rotate_left; next => (intro w hSw; (try dsimp only at hSw); (try delta R_Head8_5); go_simp; try with_reducible rfl))
  ((try simp only [Act.put, List.setIfInBounds_toArray, List.set_cons_zero, List.set_cons_succ]); (try simp only [KD1.out, KD2.out, KD3.out, KD3b.out, KD6.out, KD6b.out]))
  (refine wpAnyH_take (i := 6) (oi := R_Head8_6) (v := ?_) rfl (by kernel_rfl) (by kernel_rfl) (by kernel_rfl) (fun _ _ _ h => h) (Or.inl ⟨by rfl, ?_⟩) (by assumption) ?_; rotate_left; next => (intro w hSw; (try dsimp only at hSw); (try delta R_Head8_6); go_simp; try with_reducible rfl))
  ((try simp only [Act.put, List.setIfInBounds_toArray, List.set_cons_zero, List.set_cons_succ]); (try simp only [KD1.out, KD2.out, KD3.out, KD3b.out, KD6.out, KD6b.out]))
  first | (refine wpAnyH_take (i := 7) (oi := R_Head8_7) (v := undef) rfl (by kernel_rfl) (by kernel_rfl) (by kernel_rfl) (fun _ _ _ h => h) (Or.inr ⟨by rfl, rfl⟩) (by assumption) ?_) | (refine wpAnyH_take (i := 7) (oi := R_Head8_7) (v := ?_) rfl (by kernel_rfl) (by kernel_rfl) (by kernel_rfl) (fun _ _ _ h => h) (Or.inl ⟨by rfl, ?_⟩) (by assumption) ?_; rotate_left; next => (intro w hSw; (try dsimp only at hSw); (try delta R_Head8_7); go_simp; try with_reducible rfl))
  ((try simp only [Act.put, List.setIfInBounds_toArray, List.set_cons_zero, List.set_cons_succ]); (try simp only [KD1.out, KD2.out, KD3.out, KD3b.out, KD6.out, KD6b.out]))
  first | (refine wpAnyH_take (i := 8) (oi := R_Head8_8) (v := undef) rfl (by kernel_rfl) (by kernel_rfl) (by kernel_rfl) (fun _ _ _ h => h) (Or.inr ⟨by rfl, rfl⟩) (by assumption) ?_) | (refine wpAnyH_take (i := 8) (oi := R_Head8_8) (v := ?_) rfl (by kernel_rfl) (by kernel_rfl) (by kernel_rfl) (fun _ _ _ h => h) (Or.inl ⟨by rfl, ?_⟩) (by assumption) ?_; rotate_left; next => (intro w hSw; (try dsimp only at hSw); (try delta R_Head8_8); go_simp; try with_reducible rfl))
  ((try simp only [Act.put, List.setIfInBounds_toArray, List.set_cons_zero, List.set_cons_succ]); (try simp only [KD1.out, KD2.out, KD3.out, KD3b.out, KD6.out, KD6b.out]))
  first | (refine wpAnyH_take (i := 9) (oi := R_Head8_9) (v := undef) rfl (by kernel_rfl) (by kernel_rfl) (by kernel_rfl) (fun _ _ _ h => h) (Or.inr ⟨by rfl, rfl⟩) (by assumption) ?_) | (refine wpAnyH_take (i := 9) (oi := R_Head8_9) (v := ?_) rfl (by kernel_rfl) (by kernel_rfl) (by kernel_rfl) (fun _ _ _ h => h) (Or.inl ⟨by rfl, ?_⟩) (by assumption) ?_; rotate_left; next => (intro w hSw; (try dsimp only at hSw); (try delta R_Head8_9); go_simp; try with_reducible rfl))
  ((try simp only [Act.put, List.setIfInBounds_toArray, List.set_cons_zero, List.set_cons_succ]); (try simp only [KD1.out, KD2.out, KD3.out, KD3b.out, KD6.out, KD6b.out]))
  (refine wpAnyH_take (i := 10) (oi := R_Head8_10) (v := ?_) rfl (by kernel_rfl) (by kernel_rfl) (by kernel_rfl) (fun _ _ _ h => h) (Or.inl ⟨by rfl, ?_⟩) (by assumption) ?_; rotate_left; next => (intro w hSw; (try dsimp only at hSw); (try delta R_Head8_10); go_simp; try with_reducible rfl))
  ((try simp only [Act.put, List.setIfInBounds_toArray, List.set_cons_zero, List.set_cons_succ]); (try simp only [KD1.out, KD2.out, KD3.out, KD3b.out, KD6.out, KD6b.out]))
  (refine wpAnyH_take (i := 11) (oi := R_Head8_11) (v := ?_) rfl (by kernel_rfl) (by kernel_rfl) (by kernel_rfl) (fun _ _ _ h => h) (Or.inl ⟨by rfl, ?_⟩) (by assumption) ?_; rotate_left; next => (intro w hSw; (try dsimp only at hSw); (try delta R_Head8_11); go_simp; try with_reducible rfl))
  ((try simp only [Act.put, List.setIfInBounds_toArray, List.set_cons_zero, List.set_cons_succ]); (try simp only [KD1.out, KD2.out, KD3.out, KD3b.out, KD6.out, KD6b.out]))
  first | (refine wpAnyH_take (i := 12) (oi := R_Head8_12) (v := undef) rfl (by kernel_rfl) (by kernel_rfl) (by kernel_rfl) (fun _ _ _ h => h) (Or.inr ⟨by rfl, rfl⟩) (by assumption) ?_) | (refine wpAnyH_take (i := 12) (oi := R_Head8_12) (v := ?_) rfl (by kernel_rfl) (by kernel_rfl) (by kernel_rfl) (fun _ _ _ h => h) (Or.inl ⟨by rfl, ?_⟩) (by assumption) ?_; rotate_left; next => (intro w hSw; (try dsimp only at hSw); (try delta R_Head8_12); go_simp; try with_reducible rfl))
  ((try simp only [Act.put, List.setIfInBounds_toArray, List.set_cons_zero, List.set_cons_succ]); (try simp only [KD1.out, KD2.out, KD3.out, KD3b.out, KD6.out, KD6b.out]))
  first | (refine wpAnyH_take (i := 13) (oi := R_Head8_13) (v := undef) rfl (by kernel_rfl) (by kernel_rfl) (by kernel_rfl) (fun _ _ _ h => h) (Or.inr ⟨by rfl, rfl⟩) (by assumption) ?_) | (refine wpAnyH_take (i := 13) (oi := R_Head8_13) (v := ?_) rfl (by kernel_rfl) (by kernel_rfl) (by kernel_rfl) (fun _ _ _ h => h) (Or.inl ⟨by rfl, ?_⟩) (by assumption) ?_; rotate_left; next => (intro w hSw; (try dsimp only at hSw); (try delta R_Head8_13); go_simp; try with_reducible rfl))
  ((try simp only [Act.put, List.setIfInBounds_toArray, List.set_cons_zero, List.set_cons_succ]); (try simp only [KD1.out, KD2.out, KD3.out, KD3b.out, KD6.out, KD6b.out]))
  first | (refine wpAnyH_take (i := 14) (oi := R_Head8_14) (v := undef) rfl (by kernel_rfl) (by kernel_rfl) (by kernel_rfl) (fun _ _ _ h => h) (Or.inr ⟨by rfl, rfl⟩) (by assumption) ?_) | (refine wpAnyH_take (i := 14) (oi := R_Head8_14) (v := ?_) rfl (by kernel_rfl) (by kernel_rfl) (by kernel_rfl) (fun _ _ _ h => h) (Or.inl ⟨by rfl, ?_⟩) (by assumption) ?_; rotate_left; next => (intro w hSw; (try dsimp only at hSw); (try delta R_Head8_14); go_simp; try with_reducible rfl))
  ((try simp only [Act.put, List.setIfInBounds_toArray, List.set_cons_zero, List.set_cons_succ]); (try simp only [KD1.out, KD2.out, KD3.out, KD3b.out, KD6.out, KD6b.out]))
  (refine wpAnyH_take (i := 15) (oi := R_Head8_15) (v := ?_) rfl (by kernel_rfl) (by kernel_rfl) (by kernel_rfl) (fun _ _ _ h => h) (Or.inl ⟨by rfl, ?_⟩) (by assumption) ?_; rotate_left; next => (intro w hSw; (try dsimp only at hSw); (try delta R_Head8_15); go_simp; try with_reducible rfl))
  ((try simp only [Act.put, List.setIfInBounds_toArray, List.set_cons_zero, List.set_cons_succ]); (try simp only [KD1.out, KD2.out, KD3.out, KD3b.out, KD6.out, KD6b.out]))
  (refine wpAnyH_take (i := 16) (oi := R_Head8_16) (v := ?_) rfl (by kernel_rfl) (by kernel_rfl) (by kernel_rfl) (fun _ _ _ h => h) (Or.inl ⟨by rfl, ?_⟩) (by assumption) ?_; rotate_left; next => (intro w hSw; (try dsimp only at hSw); (try delta R_Head8_16); go_simp; try with_reducible rfl))
  ((try simp only [Act.put, List.setIfInBounds_toArray, List.set_cons_zero, List.set_cons_succ]); (try simp only [KD1.out, KD2.out, KD3.out, KD3b.out, KD6.out, KD6b.out]))
  first | (refine wpAnyH_take (i := 17) (oi := R_Head8_17) (v := undef) rfl (by kernel_rfl) (by kernel_rfl) (by kernel_rfl) (fun _ _ _ h => h) (Or.inr ⟨by rfl, rfl⟩) (by assumption) ?_) | (refine wpAnyH_take (i := 17) (oi := R_Head8_17) (v := ?_) rfl (by kernel_rfl) (by kernel_rfl) (by kernel_rfl) (fun _ _ _ h => h) (Or.inl ⟨by rfl, ?_⟩) (by assumption) ?_; rotate_left; next => (intro w hSw; (try dsimp only at hSw); (try delta R_Head8_17); go_simp; try with_reducible rfl))
  ((try simp only [Act.put, List.setIfInBounds_toArray, List.set_cons_zero, List.set_cons_succ]); (try simp only [KD1.out, KD2.out, KD3.out, KD3b.out, KD6.out, KD6b.out]))
  first | (refine wpAnyH_take (i := 18) (oi := R_Head8_18) (v := undef) rfl (by kernel_rfl) (by kernel_rfl) (by kernel_rfl) (fun _ _ _ h => h) (Or.inr ⟨by rfl, rfl⟩) (by assumption) ?_) | (refine wpAnyH_take (i := 18) (oi := R_Head8_18) (v := ?_) rfl (by kernel_rfl) (by kernel_rfl) (by kernel_rfl) (fun _ _ _ h => h) (Or.inl ⟨by rfl, ?_⟩) (by assumption) ?_; rotate_left; next => (intro w hSw; (try dsimp only at hSw); (try delta R_Head8_18); go_simp; try with_reducible rfl))
  ((try simp only [Act.put, List.setIfInBounds_toArray, List.set_cons_zero, List.set_cons_succ]); (try simp only [KD1.out, KD2.out, KD3.out, KD3b.out, KD6.out, KD6b.out]))
  first | (refine wpAnyH_take (i := 19) (oi := R_Head8_19) (v := undef) rfl (by kernel_rfl) (by kernel_rfl) (by kernel_rfl) (fun _ _ _ h => h) (Or.inr ⟨by rfl, rfl⟩) (by assumption) ?_) | (refine wpAnyH_take (i := 19) (oi := R_Head8_19) (v := ?_) rfl (by kernel_rfl) (by kernel_rfl) (by kernel_rfl) (fun _ _ _ h => h) (Or.inl ⟨by rfl, ?_⟩) (by assumption) ?_; rotate_left; next => (intro w hSw; (try dsimp only at hSw); (try delta R_Head8_19); go_simp; try with_reducible rfl))
  ((try simp only [Act.put, List.setIfInBounds_toArray, List.set_cons_zero, List.set_cons_succ]); (try simp only [KD1.out, KD2.out, KD3.out, KD3b.out, KD6.out, KD6b.out]))
  first | (refine wpAnyH_take (i := 20) (oi := R_Head8_20) (v := undef) rfl (by kernel_rfl) (by kernel_rfl) (by kernel_rfl) (fun _ _ _ h => h) (Or.inr ⟨by rfl, rfl⟩) (by assumption) ?_) | (refine wpAnyH_take (i := 20) (oi := R_Head8_20) (v := ?_) rfl (by kernel_rfl) (by kernel_rfl) (by kernel_rfl) (fun _ _ _ h => h) (Or.inl ⟨by rfl, ?_⟩) (by assumption) ?_; rotate_left; next => (intro w hSw; (try dsimp only at hSw); (try delta R_Head8_20); go_simp; try with_reducible rfl))
  ((try simp only [Act.put, List.setIfInBounds_toArray, List.set_cons_zero, List.set_cons_succ]); (try simp only [KD1.out, KD2.out, KD3.out, KD3b.out, KD6.out, KD6b.out]))
  first | (refine wpAnyH_take (i := 21) (oi := R_Head8_21) (v := undef) rfl (by kernel_rfl) (by kernel_rfl) (by kernel_rfl) (fun _ _ _ h => h) (Or.inr ⟨by rfl, rfl⟩) (by assumption) ?_) | (refine wpAnyH_take (i := 21) (oi := R_Head8_21) (v := ?_) rfl (by kernel_rfl) (by kernel_rfl) (by kernel_rfl) (fun _ _ _ h => h) (Or.inl ⟨by rfl, ?_⟩) (by assumption) ?_; rotate_left; next => (intro w hSw; (try dsimp only at hSw); (try delta R_Head8_21); go_simp; try with_reducible rfl))
  ((try simp only [Act.put, List.setIfInBounds_toArray, List.set_cons_zero, List.set_cons_succ]); (try simp only [KD1.out, KD2.out, KD3.out, KD3b.out, KD6.out, KD6b.out]))
  first | (refine wpAnyH_take (i := 22) (oi := R_Head8_22) (v := undef) rfl (by kernel_rfl) (by kernel_rfl) (by kernel_rfl) (fun _ _ _ h => h) (Or.inr ⟨by rfl, rfl⟩) (by assumption) ?_) | (refine wpAnyH_take (i := 22) (oi := R_Head8_22) (v := ?_) rfl (by kernel_rfl) (by kernel_rfl) (by kernel_rfl) (fun _ _ _ h => h) (Or.inl ⟨by rfl, ?_⟩) (by assumption) ?_; rotate_left; next => (intro w hSw; (try dsimp only at hSw); (try delta R_Head8_22); go_simp; try with_reducible rfl))
  ((try simp only [Act.put, List.setIfInBounds_toArray, List.set_cons_zero, List.set_cons_succ]); (try simp only [KD1.out, KD2.out, KD3.out, KD3b.out, KD6.out, KD6b.out]))
  first | (refine wpAnyH_take (i := 23) (oi := R_Head8_23) (v := undef) rfl (by kernel_rfl) (by kernel_rfl) (by kernel_rfl) (fun _ _ _ h => h) (Or.inr ⟨by rfl, rfl⟩) (by assumption) ?_) | (refine wpAnyH_take (i := 23) (oi := R_Head8_23) (v := ?_) rfl (by kernel_rfl) (by kernel_rfl) (by kernel_rfl) (fun _ _ _ h => h) (Or.inl ⟨by rfl, ?_⟩) (by assumption) ?_; rotate_left; next => (intro w hSw; (try dsimp only at hSw); (try delta R_Head8_23); go_simp; try with_reducible rfl))
  ((try simp only [Act.put, List.setIfInBounds_toArray, List.set_cons_zero, List.set_cons_succ]); (try simp only [KD1.out, KD2.out, KD3.out, KD3b.out, KD6.out, KD6b.out]))
  first | (refine wpAnyH_take (i := 24) (oi := R_Head8_24) (v := undef) rfl (by kernel_rfl) (by kernel_rfl) (by kernel_rfl) (fun _ _ _ h => h) (Or.inr ⟨by rfl, rfl⟩) (by assumption) ?_) | (refine wpAnyH_take (i := 24) (oi := R_Head8_24) (v := ?_) rfl (by kernel_rfl) (by kernel_rfl) (by kernel_rfl) (fun _ _ _ h => h) (Or.inl ⟨by rfl, ?_⟩) (by assumption) ?_; rotate_left; next => (intro w hSw; (try dsimp only at hSw); (try delta R_Head8_24); go_simp; try with_reducible rfl))
  ((try simp only [Act.put, List.setIfInBounds_toArray, List.set_cons_zero, List.set_cons_succ]); (try simp only [KD1.out, KD2.out, KD3.out, KD3b.out, KD6.out, KD6b.out]))
  (refine wpAnyH_take (i := 25) (oi := R_Head8_25) (v := ?_) rfl (by kernel_rfl) (by kernel_rfl) (by kernel_rfl) (fun _ _ _ h => h) (Or.inl ⟨by rfl, ?_⟩) (by assumption) ?_; rotate_left; next => (intro w hSw; (try dsimp only at hSw); (try delta R_Head8_25); go_simp; try with_reducible rfl))
  ((try simp only [Act.put, List.setIfInBounds_toArray, List.set_cons_zero, List.set_cons_succ]); (try simp only [KD1.out, KD2.out, KD3.out, KD3b.out, KD6.out, KD6b.out]))
  (refine wpAnyH_take (i := 26) (oi := R_Head8_26) (v := ?_) rfl (by kernel_rfl) (by kernel_rfl) (by kernel_rfl) (fun _ _ _ h => h) (Or.inl ⟨by rfl, ?_⟩) (by assumption) ?_; rotate_left; next => (intro w hSw; (try dsimp only at hSw); (try delta R_Head8_26); go_simp; try with_reducible rfl))
  ((try simp only [Act.put, List.setIfInBounds_toArray, List.set_cons_zero, List.set_cons_succ]); (try simp only [KD1.out, KD2.out, KD3.out, KD3b.out, KD6.out, KD6b.out]))
  first | (refine wpAnyH_take (i := 27) (oi := R_Head8_27) (v := undef) rfl (by kernel_rfl) (by kernel_rfl) (by kernel_rfl) (fun _ _ _ h => h) (Or.inr ⟨by rfl, rfl⟩) (by assumption) ?_) | (refine wpAnyH_take (i := 27) (oi := R_Head8_27) (v := ?_) rfl (by kernel_rfl) (by kernel_rfl) (by kernel_rfl) (fun _ _ _ h => h) (Or.inl ⟨by rfl, ?_⟩) (by assumption) ?_; rotate_left; next => (intro w hSw; (try dsimp only at hSw); (try delta R_Head8_27); go_simp; try with_reducible rfl))
  ((try simp only [Act.put, List.setIfInBounds_toArray, List.set_cons_zero, List.set_cons_succ]); (try simp only [KD1.out, KD2.out, KD3.out, KD3b.out, KD6.out, KD6b.out]))
  first | (refine wpAnyH_take (i := 28) (oi := R_Head8_28) (v := undef) rfl (by kernel_rfl) (by kernel_rfl) (by kernel_rfl) (fun _ _ _ h => h) (Or.inr ⟨by rfl, rfl⟩) (by assumption) ?_) | (refine wpAnyH_take (i := 28) (oi := R_Head8_28) (v := ?_) rfl (by kernel_rfl) (by kernel_rfl) (by kernel_rfl) (fun _ _ _ h => h) (Or.inl ⟨by rfl, ?_⟩) (by assumption) ?_; rotate_left; next => (intro w hSw; (try dsimp only at hSw); (try delta R_Head8_28); go_simp; try with_reducible rfl))
  ((try simp only [Act.put, List.setIfInBounds_toArray, List.set_cons_zero, List.set_cons_succ]); (try simp only [KD1.out, KD2.out, KD3.out, KD3b.out, KD6.out, KD6b.out]))
  first | (refine wpAnyH_take (i := 29) (oi := R_Head8_29) (v := undef) rfl (by kernel_rfl) (by kernel_rfl) (by kernel_rfl) (fun _ _ _ h => h) (Or.inr ⟨by rfl, rfl⟩) (by assumption) ?_) | (refine wpAnyH_take (i := 29) (oi := R_Head8_29) (v := ?_) rfl (by kernel_rfl) (by kernel_rfl) (by kernel_rfl) (fun _ _ _ h => h) (Or.inl ⟨by rfl, ?_⟩) (by assumption) ?_; rotate_left; next => (intro w hSw; (try dsimp only at hSw); (try delta R_Head8_29); go_simp; try with_reducible rfl))
  ((try simp only [Act.put, List.setIfInBounds_toArray, List.set_cons_zero, List.set_cons_succ]); (try simp only [KD1.out, KD2.out, KD3.out, KD3b.out, KD6.out, KD6b.out]))
  (refine wpAnyH_take (i := 30) (oi := R_Head8_30) (v := ?_) rfl (by kernel_rfl) (by kernel_rfl) (by kernel_rfl) (fun _ _ _ h => h) (Or.inl ⟨by rfl, ?_⟩) (by assumption) ?_; rotate_left; next => (intro w hSw; (try dsimp only at hSw); (try delta R_Head8_30); go_simp; try with_reducible rfl))
  ((try simp only [Act.put, List.setIfInBounds_toArray, List.set_cons_zero, List.set_cons_succ]); (try simp only [KD1.out, KD2.out, KD3.out, KD3b.out, KD6.out, KD6b.out]))
  (refine wpAnyH_take (i := 31) (oi := R_Head8_31) (v := ?_) rfl (by kernel_rfl) (by kernel_rfl) (by kernel_rfl) (fun _ _ _ h => h) (Or.inl ⟨by rfl, ?_⟩) (by assumption) ?_; rotate_left; next => (intro w hSw; (try dsimp only at hSw); (try delta R_Head8_31); go_simp; try with_reducible rfl))
  ((try simp only [Act.put, List.setIfInBounds_toArray, List.set_cons_zero, List.set_cons_succ]); (try simp only [KD1.out, KD2.out, KD3.out, KD3b.out, KD6.out, KD6b.out]))
  first | (refine wpAnyH_take (i := 32) (oi := R_Head8_32) (v := undef) rfl (by kernel_rfl) (by kernel_rfl) (by kernel_rfl) (fun _ _ _ h => h) (Or.inr ⟨by rfl, rfl⟩) (by assumption) ?_) | (refine wpAnyH_take (i := 32) (oi := R_Head8_32) (v := ?_) rfl (by kernel_rfl) (by kernel_rfl) (by kernel_rfl) (fun _ _ _ h => h) (Or.inl ⟨by rfl, ?_⟩) (by assumption) ?_; rotate_left; next => (intro w hSw; (try dsimp only at hSw); (try delta R_Head8_32); go_simp; try with_reducible rfl))
  ((try simp only [Act.put, List.setIfInBounds_toArray, List.set_cons_zero, List.set_cons_succ]); (try simp only [KD1.out, KD2.out, KD3.out, KD3b.out, KD6.out, KD6b.out]))
  first | (refine wpAnyH_take (i := 33) (oi := R_Head8_33) (v := undef) rfl (by kernel_rfl) (by kernel_rfl) (by kernel_rfl) (fun _ _ _ h => h) (Or.inr ⟨by rfl, rfl⟩) (by assumption) ?_) | (refine wpAnyH_take (i := 33) (oi := R_Head8_33) (v := ?_) rfl (by kernel_rfl) (by kernel_rfl) (by kernel_rfl) (fun _ _ _ h => h) (Or.inl ⟨by rfl, ?_⟩) (by assumption) ?_; rotate_left; next => (intro w hSw; (try dsimp only at hSw); (try delta R_Head8_33); go_simp; try with_reducible rfl))
  ((try simp only [Act.put, List.setIfInBounds_toArray, List.set_cons_zero, List.set_cons_succ]); (try simp only [KD1.out, KD2.out, KD3.out, KD3b.out, KD6.out, KD6b.out]))
  first | (refine wpAnyH_take (i := 34) (oi := R_Head8_34) (v := undef) rfl (by kernel_rfl) (by kernel_rfl) (by kernel_rfl) (fun _ _ _ h => h) (Or.inr ⟨by rfl, rfl⟩) (by assumption) ?_) | (refine wpAnyH_take (i := 34) (oi := R_Head8_34) (v := ?_) rfl (by kernel_rfl) (by kernel_rfl) (by kernel_rfl) (fun _ _ _ h => h) (Or.inl ⟨by rfl, ?_⟩) (by assumption) ?_; rotate_left; next => (intro w hSw; (try dsimp only at hSw); (try delta R_Head8_34); go_simp; try with_reducible rfl))
  ((try simp only [Act.put, List.setIfInBounds_toArray, List.set_cons_zero, List.set_cons_succ]); (try simp only [KD1.out, KD2.out, KD3.out, KD3b.out, KD6.out, KD6b.out]))
  first
  | (refine wpAnyH_take (i := 35) (oi := R_Head8_35) (v := undef) rfl (by kernel_rfl) (by kernel_rfl) (by kernel_rfl) (fun _ _ _ h => h) (Or.inr ⟨by rfl, rfl⟩) (by assumption) ?_
     ((try simp only [Act.put, List.setIfInBounds_toArray, List.set_cons_zero, List.set_cons_succ]); (try simp only [KD1.out, KD2.out, KD3.out, KD3b.out, KD6.out, KD6b.out])))
  | (refine wpAnyH_ready (rs := [35]) (by kernel_rfl) (by simp) ?_
     refine AllReadyH.cons (o := R_Head8_35) rfl (fun K hK => ?_) AllReadyH.nil
     (try delta R_Head8_35)
     go_simp
     (first | (go_at_call 38; (with_reducible refine (CGD.out w7.drew HDD.out).mono ?_); rintro e wz ⟨rfl, rfl⟩) | (go_at_call 34; (with_reducible refine (CBK.out w7.drew HBD.out).mono ?_); rintro e wz ⟨rfl, rfl⟩))
     (try go_wp2_with fail)
     refine hK.out _ _ ?_ (fun hHeld => ?_)
     · (exact ⟨s0, s1, s2⟩)
     clear hK K
     ((try simp only [Act.put, List.setIfInBounds_toArray, List.set_cons_zero, List.set_cons_succ]); (try simp only [KD1.out, KD2.out, KD3.out, KD3b.out, KD6.out, KD6b.out])))
  first | (refine wpAnyH_take (i := 36) (oi := R_Head8_36) (v := undef) rfl (by kernel_rfl) (by kernel_rfl) (by kernel_rfl) (fun _ _ _ h => h) (Or.inr ⟨by rfl, rfl⟩) (by assumption) ?_) | (refine wpAnyH_take (i := 36) (oi := R_Head8_36) (v := ?_) rfl (by kernel_rfl) (by kernel_rfl) (by kernel_rfl) (fun _ _ _ h => h) (Or.inl ⟨by rfl, ?_⟩) (by assumption) ?_; rotate_left; next => (intro w hSw; (try dsimp only at hSw); (try delta R_Head8_36); go_simp; try with_reducible rfl))
  ((try simp only [Act.put, List.setIfInBounds_toArray, List.set_cons_zero, List.set_cons_succ]); (try simp only [KD1.out, KD2.out, KD3.out, KD3b.out, KD6.out, KD6b.out]))
  first | (refine wpAnyH_take (i := 37) (oi := R_Head8_37) (v := undef) rfl (by kernel_rfl) (by kernel_rfl) (by kernel_rfl) (fun _ _ _ h => h) (Or.inr ⟨by rfl, rfl⟩) (by assumption) ?_) | (refine wpAnyH_take (i := 37) (oi := R_Head8_37) (v := ?_) rfl (by kernel_rfl) (by kernel_rfl) (by kernel_rfl) (fun _ _ _ h => h) (Or.inl ⟨by rfl, ?_⟩) (by assumption) ?_; rotate_left; next => (intro w hSw; (try dsimp only at hSw); (try delta R_Head8_37); go_simp; try with_reducible rfl))
  ((try simp only [Act.put, List.setIfInBounds_toArray, List.set_cons_zero, List.set_cons_succ]); (try simp only [KD1.out, KD2.out, KD3.out, KD3b.out, KD6.out, KD6b.out]))
  (refine wpAnyH_take (i := 38) (oi := R_Head8_38) (v := ?_) rfl (by kernel_rfl) (by kernel_rfl) (by kernel_rfl) (fun _ _ _ h => h) (Or.inl ⟨by rfl, ?_⟩) (by assumption) ?_; rotate_left; next => (intro w hSw; (try dsimp only at hSw); (try delta R_Head8_38); go_simp; try with_reducible rfl))
  ((try simp only [Act.put, List.setIfInBounds_toArray, List.set_cons_zero, List.set_cons_succ]); (try simp only [KD1.out, KD2.out, KD3.out, KD3b.out, KD6.out, KD6b.out]))
  (refine wpAnyH_take (i := 39) (oi := R_Head8_39) (v := ?_) rfl (by kernel_rfl) (by kernel_rfl) (by kernel_rfl) (fun _ _ _ h => h) (Or.inl ⟨by rfl, ?_⟩) (by assumption) ?_; rotate_left; next => (intro w hSw; (try dsimp only at hSw); (try delta R_Head8_39); go_simp; try with_reducible rfl))
  ((try simp only [Act.put, List.setIfInBounds_toArray, List.set_cons_zero, List.set_cons_succ]); (try simp only [KD1.out, KD2.out, KD3.out, KD3b.out, KD6.out, KD6b.out]))
  refine wpAnyH_done (by kernel_rfl) ?_ _
  go_wp2_with fail
  refine bodyPost_ret (results_row_tmpH rfl _ _ w.heap.size 67 #[_, _, _] (0, 0) _ rfl HE.out.1 Tryd.underlying67 rfl infoHead) rfl ?_
  exact ⟨by rw [HX.out]; dsimp only; rw [HOK.out]; simp [HD3.val, KD1.out, KD2.out, KD3.out, KD3b.out, KD6.out, KD6b.out, k3, k6], HE.out.2⟩
end
end Go.Proofs.YtlllbacjdjllbaaDoor
