
/- Contracts of package redo: a log's bytes and head are written. -/
import Derived.Test.YtlllbacjdjllbaaDoorRedo3
namespace Go.Proofs.YtlllbacjdjllbaaDoor
open Go Go.Proofs Go.Shelf Go.RowKit Go.Great
set_option linter.unusedVariables false
set_option linter.unusedSimpArgs false
abbrev R_RWr10_0 : Oper := { dst := some 56, op := Op.move (Operand.tmp 0), type := 25, pos := "redo.go:95", after := #[], guard := none }
abbrev R_RWr10_1 : Oper := { dst := some 57, op := Op.nilCheck (Operand.tmp 56), type := 0, pos := "redo.go:95", after := #[{ on := 0, ground := Ground.data }], guard := none }
abbrev R_RWr10_10 : Oper := { dst := some 66, op := Op.load 3 (Operand.tmp 65), type := 3, pos := "redo.go:95", after := #[{ on := 9, ground := Ground.data }], guard := none }
abbrev R_RWr10_11 : Oper := { dst := some 67, op := Op.fieldAddr 67 (Operand.tmp 5) 2, type := 0, pos := "redo.go:95", after := #[], guard := none }
abbrev R_RWr10_12 : Oper := { dst := some 68, op := Op.load 3 (Operand.tmp 67), type := 3, pos := "redo.go:95", after := #[{ on := 11, ground := Ground.data }], guard := none }
abbrev R_RWr10_13 : Oper := { dst := some 69, op := Op.buildSlice 112 3 #[(0, Operand.tmp 64), (1, Operand.tmp 66), (2, Operand.tmp 68)], type := 112, pos := "redo.go:95", after := #[{ on := 8, ground := Ground.data }, { on := 10, ground := Ground.data }, { on := 12, ground := Ground.data }], guard := none }
abbrev R_RWr10_14 : Oper := { dst := some 70, op := Op.call { callee := Callee.value (Operand.func 61), args := #[Operand.const (Value.slice none 0 0), Operand.tmp 69], argTypes := #[30, 112] }, type := 30, pos := "redo.go:95", after := #[{ on := 13, ground := Ground.data }], guard := none }
abbrev R_RWr10_15 : Oper := { dst := some 71, op := Op.call { callee := Callee.value (Operand.func 27), args := #[Operand.tmp 59, Operand.tmp 62, Operand.tmp 70], argTypes := #[23, 3, 30] }, type := 26, pos := "redo.go:95", after := #[{ on := 3, ground := Ground.data }, { on := 6, ground := Ground.data }, { on := 14, ground := Ground.data }, { on := 14, ground := Ground.chain }], guard := none }
abbrev R_RWr10_16 : Oper := { dst := some 12, op := Op.assign (Operand.tmp 71), type := 26, pos := "redo.go:95", after := #[{ on := 15, ground := Ground.data }, { on := 15, ground := Ground.chain }, { on := 0, ground := Ground.phase }, { on := 1, ground := Ground.phase }, { on := 2, ground := Ground.phase }, { on := 3, ground := Ground.phase }, { on := 4, ground := Ground.phase }, { on := 5, ground := Ground.phase }, { on := 6, ground := Ground.phase }, { on := 7, ground := Ground.phase }, { on := 8, ground := Ground.phase }, { on := 9, ground := Ground.phase }, { on := 10, ground := Ground.phase }, { on := 11, ground := Ground.phase }, { on := 12, ground := Ground.phase }, { on := 13, ground := Ground.phase }, { on := 14, ground := Ground.phase }, { on := 15, ground := Ground.phase }], guard := none }
abbrev R_RWr10_2 : Oper := { dst := some 58, op := Op.fieldAddr 70 (Operand.tmp 57) 0, type := 0, pos := "redo.go:95", after := #[{ on := 1, ground := Ground.data }], guard := none }
abbrev R_RWr10_3 : Oper := { dst := some 59, op := Op.load 23 (Operand.tmp 58), type := 23, pos := "redo.go:95", after := #[{ on := 2, ground := Ground.data }], guard := none }
abbrev R_RWr10_4 : Oper := { dst := some 60, op := Op.fieldAddr 67 (Operand.tmp 5) 0, type := 0, pos := "redo.go:95", after := #[], guard := none }
abbrev R_RWr10_5 : Oper := { dst := some 61, op := Op.load 3 (Operand.tmp 60), type := 3, pos := "redo.go:95", after := #[{ on := 4, ground := Ground.data }], guard := none }
abbrev R_RWr10_6 : Oper := { dst := some 62, op := Op.binOp BinOp.rem 3 (Operand.tmp 61) (Operand.const (Value.int IntKind.i64 2)) 3, type := 3, pos := "redo.go:95", after := #[{ on := 5, ground := Ground.data }], guard := none }
abbrev R_RWr10_7 : Oper := { dst := some 63, op := Op.fieldAddr 67 (Operand.tmp 5) 0, type := 0, pos := "redo.go:95", after := #[], guard := none }
abbrev R_RWr10_8 : Oper := { dst := some 64, op := Op.load 3 (Operand.tmp 63), type := 3, pos := "redo.go:95", after := #[{ on := 7, ground := Ground.data }], guard := none }
abbrev R_RWr10_9 : Oper := { dst := some 65, op := Op.fieldAddr 67 (Operand.tmp 5) 1, type := 0, pos := "redo.go:95", after := #[], guard := none }
abbrev R_RWr4_0 : Oper := { dst := some 22, op := Op.move (Operand.tmp 0), type := 25, pos := "redo.go:88", after := #[], guard := none }
abbrev R_RWr4_1 : Oper := { dst := some 23, op := Op.nilCheck (Operand.tmp 22), type := 0, pos := "redo.go:88", after := #[{ on := 0, ground := Ground.data }], guard := none }
abbrev R_RWr4_10 : Oper := { dst := some 32, op := Op.move (Operand.tmp 9), type := 3, pos := "redo.go:88", after := #[], guard := none }
abbrev R_RWr4_11 : Oper := { dst := some 33, op := Op.call { callee := Callee.value (Operand.func 36), args := #[Operand.tmp 29, Operand.tmp 31, Operand.tmp 32], argTypes := #[23, 3, 3] }, type := 3, pos := "redo.go:88", after := #[{ on := 7, ground := Ground.data }, { on := 9, ground := Ground.data }, { on := 10, ground := Ground.data }], guard := none }
abbrev R_RWr4_12 : Oper := { dst := some 34, op := Op.move (Operand.tmp 2), type := 30, pos := "redo.go:88", after := #[], guard := none }
abbrev R_RWr4_13 : Oper := { dst := some 35, op := Op.move (Operand.tmp 9), type := 3, pos := "redo.go:88", after := #[], guard := none }
abbrev R_RWr4_14 : Oper := { dst := some 36, op := Op.binOp BinOp.mul 3 (Operand.tmp 35) (Operand.const (Value.int IntKind.i64 64)) 3, type := 3, pos := "redo.go:88", after := #[{ on := 13, ground := Ground.data }], guard := none }
abbrev R_RWr4_15 : Oper := { dst := some 37, op := Op.move (Operand.tmp 9), type := 3, pos := "redo.go:88", after := #[], guard := none }
abbrev R_RWr4_16 : Oper := { dst := some 38, op := Op.binOp BinOp.add 3 (Operand.tmp 37) (Operand.const (Value.int IntKind.i64 1)) 3, type := 3, pos := "redo.go:88", after := #[{ on := 15, ground := Ground.data }], guard := none }
abbrev R_RWr4_17 : Oper := { dst := some 39, op := Op.binOp BinOp.mul 3 (Operand.tmp 38) (Operand.const (Value.int IntKind.i64 64)) 3, type := 3, pos := "redo.go:88", after := #[{ on := 16, ground := Ground.data }], guard := none }
abbrev R_RWr4_18 : Oper := { dst := some 40, op := Op.move (Operand.tmp 2), type := 30, pos := "redo.go:88", after := #[], guard := none }
abbrev R_RWr4_19 : Oper := { dst := some 41, op := Op.call { callee := Callee.builtin Builtin.len, args := #[Operand.tmp 40], argTypes := #[30] }, type := 3, pos := "redo.go:88", after := #[{ on := 18, ground := Ground.data }], guard := none }
abbrev R_RWr4_2 : Oper := { dst := some 24, op := Op.fieldAddr 70 (Operand.tmp 23) 0, type := 0, pos := "redo.go:88", after := #[{ on := 1, ground := Ground.data }], guard := none }
abbrev R_RWr4_20 : Oper := { dst := some 42, op := Op.call { callee := Callee.builtin Builtin.min, args := #[Operand.tmp 39, Operand.tmp 41], argTypes := #[3, 3] }, type := 3, pos := "redo.go:88", after := #[{ on := 17, ground := Ground.data }, { on := 19, ground := Ground.data }], guard := none }
abbrev R_RWr4_21 : Oper := { dst := some 43, op := Op.slice 30 (Operand.tmp 34) (some (Operand.tmp 36)) (some (Operand.tmp 42)) none, type := 30, pos := "redo.go:88", after := #[{ on := 12, ground := Ground.data }, { on := 14, ground := Ground.data }, { on := 20, ground := Ground.data }], guard := none }
abbrev R_RWr4_22 : Oper := { dst := some 44, op := Op.call { callee := Callee.value (Operand.func 27), args := #[Operand.tmp 25, Operand.tmp 33, Operand.tmp 43], argTypes := #[23, 3, 30] }, type := 26, pos := "redo.go:88", after := #[{ on := 3, ground := Ground.data }, { on := 11, ground := Ground.data }, { on := 21, ground := Ground.data }, { on := 11, ground := Ground.chain }], guard := none }
abbrev R_RWr4_23 : Oper := { dst := some 10, op := Op.assign (Operand.tmp 44), type := 26, pos := "redo.go:88", after := #[{ on := 22, ground := Ground.data }, { on := 22, ground := Ground.chain }, { on := 0, ground := Ground.phase }, { on := 1, ground := Ground.phase }, { on := 2, ground := Ground.phase }, { on := 3, ground := Ground.phase }, { on := 4, ground := Ground.phase }, { on := 5, ground := Ground.phase }, { on := 6, ground := Ground.phase }, { on := 7, ground := Ground.phase }, { on := 8, ground := Ground.phase }, { on := 9, ground := Ground.phase }, { on := 10, ground := Ground.phase }, { on := 11, ground := Ground.phase }, { on := 12, ground := Ground.phase }, { on := 13, ground := Ground.phase }, { on := 14, ground := Ground.phase }, { on := 15, ground := Ground.phase }, { on := 16, ground := Ground.phase }, { on := 17, ground := Ground.phase }, { on := 18, ground := Ground.phase }, { on := 19, ground := Ground.phase }, { on := 20, ground := Ground.phase }, { on := 21, ground := Ground.phase }, { on := 22, ground := Ground.phase }], guard := none }
abbrev R_RWr4_3 : Oper := { dst := some 25, op := Op.load 23 (Operand.tmp 24), type := 23, pos := "redo.go:88", after := #[{ on := 2, ground := Ground.data }], guard := none }
abbrev R_RWr4_4 : Oper := { dst := some 26, op := Op.move (Operand.tmp 0), type := 25, pos := "redo.go:88", after := #[], guard := none }
abbrev R_RWr4_5 : Oper := { dst := some 27, op := Op.nilCheck (Operand.tmp 26), type := 0, pos := "redo.go:88", after := #[{ on := 4, ground := Ground.data }], guard := none }
abbrev R_RWr4_6 : Oper := { dst := some 28, op := Op.fieldAddr 70 (Operand.tmp 27) 0, type := 0, pos := "redo.go:88", after := #[{ on := 5, ground := Ground.data }], guard := none }
abbrev R_RWr4_7 : Oper := { dst := some 29, op := Op.load 23 (Operand.tmp 28), type := 23, pos := "redo.go:88", after := #[{ on := 6, ground := Ground.data }], guard := none }
abbrev R_RWr4_8 : Oper := { dst := some 30, op := Op.fieldAddr 67 (Operand.tmp 5) 1, type := 0, pos := "redo.go:88", after := #[], guard := none }
abbrev R_RWr4_9 : Oper := { dst := some 31, op := Op.load 3 (Operand.tmp 30), type := 3, pos := "redo.go:88", after := #[{ on := 8, ground := Ground.data }], guard := none }

/-- the sectors of a bank are written, n of them from i on. -/
def wrLoop : Nat → PD → Nat → List UInt8 → Nat → Int × PD
  | 0, d, _, _, _ => (0, d)
  | n + 1, d, k, b, i =>
    if (writeP d ((2 + k * bankP d + i : Nat) : Int) (sec b i)).1 = 0 then wrLoop n (writeP d ((2 + k * bankP d + i : Nat) : Int) (sec b i)).2 k b (i + 1)
    else writeP d ((2 + k * bankP d + i : Nat) : Int) (sec b i)
def headB (number bank bytes : Int) : List UInt8 := lebInts [number, bank, bytes]
/-- what is done behind the bank: all lasts, the head, all lasts. -/
def headW (d : PD) (number bank bytes : Int) : Int × PD :=
  if (syncP d).1 = 0 then
    (if (writeP (syncP d).2 (number % 2) (headB number bank bytes)).1 = 0 then syncP (writeP (syncP d).2 (number % 2) (headB number bank bytes)).2
     else writeP (syncP d).2 (number % 2) (headB number bank bytes))
  else syncP d
def writesQ (d : PD) (number : Int) (k : Nat) (b : List UInt8) (nw i0 : Nat) : Int × PD :=
  if (wrLoop (nw - i0) d k b i0).1 = 0 then headW (wrLoop (nw - i0) d k b i0).2 number k b.length else wrLoop (nw - i0) d k b i0
def writesP (d : PD) (number : Int) (k : Nat) (b : List UInt8) (n0 : Nat) : Int × PD := writesQ d number k b ((b.length + 63) / 64) (n0 / 64)
theorem writeP_n (d : PD) (i : Int) (p : List UInt8) : (writeP d i p).2.n = d.n := by
  unfold writeP livesP
  split <;> (try split) <;> (try split) <;> rfl
theorem wrLoop_ok {n k i sj : Nat} {d d5 : PD} {b : List UInt8} (hs : sj = 2 + k * bankP d + i) (h : writeP d (sj : Int) (sec b i) = (0, d5)) : wrLoop (n + 1) d k b i = wrLoop n d5 k b (i + 1) := by
  subst hs
  rw [wrLoop, h, if_pos rfl]
theorem wrLoop_no {n k i sj : Nat} {d d5 : PD} {b : List UInt8} {e : Int} (hs : sj = 2 + k * bankP d + i) (h : writeP d (sj : Int) (sec b i) = (e, d5)) (he : e ≠ 0) : wrLoop (n + 1) d k b i = (e, d5) := by
  subst hs
  rw [wrLoop, h, if_neg he]
theorem syncP_n (d : PD) : (syncP d).2.n = d.n := by
  unfold syncP livesP
  split <;> (try split) <;> rfl
theorem writeP_w (d : PD) (i : Int) (p : List UInt8) : (writeP d i p).2.wait.length ≤ d.wait.length + 1 := by
  unfold writeP livesP
  split <;> (try split) <;> (try split) <;> simp
theorem syncP_w (d : PD) : (syncP d).2.wait.length ≤ d.wait.length := by
  unfold syncP livesP
  split <;> (try split) <;> simp
section
variable {lo D g m : Nat} {v : Value} {d : PD} {w : World}
set_option maxRecDepth 100000 in
set_option maxHeartbeats 8000000 in
theorem writes_c1 (h : DrumAt lo w D g m v d) (hn : 4 ≤ d.n) (L : Nat) (cs : List Value) (hL : BlkT w L (.pointer (some ⟨D, 0, none⟩) :: cs) tL) (number : Int) (h1 : 0 ≤ number) (h2 : number ≤ 9223372036854775807) (k : Nat) (hk : k ≤ 1) (b : List UInt8) (hb : b.length ≤ 64 * bankP d)
    (vb : Value) (hr : ∀ w', Chg lo w w' → RowAt w' vb (bytesV b)) (n0 : Nat) (hn0 : n0 ≤ b.length) (nw i0 : Nat) (hnw : (b.length + 63) / 64 = nw) (hi0 : n0 / 64 = i0) (hwl : d.wait.length ≤ 1099511000000) :
    Calls Tryd.prog 56 #[.pointer (some ⟨L, 0, none⟩), .agg #[.int .i64 number, .int .i64 (k : Int), .int .i64 (b.length : Int)], vb, .int .i64 (n0 : Int)] w fun e w' => DrumTo lo D g m w (.int .i64 (writesQ d number k b nw i0).1) (writesQ d number k b nw i0).2 e w' := by
  have HD := Lib.hid h
  have HL := Lib.hid hL
  have HR := Lib.hid hr
  clear h hL hr
  have hln : ∀ w', (Builtin.len_ #[30] 3 #[vb]).run Tryd.prog w' = .ok (.int .i64 (b.length : Int)) w' := fun w' => by have := (HR.out _ (Chg.refl _ _)).lenRun elemU 3 w'; rwa [bytesV_length] at this
  have hbq : bankP d ≤ 99 := by unfold bankP; have := HD.out.ok.n; omega
  have HIZ : Hid ((n0 : Int) / 64 = (i0 : Int)) := Lib.hid (by omega)
  have HNW := Lib.hid hnw
  have HI0 := Lib.hid hi0
  clear hnw hi0
  go_enter Tryd.func56, Tryd.ntmps56
  go_wp2_with fail
  have HA := Lib.hid (BlkT.new w [.int .i64 number, .int .i64 (k : Int), .int .i64 (b.length : Int)] 67)
  have HDa := Lib.hid (HD.out.below ((Below.refl _ w).alloc (Nat.le_refl _) (.cells #[.int .i64 number, .int .i64 (k : Int), .int .i64 (b.length : Int)] 67)))
  have HCa := Lib.hid (Chg.ofBelow (lo := lo) ((Below.refl _ w).alloc (Nat.le_refl _) (.cells #[.int .i64 number, .int .i64 (k : Int), .int .i64 (b.length : Int)] 67)))
  go_loopw [9] (fun i wr => ∃ (j : Nat) (dj : PD) (v' : Value), i = .int .i64 (j : Int) ∧ i0 ≤ j ∧ j ≤ max nw i0 ∧ DrumAt lo wr D g m v' dj ∧ Chg lo w wr ∧ BlkT wr w.heap.size [.int .i64 number, .int .i64 (k : Int), .int .i64 (b.length : Int)] 67 ∧ dj.n = d.n ∧ dj.wait.length ≤ d.wait.length + j ∧ wrLoop (nw - i0) d k b i0 = wrLoop (nw - j) dj k b j) (fun i _ => nw - (intOf i).toNat)
  case atStart => exact ⟨i0, d, v, congrArg (Value.int .i64) HIZ.out, Nat.le_refl _, Nat.le_max_right _ _, HDa.out, HCa.out, HA.out, rfl, Nat.le_add_right _ _, rfl⟩
  case round =>
    obtain ⟨j, dj, v', rfl, hij, hjn, hdj, hcj, haj, hnj, hwj, hlj⟩ := hrel
    by_cases hj : j * 64 < b.length
    · have hj1 : (j : Int) * 64 < (b.length : Int) := by omega
      have t0 := (HL.out.chg hcj (by decide)).blk.cell 0 _ rfl
      have a1 := haj.blk.cell 1 _ rfl
      have HDj := Lib.hid (hdj.below (Below.refl _ wr).drew)
      have HCj := Lib.hid (hcj.trans (Chg.ofBelow (Below.refl _ wr).drew))
      have HAj := Lib.hid (haj.below (Below.refl _ wr).drew)
      have hbj : bankP dj = bankP d := by unfold bankP; rw [hnj]
      have HSC := Lib.hid (sector_c HDj.out (by omega) k j hk (by omega))
      rw [hbj] at HSC
      obtain ⟨sj, hsj⟩ : ∃ sj : Nat, sj = 2 + k * bankP d + j := ⟨_, rfl⟩
      rw [← hsj] at HSC
      obtain ⟨x, hx⟩ : ∃ x : Nat, x = j * 64 := ⟨_, rfl⟩
      obtain ⟨y, hy⟩ : ∃ y : Nat, y = j + 1 := ⟨_, rfl⟩
      obtain ⟨z, hz⟩ : ∃ z : Nat, z = y * 64 := ⟨_, rfl⟩
      obtain ⟨mm, hmm⟩ : ∃ mm : Nat, mm = min z b.length := ⟨_, rfl⟩
      have wx : IntKind.i64.wrap ((j : Int) * 64) = (x : Int) := by rw [IntKind.wrap_i64]; omega
      have wy : IntKind.i64.wrap ((j : Int) + 1) = (y : Int) := by rw [IntKind.wrap_i64]; omega
      have wz : IntKind.i64.wrap ((y : Int) * 64) = (z : Int) := by rw [IntKind.wrap_i64]; omega
      have wm : min (z : Int) (b.length : Int) = (mm : Int) := by omega
      obtain ⟨sv, hsr, hsa, hsp⟩ := (HR.out _ HCj.out).sliceLoHi elemU elemSz x mm (by omega) (by rw [bytesV_length]; omega)
      have hsb : ((bytesV b).drop x).take (mm - x) = bytesV (sec b j) := by
        unfold sec bytesV
        rw [← List.map_drop, ← List.map_take, hx, Nat.mul_comm j 64]
        congr 1
        rw [List.take_eq_take_iff, List.length_drop]
        omega
      rw [hsb] at hsa
      obtain ⟨sa, sc, rfl⟩ := hsa.shapeB
      have hsk : ∀ w', Chg lo wr.drew w' → RowAt w' (.slice sa (sec b j).length sc) (bytesV (sec b j)) := fun w' hc' => by
        obtain ⟨sv', hsr', hsa', _⟩ := (HR.out _ (HCj.out.trans hc')).sliceLoHi elemU elemSz x mm (by omega) (by rw [bytesV_length]; omega)
        have e := (hsr wr .i64 .i64).symm.trans (hsr' wr .i64 .i64)
        simp only [Result.ok.injEq] at e
        rw [hsb, ← e.1] at hsa'
        exact hsa'
      have HWR := Lib.hid (Write_c HDj.out (sj : Int) sa sc (sec b j) hsa hsk (by omega))
      have hj2 : x < b.length := by omega
      have HX := Lib.hid (show x = j * 64 ∧ y = j + 1 from ⟨hx, hy⟩)
      have HSJ := Lib.hid hsj
      have HWN := Lib.hid (show (writeP dj (sj : Int) (sec b j)).2.n = d.n ∧ (writeP dj (sj : Int) (sec b j)).2.wait.length ≤ d.wait.length + (j + 1) from ⟨by rw [writeP_n, hnj], by have := writeP_w dj (sj : Int) (sec b j); omega⟩)
      generalize hww : writeP dj (sj : Int) (sec b j) = ww at *
      obtain ⟨e5, d5⟩ := ww
      have HWW := Lib.hid hww
      clear haj hcj hdj hsk hsa hsb hsp hx hy hz hmm hsj hww
      dsimp only at HWR HWN
      go_wp2_with fail
      refine wp_region_held_drew (S := (fun W => W.cell? ⟨L, 0, none⟩ = some (.pointer (some ⟨D, 0, none⟩)) ∧ W.cell? ⟨w.heap.size, 1, none⟩ = some (.int .i64 (k : Int)))) (by kernel_rfl) ?_ (fun hHeld => ?_)
      · (exact ⟨t0, a1⟩)
      (refine wpAnyH_take (i := 0) (oi := R_RWr4_0) (v := ?_) rfl (by kernel_rfl) (by kernel_rfl) (by kernel_rfl) (fun _ _ _ h => h) (Or.inl ⟨by rfl, ?_⟩) (by assumption) ?_; rotate_left; next => (intro w hSw; (try dsimp only at hSw); (try delta R_RWr4_0); go_simp; try with_reducible rfl))
      (try simp only [Act.put, List.setIfInBounds_toArray, List.set_cons_zero, List.set_cons_succ])
      (refine wpAnyH_take (i := 1) (oi := R_RWr4_1) (v := ?_) rfl (by kernel_rfl) (by kernel_rfl) (by kernel_rfl) (fun _ _ _ h => h) (Or.inl ⟨by rfl, ?_⟩) (by assumption) ?_; rotate_left; next => (intro w hSw; (try dsimp only at hSw); (try delta R_RWr4_1); go_simp; try with_reducible rfl))
      (try simp only [Act.put, List.setIfInBounds_toArray, List.set_cons_zero, List.set_cons_succ])
      (refine wpAnyH_take (i := 2) (oi := R_RWr4_2) (v := ?_) rfl (by kernel_rfl) (by kernel_rfl) (by kernel_rfl) (fun _ _ _ h => h) (Or.inl ⟨by rfl, ?_⟩) (by assumption) ?_; rotate_left; next => (intro w hSw; (try dsimp only at hSw); (try delta R_RWr4_2); go_simp; try with_reducible rfl))
      (try simp only [Act.put, List.setIfInBounds_toArray, List.set_cons_zero, List.set_cons_succ])
      (refine wpAnyH_take (i := 3) (oi := R_RWr4_3) (v := ?_) rfl (by kernel_rfl) (by kernel_rfl) (by kernel_rfl) (fun _ _ _ h => h) (Or.inl ⟨by rfl, ?_⟩) (by assumption) ?_; rotate_left; next => (intro w hSw; (try dsimp only at hSw); (try delta R_RWr4_3); go_simp; try with_reducible rfl))
      (try simp only [Act.put, List.setIfInBounds_toArray, List.set_cons_zero, List.set_cons_succ])
      (refine wpAnyH_take (i := 4) (oi := R_RWr4_4) (v := ?_) rfl (by kernel_rfl) (by kernel_rfl) (by kernel_rfl) (fun _ _ _ h => h) (Or.inl ⟨by rfl, ?_⟩) (by assumption) ?_; rotate_left; next => (intro w hSw; (try dsimp only at hSw); (try delta R_RWr4_4); go_simp; try with_reducible rfl))
      (try simp only [Act.put, List.setIfInBounds_toArray, List.set_cons_zero, List.set_cons_succ])
      (refine wpAnyH_take (i := 5) (oi := R_RWr4_5) (v := ?_) rfl (by kernel_rfl) (by kernel_rfl) (by kernel_rfl) (fun _ _ _ h => h) (Or.inl ⟨by rfl, ?_⟩) (by assumption) ?_; rotate_left; next => (intro w hSw; (try dsimp only at hSw); (try delta R_RWr4_5); go_simp; try with_reducible rfl))
      (try simp only [Act.put, List.setIfInBounds_toArray, List.set_cons_zero, List.set_cons_succ])
      (refine wpAnyH_take (i := 6) (oi := R_RWr4_6) (v := ?_) rfl (by kernel_rfl) (by kernel_rfl) (by kernel_rfl) (fun _ _ _ h => h) (Or.inl ⟨by rfl, ?_⟩) (by assumption) ?_; rotate_left; next => (intro w hSw; (try dsimp only at hSw); (try delta R_RWr4_6); go_simp; try with_reducible rfl))
      (try simp only [Act.put, List.setIfInBounds_toArray, List.set_cons_zero, List.set_cons_succ])
      (refine wpAnyH_take (i := 7) (oi := R_RWr4_7) (v := ?_) rfl (by kernel_rfl) (by kernel_rfl) (by kernel_rfl) (fun _ _ _ h => h) (Or.inl ⟨by rfl, ?_⟩) (by assumption) ?_; rotate_left; next => (intro w hSw; (try dsimp only at hSw); (try delta R_RWr4_7); go_simp; try with_reducible rfl))
      (try simp only [Act.put, List.setIfInBounds_toArray, List.set_cons_zero, List.set_cons_succ])
      (refine wpAnyH_take (i := 8) (oi := R_RWr4_8) (v := ?_) rfl (by kernel_rfl) (by kernel_rfl) (by kernel_rfl) (fun _ _ _ h => h) (Or.inl ⟨by rfl, ?_⟩) (by assumption) ?_; rotate_left; next => (intro w hSw; (try dsimp only at hSw); (try delta R_RWr4_8); go_simp; try with_reducible rfl))
      (try simp only [Act.put, List.setIfInBounds_toArray, List.set_cons_zero, List.set_cons_succ])
      (refine wpAnyH_take (i := 9) (oi := R_RWr4_9) (v := ?_) rfl (by kernel_rfl) (by kernel_rfl) (by kernel_rfl) (fun _ _ _ h => h) (Or.inl ⟨by rfl, ?_⟩) (by assumption) ?_; rotate_left; next => (intro w hSw; (try dsimp only at hSw); (try delta R_RWr4_9); go_simp; try with_reducible rfl))
      (try simp only [Act.put, List.setIfInBounds_toArray, List.set_cons_zero, List.set_cons_succ])
      (refine wpAnyH_take (i := 10) (oi := R_RWr4_10) (v := ?_) rfl (by kernel_rfl) (by kernel_rfl) (by kernel_rfl) (fun _ _ _ h => h) (Or.inl ⟨by rfl, ?_⟩) (by assumption) ?_; rotate_left; next => (intro w hSw; (try dsimp only at hSw); (try delta R_RWr4_10); go_simp; try with_reducible rfl))
      (try simp only [Act.put, List.setIfInBounds_toArray, List.set_cons_zero, List.set_cons_succ])
      (refine wpAnyH_take (i := 12) (oi := R_RWr4_12) (v := ?_) rfl (by kernel_rfl) (by kernel_rfl) (by kernel_rfl) (fun _ _ _ h => h) (Or.inl ⟨by rfl, ?_⟩) (by assumption) ?_; rotate_left; next => (intro w hSw; (try dsimp only at hSw); (try delta R_RWr4_12); go_simp; try with_reducible rfl))
      (try simp only [Act.put, List.setIfInBounds_toArray, List.set_cons_zero, List.set_cons_succ])
      (refine wpAnyH_take (i := 13) (oi := R_RWr4_13) (v := ?_) rfl (by kernel_rfl) (by kernel_rfl) (by kernel_rfl) (fun _ _ _ h => h) (Or.inl ⟨by rfl, ?_⟩) (by assumption) ?_; rotate_left; next => (intro w hSw; (try dsimp only at hSw); (try delta R_RWr4_13); go_simp; try with_reducible rfl))
      (try simp only [Act.put, List.setIfInBounds_toArray, List.set_cons_zero, List.set_cons_succ])
      (refine wpAnyH_take (i := 14) (oi := R_RWr4_14) (v := ?_) rfl (by kernel_rfl) (by kernel_rfl) (by kernel_rfl) (fun _ _ _ h => h) (Or.inl ⟨by rfl, ?_⟩) (by assumption) ?_; rotate_left; next => (intro w hSw; (try dsimp only at hSw); (try delta R_RWr4_14); go_simp; try with_reducible rfl))
      (try simp only [Act.put, List.setIfInBounds_toArray, List.set_cons_zero, List.set_cons_succ])
      (refine wpAnyH_take (i := 15) (oi := R_RWr4_15) (v := ?_) rfl (by kernel_rfl) (by kernel_rfl) (by kernel_rfl) (fun _ _ _ h => h) (Or.inl ⟨by rfl, ?_⟩) (by assumption) ?_; rotate_left; next => (intro w hSw; (try dsimp only at hSw); (try delta R_RWr4_15); go_simp; try with_reducible rfl))
      (try simp only [Act.put, List.setIfInBounds_toArray, List.set_cons_zero, List.set_cons_succ])
      (refine wpAnyH_take (i := 16) (oi := R_RWr4_16) (v := ?_) rfl (by kernel_rfl) (by kernel_rfl) (by kernel_rfl) (fun _ _ _ h => h) (Or.inl ⟨by rfl, ?_⟩) (by assumption) ?_; rotate_left; next => (intro w hSw; (try dsimp only at hSw); (try delta R_RWr4_16); go_simp; try with_reducible rfl))
      (try simp only [Act.put, List.setIfInBounds_toArray, List.set_cons_zero, List.set_cons_succ])
      (refine wpAnyH_take (i := 17) (oi := R_RWr4_17) (v := ?_) rfl (by kernel_rfl) (by kernel_rfl) (by kernel_rfl) (fun _ _ _ h => h) (Or.inl ⟨by rfl, ?_⟩) (by assumption) ?_; rotate_left; next => (intro w hSw; (try dsimp only at hSw); (try delta R_RWr4_17); go_simp; try with_reducible rfl))
      (try simp only [Act.put, List.setIfInBounds_toArray, List.set_cons_zero, List.set_cons_succ])
      (refine wpAnyH_take (i := 18) (oi := R_RWr4_18) (v := ?_) rfl (by kernel_rfl) (by kernel_rfl) (by kernel_rfl) (fun _ _ _ h => h) (Or.inl ⟨by rfl, ?_⟩) (by assumption) ?_; rotate_left; next => (intro w hSw; (try dsimp only at hSw); (try delta R_RWr4_18); go_simp; try with_reducible rfl))
      (try simp only [Act.put, List.setIfInBounds_toArray, List.set_cons_zero, List.set_cons_succ])
      (refine wpAnyH_take (i := 19) (oi := R_RWr4_19) (v := ?_) rfl (by kernel_rfl) (by kernel_rfl) (by kernel_rfl) (fun _ _ _ h => h) (Or.inl ⟨by rfl, ?_⟩) (by assumption) ?_; rotate_left; next => (intro w hSw; (try dsimp only at hSw); (try delta R_RWr4_19); go_simp; try with_reducible rfl))
      (try simp only [Act.put, List.setIfInBounds_toArray, List.set_cons_zero, List.set_cons_succ])
      (refine wpAnyH_take (i := 20) (oi := R_RWr4_20) (v := ?_) rfl (by kernel_rfl) (by kernel_rfl) (by kernel_rfl) (fun _ _ _ h => h) (Or.inl ⟨by rfl, ?_⟩) (by assumption) ?_; rotate_left; next => (intro w hSw; (try dsimp only at hSw); (try delta R_RWr4_20); go_simp; try with_reducible rfl))
      (try simp only [Act.put, List.setIfInBounds_toArray, List.set_cons_zero, List.set_cons_succ])
      (refine wpAnyH_take (i := 21) (oi := R_RWr4_21) (v := ?_) rfl (by kernel_rfl) (by kernel_rfl) (by kernel_rfl) (fun _ _ _ h => h) (Or.inl ⟨by rfl, ?_⟩) (by assumption) ?_; rotate_left; next => (intro w hSw; (try dsimp only at hSw); (try delta R_RWr4_21); go_simp; try with_reducible rfl))
      (try simp only [Act.put, List.setIfInBounds_toArray, List.set_cons_zero, List.set_cons_succ])
      refine wpAnyH_ready (rs := [11]) (by kernel_rfl) (by simp) ?_
      refine AllReadyH.cons (o := R_RWr4_11) rfl (fun K hK => ?_) AllReadyH.nil
      (try delta R_RWr4_11)
      go_simp
      (first | (go_at_call 36; (with_reducible refine (HSC.out).mono ?_); rintro e wz ⟨rfl, rfl⟩) | (go_at_call 27; (with_reducible refine (HWR.out).mono ?_); rintro e w5 ⟨v5, rfl, hd5, hc5⟩; have HD5 := Lib.hid hd5; have HC5 := Lib.hid hc5; have t0 := (HL.out.chg (HCj.out.trans hc5) (by decide)).blk.cell 0 _ rfl; have a1 := (HAj.out.chg hc5 (by decide)).blk.cell 1 _ rfl; clear hd5 hc5))
      (try go_wp2_with fail)
      refine hK.out _ _ ?_ (fun hHeld => ?_)
      · (exact ⟨t0, a1⟩)
      clear hK K
      (try simp only [Act.put, List.setIfInBounds_toArray, List.set_cons_zero, List.set_cons_succ])
      refine wpAnyH_ready (rs := [22]) (by kernel_rfl) (by simp) ?_
      refine AllReadyH.cons (o := R_RWr4_22) rfl (fun K hK => ?_) AllReadyH.nil
      (try delta R_RWr4_22)
      go_simp
      (first | (go_at_call 36; (with_reducible refine (HSC.out).mono ?_); rintro e wz ⟨rfl, rfl⟩) | (go_at_call 27; (with_reducible refine (HWR.out).mono ?_); rintro e w5 ⟨v5, rfl, hd5, hc5⟩; have HD5 := Lib.hid hd5; have HC5 := Lib.hid hc5; have t0 := (HL.out.chg (HCj.out.trans hc5) (by decide)).blk.cell 0 _ rfl; have a1 := (HAj.out.chg hc5 (by decide)).blk.cell 1 _ rfl; clear hd5 hc5))
      (try go_wp2_with fail)
      refine hK.out _ _ ?_ (fun hHeld => ?_)
      · (exact ⟨t0, a1⟩)
      clear hK K
      (try simp only [Act.put, List.setIfInBounds_toArray, List.set_cons_zero, List.set_cons_succ])
      (refine wpAnyH_take (i := 23) (oi := R_RWr4_23) (v := ?_) rfl (by kernel_rfl) (by kernel_rfl) (by kernel_rfl) (fun _ _ _ h => h) (Or.inl ⟨by rfl, ?_⟩) (by assumption) ?_; rotate_left; next => (intro w hSw; (try dsimp only at hSw); (try delta R_RWr4_23); go_simp; try with_reducible rfl))
      (try simp only [Act.put, List.setIfInBounds_toArray, List.set_cons_zero, List.set_cons_succ])
      refine wpAnyH_done (by kernel_rfl) ?_ _
      by_cases he : e5 = 0
      · subst he
        go_wp2_with fail
        have hnj' : nw - j = (nw - (j + 1)) + 1 := by have := HNW.out; omega
        obtain ⟨hx, hy⟩ := HX.out
        subst hy
        refine ⟨⟨j + 1, d5, v5, rfl, by omega, by have := HNW.out; omega, HD5.out, HCj.out.trans HC5.out, HAj.out.chg HC5.out (by decide), HWN.out.1, HWN.out.2, ?_⟩, ?_⟩
        · rw [hlj, hnj', wrLoop_ok (by rw [hbj]; exact HSJ.out) HWW.out]
        · simp only [intOf]; omega
      · go_wp2_with fail
        go_ret
        have hnj' : nw - j = (nw - (j + 1)) + 1 := by have := HNW.out; omega
        have hq : writesQ d number k b nw i0 = (e5, d5) := by
          unfold writesQ
          rw [hlj, hnj', wrLoop_no (by rw [hbj]; exact HSJ.out) HWW.out he, if_neg he]
        rw [hq]
        exact ⟨v5, rfl, HD5.out, HCj.out.trans HC5.out⟩
    · have hj1 : ¬ (j : Int) * 64 < (b.length : Int) := by omega
      have hj9 : j ≤ 200 := by have := HNW.out; have := HI0.out; omega
      obtain ⟨x, hx⟩ : ∃ x : Nat, x = j * 64 := ⟨_, rfl⟩
      have wx : wrap64 ((j : Int) * 64) = (x : Int) := by unfold wrap64; omega
      have hj2 : ¬ x < b.length := by omega
      clear hx
      have t0 := (HL.out.chg hcj (by decide)).blk.cell 0 _ rfl
      have HDj := Lib.hid hdj
      have HCj := Lib.hid hcj
      have HAj := Lib.hid haj
      have hz : nw - j = 0 := by have := HNW.out; omega
      have hlz : wrLoop (nw - i0) d k b i0 = (0, dj) := by rw [hlj, hz]; rfl
      have HQ : Hid (writesQ d number k b nw i0 = headW dj number k b.length) := Lib.hid (by unfold writesQ; rw [hlz, if_pos rfl])
      clear haj hcj hdj hlz hz hlj
      have HS := Lib.hid (Sync_c HDj.out)
      have HSW := Lib.hid (show (syncP dj).2.wait.length ≤ 1099511000000 + 200 ∧ (syncP dj).2.n = d.n from ⟨by have := syncP_w dj; have := HNW.out; have := HI0.out; omega, by rw [syncP_n, hnj]⟩)
      generalize hsp : syncP dj = sp at *
      obtain ⟨e1, d1⟩ := sp
      have HSP := Lib.hid hsp
      clear hsp
      by_cases he : e1 = 0
      · subst he
        go_wp2_with (first | (go_at_call 65; (with_reducible refine (HS.out).mono ?_); rintro e w1 ⟨v1, rfl, hd1, hc1⟩; have HD1 := Lib.hid hd1; have HC1 := Lib.hid hc1; clear hd1 hc1) | fail)
        have t0 := (HL.out.chg (HCj.out.trans HC1.out) (by decide)).blk.cell 0 _ rfl
        have HA1 := Lib.hid ((HAj.out.chg HC1.out (by decide)).below (Below.refl _ w1).drew)
        have a0 := HA1.out.blk.cell 0 _ rfl
        have a1 := HA1.out.blk.cell 1 _ rfl
        have a2 := HA1.out.blk.cell 2 _ rfl
        have htm : number.tmod 2 = number % 2 := Int.tmod_eq_emod_of_nonneg h1
        have HK4 : Hid (∀ W, Below w1.heap.size w1 W → W.cell? ⟨L, 0, none⟩ = some (.pointer (some ⟨D, 0, none⟩)) ∧ W.cell? ⟨w.heap.size, 0, none⟩ = some (.int .i64 number) ∧ W.cell? ⟨w.heap.size, 1, none⟩ = some (.int .i64 (k : Int)) ∧ W.cell? ⟨w.heap.size, 2, none⟩ = some (.int .i64 (b.length : Int))) := Lib.hid (fun W hb => by
          have q := (HAj.out.chg HC1.out (by decide)).below hb
          exact ⟨((HL.out.chg (HCj.out.trans HC1.out) (by decide)).below hb).blk.cell 0 _ rfl, q.blk.cell 0 _ rfl, q.blk.cell 1 _ rfl, q.blk.cell 2 _ rfl⟩)
        have HBA : Hid (Below w1.heap.size w1 (w1.alloc (.cells #[.int .i64 number, .int .i64 (k : Int), .int .i64 (b.length : Int)] 3)).drew) := Lib.hid ((Below.refl _ w1).alloc (Nat.le_refl _) _).drew
        have HIN : Hid (Calls Tryd.prog 61 #[.slice none 0 0, .slice (some ⟨w1.heap.size, 0, none⟩) 3 3] (w1.alloc (.cells #[.int .i64 number, .int .i64 (k : Int), .int .i64 (b.length : Int)] 3)).drew (OwnB (w1.alloc (.cells #[.int .i64 number, .int .i64 (k : Int), .int .i64 (b.length : Int)] 3)).drew (headB number k b.length))) := Lib.hid (by
          have q := Int_c (.slice none 0 0) (.slice (some ⟨w1.heap.size, 0, none⟩) 3 3) [] [number, (k : Int), (b.length : Int)] (w1.alloc (.cells #[.int .i64 number, .int .i64 (k : Int), .int .i64 (b.length : Int)] 3)).drew (RowAt.nil _) (show RowAt (w1.alloc (.cells #[.int .i64 number, .int .i64 (k : Int), .int .i64 (b.length : Int)] 3)).drew _ (intsV [number, (k : Int), (b.length : Int)]) from (RowAt.new (hc := by simp) w1 [.int .i64 number, .int .i64 (k : Int), .int .i64 (b.length : Int)] 3 3 (by simp [maxLen])).below (Below.refl _ _).drew) (by intro n hn; simp only [List.mem_cons, List.not_mem_nil, or_false] at hn; rcases hn with rfl | rfl | rfl <;> omega) (by simp)
          rw [List.nil_append] at q
          exact q)
        obtain ⟨hb3, HB3⟩ : ∃ hb3, Hid (headB number k b.length = hb3) := ⟨_, Lib.hid rfl⟩
        rw [HB3.out] at HIN
        obtain ⟨wp, HWP⟩ : ∃ wp, Hid (writeP d1 (number % 2) hb3 = wp) := ⟨_, Lib.hid rfl⟩
        obtain ⟨e2, d2⟩ := wp
        refine wp_region_held_drew (S := (fun W => W.cell? ⟨L, 0, none⟩ = some (.pointer (some ⟨D, 0, none⟩)) ∧ W.cell? ⟨w.heap.size, 0, none⟩ = some (.int .i64 number) ∧ W.cell? ⟨w.heap.size, 1, none⟩ = some (.int .i64 (k : Int)) ∧ W.cell? ⟨w.heap.size, 2, none⟩ = some (.int .i64 (b.length : Int)))) (by kernel_rfl) ?_ (fun hHeld => ?_)
        · (first | exact ⟨t0, a0, a1, a2⟩ | exact HK4.out _ HBA.out | exact HK4.out _ HB6.out )
        (refine wpAnyH_take (i := 0) (oi := R_RWr10_0) (v := ?_) rfl (by kernel_rfl) (by kernel_rfl) (by kernel_rfl) (fun _ _ _ h => h) (Or.inl ⟨by rfl, ?_⟩) (by assumption) ?_; rotate_left; next => (intro w hSw; (try dsimp only at hSw); (try delta R_RWr10_0); go_simp; try with_reducible rfl))
        (try simp only [Act.put, List.setIfInBounds_toArray, List.set_cons_zero, List.set_cons_succ])
        (refine wpAnyH_take (i := 1) (oi := R_RWr10_1) (v := ?_) rfl (by kernel_rfl) (by kernel_rfl) (by kernel_rfl) (fun _ _ _ h => h) (Or.inl ⟨by rfl, ?_⟩) (by assumption) ?_; rotate_left; next => (intro w hSw; (try dsimp only at hSw); (try delta R_RWr10_1); go_simp; try with_reducible rfl))
        (try simp only [Act.put, List.setIfInBounds_toArray, List.set_cons_zero, List.set_cons_succ])
        (refine wpAnyH_take (i := 2) (oi := R_RWr10_2) (v := ?_) rfl (by kernel_rfl) (by kernel_rfl) (by kernel_rfl) (fun _ _ _ h => h) (Or.inl ⟨by rfl, ?_⟩) (by assumption) ?_; rotate_left; next => (intro w hSw; (try dsimp only at hSw); (try delta R_RWr10_2); go_simp; try with_reducible rfl))
        (try simp only [Act.put, List.setIfInBounds_toArray, List.set_cons_zero, List.set_cons_succ])
        (refine wpAnyH_take (i := 3) (oi := R_RWr10_3) (v := ?_) rfl (by kernel_rfl) (by kernel_rfl) (by kernel_rfl) (fun _ _ _ h => h) (Or.inl ⟨by rfl, ?_⟩) (by assumption) ?_; rotate_left; next => (intro w hSw; (try dsimp only at hSw); (try delta R_RWr10_3); go_simp; try with_reducible rfl))
        (try simp only [Act.put, List.setIfInBounds_toArray, List.set_cons_zero, List.set_cons_succ])
        (refine wpAnyH_take (i := 4) (oi := R_RWr10_4) (v := ?_) rfl (by kernel_rfl) (by kernel_rfl) (by kernel_rfl) (fun _ _ _ h => h) (Or.inl ⟨by rfl, ?_⟩) (by assumption) ?_; rotate_left; next => (intro w hSw; (try dsimp only at hSw); (try delta R_RWr10_4); go_simp; try with_reducible rfl))
        (try simp only [Act.put, List.setIfInBounds_toArray, List.set_cons_zero, List.set_cons_succ])
        (refine wpAnyH_take (i := 5) (oi := R_RWr10_5) (v := ?_) rfl (by kernel_rfl) (by kernel_rfl) (by kernel_rfl) (fun _ _ _ h => h) (Or.inl ⟨by rfl, ?_⟩) (by assumption) ?_; rotate_left; next => (intro w hSw; (try dsimp only at hSw); (try delta R_RWr10_5); go_simp; try with_reducible rfl))
        (try simp only [Act.put, List.setIfInBounds_toArray, List.set_cons_zero, List.set_cons_succ])
        (refine wpAnyH_take (i := 6) (oi := R_RWr10_6) (v := ?_) rfl (by kernel_rfl) (by kernel_rfl) (by kernel_rfl) (fun _ _ _ h => h) (Or.inl ⟨by rfl, ?_⟩) (by assumption) ?_; rotate_left; next => (intro w hSw; (try dsimp only at hSw); (try delta R_RWr10_6); go_simp; try with_reducible rfl))
        (try simp only [Act.put, List.setIfInBounds_toArray, List.set_cons_zero, List.set_cons_succ])
        (refine wpAnyH_take (i := 7) (oi := R_RWr10_7) (v := ?_) rfl (by kernel_rfl) (by kernel_rfl) (by kernel_rfl) (fun _ _ _ h => h) (Or.inl ⟨by rfl, ?_⟩) (by assumption) ?_; rotate_left; next => (intro w hSw; (try dsimp only at hSw); (try delta R_RWr10_7); go_simp; try with_reducible rfl))
        (try simp only [Act.put, List.setIfInBounds_toArray, List.set_cons_zero, List.set_cons_succ])
        (refine wpAnyH_take (i := 8) (oi := R_RWr10_8) (v := ?_) rfl (by kernel_rfl) (by kernel_rfl) (by kernel_rfl) (fun _ _ _ h => h) (Or.inl ⟨by rfl, ?_⟩) (by assumption) ?_; rotate_left; next => (intro w hSw; (try dsimp only at hSw); (try delta R_RWr10_8); go_simp; try with_reducible rfl))
        (try simp only [Act.put, List.setIfInBounds_toArray, List.set_cons_zero, List.set_cons_succ])
        (refine wpAnyH_take (i := 9) (oi := R_RWr10_9) (v := ?_) rfl (by kernel_rfl) (by kernel_rfl) (by kernel_rfl) (fun _ _ _ h => h) (Or.inl ⟨by rfl, ?_⟩) (by assumption) ?_; rotate_left; next => (intro w hSw; (try dsimp only at hSw); (try delta R_RWr10_9); go_simp; try with_reducible rfl))
        (try simp only [Act.put, List.setIfInBounds_toArray, List.set_cons_zero, List.set_cons_succ])
        (refine wpAnyH_take (i := 10) (oi := R_RWr10_10) (v := ?_) rfl (by kernel_rfl) (by kernel_rfl) (by kernel_rfl) (fun _ _ _ h => h) (Or.inl ⟨by rfl, ?_⟩) (by assumption) ?_; rotate_left; next => (intro w hSw; (try dsimp only at hSw); (try delta R_RWr10_10); go_simp; try with_reducible rfl))
        (try simp only [Act.put, List.setIfInBounds_toArray, List.set_cons_zero, List.set_cons_succ])
        (refine wpAnyH_take (i := 11) (oi := R_RWr10_11) (v := ?_) rfl (by kernel_rfl) (by kernel_rfl) (by kernel_rfl) (fun _ _ _ h => h) (Or.inl ⟨by rfl, ?_⟩) (by assumption) ?_; rotate_left; next => (intro w hSw; (try dsimp only at hSw); (try delta R_RWr10_11); go_simp; try with_reducible rfl))
        (try simp only [Act.put, List.setIfInBounds_toArray, List.set_cons_zero, List.set_cons_succ])
        (refine wpAnyH_take (i := 12) (oi := R_RWr10_12) (v := ?_) rfl (by kernel_rfl) (by kernel_rfl) (by kernel_rfl) (fun _ _ _ h => h) (Or.inl ⟨by rfl, ?_⟩) (by assumption) ?_; rotate_left; next => (intro w hSw; (try dsimp only at hSw); (try delta R_RWr10_12); go_simp; try with_reducible rfl))
        (try simp only [Act.put, List.setIfInBounds_toArray, List.set_cons_zero, List.set_cons_succ])
        refine wpAnyH_ready (rs := [13]) (by kernel_rfl) (by simp) ?_
        refine AllReadyH.cons (o := R_RWr10_13) rfl (fun K hK => ?_) AllReadyH.nil
        (try delta R_RWr10_13)
        go_simp
        (first | (go_at_call 61; (with_reducible refine (HIN.out).mono ?_); rintro e w6 ⟨vr, rfl, hown6, hb6⟩; have hr6 := RowAt.ofOwns hown6; obtain ⟨ra, rc, rfl⟩ := hr6.shapeB; have HB6 := Lib.hid (HBA.out.trans (hb6.mono HBA.out.size)); have q6 := Write_c (HD1.out.below HB6.out) (number % 2) ra rc _ hr6 (fun w' hc' => RowAt.ofOwns (own_chg hown6 hc' (by decide))) (by have := HSW.out.1; (try dsimp only at this); omega); rw [HWP.out] at q6; have HW6 := Lib.hid q6; clear hown6 hb6 hr6 q6) | (go_at_call 27; (with_reducible refine (HW6.out).mono ?_); rintro e w7 ⟨v7, rfl, hd7, hc7⟩; have HD7 := Lib.hid hd7; have HC7 := Lib.hid ((HCj.out.trans HC1.out).trans ((Chg.ofBelow HB6.out).trans hc7)); have q7 := ((HAj.out.chg HC1.out (by decide)).below HB6.out).chg hc7 (by decide); have p7 := ((HL.out.chg (HCj.out.trans HC1.out) (by decide)).below HB6.out).chg hc7 (by decide); have t0 := p7.blk.cell 0 _ rfl; have a0 := q7.blk.cell 0 _ rfl; have a1 := q7.blk.cell 1 _ rfl; have a2 := q7.blk.cell 2 _ rfl; clear hd7 hc7) | (fail_if_success (go_at_call 61); fail_if_success (go_at_call 27)))
        (try go_wp2_with fail)
        refine hK.out _ _ ?_ (fun hHeld => ?_)
        · (first | exact ⟨t0, a0, a1, a2⟩ | exact HK4.out _ HBA.out | exact HK4.out _ HB6.out )
        clear hK K
        (try simp only [Act.put, List.setIfInBounds_toArray, List.set_cons_zero, List.set_cons_succ])
        refine wpAnyH_ready (rs := [14]) (by kernel_rfl) (by simp) ?_
        refine AllReadyH.cons (o := R_RWr10_14) rfl (fun K hK => ?_) AllReadyH.nil
        (try delta R_RWr10_14)
        go_simp
        (first | (go_at_call 61; (with_reducible refine (HIN.out).mono ?_); rintro e w6 ⟨vr, rfl, hown6, hb6⟩; have hr6 := RowAt.ofOwns hown6; obtain ⟨ra, rc, rfl⟩ := hr6.shapeB; have HB6 := Lib.hid (HBA.out.trans (hb6.mono HBA.out.size)); have q6 := Write_c (HD1.out.below HB6.out) (number % 2) ra rc _ hr6 (fun w' hc' => RowAt.ofOwns (own_chg hown6 hc' (by decide))) (by have := HSW.out.1; (try dsimp only at this); omega); rw [HWP.out] at q6; have HW6 := Lib.hid q6; clear hown6 hb6 hr6 q6) | (go_at_call 27; (with_reducible refine (HW6.out).mono ?_); rintro e w7 ⟨v7, rfl, hd7, hc7⟩; have HD7 := Lib.hid hd7; have HC7 := Lib.hid ((HCj.out.trans HC1.out).trans ((Chg.ofBelow HB6.out).trans hc7)); have q7 := ((HAj.out.chg HC1.out (by decide)).below HB6.out).chg hc7 (by decide); have p7 := ((HL.out.chg (HCj.out.trans HC1.out) (by decide)).below HB6.out).chg hc7 (by decide); have t0 := p7.blk.cell 0 _ rfl; have a0 := q7.blk.cell 0 _ rfl; have a1 := q7.blk.cell 1 _ rfl; have a2 := q7.blk.cell 2 _ rfl; clear hd7 hc7) | (fail_if_success (go_at_call 61); fail_if_success (go_at_call 27)))
        (try go_wp2_with fail)
        refine hK.out _ _ ?_ (fun hHeld => ?_)
        · (first | exact ⟨t0, a0, a1, a2⟩ | exact HK4.out _ HBA.out | exact HK4.out _ HB6.out )
        clear hK K
        (try simp only [Act.put, List.setIfInBounds_toArray, List.set_cons_zero, List.set_cons_succ])
        refine wpAnyH_ready (rs := [15]) (by kernel_rfl) (by simp) ?_
        refine AllReadyH.cons (o := R_RWr10_15) rfl (fun K hK => ?_) AllReadyH.nil
        (try delta R_RWr10_15)
        go_simp
        (first | (go_at_call 61; (with_reducible refine (HIN.out).mono ?_); rintro e w6 ⟨vr, rfl, hown6, hb6⟩; have hr6 := RowAt.ofOwns hown6; obtain ⟨ra, rc, rfl⟩ := hr6.shapeB; have HB6 := Lib.hid (HBA.out.trans (hb6.mono HBA.out.size)); have q6 := Write_c (HD1.out.below HB6.out) (number % 2) ra rc _ hr6 (fun w' hc' => RowAt.ofOwns (own_chg hown6 hc' (by decide))) (by have := HSW.out.1; (try dsimp only at this); omega); rw [HWP.out] at q6; have HW6 := Lib.hid q6; clear hown6 hb6 hr6 q6) | (go_at_call 27; (with_reducible refine (HW6.out).mono ?_); rintro e w7 ⟨v7, rfl, hd7, hc7⟩; have HD7 := Lib.hid hd7; have HC7 := Lib.hid ((HCj.out.trans HC1.out).trans ((Chg.ofBelow HB6.out).trans hc7)); have q7 := ((HAj.out.chg HC1.out (by decide)).below HB6.out).chg hc7 (by decide); have p7 := ((HL.out.chg (HCj.out.trans HC1.out) (by decide)).below HB6.out).chg hc7 (by decide); have t0 := p7.blk.cell 0 _ rfl; have a0 := q7.blk.cell 0 _ rfl; have a1 := q7.blk.cell 1 _ rfl; have a2 := q7.blk.cell 2 _ rfl; clear hd7 hc7) | (fail_if_success (go_at_call 61); fail_if_success (go_at_call 27)))
        (try go_wp2_with fail)
        refine hK.out _ _ ?_ (fun hHeld => ?_)
        · (first | exact ⟨t0, a0, a1, a2⟩ | exact HK4.out _ HBA.out | exact HK4.out _ HB6.out )
        clear hK K
        (try simp only [Act.put, List.setIfInBounds_toArray, List.set_cons_zero, List.set_cons_succ])
        (refine wpAnyH_take (i := 16) (oi := R_RWr10_16) (v := ?_) rfl (by kernel_rfl) (by kernel_rfl) (by kernel_rfl) (fun _ _ _ h => h) (Or.inl ⟨by rfl, ?_⟩) (by assumption) ?_; rotate_left; next => (intro w hSw; (try dsimp only at hSw); (try delta R_RWr10_16); go_simp; try with_reducible rfl))
        (try simp only [Act.put, List.setIfInBounds_toArray, List.set_cons_zero, List.set_cons_succ])
        refine wpAnyH_done (by kernel_rfl) ?_ _
        by_cases he2 : e2 = 0
        · subst he2
          have HS2 := Lib.hid (Sync_c HD7.out)
          go_wp2_with (first | (go_at_call 65; (with_reducible refine (HS2.out).mono ?_); rintro e w8 ⟨v8, rfl, hd8, hc8⟩; have HD8 := Lib.hid hd8; have HC8 := Lib.hid hc8; clear hd8 hc8) | fail)
          go_ret
          have hq : writesQ d number k b nw i0 = syncP d2 := by
            rw [HQ.out]
            unfold headW
            rw [HSP.out, if_pos rfl, HB3.out, HWP.out, if_pos rfl]
          rw [hq]
          exact ⟨v8, rfl, HD8.out, HC7.out.trans HC8.out⟩
        · go_wp2_with fail
          go_ret
          have hq : writesQ d number k b nw i0 = (e2, d2) := by
            rw [HQ.out]
            unfold headW
            rw [HSP.out, if_pos rfl, HB3.out, HWP.out, if_neg he2]
          rw [hq]
          exact ⟨v7, rfl, HD7.out, HC7.out⟩
      · go_wp2_with (first | (go_at_call 65; (with_reducible refine (HS.out).mono ?_); rintro e w1 ⟨v1, rfl, hd1, hc1⟩; have HD1 := Lib.hid hd1; have HC1 := Lib.hid hc1; clear hd1 hc1) | fail)
        go_ret
        have hq : writesQ d number k b nw i0 = (e1, d1) := by
          rw [HQ.out]
          unfold headW
          rw [HSP.out, if_neg he]
        rw [hq]
        exact ⟨v1, rfl, HD1.out, HCj.out.trans HC1.out⟩
theorem writes_c (h : DrumAt lo w D g m v d) (hn : 4 ≤ d.n) (L : Nat) (cs : List Value) (hL : BlkT w L (.pointer (some ⟨D, 0, none⟩) :: cs) tL) (number : Int) (h1 : 0 ≤ number) (h2 : number ≤ 9223372036854775807) (k : Nat) (hk : k ≤ 1) (b : List UInt8) (hb : b.length ≤ 64 * bankP d)
    (vb : Value) (hr : ∀ w', Chg lo w w' → RowAt w' vb (bytesV b)) (n0 : Nat) (hn0 : n0 ≤ b.length) (hwl : d.wait.length ≤ 1099511000000) :
    Calls Tryd.prog 56 #[.pointer (some ⟨L, 0, none⟩), .agg #[.int .i64 number, .int .i64 (k : Int), .int .i64 (b.length : Int)], vb, .int .i64 (n0 : Int)] w (DrumTo lo D g m w (.int .i64 (writesP d number k b n0).1) (writesP d number k b n0).2) :=
  writes_c1 h hn L cs hL number h1 h2 k hk b hb vb hr n0 hn0 _ _ rfl rfl hwl
end
end Go.Proofs.YtlllbacjdjllbaaDoor
