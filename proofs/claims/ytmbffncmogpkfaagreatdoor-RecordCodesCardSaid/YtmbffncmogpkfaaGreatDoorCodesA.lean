
/- Several texts in one: The reference's Cursor. The reference's Str. Contracts of the reference's record: a cursor that erred with bytes left; Int, Str, Real, truth, many on whatever cursor. A region that draws its order, and whose last operation waits for all others: the others first, that one last. Contracts of the reference's record: toVal. Contracts of the reference's record: toNode. Contracts of the reference's record: Bool, Ints, val, node: the bytes that each lays. Contracts of package record: rows of writes. Contracts of package record: Decode. -/
import Derived.Test.YtmbffncmogpkfaaGreatDoorRCur0
import Derived.Test.YtmbffncmogpkfaaGreatDoorCur2
import Derived.Lib.VarintBits
import Derived.Deep.RegionHeld3
import Derived.Test.YtmbffncmogpkfaaGreatDoorRCur
import Derived.Test.YtmbffncmogpkfaaGreatDoorCod2
import Derived.Test.YtmbffncmogpkfaaGreatDoorKeep
import Derived.Test.YtmbffncmogpkfaaGreatDoorDec3
import Derived.Deep.DeepCutAuto
import Derived.Test.YtmbffncmogpkfaaGreatDoorEnc2
import Derived.Test.YtmbffncmogpkfaaGreatDoorLeb2
namespace Go.Proofs.YtmbffncmogpkfaaGreatDoor
open Go Go.RowKit
set_option linter.unusedVariables false
variable {R : Option Nat}

set_option maxRecDepth 100000 in
set_option maxHeartbeats 1000000 in
theorem XReal_c (B : Nat) (c : Cur) (w : World) (h : CurAt R w B c) :
    Calls Tryz.prog 33 #[.pointer (some ⟨B, 0, none⟩)] w (CurTo R B w (.float .f64 (curReal c).1) (curReal c).2) := by
  have H := Lib.hid h
  cases c with
  | none =>
    obtain ⟨v, h0, h1, f0, f1, hr, hne⟩ := h
    simp only [Option.isNone_none] at h1
    clear hr hne
    go_enter Tryz.func33, Tryz.ntmps33
    go_wp2_with (first | (go_at_call 56; (with_reducible refine (fail_c B none _ H.out).mono ?_); rintro e w' ⟨rfl, hq1, hq2⟩))
    go_ret
    exact ⟨rfl, hq1, hq2⟩
  | some l =>
    obtain ⟨v, h0, h1, f0, f1, hr, hne⟩ := h
    simp only [Option.isNone_some, Option.getD_some] at h1 hr
    have hln := hr.lenRun elemU 3
    rw [bytesV_length] at hln
    by_cases h8 : 8 ≤ l.length
    · have hd : decide ((l.length : Int) < 8) = false := by simp; omega
      obtain ⟨vb, hb, hrb, hpb⟩ := hr.sliceLo elemU elemSz 8 (by simp; omega)
      have edl : List.drop 8 (bytesV l) = bytesV (l.drop 8) := by simp [bytesV, List.map_drop]
      rw [edl] at hrb
      obtain ⟨xb, cb, rfl⟩ := hrb.shape
      have hdl : (bytesV (l.drop 8)).length = l.length - 8 := by simp
      rw [hdl] at hb hrb hpb
      have hneb : Apart R (Value.slice xb (l.length - 8) cb) B (l.drop 8) := Apart.part hne hpb (fun e => by simp at e; simp [e])
      have HLF := Lib.hid (cur_left H.out hrb hneb)
      have HR := Lib.hid hr
      have HT : Hid (curReal (some l) = if (ofN (beVal (l.take 8))).2 = true then ((ofN (beVal (l.take 8))).1, some (l.drop 8)) else (0, none)) := Lib.hid (by simp only [curReal]; rw [if_pos h8])
      obtain ⟨xa, ca, rfl⟩ := hr.shape
      have hb' : ∀ (w' : World) (kk : IntKind), (Instr.slice 23 (.slice xa (bytesV l).length ca) (some (.int kk 8)) none none).run Tryz.prog w' = .ok (.slice xb (l.length - 8) cb) w' := hb
      generalize hvv : Value.slice xa (bytesV l).length ca = vv at *
      have HVV := Lib.hid hvv
      generalize l.length - 8 = nd at *
      clear hr hne hb hrb hpb edl hdl hneb hvv
      go_enter Tryz.func33, Tryz.ntmps33
      go_wp2_with fail
      go_loopw [3, 4] (fun k i wr => ∃ j : Nat, j ≤ 8 ∧ k = .int .u64 (beVal (l.take j) : Int) ∧ i = .int .i64 (j : Int) ∧ wr = w) (fun _ i _ => 8 - (intOf i).toNat)
      case atStart => exact ⟨0, by omega, rfl, rfl, rfl⟩
      case round =>
        obtain ⟨j, hj, rfl, rfl, rfl⟩ := hrel
        by_cases hlt : j < 8
        · have hjl : j < l.length := by omega
          obtain ⟨b, o, e1, _, hc⟩ := (HVV.out ▸ HR.out : RowAt wr (.slice xa (bytesV l).length ca) (bytesV l)).cellAt j (by simpa using hjl)
          rw [bytesV_get] at hc
          unfold byteV at hc
          have hvs : vv = .slice (some ⟨b, o, none⟩) l.length ca := by rw [← HVV.out, e1]; simp
          have ht : l.take (j + 1) = l.take j ++ [l[j]] := by rw [List.take_append_getElem]
          have hv : beVal (l.take (j + 1)) = beVal (l.take j) * 256 + (l[j]).toNat := by rw [ht, beVal_snoc]
          have hk : beVal (l.take j) < 72057594037927936 := by
            have h1 := beVal_lt (l.take j)
            have h2 : 256 ^ (l.take j).length ≤ 256 ^ 7 := Nat.pow_le_pow_right (by omega) (by simp; omega)
            have e7 : (256 : Nat) ^ 7 = 72057594037927936 := by decide +kernel
            omega
          obtain ⟨hs1, hs2⟩ := shift8 _ l[j] hk
          have HV := Lib.hid hv
          rw [hvs] at h0
          have hx := UInt8.toNat_lt l[j]
          have hwx : IntKind.u64.wrap ((l[j].toNat : Nat) : Int) = ((l[j].toNat : Nat) : Int) := by rw [IntKind.wrap_u64]; omega
          clear hv ht hk hvs hln hb' HVV e1
          generalize beVal (l.take j) = V at *
          generalize l[j].toNat = x at *
          clear hx
          go_wp2_with fail
          go_roundw
          case rel => exact ⟨j + 1, by omega, by rw [HV.out, Int.natCast_add, Int.natCast_mul]; rfl, by go_num, trivial⟩
          case measure => simp [intOf]; omega
        · obtain rfl : j = 8 := by omega
          have hB := beVal_lt (l.take 8)
          have hW : beVal (l.take 8) < W64 := by
            have h2 : 256 ^ (l.take 8).length ≤ 256 ^ 8 := Nat.pow_le_pow_right (by omega) (by simp; omega)
            have e8 : (256 : Nat) ^ 8 = 18446744073709551616 := by decide +kernel
            unfold W64; omega
          have HW := Lib.hid hW
          clear hB hW hlt hj
          generalize beVal (l.take 8) = V at *
          by_cases hok : (ofN V).2 = true
          · have HT2 : Hid (curReal (some l) = ((ofN V).1, some (l.drop 8))) := Lib.hid (by rw [HT.out, if_pos hok])
            clear HT
            go_wp2_with (first | (go_at_call 57; (with_reducible refine (ROf_c V HW.out _).mono ?_); rintro e w' ⟨rfl, rfl⟩))
            go_ret
            rw [HT2.out]
            exact ⟨rfl, HLF.out.1, HLF.out.2⟩
          · have hok2 : (ofN V).2 = false := by simpa using hok
            have HT2 : Hid (curReal (some l) = (0, none)) := Lib.hid (by rw [HT.out, if_neg hok])
            clear HT hok
            go_wp2_with (first | (go_at_call 57; (with_reducible refine (ROf_c V HW.out _).mono ?_); rintro e w' ⟨rfl, rfl⟩) | (go_at_call 56; (with_reducible refine (fail_c B (some l) _ H.out).mono ?_); rintro e w' ⟨rfl, hq1, hq2⟩))
            go_ret
            rw [HT2.out]
            exact ⟨rfl, hq1, hq2⟩
    · have hd : decide ((l.length : Int) < 8) = true := by simp; omega
      have HT : Hid (curReal (some l) = (0, none)) := Lib.hid (by simp only [curReal]; rw [if_neg h8])
      clear hr hne
      go_enter Tryz.func33, Tryz.ntmps33
      go_wp2_with (first | (go_at_call 56; (with_reducible refine (fail_c B (some l) _ H.out).mono ?_); rintro e w' ⟨rfl, hq1, hq2⟩))
      go_ret
      rw [HT.out]
      exact ⟨rfl, hq1, hq2⟩
end Go.Proofs.YtmbffncmogpkfaaGreatDoor

namespace Go.Proofs.YtmbffncmogpkfaaGreatDoor
open Go Go.RowKit
set_option linter.unusedVariables false
variable {R : Option Nat}

set_option maxRecDepth 100000 in
set_option maxHeartbeats 1000000 in
theorem XStr_c (B : Nat) (c : Cur) (w : World) (h : CurAt R w B c) :
    Calls Tryz.prog 32 #[.pointer (some ⟨B, 0, none⟩)] w (CurTo R B w (.string ⟨(curStr c).1.toArray⟩) (curStr c).2) := by
  have H := Lib.hid h
  have HT : Hid (curStr c = curTake (curInt c).1 (curInt c).2) := Lib.hid rfl
  clear h
  go_enter Tryz.func32, Tryz.ntmps32
  go_wp2_with fail
  with_reducible refine (XInt_c B c w H.out).mono ?_
  rintro e w1 ⟨rfl, h1, h2⟩
  have H1 := Lib.hid h1
  have H2 := Lib.hid h2
  clear h2
  generalize (curInt c).1 = n at *
  generalize (curInt c).2 = c1 at *
  obtain ⟨v, h10, h11, f0, f1, hr, hne⟩ := h1
  cases c1 with
  | none =>
    have HT2 : Hid (curStr c = ([], none)) := Lib.hid (by rw [HT.out]; rfl)
    simp only [Option.isNone_none] at h11
    clear h10 f0 f1 hr hne
    go_wp2_with (first | (go_at_call 56; (with_reducible refine (fail_c B none _ H1.out).mono ?_); rintro e w' ⟨rfl, hq1, hq2⟩))
    go_ret
    rw [HT2.out]
    exact ⟨rfl, hq1, grownBy_trans H2.out hq2⟩
  | some l =>
    simp only [Option.isNone_some, Option.getD_some] at h11 hr hne
    have hln := hr.lenRun elemU 3
    rw [bytesV_length] at hln
    by_cases hn : 0 ≤ n ∧ n ≤ l.length
    · obtain ⟨k, rfl⟩ := Int.eq_ofNat_of_zero_le hn.1
      have hk : k ≤ l.length := by omega
      obtain ⟨va, ha, hra, hpa⟩ := hr.sliceHi elemU elemSz k (by simpa using hk)
      obtain ⟨vb, hb, hrb, hpb⟩ := hr.sliceLo elemU elemSz k (by simpa using hk)
      have edl : List.drop k (bytesV l) = bytesV (l.drop k) := by simp [bytesV, List.map_drop]
      have etk : List.take k (bytesV l) = bytesV (l.take k) := by simp [bytesV, List.map_take]
      rw [edl] at hrb
      rw [etk] at hra
      obtain ⟨xb, cb, rfl⟩ := hrb.shape
      have hdl : (bytesV (l.drop k)).length = l.length - k := by simp
      rw [hdl] at hb hrb hpb
      have hneb : Apart R (Value.slice xb (l.length - k) cb) B (l.drop k) := Apart.part hne hpb (fun e => by simp [e])
      have hcv := toS hra
      have HC := Lib.hid (cur_left H1.out hrb hneb)
      have hd1 : decide ((k : Int) < 0) = false := by simp
      have hd2 : decide (l.length < k) = false := by simp; omega
      have HT2 : Hid (curStr c = (l.take k, some (l.drop k))) := Lib.hid (by rw [HT.out]; simp only [curTake]; rw [if_pos hn]; simp)
      clear hn hra hrb hpa hpb hneb hne hr edl etk hdl hk
      generalize l.length - k = nd at *
      generalize l.take k = lt at *
      go_wp2_with fail
      go_ret
      rw [HT2.out]
      exact ⟨rfl, HC.out.1, grownBy_trans H2.out HC.out.2⟩
    · have HT2 : Hid (curStr c = ([], none)) := Lib.hid (by rw [HT.out]; simp only [curTake]; rw [if_neg hn])
      by_cases h0n : n < 0
      · have hd : decide (n < 0) = true := by simp [h0n]
        clear hn hr hne
        go_wp2_with (first | (go_at_call 56; (with_reducible refine (fail_c B (some l) _ H1.out).mono ?_); rintro e w' ⟨rfl, hq1, hq2⟩))
        go_ret
        rw [HT2.out]
        exact ⟨rfl, hq1, grownBy_trans H2.out hq2⟩
      · have hd : decide (n < 0) = false := by simp; omega
        have hgt : decide ((l.length : Int) < n) = true := by simp; omega
        clear hn hr hne
        go_wp2_with (first | (go_at_call 56; (with_reducible refine (fail_c B (some l) _ H1.out).mono ?_); rintro e w' ⟨rfl, hq1, hq2⟩))
        go_ret
        rw [HT2.out]
        exact ⟨rfl, hq1, grownBy_trans H2.out hq2⟩
end Go.Proofs.YtmbffncmogpkfaaGreatDoor

namespace Go.Proofs.YtmbffncmogpkfaaGreatDoor
open Go Go.Proofs Go.RowKit
set_option linter.unusedVariables false
set_option linter.unusedSimpArgs false
abbrev R_RTn6_0 : Oper := { dst := some 16, op := Op.fieldAddr 43 (Operand.tmp 3) 0, type := 0, pos := "record.go:212", after := #[], guard := none }
abbrev R_RTn6_1 : Oper := { dst := some 17, op := Op.load 40 (Operand.tmp 16), type := 40, pos := "record.go:212", after := #[{ on := 0, ground := Ground.data }], guard := none }
abbrev R_RTn6_2 : Oper := { dst := some 18, op := Op.move (Operand.tmp 0), type := 68, pos := "record.go:212", after := #[], guard := none }
abbrev R_RTn6_3 : Oper := { dst := some 19, op := Op.call { callee := Callee.value (Operand.func 32), args := #[Operand.tmp 18], argTypes := #[68] }, type := 9, pos := "record.go:212", after := #[{ on := 2, ground := Ground.data }], guard := none }
abbrev R_RTn6_4 : Oper := { dst := some 20, op := Op.buildSlice 40 1 #[(0, Operand.tmp 19)], type := 40, pos := "record.go:212", after := #[{ on := 3, ground := Ground.data }], guard := none }
abbrev R_RTn6_5 : Oper := { dst := some 21, op := Op.call { callee := Callee.builtin Builtin.append, args := #[Operand.tmp 17, Operand.tmp 20], argTypes := #[40, 40] }, type := 40, pos := "record.go:212", after := #[{ on := 1, ground := Ground.data }, { on := 4, ground := Ground.data }, { on := 3, ground := Ground.chain }], guard := none }
abbrev R_RTn6_6 : Oper := { dst := some 22, op := Op.fieldAddr 43 (Operand.tmp 3) 0, type := 0, pos := "record.go:212", after := #[{ on := 0, ground := Ground.phase }, { on := 1, ground := Ground.phase }, { on := 2, ground := Ground.phase }, { on := 3, ground := Ground.phase }, { on := 4, ground := Ground.phase }, { on := 5, ground := Ground.phase }], guard := none }

/-- what a cursor has: bytes; did it err? -/
abbrev RC := List UInt8 × Bool
def AnyAt (R : Option Nat) (w : World) (B : Nat) (s : RC) : Prop :=
  ∃ v, w.cell? ⟨B, 0, none⟩ = some v ∧ w.cell? ⟨B, 1, none⟩ = some (.bool s.2) ∧ w.frozen? ⟨B, 0, none⟩ = false ∧ w.frozen? ⟨B, 1, none⟩ = false ∧ RowAt w v (bytesV s.1) ∧ Apart R v B s.1
def AnyTo (R : Option Nat) (B : Nat) (w : World) (r : Value) (s : RC) (e : Ending) (w' : World) : Prop := e = .returned r ∧ AnyAt R w' B s ∧ w.grownBy w' (some B)
def toRS : Cur → RC
  | none => ([], true)
  | some l => (l, false)
section
variable {R : Option Nat}
theorem AnyAt.below {w w' : World} {B : Nat} {s : RC} (h : AnyAt R w B s) (hb : Below w.heap.size w w') : AnyAt R w' B s := by
  obtain ⟨v, h0, h1, f0, f1, hr, hne⟩ := h
  have hlt : B < w.heap.size := World.block_lt_of_cell? w ⟨B, 0, none⟩ h0
  exact ⟨v, by rw [hb.cell hlt]; exact h0, by rw [hb.cell hlt]; exact h1, by rw [hb.frozen hlt]; exact f0, by rw [hb.frozen hlt]; exact f1, hr.below hb, hne⟩
theorem AnyAt.grown {w w' : World} {B C : Nat} {s : RC} (h : AnyAt R w B s) (hg : w.grownBy w' (some C)) (hBC : B ≠ C) (hv : R ≠ some C) : AnyAt R w' B s := by
  obtain ⟨v, h0, h1, f0, f1, hr, hne⟩ := h
  have hlt : B < w.heap.size := World.block_lt_of_cell? w ⟨B, 0, none⟩ h0
  have e : w'.heap[B]? = w.heap[B]? := hg.block B hlt (by simpa using hBC)
  exact ⟨v, by rw [World.cell?_of_block e]; exact h0, by rw [World.cell?_of_block e]; exact h1, by rw [World.frozen?_of_block (a := ⟨B, 0, none⟩) e]; exact f0, by rw [World.frozen?_of_block (a := ⟨B, 1, none⟩) e]; exact f1, hr.grownA (B := C) hg ⟨hne.1, hv⟩, hne⟩
theorem AnyAt.ne {w : World} {B : Nat} {s : RC} (h : AnyAt R w B s) : R ≠ some B := by
  obtain ⟨_, _, _, _, _, _, hne⟩ := h
  exact hne.2
theorem AnyAt.lt {w : World} {B : Nat} {s : RC} (h : AnyAt R w B s) : B < w.heap.size := by
  obtain ⟨v, h0, _⟩ := h
  exact World.block_lt_of_cell? w ⟨B, 0, none⟩ h0
theorem AnyAt.good {w : World} {B : Nat} {l : List UInt8} (h : AnyAt R w B (l, false)) : CurAt R w B (some l) := h
theorem CurAt.any {w : World} {B : Nat} {c : Cur} (h : CurAt R w B c) : AnyAt R w B (toRS c) := by
  cases c
  · exact h
  · exact h
/-- its flag is set. -/
theorem AnyAt.setE {w : World} {B : Nat} {l : List UInt8} {e : Bool} (h : AnyAt R w B (l, e)) (e' : Bool) : AnyAt R (w.setCell ⟨B, 1, none⟩ (.bool e')) B (l, e') ∧ w.grownBy (w.setCell ⟨B, 1, none⟩ (.bool e')) (some B) := by
  obtain ⟨v, h0, h1, f0, f1, hr, hne⟩ := h
  have hg := grownBy_set w B 1 (.bool e')
  exact ⟨⟨v, by rw [cell_other (by simp)]; exact h0, cell_same h1, by simp [f0], by simp [f1], hr.grownA (B := B) hg hne, hne⟩, hg⟩
theorem failA_c (B : Nat) (s : RC) (w : World) (h : AnyAt R w B s) :
    Calls Tryz.prog 56 #[.pointer (some ⟨B, 0, none⟩)] w (AnyTo R B w (.tuple #[]) ([], true)) := by
  obtain ⟨v, h0, h1, f0, f1, hr, hne⟩ := h
  have e1 : (w.setCell ⟨B, 1, none⟩ (.bool true)).cell? ⟨B, 1, none⟩ = some (.bool true) := cell_same h1
  have e0 : (w.setCell ⟨B, 1, none⟩ (.bool true)).cell? ⟨B, 0, none⟩ = some v := by rw [cell_other (by simp)]; exact h0
  have H : Hid (AnyAt R ((w.setCell ⟨B, 1, none⟩ (.bool true)).setCell ⟨B, 0, none⟩ (.slice none 0 0)) B ([], true)) := Lib.hid ⟨.slice none 0 0, cell_same e0, by rw [cell_other (by simp)]; exact e1, by simp [f0], by simp [f1], RowAt.nil _, .inr (.inr rfl), hne.2⟩
  clear hr hne e0 e1
  go_enter Tryz.func56, Tryz.ntmps56
  go_wp2
  go_end0
  exact ⟨rfl, H.out, grownBy_trans (grownBy_set _ _ _ _) (grownBy_set _ _ _ _)⟩
set_option maxRecDepth 100000 in
set_option maxHeartbeats 2000000 in
theorem XIntE_c (B : Nat) (l : List UInt8) (w : World) (h : AnyAt R w B (l, true)) :
    Calls Tryz.prog 29 #[.pointer (some ⟨B, 0, none⟩)] w (AnyTo R B w (.int .i64 0) ([], true)) := by
  have H := Lib.hid h
  obtain ⟨v, h0, h1, f0, f1, hr, hne⟩ := h
  simp only at h1 hr hne
  obtain ⟨xa, ca, rfl⟩ := hr.shape
  rw [bytesV_length] at h0 hr hne
  have HR := Lib.hid hr
  have hlm : l.length ≤ 9223372036854775807 := by have := hr.1; rw [bytesV_length] at this; unfold maxLen at this; omega
  clear hr hne
  go_enter Tryz.func29, Tryz.ntmps29
  go_wp2_with fail
  go_loopw [3] (fun k wr => ∃ j : Nat, j ≤ l.length ∧ j ≤ 10 ∧ k = .int .i64 (j : Int) ∧ wr = w) (fun k _ => 10 - (intOf k).toNat)
  case atStart => exact ⟨0, by omega, by omega, rfl, rfl⟩
  case round =>
    obtain ⟨j, hj, hj10, rfl, rfl⟩ := hrel
    by_cases hjl : j < l.length
    case neg =>
      obtain rfl : j = l.length := by omega
      clear hj hjl hj10
      go_wp2_with (first | (go_at_call 56; (with_reducible refine (failA_c B _ _ H.out).mono ?_); rintro e w' ⟨rfl, hq1, hq2⟩))
      go_ret
      exact ⟨rfl, hq1, hq2⟩
    case pos =>
      by_cases hj9 : j < 10
      case neg =>
        obtain rfl : j = 10 := by omega
        go_wp2_with (first | (go_at_call 56; (with_reducible refine (failA_c B _ _ H.out).mono ?_); rintro e w' ⟨rfl, hq1, hq2⟩))
        go_ret
        exact ⟨rfl, hq1, hq2⟩
      case pos =>
        obtain ⟨b, o, rfl, hbl, hx⟩ := HR.out.cellAt j (by simpa using hjl)
        rw [bytesV_get] at hx
        unfold byteV at hx
        by_cases hx8 : 128 ≤ (l[j]).toNat
        · generalize l[j] = x at *
          go_wp2_with fail
          go_roundw
          case rel => exact ⟨j + 1, by omega, by omega, by go_num, trivial⟩
          case measure => simp [intOf]; omega
        · generalize l[j] = x at *
          go_wp2_with (first | (go_at_call 56; (with_reducible refine (failA_c B _ _ H.out).mono ?_); rintro e w' ⟨rfl, hq1, hq2⟩))
          go_ret
          exact ⟨rfl, hq1, hq2⟩
set_option maxRecDepth 100000 in
theorem XStrE_c (B : Nat) (l : List UInt8) (w : World) (h : AnyAt R w B (l, true)) :
    Calls Tryz.prog 32 #[.pointer (some ⟨B, 0, none⟩)] w (AnyTo R B w (.string ⟨#[]⟩) ([], true)) := by
  have H := Lib.hid h
  clear h
  go_enter Tryz.func32, Tryz.ntmps32
  go_wp2_with fail
  with_reducible refine (XIntE_c B l w H.out).mono ?_
  rintro e w1 ⟨rfl, h1, h2⟩
  have H1 := Lib.hid h1
  have H2 := Lib.hid h2
  obtain ⟨v, h10, h11, f0, f1, hr, hne⟩ := h1
  simp only at h11
  clear h2 h10 f0 f1 hr hne
  go_wp2_with (first | (go_at_call 56; (with_reducible refine (failA_c B _ _ H1.out).mono ?_); rintro e w' ⟨rfl, hq1, hq2⟩))
  go_ret
  exact ⟨rfl, hq1, grownBy_trans H2.out hq2⟩
set_option maxRecDepth 100000 in
theorem XRealE_c (B : Nat) (l : List UInt8) (w : World) (h : AnyAt R w B (l, true)) :
    Calls Tryz.prog 33 #[.pointer (some ⟨B, 0, none⟩)] w (AnyTo R B w (.float .f64 0) ([], true)) := by
  have H := Lib.hid h
  obtain ⟨v, h10, h11, f0, f1, hr, hne⟩ := h
  simp only at h11
  clear h10 f0 f1 hr hne
  go_enter Tryz.func33, Tryz.ntmps33
  go_wp2_with (first | (go_at_call 56; (with_reducible refine (failA_c B _ _ H.out).mono ?_); rintro e w' ⟨rfl, hq1, hq2⟩))
  go_ret
  exact ⟨rfl, hq1, hq2⟩
/-! ## what each takes, plainly -/
def rInt : RC → Int × RC
  | (_, true) => (0, ([], true))
  | (l, false) => ((curInt (some l)).1, toRS (curInt (some l)).2)
def rStr : RC → List UInt8 × RC
  | (_, true) => ([], ([], true))
  | (l, false) => ((curStr (some l)).1, toRS (curStr (some l)).2)
def rReal : RC → Nat × RC
  | (_, true) => (0, ([], true))
  | (l, false) => ((curReal (some l)).1, toRS (curReal (some l)).2)
theorem XIntA_c (B : Nat) (s : RC) (w : World) (h : AnyAt R w B s) : Calls Tryz.prog 29 #[.pointer (some ⟨B, 0, none⟩)] w (AnyTo R B w (.int .i64 (rInt s).1) (rInt s).2) := by
  obtain ⟨l, e⟩ := s
  cases e
  · exact (XInt_c B (some l) w h.good).mono (fun e w' ⟨h1, h2, h3⟩ => ⟨h1, h2.any, h3⟩)
  · exact XIntE_c B l w h
theorem XStrA_c (B : Nat) (s : RC) (w : World) (h : AnyAt R w B s) : Calls Tryz.prog 32 #[.pointer (some ⟨B, 0, none⟩)] w (AnyTo R B w (.string ⟨(rStr s).1.toArray⟩) (rStr s).2) := by
  obtain ⟨l, e⟩ := s
  cases e
  · exact (XStr_c B (some l) w h.good).mono (fun e w' ⟨h1, h2, h3⟩ => ⟨h1, h2.any, h3⟩)
  · exact XStrE_c B l w h
theorem XRealA_c (B : Nat) (s : RC) (w : World) (h : AnyAt R w B s) : Calls Tryz.prog 33 #[.pointer (some ⟨B, 0, none⟩)] w (AnyTo R B w (.float .f64 (rReal s).1) (rReal s).2) := by
  obtain ⟨l, e⟩ := s
  cases e
  · exact (XReal_c B (some l) w h.good).mono (fun e w' ⟨h1, h2, h3⟩ => ⟨h1, h2.any, h3⟩)
  · exact XRealE_c B l w h
/-- a flag behind a number that must lie from 0 to most. -/
def outOf (most : Int) (p : Int × RC) : Bool := p.2.2 || decide (p.1 < 0) || decide (most < p.1)
def rTruth (s : RC) : Bool × RC := ((rInt s).1 == 1, ((rInt s).2.1, outOf 1 (rInt s)))
def rMany (most : Int) (s : RC) : Int × RC := (if outOf most (rInt s) = true then 0 else (rInt s).1, ((rInt s).2.1, outOf most (rInt s)))
set_option maxRecDepth 100000 in
theorem truth_c (B : Nat) (s : RC) (w : World) (h : AnyAt R w B s) : Calls Tryz.prog 31 #[.pointer (some ⟨B, 0, none⟩)] w (AnyTo R B w (.bool (rTruth s).1) (rTruth s).2) := by
  have C1 := Lib.hid (XIntA_c B s w h)
  unfold rTruth
  generalize rInt s = p at *
  obtain ⟨n, l, e⟩ := p
  clear h
  dsimp only at C1 ⊢
  go_enter Tryz.func31, Tryz.ntmps31
  go_wp2_with fail
  with_reducible refine (C1.out).mono ?_
  rintro e1 w1 ⟨rfl, h1, h2⟩
  have H1 := Lib.hid h1
  have H2 := Lib.hid h2
  obtain ⟨v, h10, h11, f0, f1, hr, hne⟩ := h1
  simp only at h11
  clear h2 h10 f0 hr hne C1
  have HE := Lib.hid (fun e' => (H1.out.setE e').1)
  have HG := Lib.hid (fun e' => (H1.out.setE e').2)
  cases e
  case true =>
    have HO : Hid (outOf 1 (n, (l, true)) = true) := Lib.hid rfl
    go_wp2_with fail
    go_ret
    rw [HO.out]
    exact ⟨rfl, HE.out true, grownBy_trans H2.out (HG.out true)⟩
  case false =>
    by_cases hn : n < 0
    · have HO : Hid (outOf 1 (n, (l, false)) = true) := Lib.hid (by unfold outOf; simp [hn])
      go_wp2_with fail
      go_ret
      rw [HO.out]
      exact ⟨rfl, HE.out true, grownBy_trans H2.out (HG.out true)⟩
    · by_cases hm : 1 < n
      · have HO : Hid (outOf 1 (n, (l, false)) = true) := Lib.hid (by unfold outOf; simp [hm])
        go_wp2_with fail
        go_ret
        rw [HO.out]
        exact ⟨rfl, HE.out true, grownBy_trans H2.out (HG.out true)⟩
      · have HO : Hid (outOf 1 (n, (l, false)) = false) := Lib.hid (by unfold outOf; first | (simp [hn, hm]; done) | (simp [hn, hm]; omega))
        have HD : Hid ((decide (n < 0) || decide (1 < n)) = false) := Lib.hid (by first | (simp [hn, hm]; done) | (simp [hn, hm]; omega))
        go_wp2_with fail
        go_ret
        rw [HO.out]
        (try rw [HD.out])
        exact ⟨rfl, HE.out false, grownBy_trans H2.out (HG.out false)⟩
set_option maxRecDepth 100000 in
theorem many_c (B : Nat) (s : RC) (most : Int) (w : World) (h : AnyAt R w B s) : Calls Tryz.prog 30 #[.pointer (some ⟨B, 0, none⟩), .int .i64 most] w (AnyTo R B w (.int .i64 (rMany most s).1) (rMany most s).2) := by
  have C1 := Lib.hid (XIntA_c B s w h)
  unfold rMany
  generalize rInt s = p at *
  obtain ⟨n, l, e⟩ := p
  clear h
  dsimp only at C1 ⊢
  obtain ⟨o, ho⟩ : ∃ o, outOf most (n, (l, e)) = o := ⟨_, rfl⟩
  rw [ho]
  obtain ⟨r, hr⟩ : ∃ r : Int, (if o = true then 0 else n) = r := ⟨_, rfl⟩
  rw [hr]
  have HOo := Lib.hid ho
  have HOr := Lib.hid hr
  clear ho hr
  go_enter Tryz.func30, Tryz.ntmps30
  go_wp2_with fail
  with_reducible refine (C1.out).mono ?_
  rintro e1 w1 ⟨rfl, h1, h2⟩
  have H1 := Lib.hid h1
  have H2 := Lib.hid h2
  obtain ⟨v, h10, h11, f0, f1, hr, hne⟩ := h1
  simp only at h11
  clear h2 h10 f0 hr hne C1
  have HE := Lib.hid (fun e' => (H1.out.setE e').1)
  have HG := Lib.hid (fun e' => (H1.out.setE e').2)
  have g0 : ∀ e', (w1.setCell ⟨B, 1, none⟩ (.bool e')).cell? ⟨B, 1, none⟩ = some (.bool e') := fun e' => cell_same h11
  cases e
  case true =>
    obtain rfl : o = true := HOo.out.symm
    obtain rfl : r = 0 := HOr.out.symm
    go_wp2_with fail
    go_ret
    exact ⟨rfl, HE.out true, grownBy_trans H2.out (HG.out true)⟩
  case false =>
    by_cases hn : n < 0
    · obtain rfl : o = true := by rw [← HOo.out]; unfold outOf; simp [hn]
      obtain rfl : r = 0 := HOr.out.symm
      go_wp2_with fail
      go_ret
      exact ⟨rfl, HE.out true, grownBy_trans H2.out (HG.out true)⟩
    · by_cases hm : most < n
      · obtain rfl : o = true := by rw [← HOo.out]; unfold outOf; simp [hm]
        obtain rfl : r = 0 := HOr.out.symm
        go_wp2_with fail
        go_ret
        exact ⟨rfl, HE.out true, grownBy_trans H2.out (HG.out true)⟩
      · have HD : Hid ((decide (n < 0) || decide (most < n)) = false) := Lib.hid (by rw [decide_eq_false hn, decide_eq_false hm]; rfl)
        obtain rfl : o = false := by rw [← HOo.out]; exact HD.out
        obtain rfl : r = n := HOr.out.symm
        go_wp2_with fail
        go_ret
        (try rw [HD.out])
        exact ⟨rfl, HE.out false, grownBy_trans H2.out (HG.out false)⟩
end
end Go.Proofs.YtmbffncmogpkfaaGreatDoor

namespace Go.Proofs.YtmbffncmogpkfaaGreatDoor
open Go Go.Proofs Go.RowKit
set_option linter.unusedVariables false
set_option linter.unusedSimpArgs false

section
variable {P : Program} {md : Region.Mode} {ops full : Array Oper} {Q : Exit → Go.Act → World → Prop}
/-- behind the others: the last one. -/
def lastQ (P : Program) (full : Array Oper) (Q : Exit → Go.Act → World → Prop) (n : Nat) : Exit → Go.Act → World → Prop
  | .normal, a, w => wpOp P full Q n (fun a' w' => Q .normal a' w') a w
  | e, a, w => Q e a w
theorem lets_last {n : Nat} (h : LetsOut (lastQ P full Q n)) : LetsOut Q := h
theorem oper_wpQ {o : Oper} {a : Go.Act} {w : World} {K K' : Go.Act → World → Prop} {n : Nat} (hK : ∀ a w, K a w → K' a w) (h : o.wp P a w K (lastQ P full Q n)) : o.wp P a w K' Q := by
  unfold Oper.wp at *
  generalize (execOp a.eval o).run P w = r at *
  cases r with
  | ok x w' =>
    cases x <;> simp only [Oper.upon] at h ⊢
    case value u => exact hK _ _ h
    case skip => exact hK _ _ h
    case defer d => exact hK _ _ h
    case enter f args =>
      refine Calls.mono h fun e w'' he => ?_
      cases e with
      | returned u => exact hK _ _ he
      | panicked c => exact he
      | outgrown => exact he
    case row row args => exact Rows.mono h fun u w'' he => hK _ _ he
  | halt x w' =>
    cases x <;> simp only [Oper.upon] at h ⊢
    case panic u => exact h
theorem wpOpQ {i n : Nat} {a : Go.Act} {w : World} {K K' : Go.Act → World → Prop} (hi : ops[i]? = full[i]?) (hg : ∀ o, ops[i]? = some o → o.guard = none) (hK : ∀ a w, K a w → K' a w) (h : wpOp P ops (lastQ P full Q n) i K a w) : wpOp P full Q i K' a w := by
  unfold wpOp at *
  rw [← hi]
  cases ho : ops[i]? with
  | none => rw [ho] at h; exact hK _ _ h
  | some o =>
    rw [ho] at h
    have g := hg o ho
    simp only [Region.wanted, g, if_true] at h ⊢
    rcases h with h | ⟨h1, h2⟩
    · exact .inl (oper_wpQ hK h)
    · exact .inr ⟨h1, lets_last h2⟩
/-- what the law asks of the region, as one Bool. -/
def lastOk (md : Region.Mode) (full : Array Oper) : Bool :=
  full.all (fun o => o.guard.isNone) &&
  (List.range full.size).all (fun i => ((full[i]?).map (fun o => o.after.all (fun e => !Region.binds md e || decide (e.on < i)))).getD true) &&
  (List.range (full.size - 1)).all (fun i => (List.range full.size).any (fun j => decide (i < j) && ((full[j]?).map (fun o => o.after.any (fun e => Region.binds md e && decide (e.on = i)))).getD false))
def Closed (md : Region.Mode) (ops : Array Oper) (listed : Array Bool) : Prop := ∀ i o, ops[i]? = some o → listed.getD i false = true → ∀ e ∈ o.after, Region.binds md e = true → listed.getD e.on false = true
theorem getD_push (l : Array Bool) (i : Nat) (d : Bool) (h : i < l.size) : (l.push false).getD i d = l.getD i d := by
  simp [Array.getD, h, Nat.lt_succ_of_lt h, Array.getElem_push_lt]
theorem lastOk_spec (h : lastOk md full = true) :
    (∀ (i : Nat) (o : Oper), full[i]? = some o → o.guard = none) ∧ (∀ (i : Nat) (o : Oper), full[i]? = some o → ∀ e ∈ o.after, Region.binds md e = true → e.on < i) ∧
    (∀ i, i < full.size - 1 → ∃ (j : Nat) (o : Oper), full[j]? = some o ∧ i < j ∧ ∃ e ∈ o.after, Region.binds md e = true ∧ e.on = i) := by
  unfold lastOk at h
  rw [Bool.and_eq_true, Bool.and_eq_true] at h
  obtain ⟨⟨h1, h2⟩, h3⟩ := h
  refine ⟨fun i o ho => ?_, fun i o ho e he hb => ?_, fun i hi => ?_⟩
  · have := Array.all_eq_true_iff_forall_mem.1 h1 o (Array.mem_of_getElem? ho)
    simpa using this
  · rw [List.all_eq_true] at h2
    have := h2 i (List.mem_range.2 (Array.getElem?_eq_some_iff.1 ho).1)
    rw [ho] at this
    simp only [Option.map_some, Option.getD_some] at this
    have := Array.all_eq_true_iff_forall_mem.1 this e he
    rw [hb] at this
    simpa using this
  · rw [List.all_eq_true] at h3
    have := h3 i (List.mem_range.2 hi)
    rw [List.any_eq_true] at this
    obtain ⟨j, hj, h4⟩ := this
    rw [Bool.and_eq_true] at h4
    obtain ⟨h5, h6⟩ := h4
    cases ho : full[j]? with
    | none => rw [ho] at h6; simp at h6
    | some o =>
      rw [ho] at h6
      simp only [Option.map_some, Option.getD_some] at h6
      obtain ⟨k, hk, h7⟩ := Array.any_eq_true.1 h6
      have he := Array.getElem_mem hk
      generalize o.after[k] = e at h7 he
      rw [Bool.and_eq_true] at h7
      exact ⟨j, o, ho, by simpa using h5, e, he, h7.1, by simpa using h7.2⟩
theorem wp_last {n : Nat} (hf : full.size = n + 1) (hops : ∀ i, i < n → ops[i]? = full[i]?) (hn : ops.size = n) (hok : lastOk md full = true) :
    ∀ (fuel : Nat) (listed : Array Bool) (a : Go.Act) (w : World), listed.size = n → Closed md ops listed → wpAny P md ops (lastQ P full Q n) fuel listed a w → wpAny P md full Q (fuel + 1) (listed.push false) a w := by
  obtain ⟨hg, hd, hsucc⟩ := lastOk_spec hok
  rw [hf, Nat.add_sub_cancel] at hsucc
  have hsm : ∀ i o, ops[i]? = some o → i < n := fun i o h => by rw [← hn]; exact (Array.getElem?_eq_some_iff.1 h).1
  -- ready, of those ahead of the last
  have hrd : ∀ (listed : Array Bool), listed.size = n → ∀ i, i < n → (i ∈ Region.ready md full (listed.push false) ↔ i ∈ Region.ready md ops listed) := fun listed hl i hi => by
    rw [mem_ready, mem_ready, getD_push _ _ _ (by omega), hops i hi]
    constructor
    · rintro ⟨h1, o, ho, h2⟩
      refine ⟨h1, o, ho, fun e he hb => ?_⟩
      have := hd i o ho e he hb
      rw [← getD_push _ _ _ (by omega)]; exact h2 e he hb
    · rintro ⟨h1, o, ho, h2⟩
      refine ⟨h1, o, ho, fun e he hb => ?_⟩
      have := hd i o ho e he hb
      rw [getD_push _ _ _ (by omega)]; exact h2 e he hb
  -- nothing ready: all listed
  have hnone : ∀ (listed : Array Bool), listed.size = n → Region.ready md ops listed = [] → ∀ k, k ≤ n → ∀ i, i < k → listed.getD i false = true := fun listed hl hr k => by
    induction k with
    | zero => intro _ i hi; omega
    | succ k ih =>
      intro hk i hi
      rcases Nat.lt_or_ge i k with h | h
      · exact ih (by omega) i h
      · obtain rfl : i = k := by omega
        cases hb : listed.getD i false with
        | true => rfl
        | false =>
          exfalso
          have hlt : i < full.size := by omega
          have : i ∈ Region.ready md ops listed := by
            rw [mem_ready]
            refine ⟨by simp [Array.getD, show i < listed.size by omega] at hb ⊢; exact hb, full[i], by rw [hops i (by omega), Array.getElem?_eq_getElem hlt], fun e he hbd => ?_⟩
            exact ih (by omega) _ (hd i _ (Array.getElem?_eq_getElem hlt) e he hbd)
          rw [hr] at this
          cases this
  -- the last is ready once all are listed
  have hlast : ∀ (listed : Array Bool), listed.size = n → (∀ i, i < n → listed.getD i false = true) → n ∈ Region.ready md full (listed.push false) := fun listed hl hall => by
    have hlt : n < full.size := by omega
    rw [mem_ready]
    refine ⟨by simp [Array.getD, hl, Array.getElem_push], full[n], Array.getElem?_eq_getElem hlt, fun e he hb => ?_⟩
    have := hd n _ (Array.getElem?_eq_getElem hlt) e he hb
    rw [getD_push _ _ _ (by omega)]
    exact hall _ this
  -- and no sooner
  have hdown : ∀ (listed : Array Bool), listed.size = n → Closed md ops listed → n ∈ Region.ready md full (listed.push false) → ∀ d i, i < n → n - i ≤ d → listed.getD i false = true := fun listed hl hc hr d => by
    induction d with
    | zero => intro i hi h; omega
    | succ d ih =>
      intro i hi h
      obtain ⟨j, o, ho, hij, e, he, hb, rfl⟩ := hsucc i hi
      have hj : j < n + 1 := by rw [← hf]; exact (Array.getElem?_eq_some_iff.1 ho).1
      rcases Nat.lt_or_ge j n with hjn | hjn
      · exact hc j o (by rw [hops j hjn]; exact ho) (ih j hjn (by omega)) e he hb
      · obtain rfl : j = n := by omega
        obtain ⟨_, o', ho', h2⟩ := mem_ready.1 hr
        rw [ho] at ho'
        simp only [Option.some.injEq] at ho'
        subst ho'
        have := h2 e he hb
        rwa [getD_push _ _ _ (by omega)] at this
  -- all listed: nothing is ready
  have hnil : ∀ (listed : Array Bool), (∀ i, i < n → listed.getD i false = true) → listed.size = n → Region.ready md ops listed = [] := fun listed hall hl => by
    rw [List.eq_nil_iff_forall_not_mem]
    intro i hi
    obtain ⟨h1, o, ho, _⟩ := mem_ready.1 hi
    have hin := hsm i o ho
    have := hall i hin
    simp [Array.getD, show i < listed.size by omega] at h1 this
    rw [h1] at this
    cases this
  have hnilF : ∀ (listed : Array Bool), (∀ i, i < n → listed.getD i false = true) → listed.size = n → Region.ready md full ((listed.push false).setIfInBounds n true) = [] := fun listed hall hl => by
    rw [List.eq_nil_iff_forall_not_mem]
    intro i hi
    obtain ⟨h1, o, ho, _⟩ := mem_ready.1 hi
    have hin : i < n + 1 := by rw [← hf]; exact (Array.getElem?_eq_some_iff.1 ho).1
    rcases Nat.lt_or_ge i n with h | h
    · rw [getD_set_ne true (by omega), getD_push _ _ _ (by omega)] at h1
      have := hall i h
      simp [Array.getD, show i < listed.size by omega] at h1 this
      rw [h1] at this
      cases this
    · obtain rfl : i = n := by omega
      simp [Array.getD, hl] at h1
  intro fuel
  induction fuel with
  | zero =>
    intro listed a w hl hc h
    have hall := hnone listed hl h.1 n (Nat.le_refl _)
    refine ⟨fun h0 => ?_, fun i hi => ?_⟩
    · have := hlast listed hl hall
      rw [h0] at this
      cases this
    · have hin : i < n + 1 := by
        obtain ⟨_, o, ho, _⟩ := mem_ready.1 hi
        rw [← hf]; exact (Array.getElem?_eq_some_iff.1 ho).1
      rcases Nat.lt_or_ge i n with h' | h'
      · have := (hrd listed hl i h').1 hi
        rw [h.1] at this
        cases this
      · obtain rfl : i = n := by omega
        exact wpOp_mono (fun a' w' hq => ⟨hnilF listed hall hl, hq⟩) h.2
  | succ fuel ih =>
    intro listed a w hl hc h
    refine ⟨fun h0 => ?_, fun i hi => ?_⟩
    · exfalso
      by_cases hr : Region.ready md ops listed = []
      · have := hlast listed hl (hnone listed hl hr n (Nat.le_refl _))
        rw [h0] at this
        cases this
      · obtain ⟨i, hi⟩ := List.exists_mem_of_ne_nil _ hr
        obtain ⟨_, o, ho, _⟩ := mem_ready.1 hi
        have := (hrd listed hl i (hsm i o ho)).2 hi
        rw [h0] at this
        cases this
    · have hin : i < n + 1 := by
        obtain ⟨_, o, ho, _⟩ := mem_ready.1 hi
        rw [← hf]; exact (Array.getElem?_eq_some_iff.1 ho).1
      rcases Nat.lt_or_ge i n with h' | h'
      · have hi' := (hrd listed hl i h').1 hi
        have eset : (listed.push false).setIfInBounds i true = (listed.setIfInBounds i true).push false := by
          apply Array.ext_getElem?
          intro q
          simp only [Array.getElem?_setIfInBounds, Array.getElem?_push, Array.size_push, Array.size_setIfInBounds]
          split <;> split <;> simp_all <;> omega
        rw [eset]
        clear eset
        refine wpOpQ (hops i h') (fun o ho => hg i o (by rw [← hops i h']; exact ho)) (fun a' w' hk => ih _ a' w' (by simpa using hl) ?_ hk) (h.2 i hi')
        intro k o ho hk e he hb
        obtain ⟨_, oi, hoi, hall⟩ := mem_ready.1 hi'
        by_cases hki : k = i
        · subst hki
          rw [hoi] at ho
          simp only [Option.some.injEq] at ho
          subst ho
          exact getD_set_true (hall e he hb)
        · rw [getD_set_ne false (fun e => hki e.symm)] at hk
          exact getD_set_true (hc k o ho hk e he hb)
      · obtain rfl : i = n := by omega
        have hall := fun q hq => hdown listed hl hc hi i q hq (by omega)
        have hq := h.1 (hnil listed hall hl)
        exact wpOp_mono (fun a' w' hq' => ⟨fun _ => hq', fun k hk => by rw [hnilF listed hall hl] at hk; cases hk⟩) hq
/-- **THE BEGINNING**: all but the last in whatever order; then the last. -/
theorem wp_region_last {id n : Nat} {a : Go.Act} {w : World} {S : World → Prop} (hm : P.follows .mixedOrders = true) (hf : full.size = n + 1) (hok : lastOk .any full = true) (hS : S w.drew)
    (h : S w.drew → wpAnyH P .any full.pop (lastQ P full Q n) S n (Array.replicate n false) a w.drew) : (Code.region id full true).wp P Q a w := by
  refine wp_region_any hm ?_
  have h1 := wpAny_of_held _ _ _ _ (h hS)
  have h2 := wp_last (P := P) (Q := Q) (md := .any) (ops := full.pop) (full := full) hf (fun i hi => by rw [Array.getElem?_pop]; rw [if_pos (by omega)]) (by simp; omega) hok n (Array.replicate n false) a w.drew (by simp) (fun i o ho hl => by
    exfalso
    by_cases hin : i < n
    · simp [Array.getD, hin] at hl
    · simp [Array.getD, hin] at hl) h1
  rw [hf]
  have e : Array.replicate (n + 1) false = (Array.replicate n false).push false := by
    apply Array.ext_getElem?
    intro q
    simp only [Array.getElem?_replicate, Array.getElem?_push, Array.size_replicate]
    split <;> split <;> simp_all <;> omega
  rw [e]
  exact h2
end
theorem last_do {P : Program} {full : Array Oper} {Q : Exit → Go.Act → World → Prop} {n : Nat} {o : Oper} {a : Go.Act} {w : World} (ho : full[n]? = some o)
    (h : ∀ K : Go.Act → World → Prop, Hid (∀ a w, Q .normal a w → K a w) → if Region.wanted o (yielded full a.tmps) = true then Oper.wp P o a w K Q else K (a.put o.dst undef) w) : lastQ P full Q n .normal a w :=
  wpOp_step ho (fun K hK => h K (Lib.hid hK))
end Go.Proofs.YtmbffncmogpkfaaGreatDoor

namespace Go.Proofs.YtmbffncmogpkfaaGreatDoor
open Go Go.Proofs Go.RowKit
set_option linter.unusedVariables false
set_option linter.unusedSimpArgs false

/-- a function that reads by a cursor in the block B and lays what it takes in a local struct in the block g3; its result's block g2. -/
structure VS (R : Option Nat) (B g2 g3 : Nat) (z cs : List Value) (w0 : World) (s : RC) (W : World) : Prop where
  cur : AnyAt R W B s
  res : Blk W g2 z
  loc : Blk W g3 cs
  grown : w0.grownBy W (some B)
  ne : g2 ≠ B ∧ g3 ≠ B ∧ g2 ≠ g3 ∧ R ≠ some g3 ∧ R ≠ some g2 ∧ w0.heap.size ≤ g2 ∧ w0.heap.size ≤ g3
section
variable {R : Option Nat} {B g2 g3 : Nat} {z cs : List Value} {w0 W W' : World} {s s' : RC}
theorem VS.call (h : VS R B g2 g3 z cs w0 s W) (hc : AnyAt R W' B s') (hg : W.grownBy W' (some B)) : VS R B g2 g3 z cs w0 s' W' :=
  ⟨hc, h.res.grown hg (by simp; exact fun e => h.ne.1 e.symm), h.loc.grown hg (by simp; exact fun e => h.ne.2.1 e.symm), grownBy_trans h.grown hg, h.ne⟩
theorem VS.set (h : VS R B g2 g3 z cs w0 s W) (j : Nat) (v : Value) : VS R B g2 g3 z (cs.set j v) w0 s (W.setCell ⟨g3, j, none⟩ v) := by
  obtain ⟨n1, n2, n3, n4, n5, n6, n7⟩ := h.ne
  exact ⟨h.cur.grown (grownBy_set W g3 j v) (fun e => n2 e.symm) n4, h.res.other n3 j v, h.loc.set j v, grownBy_high h.grown g3 j n7 v, h.ne⟩
theorem VS.setE {l : List UInt8} {e : Bool} (h : VS R B g2 g3 z cs w0 (l, e) W) (e' : Bool) : VS R B g2 g3 z cs w0 (l, e') (W.setCell ⟨B, 1, none⟩ (.bool e')) := by
  obtain ⟨q1, q2⟩ := h.cur.setE e'
  exact h.call q1 q2
theorem VS.fin (h : VS R B g2 g3 z cs w0 s W) (vs : List Value) :
    (∃ t, (setAll W g2 0 vs).heap[g2]? = some (.cells (setL z 0 vs).toArray t)) ∧ AnyAt R (setAll W g2 0 vs) B s ∧ w0.grownBy (setAll W g2 0 vs) (some B) := by
  obtain ⟨n1, n2, n3, n4, n5, n6, n7⟩ := h.ne
  obtain ⟨_, t, ht⟩ := setAll_blk g2 vs 0 W z h.res
  exact ⟨⟨t, ht⟩, setAll_keep g2 (fun W => AnyAt R W B s) (fun W j v hc => hc.grown (grownBy_set _ g2 j v) (fun e => n1 e.symm) n5) vs 0 W h.cur, setAll_keep g2 (fun W => w0.grownBy W (some B)) (fun W j v hc => grownBy_high hc g2 j n6 v) vs 0 W h.grown⟩
end
theorem cellsV5 {W : World} {g : Nat} {a b c d e : Value} (h : Blk W g [a, b, c, d, e]) :
    (W.cell? ⟨g, 0, none⟩ = some a ∧ W.cell? ⟨g, 1, none⟩ = some b ∧ W.cell? ⟨g, 2, none⟩ = some c ∧ W.cell? ⟨g, 3, none⟩ = some d ∧ W.cell? ⟨g, 4, none⟩ = some e) ∧
    (W.frozen? ⟨g, 0, none⟩ = false ∧ W.frozen? ⟨g, 1, none⟩ = false ∧ W.frozen? ⟨g, 2, none⟩ = false ∧ W.frozen? ⟨g, 3, none⟩ = false ∧ W.frozen? ⟨g, 4, none⟩ = false) :=
  ⟨⟨h.cell 0 _ rfl, h.cell 1 _ rfl, h.cell 2 _ rfl, h.cell 3 _ rfl, h.cell 4 _ rfl⟩, h.thaw 0, h.thaw 1, h.thaw 2, h.thaw 3, h.thaw 4⟩
theorem infoValR : (Tryz.prog.info? 47).map (·.size) = some 5 := by kernel_rfl
def rVal (s : RC) : V5 × RC :=
  if (rInt s).1 = 1 then (⟨1, (rTruth (rInt s).2).1, 0, 0, []⟩, (rTruth (rInt s).2).2)
  else if (rInt s).1 = 2 then (⟨2, false, (rInt (rInt s).2).1, 0, []⟩, (rInt (rInt s).2).2)
  else if (rInt s).1 = 3 then (⟨3, false, 0, (rReal (rInt s).2).1, []⟩, (rReal (rInt s).2).2)
  else if (rInt s).1 = 4 then (⟨4, false, 0, 0, (rStr (rInt s).2).1⟩, (rStr (rInt s).2).2)
  else (⟨(rInt s).1, false, 0, 0, []⟩, ((rInt s).2.1, true))
section
variable {R : Option Nat}
set_option maxRecDepth 100000 in
set_option maxHeartbeats 8000000 in
theorem toVal_c (B : Nat) (s : RC) (w : World) (h : AnyAt R w B s) (hR : ∀ r, R = some r → r < w.heap.size) : Calls Tryz.prog 58 #[.pointer (some ⟨B, 0, none⟩)] w (AnyTo R B w (rVal s).1.v (rVal s).2) := by
  have hlt := h.lt
  have HV : Hid (rVal s = if (rInt s).1 = 1 then (⟨1, (rTruth (rInt s).2).1, 0, 0, []⟩, (rTruth (rInt s).2).2)
    else if (rInt s).1 = 2 then (⟨2, false, (rInt (rInt s).2).1, 0, []⟩, (rInt (rInt s).2).2)
    else if (rInt s).1 = 3 then (⟨3, false, 0, (rReal (rInt s).2).1, []⟩, (rReal (rInt s).2).2)
    else if (rInt s).1 = 4 then (⟨4, false, 0, 0, (rStr (rInt s).2).1⟩, (rStr (rInt s).2).2)
    else (⟨(rInt s).1, false, 0, 0, []⟩, ((rInt s).2.1, true))) := Lib.hid rfl
  have hA : Below w.heap.size w (w.alloc (.cells #[.int .i64 0, .bool false, .int .i64 0, .float .f64 0, .string ⟨#[]⟩] 47)) := (Below.refl _ w).alloc (Nat.le_refl _) _
  have C1 := Lib.hid (XIntA_c B s _ (h.below hA))
  have hb : Blk (w.alloc (.cells #[.int .i64 0, .bool false, .int .i64 0, .float .f64 0, .string ⟨#[]⟩] 47)) w.heap.size [.int .i64 0, .bool false, .int .i64 0, .float .f64 0, .string ⟨#[]⟩] := Blk.new w [.int .i64 0, .bool false, .int .i64 0, .float .f64 0, .string ⟨#[]⟩] _
  generalize rVal s = rv at *
  generalize rInt s = p at *
  obtain ⟨k, s1⟩ := p
  dsimp only at C1 HV
  have HL : Hid (∀ w1, AnyAt R w1 B s1 → (w.alloc (.cells #[.int .i64 0, .bool false, .int .i64 0, .float .f64 0, .string ⟨#[]⟩] 47)).grownBy w1 (some B) →
      VS R B w.heap.size w1.heap.size [.int .i64 0, .bool false, .int .i64 0, .float .f64 0, .string ⟨#[]⟩] [.int .i64 k, .bool false, .int .i64 0, .float .f64 0, .string ⟨#[]⟩] w s1 (w1.alloc (.cells #[.int .i64 k, .bool false, .int .i64 0, .float .f64 0, .string ⟨#[]⟩] 47)) ∧ w.heap.size < w1.heap.size) := Lib.hid (fun w1 hc hg => by
    have hs := hg.size
    simp at hs
    refine ⟨⟨hc.below ((Below.refl _ _).alloc (Nat.le_refl _) _), (hb.grown hg (by simp; omega)).alloc _, Blk.new w1 [.int .i64 k, .bool false, .int .i64 0, .float .f64 0, .string ⟨#[]⟩] _, ?_, ⟨by omega, by omega, by omega, fun e => by have := hR _ e; omega, fun e => by have := hR _ e; omega, Nat.le_refl _, by omega⟩⟩, by omega⟩
    exact grownBy_trans (World.grownBy_alloc w _ _) (grownBy_trans hg (World.grownBy_alloc _ _ _)))
  clear h hA hb hR
  by_cases k1 : k = 1
  · subst k1
    rw [if_pos rfl] at HV
    obtain rfl := HV.out
    have C2 := Lib.hid (fun W (h : AnyAt R W B s1) => truth_c B s1 W h)
    generalize rTruth s1 = q at *
    obtain ⟨x, s2⟩ := q
    dsimp only at C2 ⊢
    go_enter Tryz.func58, Tryz.ntmps58
    go_wp2_with fail
    with_reducible refine (C1.out).mono ?_
    rintro e w1 ⟨rfl, hc, hg⟩
    obtain ⟨hL, hlw⟩ := HL.out w1 hc hg
    have H := Lib.hid hL
    have hne1 : ¬ w1.heap.size = w.heap.size := by omega
    have hne2 : ¬ w.heap.size = w1.heap.size := by omega
    clear hc hg hL HL C1
    go_wp2_with (first | (go_at_call 31; (with_reducible refine (C2.out _ H.out.cur).mono ?_); rintro e wq ⟨rfl, hc, hg⟩; replace H := Lib.hid (H.out.call hc hg); obtain ⟨hkc, hkf⟩ := cellsV5 H.out.loc; obtain ⟨hrc, hrf⟩ := cellsV5 H.out.res; clear hc hg) | fail)
    obtain ⟨⟨t', ht⟩, hc, hg⟩ := (H.out.set 1 (.bool x)).fin [.int .i64 1, .bool x, .int .i64 0, .float .f64 0, .string ⟨#[]⟩]
    (try simp only [Exit.inBlock, Exit.then])
    refine bodyPost_ret (results_cell_row rfl _ _ w.heap.size t' #[_, _, _, _, _] (0, 0) _ rfl ht Tryz.underlying47 rfl infoValR) rfl ?_
    exact ⟨rfl, hc, hg⟩
  by_cases k2 : k = 2
  · subst k2
    rw [if_neg (by decide : ¬ (2 : Int) = 1), if_pos rfl] at HV
    obtain rfl := HV.out
    have C2 := Lib.hid (fun W (h : AnyAt R W B s1) => XIntA_c B s1 W h)
    generalize rInt s1 = q at *
    obtain ⟨x, s2⟩ := q
    dsimp only at C2 ⊢
    go_enter Tryz.func58, Tryz.ntmps58
    go_wp2_with fail
    with_reducible refine (C1.out).mono ?_
    rintro e w1 ⟨rfl, hc, hg⟩
    obtain ⟨hL, hlw⟩ := HL.out w1 hc hg
    have H := Lib.hid hL
    have hne1 : ¬ w1.heap.size = w.heap.size := by omega
    have hne2 : ¬ w.heap.size = w1.heap.size := by omega
    clear hc hg hL HL C1
    go_wp2_with (first | (go_at_call 29; (with_reducible refine (C2.out _ H.out.cur).mono ?_); rintro e wq ⟨rfl, hc, hg⟩; replace H := Lib.hid (H.out.call hc hg); obtain ⟨hkc, hkf⟩ := cellsV5 H.out.loc; obtain ⟨hrc, hrf⟩ := cellsV5 H.out.res; clear hc hg) | fail)
    obtain ⟨⟨t', ht⟩, hc, hg⟩ := (H.out.set 2 (.int .i64 x)).fin [.int .i64 2, .bool false, .int .i64 x, .float .f64 0, .string ⟨#[]⟩]
    (try simp only [Exit.inBlock, Exit.then])
    refine bodyPost_ret (results_cell_row rfl _ _ w.heap.size t' #[_, _, _, _, _] (0, 0) _ rfl ht Tryz.underlying47 rfl infoValR) rfl ?_
    exact ⟨rfl, hc, hg⟩
  by_cases k3 : k = 3
  · subst k3
    rw [if_neg (by decide : ¬ (3 : Int) = 1), if_neg (by decide : ¬ (3 : Int) = 2), if_pos rfl] at HV
    obtain rfl := HV.out
    have C2 := Lib.hid (fun W (h : AnyAt R W B s1) => XRealA_c B s1 W h)
    generalize rReal s1 = q at *
    obtain ⟨x, s2⟩ := q
    dsimp only at C2 ⊢
    go_enter Tryz.func58, Tryz.ntmps58
    go_wp2_with fail
    with_reducible refine (C1.out).mono ?_
    rintro e w1 ⟨rfl, hc, hg⟩
    obtain ⟨hL, hlw⟩ := HL.out w1 hc hg
    have H := Lib.hid hL
    have hne1 : ¬ w1.heap.size = w.heap.size := by omega
    have hne2 : ¬ w.heap.size = w1.heap.size := by omega
    clear hc hg hL HL C1
    go_wp2_with (first | (go_at_call 33; (with_reducible refine (C2.out _ H.out.cur).mono ?_); rintro e wq ⟨rfl, hc, hg⟩; replace H := Lib.hid (H.out.call hc hg); obtain ⟨hkc, hkf⟩ := cellsV5 H.out.loc; obtain ⟨hrc, hrf⟩ := cellsV5 H.out.res; clear hc hg) | fail)
    obtain ⟨⟨t', ht⟩, hc, hg⟩ := (H.out.set 3 (.float .f64 x)).fin [.int .i64 3, .bool false, .int .i64 0, .float .f64 x, .string ⟨#[]⟩]
    (try simp only [Exit.inBlock, Exit.then])
    refine bodyPost_ret (results_cell_row rfl _ _ w.heap.size t' #[_, _, _, _, _] (0, 0) _ rfl ht Tryz.underlying47 rfl infoValR) rfl ?_
    exact ⟨rfl, hc, hg⟩
  by_cases k4 : k = 4
  · subst k4
    rw [if_neg (by decide : ¬ (4 : Int) = 1), if_neg (by decide : ¬ (4 : Int) = 2), if_neg (by decide : ¬ (4 : Int) = 3), if_pos rfl] at HV
    obtain rfl := HV.out
    have C2 := Lib.hid (fun W (h : AnyAt R W B s1) => XStrA_c B s1 W h)
    generalize rStr s1 = q at *
    obtain ⟨x, s2⟩ := q
    dsimp only at C2 ⊢
    go_enter Tryz.func58, Tryz.ntmps58
    go_wp2_with fail
    with_reducible refine (C1.out).mono ?_
    rintro e w1 ⟨rfl, hc, hg⟩
    obtain ⟨hL, hlw⟩ := HL.out w1 hc hg
    have H := Lib.hid hL
    have hne1 : ¬ w1.heap.size = w.heap.size := by omega
    have hne2 : ¬ w.heap.size = w1.heap.size := by omega
    clear hc hg hL HL C1
    go_wp2_with (first | (go_at_call 32; (with_reducible refine (C2.out _ H.out.cur).mono ?_); rintro e wq ⟨rfl, hc, hg⟩; replace H := Lib.hid (H.out.call hc hg); obtain ⟨hkc, hkf⟩ := cellsV5 H.out.loc; obtain ⟨hrc, hrf⟩ := cellsV5 H.out.res; clear hc hg) | fail)
    obtain ⟨⟨t', ht⟩, hc, hg⟩ := (H.out.set 4 (.string ⟨x.toArray⟩)).fin [.int .i64 4, .bool false, .int .i64 0, .float .f64 0, .string ⟨x.toArray⟩]
    (try simp only [Exit.inBlock, Exit.then])
    refine bodyPost_ret (results_cell_row rfl _ _ w.heap.size t' #[_, _, _, _, _] (0, 0) _ rfl ht Tryz.underlying47 rfl infoValR) rfl ?_
    exact ⟨rfl, hc, hg⟩
  rw [if_neg k1, if_neg k2, if_neg k3, if_neg k4] at HV
  obtain rfl := HV.out
  have q1 : (k == 1) = false := by simpa using k1
  have q2 : (k == 2) = false := by simpa using k2
  have q3 : (k == 3) = false := by simpa using k3
  have q4 : (k == 4) = false := by simpa using k4
  clear k1 k2 k3 k4
  obtain ⟨l1, e1⟩ := s1
  go_enter Tryz.func58, Tryz.ntmps58
  go_wp2_with fail
  with_reducible refine (C1.out).mono ?_
  rintro e w1 ⟨rfl, hc, hg⟩
  obtain ⟨hL, hlw⟩ := HL.out w1 hc hg
  have H := Lib.hid hL
  have hne1 : ¬ w1.heap.size = w.heap.size := by omega
  have hne2 : ¬ w.heap.size = w1.heap.size := by omega
  have hne3 : ¬ B = w1.heap.size := fun e => hL.ne.2.1 e.symm
  have hne4 : ¬ B = w.heap.size := fun e => hL.ne.1 e.symm
  obtain ⟨_, _, g1, _, f1, _, _⟩ := hc
  have ⟨hkc, hkf⟩ := cellsV5 hL.loc
  have ⟨hrc, hrf⟩ := cellsV5 hL.res
  obtain ⟨_, _, h1, _, h1f, _, _⟩ := hL.cur
  clear hg hL HL C1 g1 f1
  go_wp2_with fail
  obtain ⟨⟨t', ht⟩, hc, hg⟩ := (H.out.setE true).fin [.int .i64 k, .bool false, .int .i64 0, .float .f64 0, .string ⟨#[]⟩]
  (try simp only [Exit.inBlock, Exit.then])
  refine bodyPost_ret (results_cell_row rfl _ _ w.heap.size t' #[_, _, _, _, _] (0, 0) _ rfl ht Tryz.underlying47 rfl infoValR) rfl ?_
  exact ⟨rfl, hc, hg⟩
end
end Go.Proofs.YtmbffncmogpkfaaGreatDoor

namespace Go.Proofs.YtmbffncmogpkfaaGreatDoor
open Go Go.Proofs Go.RowKit
set_option linter.unusedVariables false
set_option linter.unusedSimpArgs false

def rN {X : Type} (f : RC → X × RC) : Nat → RC → List X × RC
  | 0, s => ([], s)
  | n + 1, s => ((f s).1 :: (rN f n (f s).2).1, (rN f n (f s).2).2)
def rPr (s : RC) : PR × RC := (⟨(rStr s).1, (rVal (rStr s).2).1⟩, (rVal (rStr s).2).2)
def rNd (s : RC) : (List (List UInt8) × List PR) × RC :=
  (((rN rStr (rMany 3 s).1.toNat (rMany 3 s).2).1, (rN rPr (rMany 3 (rN rStr (rMany 3 s).1.toNat (rMany 3 s).2).2).1.toNat (rMany 3 (rN rStr (rMany 3 s).1.toNat (rMany 3 s).2).2).2).1), (rN rPr (rMany 3 (rN rStr (rMany 3 s).1.toNat (rMany 3 s).2).2).1.toNat (rMany 3 (rN rStr (rMany 3 s).1.toNat (rMany 3 s).2).2).2).2)
theorem rMany_bd (most : Int) (hm : 0 ≤ most) (s : RC) : 0 ≤ (rMany most s).1 ∧ (rMany most s).1 ≤ most := by
  unfold rMany outOf
  generalize rInt s = p
  obtain ⟨n, l, e⟩ := p
  simp only
  split
  · omega
  · rename_i h
    simp at h
    omega
theorem rN_snoc {X : Type} (f : RC → X × RC) {n : Nat} {ys : List X} {sj : RC} {rc : List X × RC} (h : rc = (ys ++ (rN f (n + 1) sj).1, (rN f (n + 1) sj).2)) : rc = ((ys ++ [(f sj).1]) ++ (rN f n (f sj).2).1, (rN f n (f sj).2).2) := by
  rw [h]
  simp [rN]
/-- what toNode holds: the cursor, the result's block g2, the local node's block g3, its two rows. -/
structure NS (R : Option Nat) (B : Nat) (w0 : World) (s : RC) (va vb : Value) (ss : List (List UInt8)) (ps : List PR) (W : World) : Prop where
  cur : AnyAt R W B s
  res : Blk W w0.heap.size [.slice none 0 0, .slice none 0 0]
  loc : Blk W (w0.heap.size + 1) [va, vb]
  so : W.ownsRow (w0.heap.size + 2) 9 1 va ss.length (ss.flatMap (fun s : List UInt8 => [strV s]))
  po : W.ownsRow (w0.heap.size + 2) 49 6 vb ps.length (ps.flatMap PR.cells)
  grown : w0.grownBy W (some B)
  lt : B < w0.heap.size
  far : ∀ r, R = some r → r < w0.heap.size
section
variable {R : Option Nat} {B : Nat} {w0 W W' : World} {s s' : RC} {va vb : Value} {ss : List (List UInt8)} {ps : List PR}
theorem own_call {lo e k n : Nat} {v : Value} {xs : List Value} (h : W.ownsRow lo e k v n xs) (hg : W.grownBy W' (some B)) (hB : B < lo) : W'.ownsRow lo e k v n xs := by
  refine h.kept hg ?_
  cases hv : v.ownBlock with
  | none => exact .inl rfl
  | some q => right; intro e; have hq : q = B := by simpa using e
              have := (h.lt q hv).1; omega
theorem NS.call (h : NS R B w0 s va vb ss ps W) (hc : AnyAt R W' B s') (hg : W.grownBy W' (some B)) : NS R B w0 s' va vb ss ps W' := by
  have hlt := h.lt
  exact ⟨hc, h.res.grown hg (by simp; omega), h.loc.grown hg (by simp; omega), own_call h.so hg (by omega), own_call h.po hg (by omega), grownBy_trans h.grown hg, h.lt, h.far⟩
theorem NS.alloc (h : NS R B w0 s va vb ss ps W) (o : Obj) : NS R B w0 s va vb ss ps (W.alloc o) :=
  h.call (h.cur.below ((Below.refl _ W).alloc (Nat.le_refl _) o)) (World.grownBy_alloc W o _)
theorem NS.drew (h : NS R B w0 s va vb ss ps W) : NS R B w0 s va vb ss ps W.drew := h.call (h.cur.below (Below.refl _ W).drew) ⟨rfl, rfl, rfl, Nat.le_refl _, fun _ _ _ => rfl⟩
/-- a block of later is written. -/
theorem NS.set4 (h : NS R B w0 s va vb ss ps W) (g j : Nat) (u : Value) (hg : w0.heap.size + 2 ≤ g) (ha : va.ownBlock ≠ some g) (hb : vb.ownBlock ≠ some g) : NS R B w0 s va vb ss ps (W.setCell ⟨g, j, none⟩ u) := by
  have hlt := h.lt
  refine ⟨h.cur.grown (grownBy_set W g j u) (by omega) (fun e => by have := h.far _ e; omega), h.res.other (by omega) j u, h.loc.other (by omega) j u, ?_, ?_, grownBy_high h.grown g j (by omega) u, h.lt, h.far⟩
  · refine h.so.kept (grownBy_set W g j u) ?_
    cases hv : va.ownBlock with
    | none => exact .inl rfl
    | some q => right; rw [← hv]; exact ha
  · refine h.po.kept (grownBy_set W g j u) ?_
    cases hv : vb.ownBlock with
    | none => exact .inl rfl
    | some q => right; rw [← hv]; exact hb
theorem grown_push {v : Value} {o : Obj} {lo e k n : Nat} {xs : List Value} (h : w0.grownBy W (some B)) (ho : W.ownsRow lo e k v n xs) (hl : w0.heap.size ≤ lo) (hgr : (W.alloc o).grownBy W' v.ownBlock) : w0.grownBy W' (some B) := by
  have hne : ∀ q, v.ownBlock = some q → lo ≤ q := fun q hq => (ho.lt q hq).1
  have hs := h.size
  have ha := World.grownBy_alloc W o none
  have hsz : W.heap.size ≤ W'.heap.size := by have := hgr.size; simp at this; omega
  exact ⟨hgr.os.trans (ha.os.trans h.os), hgr.tape.trans (ha.tape.trans h.tape), hgr.output.trans (ha.output.trans h.output), by omega, fun i hi hr => (hgr.block i (by simp; omega) (fun e => by have := hne i e.symm; omega)).trans ((ha.block i (by omega) (by simp)).trans (h.block i hi hr))⟩
theorem cur_push {v : Value} {o : Obj} {lo e k n : Nat} {xs : List Value} (hc : AnyAt R W B s) (ho : W.ownsRow lo e k v n xs) (hB : B < lo) (hR : ∀ r, R = some r → r < lo) (hgr : (W.alloc o).grownBy W' v.ownBlock) : AnyAt R W' B s := by
  have hcur := hc.below ((Below.refl _ W).alloc (Nat.le_refl _) o)
  cases hv : v.ownBlock with
  | none => rw [hv] at hgr; exact hcur.below ⟨hgr.os, hgr.tape, hgr.output, hgr.size, fun i hi => hgr.block i hi (by simp)⟩
  | some q => rw [hv] at hgr; have := (ho.lt q hv).1; exact hcur.grown hgr (by omega) (fun e => by have := hR _ e; omega)
/-- a label more. -/
theorem NS.pushS {v' : Value} {o : Obj} {y : List UInt8} (h : NS R B w0 s va vb ss ps W) (hown : W'.ownsRow (w0.heap.size + 2) 9 1 v' (ss.length + 1) (ss.flatMap (fun s : List UInt8 => [strV s]) ++ [strV y])) (hgr : (W.alloc o).grownBy W' va.ownBlock) :
    NS R B w0 s v' vb (ss ++ [y]) ps (W'.setCell ⟨w0.heap.size + 1, 0, none⟩ v') ∧ Blk W' (w0.heap.size + 1) [va, vb] := by
  have hlt := h.lt
  have hne : ∀ q, va.ownBlock = some q → w0.heap.size + 2 ≤ q := fun q hq => (h.so.lt q hq).1
  have hl' : Blk W' (w0.heap.size + 1) [va, vb] := (h.loc.alloc o).grown hgr (fun hq => by have := hne _ hq; omega)
  have hc := cur_push h.cur h.so (by omega) (fun r hr => by have := h.far r hr; omega) hgr
  refine ⟨⟨hc.grown (grownBy_set W' _ 0 v') (by omega) (fun e => by have := h.far _ e; omega), ((h.res.alloc o).grown hgr (fun hq => by have := hne _ hq; omega)).other (by omega) 0 v', hl'.set 0 v', own_set (by simpa [List.flatMap_append] using hown) _ 0 (by omega) v', own_set ((h.po.alloc _).kept hgr (owns_apart h.po h.so (by decide))) _ 0 (by omega) v', grownBy_high (grown_push h.grown h.so (by omega) hgr) _ 0 (by omega) v', h.lt, h.far⟩, hl'⟩
/-- a property more. -/
theorem NS.pushP {v' : Value} {o : Obj} {y : PR} (h : NS R B w0 s va vb ss ps W) (hown : W'.ownsRow (w0.heap.size + 2) 49 6 v' (ps.length + 1) (ps.flatMap PR.cells ++ y.cells)) (hgr : (W.alloc o).grownBy W' vb.ownBlock) :
    NS R B w0 s va v' ss (ps ++ [y]) (W'.setCell ⟨w0.heap.size + 1, 1, none⟩ v') ∧ Blk W' (w0.heap.size + 1) [va, vb] := by
  have hlt := h.lt
  have hne : ∀ q, vb.ownBlock = some q → w0.heap.size + 2 ≤ q := fun q hq => (h.po.lt q hq).1
  have hl' : Blk W' (w0.heap.size + 1) [va, vb] := (h.loc.alloc o).grown hgr (fun hq => by have := hne _ hq; omega)
  have hc := cur_push h.cur h.po (by omega) (fun r hr => by have := h.far r hr; omega) hgr
  refine ⟨⟨hc.grown (grownBy_set W' _ 1 v') (by omega) (fun e => by have := h.far _ e; omega), ((h.res.alloc o).grown hgr (fun hq => by have := hne _ hq; omega)).other (by omega) 1 v', hl'.set 1 v', own_set ((h.so.alloc _).kept hgr (owns_apart h.so h.po (by decide))) _ 1 (by omega) v', own_set (by simpa [List.flatMap_append] using hown) _ 1 (by omega) v', grownBy_high (grown_push h.grown h.po (by omega) hgr) _ 1 (by omega) v', h.lt, h.far⟩, hl'⟩
end
/-- what toNode gives. -/
def NdTo (R : Option Nat) (B : Nat) (w : World) (nd : List (List UInt8) × List PR) (s : RC) (e : Ending) (w' : World) : Prop :=
  ∃ va vc vb vd, e = .returned (.agg #[.slice va nd.1.length vc, .slice vb nd.2.length vd]) ∧ AnyAt R w' B s ∧ w.grownBy w' (some B) ∧ w'.ownsRow w.heap.size 9 1 (.slice va nd.1.length vc) nd.1.length (nd.1.flatMap (fun s : List UInt8 => [strV s])) ∧ w'.ownsRow w.heap.size 49 6 (.slice vb nd.2.length vd) nd.2.length (nd.2.flatMap PR.cells)
theorem infoNodeR : (Tryz.prog.info? 43).map (·.size) = some 2 := by kernel_rfl
theorem cells2 {W : World} {g : Nat} {a b : Value} (h : Blk W g [a, b]) : (W.cell? ⟨g, 0, none⟩ = some a ∧ W.cell? ⟨g, 1, none⟩ = some b) ∧ (W.frozen? ⟨g, 0, none⟩ = false ∧ W.frozen? ⟨g, 1, none⟩ = false) :=
  ⟨⟨h.cell 0 _ rfl, h.cell 1 _ rfl⟩, h.thaw 0, h.thaw 1⟩
section
variable {R : Option Nat}
set_option maxRecDepth 100000 in
set_option maxHeartbeats 8000000 in
theorem toNode_c (B : Nat) (s : RC) (w : World) (h : AnyAt R w B s) (hR : ∀ r, R = some r → r < w.heap.size) : Calls Tryz.prog 34 #[.pointer (some ⟨B, 0, none⟩)] w (NdTo R B w (rNd s).1 (rNd s).2) := by
  have hlt := h.lt
  have HN : Hid (rNd s = (((rN rStr (rMany 3 s).1.toNat (rMany 3 s).2).1, (rN rPr (rMany 3 (rN rStr (rMany 3 s).1.toNat (rMany 3 s).2).2).1.toNat (rMany 3 (rN rStr (rMany 3 s).1.toNat (rMany 3 s).2).2).2).1), (rN rPr (rMany 3 (rN rStr (rMany 3 s).1.toNat (rMany 3 s).2).2).1.toNat (rMany 3 (rN rStr (rMany 3 s).1.toNat (rMany 3 s).2).2).2).2)) := Lib.hid rfl
  have hb1 := rMany_bd 3 (by decide) s
  have C1 := Lib.hid (fun W (h : AnyAt R W B s) => many_c B s 3 W h)
  generalize rNd s = rd at *
  generalize rMany 3 s = p1 at *
  obtain ⟨m1, s1⟩ := p1
  dsimp only at C1 HN hb1
  obtain ⟨n1, rfl⟩ := Int.eq_ofNat_of_zero_le hb1.1
  obtain ⟨rc1, hrc1⟩ : ∃ rc, rc = rN rStr n1 s1 := ⟨_, rfl⟩
  rw [Int.toNat_natCast, ← hrc1] at HN
  have HRC1 := Lib.hid hrc1
  have hb2 := rMany_bd 3 (by decide) rc1.2
  have C2 := Lib.hid (fun W (h : AnyAt R W B rc1.2) => many_c B rc1.2 3 W h)
  generalize rMany 3 rc1.2 = p2 at *
  obtain ⟨m2, s2⟩ := p2
  dsimp only at C2 HN hb2
  obtain ⟨n2, rfl⟩ := Int.eq_ofNat_of_zero_le hb2.1
  obtain ⟨rc2, hrc2⟩ : ∃ rc, rc = rN rPr n2 s2 := ⟨_, rfl⟩
  rw [Int.toNat_natCast, ← hrc2] at HN
  have HRC2 := Lib.hid hrc2
  have hn1 : n1 ≤ 3 := by omega
  have hn2 : n2 ≤ 3 := by omega
  have H0 : Hid (NS R B w s (.slice none 0 0) (.slice none 0 0) [] [] ((w.alloc (.cells #[.slice none 0 0, .slice none 0 0] 43)).alloc (.cells #[.slice none 0 0, .slice none 0 0] 43))) := Lib.hid (by
    have hA := ((Below.refl _ w).alloc (Nat.le_refl _) (.cells #[.slice none 0 0, .slice none 0 0] 43)).alloc (by simp) (.cells #[.slice none 0 0, .slice none 0 0] 43)
    exact ⟨h.below hA, (Blk.new w [.slice none 0 0, .slice none 0 0] _).alloc _, Blk.newAt _ [.slice none 0 0, .slice none 0 0] _ _ (by simp), World.ownsRow_nil _ _ _ _, World.ownsRow_nil _ _ _ _, grownBy_trans (World.grownBy_alloc w _ _) (World.grownBy_alloc _ _ _), hlt, hR⟩)
  clear h hR hrc1 hrc2 hb1 hb2
  obtain rfl := HN.out
  clear HN
  go_enter Tryz.func34, Tryz.ntmps34
  go_wp2_with fail
  with_reducible refine (C1.out _ H0.out.cur).mono ?_
  rintro e w1 ⟨rfl, hc, hg⟩
  have H1 := Lib.hid (H0.out.call hc hg)
  clear hc hg H0 C1
  go_wp2_with fail
  go_loopw [5] (fun i wr => ∃ (ss : List (List UInt8)) (sj : RC) (va : Value), i = .int .i64 (ss.length : Int) ∧ ss.length ≤ n1 ∧ NS R B w sj va (.slice none 0 0) ss [] wr ∧ rc1 = (ss ++ (rN rStr (n1 - ss.length) sj).1, (rN rStr (n1 - ss.length) sj).2)) (fun i _ => n1 - (intOf i).toNat)
  case atStart => exact ⟨[], s1, .slice none 0 0, rfl, Nat.zero_le _, H1.out, by rw [HRC1.out]; simp⟩
  case round =>
    clear H1
    obtain ⟨ss, sj, va, rfl, hle, hns, hrc⟩ := hrel
    have H := Lib.hid hns
    have HRC := Lib.hid hrc
    clear hns hrc
    by_cases hltn : ss.length < n1
    · have hi1 : (ss.length : Int) < (n1 : Int) := by omega
      have CS := Lib.hid (XStrA_c B sj wr.drew H.out.drew.cur)
      obtain ⟨mm, hmm⟩ : ∃ mm, n1 - ss.length = mm + 1 := ⟨n1 - ss.length - 1, by omega⟩
      have HRS : Hid (rc1 = ((ss ++ [(rStr sj).1]) ++ (rN rStr mm (rStr sj).2).1, (rN rStr mm (rStr sj).2).2)) := Lib.hid (rN_snoc rStr (by rw [← hmm]; exact HRC.out))
      have HMM := Lib.hid hmm
      generalize rStr sj = q at *
      obtain ⟨y, s'⟩ := q
      dsimp only at CS HRS
      obtain ⟨⟨z0, z1⟩, f0, f1⟩ := cells2 H.out.drew.loc
      clear hmm HRC
      go_wp2_with fail
      refine wp_region_last (n := 7) (S := (fun W => W.cell? ⟨w.heap.size + 1, 0, none⟩ = some va)) (by kernel_rfl) (by kernel_rfl) (by kernel_rfl) ?_ (fun hHeld => ?_)
      · exact z0
      (refine wpAnyH_take (i := 0) (oi := R_RTn6_0) (v := ?_) rfl (by kernel_rfl) (by kernel_rfl) (by kernel_rfl) (fun _ _ _ h => h) (Or.inl ⟨by rfl, ?_⟩) (by assumption) ?_; rotate_left; next => (intro w hSw; (try dsimp only at hSw); (try delta R_RTn6_0); go_simp; try with_reducible rfl))
      (try simp only [Act.put, List.setIfInBounds_toArray, List.set_cons_zero, List.set_cons_succ])
      (refine wpAnyH_take (i := 1) (oi := R_RTn6_1) (v := ?_) rfl (by kernel_rfl) (by kernel_rfl) (by kernel_rfl) (fun _ _ _ h => h) (Or.inl ⟨by rfl, ?_⟩) (by assumption) ?_; rotate_left; next => (intro w hSw; (try dsimp only at hSw); (try delta R_RTn6_1); go_simp; try with_reducible rfl))
      (try simp only [Act.put, List.setIfInBounds_toArray, List.set_cons_zero, List.set_cons_succ])
      (refine wpAnyH_take (i := 2) (oi := R_RTn6_2) (v := ?_) rfl (by kernel_rfl) (by kernel_rfl) (by kernel_rfl) (fun _ _ _ h => h) (Or.inl ⟨by rfl, ?_⟩) (by assumption) ?_; rotate_left; next => (intro w hSw; (try dsimp only at hSw); (try delta R_RTn6_2); go_simp; try with_reducible rfl))
      (try simp only [Act.put, List.setIfInBounds_toArray, List.set_cons_zero, List.set_cons_succ])
      refine wpAnyH_ready (rs := [3]) (by kernel_rfl) (by simp) ?_
      refine AllReadyH.cons (o := R_RTn6_3) rfl (fun K hK => ?_) AllReadyH.nil
      (try delta R_RTn6_3)
      (go_simp; (with_reducible refine (CS.out).mono ?_); rintro e' w5 ⟨rfl, hc, hg⟩; have H5 := Lib.hid (H.out.drew.call hc hg); obtain ⟨⟨z0, z1⟩, f0, f1⟩ := cells2 H5.out.loc; clear hc hg; (try go_wp2_with fail))
      refine hK.out _ _ ?_ (fun hHeld => ?_)
      · exact z0
      clear hK K
      (try simp only [Act.put, List.setIfInBounds_toArray, List.set_cons_zero, List.set_cons_succ])
      refine wpAnyH_ready (rs := [4]) (by kernel_rfl) (by simp) ?_
      refine AllReadyH.cons (o := R_RTn6_4) rfl (fun K hK => ?_) AllReadyH.nil
      (try delta R_RTn6_4)
      go_simp
      (obtain ⟨⟨z0, z1⟩, f0, f1⟩ := cells2 (H5.out.alloc (.cells #[.string ⟨y.toArray⟩] 9)).loc)
      refine hK.out _ _ ?_ (fun hHeld => ?_)
      · exact z0
      clear hK K
      (try simp only [Act.put, List.setIfInBounds_toArray, List.set_cons_zero, List.set_cons_succ])
      refine wpAnyH_ready (rs := [5]) (by kernel_rfl) (by simp) ?_
      refine AllReadyH.cons (o := R_RTn6_5) rfl (fun K hK => ?_) AllReadyH.nil
      (try delta R_RTn6_5)
      (refine step_appK elemS (by decide) rfl _ _ rfl (w.heap.size + 2) ss.length _ _ (by rfl) (H5.out.so.alloc _) ⟨w5.heap.size, 0, none⟩ 1 [strV y] (by rfl) rfl (fun j u hu => by rw [addr_add, Nat.zero_add]; exact (Blk.new w5 [strV y] _).cell j u hu) (by simp [strV, Value.oneCell']) (by omega) (by omega) (by have := H5.out.loc.lt; simp; omega) ?_; intro va' vc' w7 hown hgr; obtain ⟨hps, hlc⟩ := H5.out.pushS hown hgr; have H7 := Lib.hid hps; obtain ⟨⟨z0, z1⟩, f0, f1⟩ := cells2 hlc; clear hown hgr hps)
      refine hK.out _ _ ?_ (fun hHeld => ?_)
      · exact z0
      clear hK K
      (try simp only [Act.put, List.setIfInBounds_toArray, List.set_cons_zero, List.set_cons_succ])
      (refine wpAnyH_take (i := 6) (oi := R_RTn6_6) (v := ?_) rfl (by kernel_rfl) (by kernel_rfl) (by kernel_rfl) (fun _ _ _ h => h) (Or.inl ⟨by rfl, ?_⟩) (by assumption) ?_; rotate_left; next => (intro w hSw; (try dsimp only at hSw); (try delta R_RTn6_6); go_simp; try with_reducible rfl))
      (try simp only [Act.put, List.setIfInBounds_toArray, List.set_cons_zero, List.set_cons_succ])
      refine wpAnyH_done (by kernel_rfl) ?_ _
      (refine last_do (o := { dst := none, op := Op.store 40 (Operand.tmp 22) (Operand.tmp 21), type := 0, pos := "record.go:212", after := #[{ on := 6, ground := Ground.data }, { on := 5, ground := Ground.data }, { on := 5, ground := Ground.chain }, { on := 0, ground := Ground.phase }, { on := 1, ground := Ground.phase }, { on := 2, ground := Ground.phase }, { on := 3, ground := Ground.phase }, { on := 4, ground := Ground.phase }, { on := 5, ground := Ground.phase }], guard := none }) rfl (fun K hK => ?_); go_simp; refine hK.out _ _ ?_; clear hK K)
      go_wp2_with fail
      have hmm := HMM.out
      refine ⟨⟨ss ++ [y], s', .slice va' (ss.length + 1) vc', ?_, by rw [List.length_append]; simp; omega, H7.out, ?_⟩, ?_⟩
      · rw [List.length_append]; go_num
      · rw [HRS.out, show n1 - (ss ++ [y]).length = mm from by rw [List.length_append]; simp; omega]
      · simp [intOf]; omega
    · have e0 : n1 - ss.length = 0 := by omega
      have hi1 : ¬ (ss.length : Int) < (n1 : Int) := by omega
      obtain rfl : rc1 = (ss, sj) := by rw [HRC.out, e0]; simp [rN]
      clear e0 HRC HRC1
      dsimp only at C2 ⊢
      go_wp2_with fail
      with_reducible refine (C2.out _ H.out.cur).mono ?_
      rintro e w2 ⟨rfl, hc, hg⟩
      have H2 := Lib.hid (H.out.call hc hg)
      clear hc hg C2 H
      go_wp2_with fail
      go_loopw [6] (fun i wr => ∃ (ps : List PR) (sj : RC) (vb : Value), i = .int .i64 (ps.length : Int) ∧ ps.length ≤ n2 ∧ NS R B w sj va vb ss ps wr ∧ rc2 = (ps ++ (rN rPr (n2 - ps.length) sj).1, (rN rPr (n2 - ps.length) sj).2)) (fun i _ => n2 - (intOf i).toNat)
      case atStart => exact ⟨[], s2, .slice none 0 0, rfl, Nat.zero_le _, H2.out, by rw [HRC2.out]; simp⟩
      case round =>
        clear H2
        obtain ⟨ps, sk, vb, rfl, hle2, hns, hrc⟩ := hrel
        have H := Lib.hid hns
        have HRC := Lib.hid hrc
        clear hns hrc
        by_cases hltn2 : ps.length < n2
        · have hi2 : (ps.length : Int) < (n2 : Int) := by omega
          have CS := Lib.hid (XStrA_c B sk wr H.out.cur)
          obtain ⟨mm, hmm⟩ : ∃ mm, n2 - ps.length = mm + 1 := ⟨n2 - ps.length - 1, by omega⟩
          have HRS : Hid (rc2 = ((ps ++ [(rPr sk).1]) ++ (rN rPr mm (rPr sk).2).1, (rN rPr mm (rPr sk).2).2)) := Lib.hid (rN_snoc rPr (by rw [← hmm]; exact HRC.out))
          have HPR : Hid (rPr sk = (⟨(rStr sk).1, (rVal (rStr sk).2).1⟩, (rVal (rStr sk).2).2)) := Lib.hid rfl
          rw [HPR.out] at HRS
          have HMM := Lib.hid hmm
          clear HPR hmm HRC
          generalize rStr sk = q at *
          obtain ⟨y, s3⟩ := q
          dsimp only at CS HRS
          have CV := Lib.hid (fun W (h : AnyAt R W B s3) (hs : w.heap.size ≤ W.heap.size) => toVal_c B s3 W h (fun r hr => Nat.lt_of_lt_of_le (H.out.far r hr) hs))
          generalize rVal s3 = q at *
          obtain ⟨⟨k, b, n, f, t⟩, s4⟩ := q
          unfold V5.v at CV
          dsimp only at CV HRS
          obtain ⟨⟨z0, z1⟩, f0, f1⟩ := cells2 H.out.loc
          go_wp2_with fail
          with_reducible refine (CS.out).mono ?_
          rintro e w5 ⟨rfl, hc, hg⟩
          have H5 := Lib.hid (H.out.call hc hg)
          have HSZ : Hid (w.heap.size + 2 ≤ w5.heap.size) := Lib.hid (by have := H5.out.loc.lt; omega)
          have HVA : Hid (va.ownBlock ≠ some w5.heap.size ∧ vb.ownBlock ≠ some w5.heap.size) := Lib.hid ⟨fun e => by have := (H5.out.so.lt _ e).2; omega, fun e => by have := (H5.out.po.lt _ e).2; omega⟩
          have b4 : Blk (w5.alloc (.cells #[.string ⟨y.toArray⟩, .int .i64 0, .bool false, .int .i64 0, .float .f64 0, .string ⟨#[]⟩] 49)) w5.heap.size [.string ⟨y.toArray⟩, .int .i64 0, .bool false, .int .i64 0, .float .f64 0, .string ⟨#[]⟩] := Blk.new w5 [.string ⟨y.toArray⟩, .int .i64 0, .bool false, .int .i64 0, .float .f64 0, .string ⟨#[]⟩] _
          have HB4 := Lib.hid b4
          clear hc hg CS z0 z1 f0 f1 H b4
          go_wp2_with fail
          with_reducible refine (CV.out _ (H5.out.alloc _).cur (by have := HSZ.out; simp; omega)).mono ?_
          rintro e w7 ⟨rfl, hc, hg⟩
          have H7 := Lib.hid ((H5.out.alloc _).call hc hg)
          have HB7 := Lib.hid (HB4.out.grown hg (by have := H5.out.lt; have := HSZ.out; simp; omega))
          obtain ⟨⟨x0, x1, x2, x3, x4, x5⟩, y0, y1, y2, y3, y4, y5⟩ := cellsP HB7.out
          obtain ⟨⟨z0, z1⟩, f0, f1⟩ := cells2 H7.out.loc
          have hne1 : ¬ w5.heap.size = w.heap.size + 1 := by have := HSZ.out; omega
          have hne2 : ¬ w.heap.size + 1 = w5.heap.size := by have := HSZ.out; omega
          have h4 := fun {W : World} j u (h : NS R B w s4 va vb ss ps W) => h.set4 w5.heap.size j u HSZ.out HVA.out.1 HVA.out.2
          have H8 := Lib.hid (h4 5 (.string ⟨t.toArray⟩) (h4 4 (.float .f64 f) (h4 3 (.int .i64 n) (h4 2 (.bool b) (h4 1 (.int .i64 k) H7.out)))))
          clear hc hg CV h4
          have HB8 : Hid (Blk (((((w7.setCell ⟨w5.heap.size, 1, none⟩ (.int .i64 k)).setCell ⟨w5.heap.size, 2, none⟩ (.bool b)).setCell ⟨w5.heap.size, 3, none⟩ (.int .i64 n)).setCell ⟨w5.heap.size, 4, none⟩ (.float .f64 f)).setCell ⟨w5.heap.size, 5, none⟩ (.string ⟨t.toArray⟩)) w5.heap.size [.string ⟨y.toArray⟩, .int .i64 k, .bool b, .int .i64 n, .float .f64 f, .string ⟨t.toArray⟩]) := Lib.hid (((((HB7.out.set 1 _).set 2 _).set 3 _).set 4 _).set 5 _)
          go_upto_region 13 with fail
          clear x0 x1 x2 x3 x4 x5 y0 y1 y2 y3 y4 y5 z0 z1 f0 f1 HB4 HB7 H7
          generalize (((((w7.setCell ⟨w5.heap.size, 1, none⟩ (.int .i64 k)).setCell ⟨w5.heap.size, 2, none⟩ (.bool b)).setCell ⟨w5.heap.size, 3, none⟩ (.int .i64 n)).setCell ⟨w5.heap.size, 4, none⟩ (.float .f64 f)).setCell ⟨w5.heap.size, 5, none⟩ (.string ⟨t.toArray⟩)) = w8 at *
          obtain ⟨⟨x0, x1, x2, x3, x4, x5⟩, y0, y1, y2, y3, y4, y5⟩ := cellsP HB8.out
          obtain ⟨⟨z0, z1⟩, f0, f1⟩ := cells2 H8.out.loc
          go_wp2_with (first | (at_builtin; refine wp_appK1 elemPr (by decide) rfl _ _ rfl (w.heap.size + 2) ps.length _ _ rfl H8.out.po (PR.cells ⟨y, ⟨k, b, n, f, t⟩⟩) rfl rfl (by simp [PR.cells, Value.oneCell']) ?_ ?_ ?_ ?_))
          · have := hn2; omega
          · have := hn2; omega
          · have := H8.out.loc.lt; omega
          · intro v' w9 hown hgr _
            obtain ⟨va', vc', rfl⟩ := owns_shape hown
            obtain ⟨hps, hlc⟩ := H8.out.pushP hown hgr
            have H9 := Lib.hid hps
            obtain ⟨⟨z0, z1⟩, f0, f1⟩ := cells2 hlc
            clear hown hgr hps
            go_wp2_with fail
            have hmm := HMM.out
            refine ⟨⟨ps ++ [⟨y, ⟨k, b, n, f, t⟩⟩], s4, .slice va' (ps.length + 1) vc', ?_, by rw [List.length_append]; simp; omega, H9.out, ?_⟩, ?_⟩
            · rw [List.length_append]; go_num
            · rw [HRS.out, show n2 - (ps ++ [(⟨y, ⟨k, b, n, f, t⟩⟩ : PR)]).length = mm from by rw [List.length_append]; simp; omega]
            · simp [intOf]; omega
        · have e0 : n2 - ps.length = 0 := by omega
          have hi2 : ¬ (ps.length : Int) < (n2 : Int) := by omega
          obtain rfl : rc2 = (ps, sk) := by rw [HRC.out, e0]; simp [rN]
          clear e0 HRC HRC2
          obtain ⟨xa, xc, rfl⟩ := owns_shape H.out.so
          obtain ⟨ya, yc, rfl⟩ := owns_shape H.out.po
          obtain ⟨⟨z0, z1⟩, f0, f1⟩ := cells2 H.out.loc
          obtain ⟨⟨g0, g1⟩, f2, f3⟩ := cells2 H.out.res
          go_wp2_with fail
          obtain ⟨_, t', ht⟩ := (H.out.res.set 0 (.slice xa ss.length xc)).set 1 (.slice ya ps.length yc)
          have hlt2 := H.out.lt
          have hst : ∀ {W : World} j u, AnyAt R W B sk → AnyAt R (W.setCell ⟨w.heap.size, j, none⟩ u) B sk := fun j u hc => hc.grown (grownBy_set _ _ j u) (by omega) (fun e => by have := H.out.far _ e; omega)
          (try simp only [Exit.inBlock, Exit.then])
          refine bodyPost_ret (results_cell_row rfl _ _ w.heap.size t' #[_, _] (0, 0) _ rfl ht Tryz.underlying43 rfl infoNodeR) rfl ?_
          exact ⟨xa, xc, ya, yc, rfl, hst 1 _ (hst 0 _ H.out.cur), grownBy_high (grownBy_high H.out.grown _ 0 (Nat.le_refl _) _) _ 1 (Nat.le_refl _) _, ownsRow_mono (own_set (own_set H.out.so _ 0 (by omega) _) _ 1 (by omega) _) (by omega), ownsRow_mono (own_set (own_set H.out.po _ 0 (by omega) _) _ 1 (by omega) _) (by omega)⟩
end
end Go.Proofs.YtmbffncmogpkfaaGreatDoor

namespace Go.Proofs.YtmbffncmogpkfaaGreatDoor
open Go Go.Proofs Go.RowKit
set_option linter.unusedVariables false
set_option linter.unusedSimpArgs false

theorem own_belowE {w w' : World} {B e k n : Nat} {v : Value} {xs : List Value} (h : w.ownsRow B e k v n xs) (hb : Below w.heap.size w w') : w'.ownsRow B e k v n xs := by
  refine ⟨h.1, ?_⟩
  rcases h.2 with h' | ⟨g, cap, cur, rfl, hB, hg, rest⟩
  · exact .inl h'
  · exact .inr ⟨g, cap, cur, rfl, hB, (hb.block g (Array.getElem?_eq_some_iff.1 hg).1).trans hg, rest⟩
theorem own_app {w : World} {B : Nat} {v : Value} {a b : List UInt8} (h : w.ownsRow B 5 1 v (a.length + (bytesV b).length) (bytesV a ++ bytesV b)) : w.ownsRow B 5 1 v (a ++ b).length (bytesV (a ++ b)) := by
  rw [List.length_append, bytesV_append]
  rw [bytesV_length] at h
  exact h
set_option maxRecDepth 100000 in
set_option maxHeartbeats 4000000 in
theorem RInts_c (vn : Value) (ns : List Int) (w : World) (h2 : RowAt w vn (intsV ns)) (hok : IntsOk ns) (hb : ns.length ≤ 1000) : Calls Tryz.prog 18 #[vn] w (OwnB w (lebInts ns)) := by
  obtain ⟨na, nc, rfl⟩ := h2.shape
  have hln : (intsV ns).length = ns.length := by simp [intsV]
  rw [hln] at h2 ⊢
  have HN := Lib.hid h2
  have HO := Lib.hid hok
  clear h2 hok
  obtain ⟨N, hN⟩ : ∃ N, ns.length = N := ⟨_, rfl⟩
  rw [hN] at HN ⊢
  have HNL := Lib.hid hN
  go_enter Tryz.func18, Tryz.ntmps18
  go_wp2_with fail
  go_loopw [3, 4] (fun b i wr => ∃ (j : Nat) (va : Option Addr) (vc : Nat), i = .int .i64 (j : Int) ∧ j ≤ N ∧ b = .slice va (lebInts (ns.take j)).length vc ∧ wr.ownsRow w.heap.size 5 1 b (lebInts (ns.take j)).length (bytesV (lebInts (ns.take j))) ∧ Below w.heap.size w wr) (fun _ i _ => N - (intOf i).toNat)
  case atStart => exact ⟨0, none, 0, rfl, Nat.zero_le _, rfl, World.ownsRow_nil _ _ _ _, Below.refl _ _⟩
  case round =>
    obtain ⟨j, va, vc, rfl, hjN, rfl, ho, hbel⟩ := hrel
    have HS := Lib.hid ho
    have HB := Lib.hid hbel
    by_cases hj : j < N
    · have hj1 : (j : Int) < (N : Int) := by omega
      obtain ⟨B, o, rfl, hB, hx⟩ := (HN.out.below hbel).cellAt j (by rw [hln]; omega)
      have hx2 : wr.cell? ⟨B, o + j, none⟩ = some (.int .i64 (ns[j]'(by omega))) := by rw [hx]; simp [intsV]
      have hmem : ns[j]'(by omega) ∈ ns := List.getElem_mem _
      have hbd := HO.out _ hmem
      have htk : ns.take (j + 1) = ns.take j ++ [ns[j]'(by omega)] := by rw [List.take_add_one, List.getElem?_eq_getElem (by omega)]; rfl
      have hl1 := lebInts_len (ns.take j) (fun n hn => HO.out n (List.mem_of_mem_take hn))
      have hl2 := lebInt_len (ns[j]'(by omega)) hbd.1 hbd.2
      have HTK := Lib.hid htk
      have HLL := Lib.hid (show (lebInts (ns.take j)).length ≤ 10 * 1000 ∧ (lebInt (ns[j]'(by omega))).length ≤ 10 from ⟨by rw [List.length_take] at hl1; omega, hl2⟩)
      have HRI := Lib.hid (RInt_c (ns[j]'(by omega)) wr hbd.1 hbd.2)
      clear ho hbel hx hmem htk hl1 hl2
      generalize ns[j]'(by omega) = z at *
      obtain ⟨L, hL⟩ : ∃ L, lebInts (ns.take j) = L := ⟨_, rfl⟩
      rw [hL] at HS HLL ⊢
      have HLE := Lib.hid hL
      clear hL
      have HTL : Hid (lebInts (ns.take (j + 1)) = L ++ lebInt z) := Lib.hid (by rw [HTK.out, lebInts_snoc, HLE.out])
      go_wp2_with (first | (go_at_call 46; (with_reducible refine (HRI.out).mono ?_); rintro e w5 ⟨vr, rfl, hown5, hb5⟩; have HR5 := Lib.hid (RowAt.ofOwns hown5); obtain ⟨ra, rc, rfl⟩ := (RowAt.ofOwns hown5).shapeB; have HS5 := Lib.hid (own_belowE HS.out hb5); have HB5 := Lib.hid (HB.out.trans (hb5.mono HB.out.size)); clear hown5 hb5) | (at_builtin; refine wp_appRow elemB rfl _ _ rfl w.heap.size L.length _ (bytesV L) rfl HS5.out _ (bytesV (lebInt z)) rfl HR5.out (bytesV_one _) (by rw [bytesV_length]; have := HLL.out; omega) (by rw [bytesV_length]; have := HLL.out; omega) HB5.out.size ?_; intro v7 w7 hown7 hb7; rw [show L.length + (bytesV (lebInt z)).length = (lebInts (ns.take (j + 1))).length from by rw [HTL.out, List.length_append, bytesV_length], ← bytesV_append, ← HTL.out] at hown7; obtain ⟨va7, vc7, rfl⟩ := owns_shape hown7; have HO7 := Lib.hid hown7; have HB7 := Lib.hid (HB5.out.trans hb7); clear hown7 hb7) | fail)
      exact ⟨⟨j + 1, va7, vc7, rfl, hj, rfl, HO7.out, HB7.out⟩, by simp [intOf]; omega⟩
    · have hj1 : ¬ (j : Int) < (N : Int) := by omega
      have ht : ns.take j = ns := List.take_of_length_le (by omega)
      rw [ht] at HS ⊢
      clear ho hbel
      go_wp2_with fail
      go_ret
      exact ⟨_, rfl, HS.out, HB.out⟩
theorem own_app2 {w : World} {B n : Nat} {v : Value} {a b : List UInt8} (h : w.ownsRow B 5 1 v (n + (bytesV b).length) (bytesV a ++ bytesV b)) (hn : n = a.length) : ∃ va vc n', v = .slice va n' vc ∧ w.ownsRow B 5 1 (.slice va n' vc) n' (bytesV (a ++ b)) ∧ n' = (a ++ b).length := by
  subst hn
  have h2 := own_app h
  obtain ⟨va, vc, rfl⟩ := owns_shape h2
  exact ⟨va, vc, _, rfl, h2, rfl⟩
theorem own_op {w : World} {B : Nat} {v : Value} {l : List UInt8} (h : w.ownsRow B 5 1 v l.length (bytesV l)) : ∃ va vc n', v = .slice va n' vc ∧ w.ownsRow B 5 1 (.slice va n' vc) n' (bytesV l) ∧ n' = l.length := by
  obtain ⟨va, vc, rfl⟩ := owns_shape h
  exact ⟨va, vc, _, rfl, h, rfl⟩
theorem RBool_c (b : Bool) (w : World) : Calls Tryz.prog 19 #[.bool b] w fun e w' => e = .returned (.int .i64 (b2i b)) ∧ w = w' := by
  cases b
  all_goals
    go_enter Tryz.func19, Tryz.ntmps19
    go_wp2_with fail
    go_ret
    exact ⟨rfl, by first | rfl | trivial⟩
/-- bytes of one's own, and nothing else turned. -/
def OwnS (w0 W : World) (v : Value) (l : List UInt8) : Prop := W.ownsRow w0.heap.size 5 1 v l.length (bytesV l) ∧ Below w0.heap.size w0 W
set_option maxRecDepth 100000 in
set_option maxHeartbeats 4000000 in
theorem val_c (v : V5) (w : World) (hk1 : 1 ≤ v.k) (hk4 : v.k ≤ 4) (hn : i64R v.n) (hf : v.f < W64) (hb : v.t.length ≤ 8796093022208) : Calls Tryz.prog 48 #[v.v] w (OwnB w (lebV v)) := by
  obtain ⟨k, b, n, f, t⟩ := v
  unfold V5.v
  dsimp only at hk1 hk4 hn hf hb ⊢
  have hA : Below w.heap.size w (w.alloc (.cells #[.int .i64 k, .bool b, .int .i64 n, .float .f64 f, .string ⟨t.toArray⟩] 47)) := (Below.refl _ w).alloc (Nat.le_refl _) _
  have hB : Blk (w.alloc (.cells #[.int .i64 k, .bool b, .int .i64 n, .float .f64 f, .string ⟨t.toArray⟩] 47)) w.heap.size (⟨k, b, n, f, t⟩ : V5).cells := Blk.new w (⟨k, b, n, f, t⟩ : V5).cells _
  have HI1 := Lib.hid (RInt_c k (w.alloc (.cells #[.int .i64 k, .bool b, .int .i64 n, .float .f64 f, .string ⟨t.toArray⟩] 47)) (by omega) (by omega))
  have HIn := Lib.hid (fun W => RInt_c n W hn.1 hn.2)
  have HIb := Lib.hid (fun W => RInt_c (b2i b) W (b2i_r b).1 (b2i_r b).2)
  have HRf := Lib.hid (fun W => RReal_c f W hf)
  have HSt := Lib.hid (fun W => RStr_c t W (by omega))
  have HL1 : Hid ((lebInt k).length ≤ 10) := Lib.hid (lebInt_len k (by omega) (by omega))
  have HLn : Hid ((lebInt n).length ≤ 10) := Lib.hid (lebInt_len n hn.1 hn.2)
  have HLb : Hid ((lebInt (b2i b)).length ≤ 10) := Lib.hid (lebInt_len _ (b2i_r b).1 (b2i_r b).2)
  have HLf : Hid ((lebReal f).length = 8) := Lib.hid (lebReal_len f)
  have HLt : Hid ((lebStr t).length ≤ 10 + 8796093022208) := Lib.hid (by have := lebStr_len t (by omega); omega)
  have HV : Hid (lebV (⟨k, b, n, f, t⟩ : V5) = lebInt k ++ (if k = 1 then lebInt (b2i b) else if k = 2 then lebInt n else if k = 3 then lebReal f else lebStr t)) := Lib.hid (by
    unfold lebV
    simp only
    congr 1
    rcases (by omega : k = 1 ∨ k = 2 ∨ k = 3 ∨ k = 4) with rfl | rfl | rfl | rfl <;> simp)
  rw [HV.out]
  have HS : Hid (∀ W, Below (w.alloc (.cells #[.int .i64 k, .bool b, .int .i64 n, .float .f64 f, .string ⟨t.toArray⟩] 47)).heap.size (w.alloc (.cells #[.int .i64 k, .bool b, .int .i64 n, .float .f64 f, .string ⟨t.toArray⟩] 47)) W → W.cell? ⟨w.heap.size, 0, none⟩ = some (.int .i64 k) ∧ W.cell? ⟨w.heap.size, 1, none⟩ = some (.bool b) ∧ W.cell? ⟨w.heap.size, 2, none⟩ = some (.int .i64 n) ∧ W.cell? ⟨w.heap.size, 3, none⟩ = some (.float .f64 f) ∧ W.cell? ⟨w.heap.size, 4, none⟩ = some (.string ⟨t.toArray⟩)) := Lib.hid (fun W h => ⟨(hB.below h).cell 0 _ rfl, (hB.below h).cell 1 _ rfl, (hB.below h).cell 2 _ rfl, (hB.below h).cell 3 _ rfl, (hB.below h).cell 4 _ rfl⟩)
  have HA := Lib.hid hA
  clear hA hB HV hn hf hb
  rcases (by omega : k = 1 ∨ k = 2 ∨ k = 3 ∨ k = 4) with rfl | rfl | rfl | rfl
  · go_enter Tryz.func48, Tryz.ntmps48
    go_wp2_with (first | (go_at_call 46; (with_reducible refine (HI1.out).mono ?_); rintro e w1 ⟨v1, rfl, hown1, hb1⟩; obtain ⟨a1, c1, rfl⟩ := owns_shape hown1; have HO1 := Lib.hid (ownsRow_mono hown1 HA.out.size); have HB1 := Lib.hid (HA.out.trans (hb1.mono HA.out.size)); have g := HS.out _ hb1; obtain ⟨g0, g1, g2, g3, g4⟩ := g; clear hown1 hb1 HI1) | (go_at_call 19; (with_reducible refine (RBool_c b _).mono ?_); rintro e wz ⟨rfl, rfl⟩) | (go_at_call 46; (with_reducible refine (HIb.out _).mono ?_); rintro e w2 ⟨v2, rfl, hown2, hb2⟩; obtain ⟨a2, c2, rfl⟩ := owns_shape hown2; have HR2 := Lib.hid (RowAt.ofOwns hown2); have HO2 := Lib.hid (own_belowE HO1.out hb2); have HB2 := Lib.hid (HB1.out.trans (hb2.mono HB1.out.size)); clear hown2 hb2) | (at_builtin; refine wp_appRow elemB rfl _ _ rfl w.heap.size _ _ _ rfl HO2.out _ (bytesV (lebInt (b2i b))) rfl HR2.out (bytesV_one _) (by rw [bytesV_length]; have := HL1.out; have := HLb.out; omega) (by rw [bytesV_length]; have := HL1.out; have := HLb.out; omega) HB2.out.size ?_; intro v3 w3 hown3 hb3; have HO3 := Lib.hid (own_app hown3); have HB3 := Lib.hid (HB2.out.trans (hb3.mono (Nat.le_refl _))); clear hown3 hb3) | fail)
    go_ret
    exact ⟨_, rfl, HO3.out, HB3.out⟩
  · go_enter Tryz.func48, Tryz.ntmps48
    go_wp2_with (first | (go_at_call 46; (with_reducible refine (HI1.out).mono ?_); rintro e w1 ⟨v1, rfl, hown1, hb1⟩; obtain ⟨a1, c1, rfl⟩ := owns_shape hown1; have HO1 := Lib.hid (ownsRow_mono hown1 HA.out.size); have HB1 := Lib.hid (HA.out.trans (hb1.mono HA.out.size)); have g := HS.out _ hb1; obtain ⟨g0, g1, g2, g3, g4⟩ := g; clear hown1 hb1 HI1) | (go_at_call 46; (with_reducible refine (HIn.out _).mono ?_); rintro e w2 ⟨v2, rfl, hown2, hb2⟩; obtain ⟨a2, c2, rfl⟩ := owns_shape hown2; have HR2 := Lib.hid (RowAt.ofOwns hown2); have HO2 := Lib.hid (own_belowE HO1.out hb2); have HB2 := Lib.hid (HB1.out.trans (hb2.mono HB1.out.size)); clear hown2 hb2) | (at_builtin; refine wp_appRow elemB rfl _ _ rfl w.heap.size _ _ _ rfl HO2.out _ (bytesV (lebInt n)) rfl HR2.out (bytesV_one _) (by rw [bytesV_length]; have := HL1.out; have := HLn.out; omega) (by rw [bytesV_length]; have := HL1.out; have := HLn.out; omega) HB2.out.size ?_; intro v3 w3 hown3 hb3; have HO3 := Lib.hid (own_app hown3); have HB3 := Lib.hid (HB2.out.trans (hb3.mono (Nat.le_refl _))); clear hown3 hb3) | fail)
    go_ret
    exact ⟨_, rfl, HO3.out, HB3.out⟩
  · go_enter Tryz.func48, Tryz.ntmps48
    go_wp2_with (first | (go_at_call 46; (with_reducible refine (HI1.out).mono ?_); rintro e w1 ⟨v1, rfl, hown1, hb1⟩; obtain ⟨a1, c1, rfl⟩ := owns_shape hown1; have HO1 := Lib.hid (ownsRow_mono hown1 HA.out.size); have HB1 := Lib.hid (HA.out.trans (hb1.mono HA.out.size)); have g := HS.out _ hb1; obtain ⟨g0, g1, g2, g3, g4⟩ := g; clear hown1 hb1 HI1) | (go_at_call 21; (with_reducible refine (HRf.out _).mono ?_); rintro e w2 ⟨v2, rfl, hown2, hb2⟩; obtain ⟨a2, c2, rfl⟩ := owns_shape hown2; have HR2 := Lib.hid (RowAt.ofOwns hown2); have HO2 := Lib.hid (own_belowE HO1.out hb2); have HB2 := Lib.hid (HB1.out.trans (hb2.mono HB1.out.size)); clear hown2 hb2) | (at_builtin; refine wp_appRow elemB rfl _ _ rfl w.heap.size _ _ _ rfl HO2.out _ (bytesV (lebReal f)) rfl HR2.out (bytesV_one _) (by rw [bytesV_length]; have := HL1.out; have := HLf.out; omega) (by rw [bytesV_length]; have := HL1.out; have := HLf.out; omega) HB2.out.size ?_; intro v3 w3 hown3 hb3; have HO3 := Lib.hid (own_app hown3); have HB3 := Lib.hid (HB2.out.trans (hb3.mono (Nat.le_refl _))); clear hown3 hb3) | fail)
    go_ret
    exact ⟨_, rfl, HO3.out, HB3.out⟩
  · go_enter Tryz.func48, Tryz.ntmps48
    go_wp2_with (first | (go_at_call 46; (with_reducible refine (HI1.out).mono ?_); rintro e w1 ⟨v1, rfl, hown1, hb1⟩; obtain ⟨a1, c1, rfl⟩ := owns_shape hown1; have HO1 := Lib.hid (ownsRow_mono hown1 HA.out.size); have HB1 := Lib.hid (HA.out.trans (hb1.mono HA.out.size)); have g := HS.out _ hb1; obtain ⟨g0, g1, g2, g3, g4⟩ := g; clear hown1 hb1 HI1) | (go_at_call 20; (with_reducible refine (HSt.out _).mono ?_); rintro e w2 ⟨v2, rfl, hown2, hb2⟩; obtain ⟨a2, c2, rfl⟩ := owns_shape hown2; have HR2 := Lib.hid (RowAt.ofOwns hown2); have HO2 := Lib.hid (own_belowE HO1.out hb2); have HB2 := Lib.hid (HB1.out.trans (hb2.mono HB1.out.size)); clear hown2 hb2) | (at_builtin; refine wp_appRow elemB rfl _ _ rfl w.heap.size _ _ _ rfl HO2.out _ (bytesV (lebStr t)) rfl HR2.out (bytesV_one _) (by rw [bytesV_length]; have := HL1.out; have := HLt.out; omega) (by rw [bytesV_length]; have := HL1.out; have := HLt.out; omega) HB2.out.size ?_; intro v3 w3 hown3 hb3; have HO3 := Lib.hid (own_app hown3); have HB3 := Lib.hid (HB2.out.trans (hb3.mono (Nat.le_refl _))); clear hown3 hb3) | fail)
    go_ret
    exact ⟨_, rfl, HO3.out, HB3.out⟩
set_option maxRecDepth 100000 in
set_option maxHeartbeats 8000000 in
theorem node_c (ss : List (List UInt8)) (ps : List PR) (sa pa : Option Addr) (sc pc : Nat) (w : World) (hs : RowAt w (.slice sa ss.length sc) (ss.map strV)) (hp : RowK 6 w (.slice pa ps.length pc) (ps.map PR.cells)) (hok : ∀ p ∈ ps, okP2 p ∧ 1 ≤ p.v.k ∧ p.v.k ≤ 4) (hb : roomNd ss ps ≤ 2199023255552) :
    Calls Tryz.prog 22 #[.agg #[.slice sa ss.length sc, .slice pa ps.length pc]] w (OwnB w (lebNode ss ps)) := by
  have hsr : strsRoom ss ≤ roomNd ss ps := by unfold roomNd; omega
  have hpr : sumR roomPr ps ≤ roomNd ss ps := by unfold roomNd; omega
  have hsp : 20 + strsRoom ss + sumR roomPr ps = roomNd ss ps := rfl
  have hss : ss.length ≤ strsRoom ss := sumR_len (fun s : List UInt8 => 10 + s.length) (by intro x; omega) ss
  have hpp : ps.length ≤ sumR roomPr ps := sumR_len roomPr (by intro x; unfold roomPr; omega) ps
  have hl1 := lebInt_len (ss.length : Int) (by omega) (by omega)
  have hl2 := lebInt_len (ps.length : Int) (by omega) (by omega)
  have HS1 : Hid (∀ j (hj : j < ss.length), ss[j].length ≤ 2199023255552 ∧ (lebStr ss[j]).length ≤ 10 + 2199023255552) := Lib.hid (fun j hj => by
    have h1 : 10 + ss[j].length ≤ strsRoom ss := sumR_mem (fun s : List UInt8 => 10 + s.length) (List.getElem_mem hj)
    have h2 := lebStr_len ss[j] (by omega)
    omega)
  have HP1 : Hid (∀ j, (lebInt ss.length ++ lebStrs (ss.take j)).length ≤ 10 + 2199023255552) := Lib.hid (fun j => by
    have h1 := strsRoom_take ss j
    have h2 := lebStrs_len (ss.take j) (by omega)
    rw [List.length_append]
    omega)
  obtain ⟨hd, hhd⟩ : ∃ hd, hd = (lebInt ss.length ++ lebStrs ss) ++ lebInt ps.length := ⟨_, rfl⟩
  have HP2 : Hid (∀ j, (hd ++ lebPrs (ps.take j)).length ≤ 20 + 2199023255552 + 2199023255552) := Lib.hid (fun j => by
    have h1 := lebStrs_len ss (by omega)
    have h2 := flatG_len lebPr roomPr (ps.take j) (fun p hp => lebPr_len (hok p (List.mem_of_mem_take hp)).1)
    have h3 := sumR_take roomPr ps j
    rw [hhd]
    unfold lebPrs
    simp only [List.length_append]
    omega)
  have HPK : Hid (∀ j (hj : j < ps.length), ps[j].key.length ≤ 2199023255552 ∧ (lebStr ps[j].key).length ≤ 10 + 2199023255552 ∧ ps[j].v.t.length ≤ 2199023255552 ∧ (lebV ps[j].v).length ≤ 20 + 2199023255552) := Lib.hid (fun j hj => by
    have h1 : 10 + ps[j].key.length + (20 + ps[j].v.t.length) ≤ sumR roomPr ps := sumR_mem roomPr (List.getElem_mem hj)
    have h2 := lebStr_len ps[j].key (by omega)
    obtain ⟨h3, _⟩ := hok ps[j] (List.getElem_mem hj)
    have h4 := lebV_len h3.1 h3.2.1 h3.2.2.2.1
    unfold roomV at h4
    omega)
  have HLL : Hid (lebNode ss ps = hd ++ lebPrs ps) := Lib.hid (by rw [hhd]; unfold lebNode; simp only [List.append_assoc])
  have HHD := Lib.hid hhd
  have HOK := Lib.hid hok
  obtain ⟨w1, hw1⟩ : ∃ w1, w1 = w.alloc (.cells #[.slice sa ss.length sc, .slice pa ps.length pc] 43) := ⟨_, rfl⟩
  have hB1 : Below w.heap.size w w1 := by rw [hw1]; exact (Below.refl _ w).alloc (Nat.le_refl _) _
  have hblk : Blk w1 w.heap.size [.slice sa ss.length sc, .slice pa ps.length pc] := by rw [hw1]; exact Blk.new w [.slice sa ss.length sc, .slice pa ps.length pc] _
  have HB1 := Lib.hid hB1
  have HBX : Hid (∀ W, Below w1.heap.size w1 W → W.cell? ⟨w.heap.size, 0, none⟩ = some (.slice sa ss.length sc) ∧ W.cell? ⟨w.heap.size, 1, none⟩ = some (.slice pa ps.length pc)) := Lib.hid (fun W hW => ⟨(hblk.below hW).cell 0 _ rfl, (hblk.below hW).cell 1 _ rfl⟩)
  have HSR : Hid (∀ W, Below w1.heap.size w1 W → RowAt W (.slice sa ss.length sc) (ss.map strV)) := Lib.hid (fun W hW => (hs.below hB1).below hW)
  have HPR : Hid (∀ W, Below w1.heap.size w1 W → RowK 6 W (.slice pa ps.length pc) (ps.map PR.cells)) := Lib.hid (fun W hW => (hp.below hB1).below hW)
  have HI0 := Lib.hid (RInt_c (ss.length : Int) w1 (by omega) (by omega))
  have HI1 := Lib.hid (fun W => RInt_c (ps.length : Int) W (by omega) (by omega))
  have hsl : ss.length ≤ 2199023255552 := by omega
  have hpl : ps.length ≤ 2199023255552 := by omega
  have HL1 := Lib.hid hl1
  have HL2 := Lib.hid hl2
  rw [HLL.out]
  clear hs hp hok hb hsr hpr hsp hss hpp hl1 hl2 hhd hB1 hblk
  go_enter Tryz.func22, Tryz.ntmps22
  go_wp2_with fail
  rw [← hw1]
  clear hw1
  with_reducible refine (HI0.out).mono ?_
  rintro e w2 ⟨v2, rfl, hown2, hb2⟩
  obtain ⟨a2, c2, n2, rfl, ho2, hn2⟩ := own_op hown2
  have HO2 := Lib.hid ho2
  have HN2 := Lib.hid hn2
  have HB2 := Lib.hid hb2
  clear hown2 ho2 hn2 hb2 HI0
  go_wp2_with fail
  go_loopw [3, 4] (fun b i wr => ∃ (j n : Nat) (va : Option Addr) (vc : Nat), i = .int .i64 (j : Int) ∧ j ≤ ss.length ∧ b = .slice va n vc ∧ n = (lebInt ss.length ++ lebStrs (ss.take j)).length ∧ wr.ownsRow w1.heap.size 5 1 b n (bytesV (lebInt ss.length ++ lebStrs (ss.take j))) ∧ Below w1.heap.size w1 wr) (fun _ i _ => ss.length - (intOf i).toNat)
  case atStart => exact ⟨0, n2, a2, c2, rfl, Nat.zero_le _, rfl, by rw [HN2.out]; simp [lebStrs], by simpa [lebStrs] using HO2.out, HB2.out⟩
  case round =>
    obtain ⟨j, n0, va, vc, rfl, hj, rfl, hn0, ho, hbel⟩ := hrel
    have HS := Lib.hid ho
    have HN := Lib.hid hn0
    have HB := Lib.hid hbel
    obtain ⟨x0, x1⟩ := HBX.out _ hbel
    by_cases hlt : j < ss.length
    · have hlt' : (j : Int) < (ss.length : Int) := by omega
      obtain ⟨B, o, rfl, hBl, hx⟩ := (HSR.out _ hbel).cellAt j (by simpa using hlt)
      have hx2 : wr.cell? ⟨B, o + j, none⟩ = some (.string ⟨ss[j].toArray⟩) := by rw [hx]; simp [strV]
      have HTL : Hid (lebInt ss.length ++ lebStrs (ss.take (j + 1)) = (lebInt ss.length ++ lebStrs (ss.take j)) ++ lebStr ss[j]) := Lib.hid (by rw [List.take_succ_eq_append_getElem hlt, lebStrs_snoc, List.append_assoc])
      have HST := Lib.hid (RStr_c ss[j] wr (by have := (HS1.out j hlt).1; omega))
      have HLs := Lib.hid (HS1.out j hlt).2
      have HLp := Lib.hid (HP1.out j)
      clear ho hn0 hbel hx HO2 HB2
      generalize ss[j] = z at *
      generalize lebInt ss.length ++ lebStrs (ss.take j) = L at *
      go_wp2_with (first | (go_at_call 20; (with_reducible refine (HST.out).mono ?_); rintro e w5 ⟨vr, rfl, hown5, hb5⟩; have HR5 := Lib.hid (RowAt.ofOwns hown5); obtain ⟨ra, rc, rfl⟩ := (RowAt.ofOwns hown5).shapeB; have HS5 := Lib.hid (own_belowE HS.out hb5); have HB5 := Lib.hid (HB.out.trans (hb5.mono HB.out.size)); clear hown5 hb5) | (at_builtin; refine wp_appRow elemB rfl _ _ rfl w1.heap.size n0 _ (bytesV L) rfl HS5.out _ (bytesV (lebStr z)) rfl HR5.out (bytesV_one _) (by rw [bytesV_length]; have := HLs.out; have := HLp.out; have := HN.out; omega) (by rw [bytesV_length]; have := HLs.out; have := HLp.out; have := HN.out; omega) HB5.out.size ?_; intro v7 w7 hown7 hb7; obtain ⟨va7, vc7, n7, rfl, ho7, hn7⟩ := own_app2 hown7 HN.out; rw [← HTL.out] at ho7 hn7; have HO7 := Lib.hid ho7; have HN7 := Lib.hid hn7; clear ho7 hn7; have HB7 := Lib.hid (HB5.out.trans hb7); clear hown7 hb7) | fail)
      exact ⟨⟨j + 1, n7, va7, vc7, rfl, hlt, rfl, HN7.out, HO7.out, HB7.out⟩, by simp [intOf]; omega⟩
    · obtain rfl : j = ss.length := by omega
      have HLp := Lib.hid (HP1.out ss.length)
      rw [List.take_of_length_le (Nat.le_refl _)] at HS HLp HN
      clear ho hn0 hbel hlt hj HO2 HB2 HP1 HS1
      generalize lebInt ss.length ++ lebStrs ss = L at *
      go_wp2_with (first | (go_at_call 46; (with_reducible refine (HI1.out _).mono ?_); rintro e w5 ⟨vr, rfl, hown5, hb5⟩; have HR5 := Lib.hid (RowAt.ofOwns hown5); obtain ⟨ra, rc, rfl⟩ := (RowAt.ofOwns hown5).shapeB; have HS5 := Lib.hid (own_belowE HS.out hb5); have HB5 := Lib.hid (HB.out.trans (hb5.mono HB.out.size)); clear hown5 hb5) | (at_builtin; refine wp_appRow elemB rfl _ _ rfl w1.heap.size n0 _ (bytesV L) rfl HS5.out _ (bytesV (lebInt ps.length)) rfl HR5.out (bytesV_one _) (by rw [bytesV_length]; have := HL2.out; have := HLp.out; have := HN.out; omega) (by rw [bytesV_length]; have := HL2.out; have := HLp.out; have := HN.out; omega) HB5.out.size ?_; intro v7 w7 hown7 hb7; obtain ⟨va7, vc7, n7, rfl, ho7, hn7⟩ := own_app2 hown7 HN.out; rw [← HHD.out] at ho7 hn7; have HO7 := Lib.hid ho7; have HN7 := Lib.hid hn7; clear ho7 hn7; have HB7 := Lib.hid (HB5.out.trans hb7); clear hown7 hb7) | fail)
      go_loopw [3, 5] (fun b i wr => ∃ (j n : Nat) (va : Option Addr) (vc : Nat), i = .int .i64 (j : Int) ∧ j ≤ ps.length ∧ b = .slice va n vc ∧ n = (hd ++ lebPrs (ps.take j)).length ∧ wr.ownsRow w1.heap.size 5 1 b n (bytesV (hd ++ lebPrs (ps.take j))) ∧ Below w1.heap.size w1 wr) (fun _ i _ => ps.length - (intOf i).toNat)
      case atStart => exact ⟨0, n7, va7, vc7, rfl, Nat.zero_le _, rfl, by rw [HN7.out]; simp [lebPrs], by simpa [lebPrs] using HO7.out, HB7.out⟩
      case round =>
        obtain ⟨j, n0, va, vc, rfl, hj, rfl, hn0, ho, hbel⟩ := hrel
        have HS := Lib.hid ho
        have HN := Lib.hid hn0
        have HB := Lib.hid hbel
        obtain ⟨x0, x1⟩ := HBX.out _ hbel
        by_cases hlt : j < ps.length
        · have hlt' : (j : Int) < (ps.length : Int) := by omega
          obtain ⟨B, o, rfl, hBl, hx⟩ := row_pr (HPR.out _ hbel) j hlt
          have HX : Hid (∀ W, Below w1.heap.size w1 W → CellsAt W B (o + j * 6) ps[j].cells) := Lib.hid (fun W hW => by
            obtain ⟨B2, o2, e2, _, h2⟩ := row_pr (HPR.out _ hW) j hlt
            injection e2 with e2
            injection e2 with e3 e4
            subst e3 e4
            exact h2)
          have HTL : Hid (hd ++ lebPrs (ps.take (j + 1)) = ((hd ++ lebPrs (ps.take j)) ++ lebStr ps[j].key) ++ lebV ps[j].v) := Lib.hid (by unfold lebPrs; rw [flatG_snoc lebPr ps j hlt]; simp [lebPr])
          have hkk := HPK.out j hlt
          obtain ⟨ho1, ho2, ho3⟩ := HOK.out ps[j] (List.getElem_mem hlt)
          have HST := Lib.hid (RStr_c ps[j].key wr (by omega))
          have HVA := Lib.hid (fun W => val_c ps[j].v W ho2 ho3 ho1.2.1 ho1.2.2.1 (by omega))
          have HKK := Lib.hid hkk
          have HLp := Lib.hid (HP2.out j)
          clear ho hn0 hbel ho1 ho2 ho3 hkk HO7 HB7
          generalize hd ++ lebPrs (ps.take j) = L at *
          generalize ps[j] = y at *
          obtain ⟨key, ⟨k, b, n, f, t⟩⟩ := y
          unfold V5.v at HVA
          dsimp only at HVA HST HKK HTL
          obtain ⟨q0, q1, q2, q3, q4, q5⟩ := PR.factsAt hx
          clear hx
          go_wp2_with (first | (go_at_call 20; (with_reducible refine (HST.out).mono ?_); rintro e w5 ⟨vr, rfl, hown5, hb5⟩; have HR5 := Lib.hid (RowAt.ofOwns hown5); obtain ⟨ra, rc, rfl⟩ := (RowAt.ofOwns hown5).shapeB; have HS5 := Lib.hid (own_belowE HS.out hb5); have HB5 := Lib.hid (HB.out.trans (hb5.mono HB.out.size)); clear hown5 hb5) | (at_builtin; refine wp_appRow elemB rfl _ _ rfl w1.heap.size n0 _ (bytesV L) rfl HS5.out _ (bytesV (lebStr key)) rfl HR5.out (bytesV_one _) (by rw [bytesV_length]; have := HKK.out.2.1; have := HLp.out; have := HN.out; omega) (by rw [bytesV_length]; have := HKK.out.2.1; have := HLp.out; have := HN.out; omega) HB5.out.size ?_; intro v7 w7 hown7 hb7; obtain ⟨va7, vc7, n7, rfl, ho7, hn7⟩ := own_app2 hown7 HN.out; have HO7 := Lib.hid ho7; have HN7 := Lib.hid hn7; clear ho7 hn7; have HB7 := Lib.hid (HB5.out.trans hb7); obtain ⟨x0, x1⟩ := HBX.out _ HB7.out; obtain ⟨q0, q1, q2, q3, q4, q5⟩ := PR.factsAt (HX.out _ HB7.out); clear hown7 hb7) | (go_at_call 48; (with_reducible refine (HVA.out _).mono ?_); rintro e w8 ⟨vr8, rfl, hown8, hb8⟩; have HR8 := Lib.hid (RowAt.ofOwns hown8); obtain ⟨ra8, rc8, rfl⟩ := (RowAt.ofOwns hown8).shapeB; have HS8 := Lib.hid (own_belowE HO7.out hb8); have HB8 := Lib.hid (HB7.out.trans (hb8.mono HB7.out.size)); clear hown8 hb8) | (at_builtin; refine wp_appRow elemB rfl _ _ rfl w1.heap.size n7 _ (bytesV (L ++ lebStr key)) rfl HS8.out _ (bytesV (lebV ⟨k, b, n, f, t⟩)) rfl HR8.out (bytesV_one _) (by rw [bytesV_length]; have := HKK.out; have := HLp.out; have := HN7.out; rw [List.length_append] at this; omega) (by rw [bytesV_length]; have := HKK.out; have := HLp.out; have := HN7.out; rw [List.length_append] at this; omega) HB8.out.size ?_; intro v9 w9 hown9 hb9; obtain ⟨va9, vc9, n9, rfl, ho9, hn9⟩ := own_app2 hown9 HN7.out; rw [← HTL.out] at ho9 hn9; have HO9 := Lib.hid ho9; have HN9 := Lib.hid hn9; clear ho9 hn9; have HB9 := Lib.hid (HB8.out.trans hb9); clear hown9 hb9) | fail)
          exact ⟨⟨j + 1, n9, va9, vc9, rfl, hlt, rfl, HN9.out, HO9.out, HB9.out⟩, by simp [intOf]; omega⟩
        · obtain rfl : j = ps.length := by omega
          rw [List.take_of_length_le (Nat.le_refl _)] at HS HN
          clear ho hn0 hbel
          go_wp2_with fail
          go_ret
          exact ⟨_, rfl, by rw [← HN.out]; exact ownsRow_mono HS.out HB1.out.size, HB1.out.trans (HB.out.mono HB1.out.size)⟩
end Go.Proofs.YtmbffncmogpkfaaGreatDoor

namespace Go.Proofs.YtmbffncmogpkfaaGreatDoor
open Go Go.Proofs Go.RowKit
set_option linter.unusedVariables false
set_option linter.unusedSimpArgs false

theorem elemWr : ElemK 22 45 9 112 (cells9 false 0 false (.slice none 0 0) (.slice none 0 0) 0 0 [] 0) := elemK_of (z := .agg #[.bool false, .int .i64 0, .bool false, .slice none 0 0, .slice none 0 0, .int .i64 0, .int .i64 0, .string ⟨#[]⟩, .float .f64 0]) Tryz.underlying22 (by kernel_rfl) rfl rfl
theorem curWr_pf (l : List UInt8) : pot (curWr (some l)).2 + 1 ≤ l.length + 1 := by
  have h := curWr_p (some l)
  rcases h.2.2 with h | h
  · rw [h]; simp [pot]
  · unfold roomWr at h; simp only [pot] at h ⊢; omega
set_option maxRecDepth 100000 in
set_option maxHeartbeats 8000000 in
theorem rowsW_c (R : Option Nat) (B : Nat) (c : Cur) (w : World) (h : CurAt R w B c) (hR : ∀ r, R = some r → r < w.heap.size) (hp : pot c ≤ 10000001) :
    Calls Tryz.prog 25 #[.agg #[.pointer (some ⟨B, 0, none⟩)], .func (.func 26) #[.agg #[.pointer (some ⟨B, 0, none⟩)]] #[]] w (RowsB R B 45 9 WV.cells WV.x extW (rowsC curWr c) w) := by
  have hlt : B < w.heap.size := by obtain ⟨v, h0, _⟩ := h; exact World.block_lt_of_cell? w ⟨B, 0, none⟩ h0
  have CI := Lib.hid (fun W (h : CurAt R W B c) => CInt_c B c W h)
  have CG := Lib.hid (fun c W (h : CurAt R W B c) => Good_c B c W h)
  have TK := Lib.hid (fun W c (h : CurAt R W B c) hR hp => write_c R B c W h hR hp)
  have HC : Hid (rowsC curWr c = rowsN curWr (curInt c).1.toNat (curInt c).2) := Lib.hid rfl
  have HP := Lib.hid (curInt_p c)
  generalize rowsC curWr c = rc at *
  generalize curInt c = p1 at *
  obtain ⟨n, c1⟩ := p1
  dsimp only at HC CI HP
  have H0 := Lib.hid (h.below ((Below.refl _ w).alloc (Nat.le_refl _) (.cells #[.pointer (some ⟨B, 0, none⟩)] 63)))
  have b1 : Blk (w.alloc (.cells #[.pointer (some ⟨B, 0, none⟩)] 63)) w.heap.size [.pointer (some ⟨B, 0, none⟩)] := Blk.new w [.pointer (some ⟨B, 0, none⟩)] _
  have hb0 := b1.cell 0 _ rfl
  have HX := Lib.hid extW_ok
  have HRS : Hid (∀ w1, CurAt R w1 B c1 → (w.alloc (.cells #[.pointer (some ⟨B, 0, none⟩)] 63)).grownBy w1 (some B) → RS R B 45 9 WV.cells extW w (.slice none 0 0) [] c1 w1) := Lib.hid (fun w1 hc hg =>
    ⟨hc, b1.grown hg (by simp; omega), World.ownsRow_nil _ _ _ _, grownBy_trans (World.grownBy_alloc w _ _) hg, hlt, hR, by have := hg.size; simpa using this, by simp⟩)
  have hpc : pot c1 ≤ 10000001 := by have := HP.out.2.1; omega
  clear b1 h hR HP hp
  go_enter Tryz.func25, Tryz.ntmps25
  go_wp2_with (first | (go_at_call 24; (with_reducible refine (CI.out _ H0.out).mono ?_); rintro e w1 ⟨rfl, hc, hg⟩; have H := Lib.hid (HRS.out w1 hc hg); clear hc hg hb0 H0 HRS CI) | fail)
  go_loopw [5, 7] (fun l i wr => ∃ (ys : List WV) (cj : Cur) (va : Option Addr) (vc : Nat), i = .int .i64 (ys.length : Int) ∧ ys.length ≤ n.toNat ∧ l = .slice va ys.length vc ∧ RS R B 45 9 WV.cells extW w (.slice va ys.length vc) ys cj wr ∧ rc = (ys.map WV.x ++ (rowsN curWr (n.toNat - ys.length) cj).1, (rowsN curWr (n.toNat - ys.length) cj).2) ∧ ys.length + pot cj ≤ pot c1) (fun _ i _ => n.toNat - (intOf i).toNat)
  case atStart => exact ⟨[], c1, none, 0, rfl, by simp, rfl, H.out, by rw [HC.out]; simp, by simp⟩
  case round =>
    clear H
    obtain ⟨ys, cj, va, vc, rfl, hle, rfl, hrs, hrc, hpt⟩ := hrel
    have H := Lib.hid hrs
    have HRC := Lib.hid hrc
    have hb1 := H.out.box.cell 0 _ rfl
    clear hrs hrc
    by_cases hltn : ys.length < n.toNat
    · have hi1 : (ys.length : Int) < n := by omega
      cases cj with
      | none =>
        have CGN := Lib.hid (CG.out none _ H.out.cur)
        obtain ⟨m, hm⟩ : ∃ m, n.toNat - ys.length = m + 1 := ⟨n.toNat - ys.length - 1, by omega⟩
        have HZ : Hid (rc = (ys.map WV.x, none)) := Lib.hid (by rw [HRC.out, hm]; simp [rowsN])
        clear hm CG
        go_wp2_with (first | (go_at_call 50; (with_reducible refine CGN.out.mono ?_); rintro e w1 ⟨rfl, rfl⟩) | fail)
        go_ret
        refine ⟨va, vc, ys, rfl, ownsRow_mono H.out.own (by omega), by rw [HZ.out], by rw [HZ.out]; exact H.out.cur, H.out.grown, fun y hy => HX.out.mono (w.heap.size + 1) w.heap.size wr y (by omega) (H.out.ext y hy)⟩
      | some l =>
        have CGN := Lib.hid (CG.out (some l) _ H.out.cur)
        have hpe : pot (some l) = l.length + 1 := rfl
        rw [hpe] at hpt
        have hlp : pot (some l) ≤ 10000001 := by rw [hpe]; omega
        clear hpe
        have TKN := Lib.hid (TK.out _ _ H.out.cur (fun r hr => by have := H.out.far r hr; have := H.out.size; omega) hlp)
        obtain ⟨m, hm⟩ : ∃ m, n.toNat - ys.length = m + 1 := ⟨n.toNat - ys.length - 1, by omega⟩
        have HZ : Hid (rc = (ys.map WV.x ++ ((curWr (some l)).1 :: (rowsN curWr m (curWr (some l)).2).1), (rowsN curWr m (curWr (some l)).2).2)) := Lib.hid (by rw [HRC.out, hm]; rfl)
        have hpf := curWr_pf l
        clear HRC CG
        unfold TakeB at TKN
        generalize curWr (some l) = pz at *
        obtain ⟨x, cz⟩ := pz
        dsimp only at TKN HZ hpf
        go_wp2_with (first | (go_at_call 50; (with_reducible refine CGN.out.mono ?_); rintro e w1 ⟨rfl, rfl⟩) | (go_at_call 26; (with_reducible refine TKN.out.mono ?_); rintro e wq ⟨y, rfl, hpl, hc, hg, hx⟩; have HPL := Lib.hid hpl; have HXY := Lib.hid (HX.out.mono wr.heap.size (w.heap.size + 1) wq y H.out.size hx); replace H := Lib.hid (H.out.call HX.out hc hg); clear hpl hc hg hx; obtain ⟨⟨we, id, g, ss, pr, ⟨ea, eb, et, ew⟩⟩, sa, sc, pa, pc⟩ := y; dsimp only [WV.val]) | (at_builtin; refine wp_appK1 elemWr (by decide) rfl _ _ rfl (w.heap.size + 1) ys.length _ _ rfl H.out.own (WV.cells ⟨⟨we, id, g, ss, pr, ⟨ea, eb, et, ew⟩⟩, sa, sc, pa, pc⟩) rfl rfl (by simp [WV.cells, cells9, Value.oneCell']) ?_ ?_ ?_ ?_))
        · omega
        · omega
        · exact H.out.size
        intro v' w6 hown6 hgr hb6
        have HN := Lib.hid (H.out.push HX.out hown6 hgr HXY.out)
        obtain ⟨va', vc', rfl⟩ := owns_shape hown6
        clear hown6 hgr hb6
        go_wp2_with fail
        go_roundw
        case rel => exact ⟨ys ++ [⟨⟨we, id, g, ss, pr, ⟨ea, eb, et, ew⟩⟩, sa, sc, pa, pc⟩], cz, va', vc', by simp, by simp; omega, by simp, by simpa using HN.out, by rw [HZ.out, ← HPL.out]; simp only [List.length_append, List.length_cons, List.length_nil, Nat.zero_add, show n.toNat - (ys.length + 1) = m by omega, List.map_append, List.map_cons, List.map_nil, List.append_assoc, List.cons_append, List.nil_append], by simp; omega⟩
        case measure => simp [intOf]; omega
    · have hi1 : ¬ (ys.length : Int) < n := by omega
      have HZ : Hid (rc = (ys.map WV.x, cj)) := Lib.hid (by rw [HRC.out, show n.toNat - ys.length = 0 by omega]; simp [rowsN])
      go_wp2_with fail
      go_ret
      refine ⟨va, vc, ys, rfl, ownsRow_mono H.out.own (by omega), by rw [HZ.out], by rw [HZ.out]; exact H.out.cur, H.out.grown, fun y hy => HX.out.mono (w.heap.size + 1) w.heap.size wr y (by omega) (H.out.ext y hy)⟩
end Go.Proofs.YtmbffncmogpkfaaGreatDoor

namespace Go.Proofs.YtmbffncmogpkfaaGreatDoor
open Go Go.Proofs Go.RowKit
set_option linter.unusedVariables false
set_option linter.unusedSimpArgs false

set_option maxHeartbeats 4000000 in
theorem BytesEqual_c (v1 v2 : Value) (l1 l2 : List UInt8) (w : World) (h1 : RowAt w v1 (bytesV l1)) (h2 : RowAt w v2 (bytesV l2)) :
    Calls Tryz.prog 28 #[v1, v2] w fun e w' => e = .returned (.bool (decide (l1 = l2))) ∧ w = w' := by
  have c1 := h1.toStr 23 9 5 Tryz.underlying23 Tryz.underlying5 Tryz.underlying9
  have c2 := h2.toStr 23 9 5 Tryz.underlying23 Tryz.underlying5 Tryz.underlying9
  have hd : (l1 == l2) = decide (l1 = l2) := by by_cases h : l1 = l2 <;> simp [h]
  clear h1 h2
  go_enter Tryz.func28, Tryz.ntmps28
  go_wp2_with fail
  go_ret
  exact ⟨by rw [← hd]; rfl, by first | rfl | trivial⟩
theorem flat_one {X Y : Type} (f : X → Y) : ∀ l : List X, l.flatMap (fun s => [f s]) = l.map f
  | [] => rfl
  | x :: l => by rw [List.flatMap_cons, flat_one f l]; rfl
theorem extW_rows {lo : Nat} {W : World} {p : WV} (h : extW lo W p) : p.rows W := by
  refine ⟨?_, ?_⟩
  · have := RowAt.ofOwns h.1
    rwa [flat_one strV p.x.ss] at this
  · have h2 := h.2
    rw [List.flatMap_def] at h2
    exact (RowK.ofOwns (by decide) (by intro y hy; obtain ⟨q, _, rfl⟩ := List.mem_map.1 hy; rfl) h2).2
/-- what Decode takes for right. -/
def decB (l : List UInt8) : Bool := areW (curAll (some l)).1.1 (curAll (some l)).1.2.1 [] (curAll (some l)).1.2.2 && decide ((curAll (some l)).2 = some []) && decide (lebAll (curAll (some l)).1.1 (curAll (some l)).1.2.1 (curAll (some l)).1.2.2 = l)
/-- what Decode gives. -/
def DecB (w : World) (ok : Bool) (n k : Int) (xs : List WR) (e : Ending) (w' : World) : Prop :=
  ∃ va vc, ∃ ps : List WV, e = .returned (.tuple #[.int .i64 (if ok then n else 0), .int .i64 (if ok then k else 0), .slice va ps.length vc, .int .i64 (if ok then 0 else 2)]) ∧
    ps.map WV.x = (if ok then xs else []) ∧ RowK 9 w' (.slice va ps.length vc) (ps.map WV.cells) ∧ (∀ p ∈ ps, p.rows w') ∧ Below w.heap.size w w'
theorem results_tmp4 {fn : Func} {t u v x : Tmp} (h : fn.results = #[.tmp t, .tmp u, .tmp v, .tmp x]) (tmps : Array Value) (P : Program) (w : World) :
    (results fn tmps).run P w = .ok (.tuple #[tmps.getD t undef, tmps.getD u undef, tmps.getD v undef, tmps.getD x undef]) w := by
  simp [results, h]
structure DS (R : Option Nat) (B g : Nat) (w : World) (c : Cur) (W : World) : Prop where
  cur : CurAt R W B c
  box : Blk W g [.pointer (some ⟨B, 0, none⟩)]
  bel : Below w.heap.size w W
  ne : B ≠ g ∧ w.heap.size ≤ B
  far : ∀ r, R = some r → r < W.heap.size
theorem DS.call {R : Option Nat} {B g : Nat} {w W W' : World} {c c' : Cur} (h : DS R B g w c W) (hc : CurAt R W' B c') (hg : W.grownBy W' (some B)) : DS R B g w c' W' :=
  ⟨hc, h.box.grown hg (by simpa using h.ne.1), h.bel.grown hg h.bel.size (fun q hq => (Option.some.inj hq) ▸ h.ne.2), h.ne, fun r hr => Nat.lt_of_lt_of_le (h.far r hr) hg.size⟩
theorem DS.on {R : Option Nat} {B g : Nat} {w W W' : World} {c : Cur} (h : DS R B g w c W) (hb : Below W.heap.size W W') : DS R B g w c W' :=
  ⟨h.cur.below hb, h.box.below hb, h.bel.trans (hb.mono h.bel.size), h.ne, fun r hr => Nat.lt_of_lt_of_le (h.far r hr) hb.size⟩
theorem sumR_map {X Y : Type} (f : Y → Nat) (g : X → Y) (l : List X) : sumR f (l.map g) = sumR (fun x => f (g x)) l := by unfold sumR; rw [List.map_map]; rfl
set_option maxRecDepth 100000 in
set_option maxHeartbeats 8000000 in
theorem Decode_c (v : Value) (l : List UInt8) (w : World) (h : RowAt w v (bytesV l)) (hl : l.length ≤ 10000000) :
    Calls Tryz.prog 7 #[v] w (DecB w (decB l) (curAll (some l)).1.1 (curAll (some l)).1.2.1 (curAll (some l)).1.2.2) := by
  have hO := Open_c v l w h (by omega)
  obtain ⟨k1, k2, k3, k4⟩ := curAll_p l hl
  have hpc : pot (some l) = l.length + 1 := rfl
  have hp1 := (curInt_p (some l)).2.1
  have hp2 := (curInt_p (curInt (some l)).2).2.1
  have HA : Hid (curAll (some l) = (((curInt (some l)).1, (curInt (curInt (some l)).2).1, (rowsC curWr (curInt (curInt (some l)).2).2).1), (rowsC curWr (curInt (curInt (some l)).2).2).2)) := Lib.hid rfl
  have HD : Hid (decB l = (areW (curAll (some l)).1.1 (curAll (some l)).1.2.1 [] (curAll (some l)).1.2.2 && decide ((curAll (some l)).2 = some []) && decide (lebAll (curAll (some l)).1.1 (curAll (some l)).1.2.1 (curAll (some l)).1.2.2 = l))) := Lib.hid rfl
  have C1 := Lib.hid (fun R B W (h : CurAt R W B (some l)) => CInt_c B (some l) W h)
  generalize decB l = ok at *
  generalize curAll (some l) = ca at *
  generalize curInt (some l) = p1 at *
  obtain ⟨n1, c1⟩ := p1
  dsimp only at C1 HA hp1 hp2
  have C2 := Lib.hid (fun R B W (h : CurAt R W B c1) => CInt_c B c1 W h)
  generalize curInt c1 = p2 at *
  obtain ⟨n2, c2⟩ := p2
  dsimp only at C2 HA hp2
  have C3 := Lib.hid (fun R B W (h : CurAt R W B c2) hR => rowsW_c R B c2 W h hR (by omega))
  generalize rowsC curWr c2 = p3 at *
  obtain ⟨xs, c3⟩ := p3
  dsimp only at C3 HA
  obtain rfl := HA.out
  dsimp only at HD k1 k2 k3 k4 ⊢
  have C4 := Lib.hid (fun (ys : List WV) v W (hy : ys.map WV.x = xs) (hr : RowK 9 W v (ys.map WV.cells)) (hrows : ∀ p ∈ ys, p.rows W) => by
    have := Encode_c n1 n2 ys v W hr hrows (fun p hp => k2 _ (by rw [← hy]; exact List.mem_map_of_mem hp)) (by rw [← sumR_map roomWr WV.x ys, hy]; omega) k3 k4
    rw [hy] at this
    exact this)
  have C5 := Lib.hid (fun R B W (h : CurAt R W B c3) => Whole_c B c3 W h)
  have HR := Lib.hid h
  have HO := Lib.hid hO
  clear hO h k1 k2 k3 k4 hp1 hp2 hpc HA
  have C6 := Lib.hid (fun v1 W (h1 : RowAt W v1 (bytesV (lebAll n1 n2 xs))) (h2 : RowAt W v (bytesV l)) => BytesEqual_c v1 v (lebAll n1 n2 xs) l W h1 h2)
  generalize areW n1 n2 [] xs = aw at *
  generalize decide (c3 = some []) = wh at *
  generalize decide (lebAll n1 n2 xs = l) = eq at *
  generalize lebAll n1 n2 xs = la at *
  unfold EncB at C4
  go_enter Tryz.func7, Tryz.ntmps7
  go_wp2_with fail
  with_reducible refine HO.out.mono ?_
  rintro e w1 ⟨B, R, rfl, hB, hc, hb, hR, hBl⟩
  have H : Hid (DS R B w1.heap.size w (some l) (w1.alloc (.cells #[.pointer (some ⟨B, 0, none⟩)] 63))) := Lib.hid
    ⟨hc.below ((Below.refl _ _).alloc (Nat.le_refl _) _), Blk.new w1 [.pointer (some ⟨B, 0, none⟩)] _, hb.alloc hb.size _, ⟨by omega, hB⟩, fun r hr => by have := (hR r hr).2; simp; omega⟩
  have hb1 := H.out.box.cell 0 _ rfl
  clear hc hb hR HO
  cases aw
  case' true => cases wh
  case' true.true => cases eq
  all_goals
    simp only [Bool.false_eq_true, if_false, if_true] at C4
    simp only [Bool.and_true, Bool.and_false, Bool.false_and, Bool.true_and] at HD
    obtain rfl := HD.out
    go_wp2_with (first
      | (go_at_call 24; (with_reducible refine (C1.out _ _ _ H.out.cur).mono ?_); rintro e wq ⟨rfl, hc, hg⟩; replace H := Lib.hid (H.out.call hc hg); clear hc hg; have hbq := H.out.box.cell 0 _ rfl)
      | (go_at_call 24; (with_reducible refine (C2.out _ _ _ H.out.cur).mono ?_); rintro e wq ⟨rfl, hc, hg⟩; replace H := Lib.hid (H.out.call hc hg); clear hc hg; have hbq := H.out.box.cell 0 _ rfl)
      | (go_at_call 25; (with_reducible refine (C3.out _ _ _ H.out.cur H.out.far).mono ?_); rintro e wq ⟨va, vc, ys, rfl, hown, hmp, hc, hg, hx⟩; replace H := Lib.hid (H.out.call hc hg); have HM := Lib.hid hmp; have HRW := Lib.hid (RowK.ofOwns (k := 9) (xs := ys.map WV.cells) (by decide) (by intro y hy; obtain ⟨q, _, rfl⟩ := List.mem_map.1 hy; rfl) (by rw [← List.flatMap_def]; exact hown)).2; have HXR := Lib.hid (fun p hp => extW_rows (hx p hp)); clear hc hg hown hmp hx; have hbq := H.out.box.cell 0 _ rfl)
      | (go_at_call 5; (with_reducible refine (C4.out ys _ _ HM.out HRW.out HXR.out).mono ?_); rintro e wq ⟨vp, rfl, hrp, hbp⟩; replace H := Lib.hid (H.out.on hbp); replace HRW := Lib.hid (HRW.out.below hbp); replace HXR := Lib.hid (fun p hp => (⟨(HXR.out p hp).1.below hbp, (HXR.out p hp).2.below hbp⟩ : WV.rows _ p)); have HRP := Lib.hid hrp; clear hrp hbp; have hbq := H.out.box.cell 0 _ rfl)
      | (go_at_call 27; (with_reducible refine (C5.out _ _ _ H.out.cur).mono ?_); rintro e wz ⟨rfl, rfl⟩)
      | (go_at_call 28; (with_reducible refine (C6.out _ _ HRP.out (HR.out.below H.out.bel)).mono ?_); rintro e wz ⟨rfl, rfl⟩))
  
    (try simp only [Exit.inBlock, Exit.then])
    refine bodyPost_ret (results_tmp4 rfl _ _ _) rfl ?_
    first
    | exact ⟨_, _, ys, rfl, HM.out, HRW.out, HXR.out, H.out.bel⟩
    | exact ⟨none, 0, [], rfl, rfl, RowK.nil 9 _, by simp, H.out.bel⟩
end Go.Proofs.YtmbffncmogpkfaaGreatDoor
