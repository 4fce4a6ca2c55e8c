/- The walk of LebTakes. -/
import Derived.Test.YtbnhepcfjjephaaLaw3d
import Derived.Test.YtbnhepcfjjephaaRCur3
namespace Go.Proofs.Ytbnhepcfjjephaa
open Go Go.RowKit
set_option linter.unusedVariables false

/-- the two cursors of the law stand alike. -/
def Two (w0 : World) (R1 R2 : Option Nat) (B1 B2 : Nat) (w : World) (c : Cur) : Prop :=
  CurAt R1 w B1 c ∧ CurAt R2 w B2 c ∧ Below w0.heap.size w0 w
theorem and3 (n : Int) (h0 : -9223372036854775808 ≤ n) (h1 : n ≤ 9223372036854775807) : bits .and .i64 n 3 = n % 4 := by
  show IntKind.i64.wrap ((BitVec.ofInt 64 n &&& BitVec.ofInt 64 3).toNat : Int) = _
  have e3 : (BitVec.ofInt 64 3).toNat = 2 ^ 2 - 1 := by decide
  rw [BitVec.toNat_and, e3, Nat.and_two_pow_sub_one_eq_mod, BitVec.toNat_ofInt, IntKind.wrap_i64]
  omega
/-- the first cursor has turned; then the second has, alike. -/
theorem Two.step {w0 w w1 w2 : World} {R1 R2 : Option Nat} {B1 B2 : Nat} {c c' : Cur} (h : Two w0 R1 R2 B1 B2 w c)
    (hd : R1 ≠ some B2 ∧ R2 ≠ some B1 ∧ B1 ≠ B2 ∧ w0.heap.size ≤ B1 ∧ w0.heap.size ≤ B2) (h1 : CurAt R1 w1 B1 c') (g1 : w.grownBy w1 (some B1)) (h2 : CurAt R2 w2 B2 c') (g2 : w1.grownBy w2 (some B2)) : Two w0 R1 R2 B1 B2 w2 c' :=
  ⟨h1.grown g2 hd.2.2.1 hd.1, h2, (h.2.2.trans (Below.ofGrown g1 hd.2.2.2.1 h.2.2.size)).trans (Below.ofGrown g2 hd.2.2.2.2 (by have := h.2.2.size; have := g1.size; omega))⟩
theorem Two.other {w0 w w1 : World} {R1 R2 : Option Nat} {B1 B2 : Nat} {c : Cur} (h : Two w0 R1 R2 B1 B2 w c)
    (hd : R1 ≠ some B2 ∧ R2 ≠ some B1 ∧ B1 ≠ B2 ∧ w0.heap.size ≤ B1 ∧ w0.heap.size ≤ B2) (g1 : w.grownBy w1 (some B1)) : CurAt R2 w1 B2 c :=
  h.2.1.grown g1 (fun e => hd.2.2.1 e.symm) hd.2.1
set_option maxRecDepth 100000 in
set_option maxHeartbeats 8000000 in
theorem LebTakes_core (v0 : Value) (x0 : List UInt8) (v1 : Value) (x1 : List Int) (w : World) (w0 : RowAt w v0 (bytesV x0)) (w1 : RowAt w v1 (x1.map (Value.int .i64))) (y1 : ∀ n ∈ x1, -9223372036854775808 ≤ n ∧ n ≤ 9223372036854775807) :
    Calls Try.prog 7 #[v0, v1] w fun e w' => e = .returned (.bool true) ∧ Below w.heap.size w w' := by
  have W1 : RowAt w v1 (intsV x1) := w1
  obtain ⟨xb, cb, rfl⟩ := w0.shape
  obtain ⟨xn, cn, rfl⟩ := W1.shapeI
  rw [bytesV_length] at w0 ⊢
  by_cases g0 : 1000 < x0.length
  · have h' : decide ((1000 : Int) < (x0.length : Int)) = true := by simp; omega
    go_enter Try.func7, Try.ntmps7
    go_wp2
    go_ret
    exact ⟨rfl, Below.refl _ _⟩
  by_cases g1 : 100 < x1.length
  · have h' : decide ((100 : Int) < (x1.length : Int)) = true := by simp; omega
    go_enter Try.func7, Try.ntmps7
    go_wp2
    go_ret
    exact ⟨rfl, Below.refl _ _⟩
  have h0' : decide ((1000 : Int) < (x0.length : Int)) = false := by simp; omega
  have h1' : decide ((100 : Int) < (x1.length : Int)) = false := by simp; omega
  have hb1 : x1.length ≤ 100 := by omega
  have HO := Lib.hid (Open_c _ x0 w w0 (by omega))
  have H0 := Lib.hid w0
  have HN := Lib.hid W1
  have HY := Lib.hid y1
  clear w0 w1 W1 y1 g0 g1
  go_enter Try.func7, Try.ntmps7
  go_wp2_with fail
  with_reducible refine HO.out.mono ?_
  rintro e w1 ⟨B1, R1, rfl, hB1, hc1, hb1', hR1, hB1l⟩
  have hs1 := hb1'.size
  obtain ⟨R2, ha2, hR2⟩ := Apart.ofRow H0.out hs1
  have hc2 := CurAt.new w1 (Value.slice xb x0.length cb) x0 44 (H0.out.below hb1') ha2
  have hc1' : CurAt R1 (w1.alloc (.cells #[(Value.slice xb x0.length cb), .bool false] 44)) B1 (some x0) := hc1.below ((Below.refl _ _).alloc (Nat.le_refl _) _)
  have HT : Hid (Two w R1 R2 B1 w1.heap.size (w1.alloc (.cells #[(Value.slice xb x0.length cb), .bool false] 44)) (some x0)) := Lib.hid ⟨hc1', hc2, hb1'.trans ((Below.refl _ _).alloc hs1 _)⟩
  have H12 : Hid (R1 ≠ some w1.heap.size ∧ R2 ≠ some B1 ∧ B1 ≠ w1.heap.size ∧ w.heap.size ≤ B1 ∧ w.heap.size ≤ w1.heap.size) := Lib.hid ⟨fun e => by have := (hR1 _ e).2; omega, fun e => by have := (hR2 _ e).1; omega, by omega, hB1, hs1⟩
  clear hc1 hc1' hc2 ha2 hR1 hR2 hb1' HO hs1 hB1 hB1l
  go_wp2_with fail
  generalize w1.heap.size = B2 at *
  go_loopw [7] (fun i wr => ∃ (j : Nat) (c : Cur), j ≤ x1.length ∧ i = .int .i64 (j : Int) ∧ Two w R1 R2 B1 B2 wr c) (fun i _ => x1.length - (intOf i).toNat)
  case atStart => exact ⟨0, some x0, by omega, rfl, HT.out⟩
  case round =>
    clear HT
    obtain ⟨j, c, hj, rfl, htw⟩ := hrel
    have HT := Lib.hid htw
    clear htw
    by_cases hlt : j < x1.length
    · obtain ⟨b, o, rfl, hbl, hc⟩ := HN.out.cellAt j (by simpa [intsV] using hlt)
      have hc2 : wr.cell? ⟨b, o + j, none⟩ = some (.int .i64 x1[j]) := by rw [HT.out.2.2.cell hbl, hc]; simp [intsV]
      have hy := HY.out x1[j] (List.getElem_mem hlt)
      have hand := and3 x1[j] hy.1 hy.2
      clear hc hbl hy
      generalize x1[j] = n at *
      have hm : n % 4 = 0 ∨ n % 4 = 1 ∨ n % 4 = 2 ∨ n % 4 = 3 := by omega
      have hst : ∀ (wz : World) (c' : Cur), Two w R1 R2 B1 B2 wz c' → Two w R1 R2 B1 B2 wz.drew c' := fun wz c' h => ⟨h.1.below ((Below.refl _ _).drew), h.2.1.below ((Below.refl _ _).drew), h.2.2.drew⟩
      have HST := Lib.hid hst
      clear hst
      have HA := Lib.hid HT.out.1
      rcases hm with hm | hm | hm | hm
      · rw [hm] at hand
        clear hm
        go_wp2_with fail
        with_reducible refine (CInt_c B1 c _ HA.out).mono ?_
        rintro e w3 ⟨rfl, h31, h32⟩
        have HX := Lib.hid (HT.out.other H12.out h32)
        have H31 := Lib.hid h31
        have H32 := Lib.hid h32
        clear h31 h32 hc2
        go_wp2_with fail
        with_reducible refine (XInt_c B2 c _ HX.out).mono ?_
        rintro e w4 ⟨rfl, h41, h42⟩
        have HT2 := Lib.hid (HT.out.step H12.out H31.out H32.out h41 h42)
        clear h41 h42 HT HX H31 H32 HA
        generalize (curInt c).2 = c' at *
        generalize (curInt c).1 = val at *
        go_wp2_with fail
        have HB := Lib.hid (HST.out _ _ HT2.out)
        have HG1 := Lib.hid HB.out.1
        have HG2 := Lib.hid HB.out.2.1
        have hE := HG2.out.bad
        have hgb : (c'.isSome == c'.isNone) = false := by cases c' <;> rfl
        clear HST HT2 hand
        have HGD : Hid (∀ wz : World, CurAt R1 wz B1 c' → Calls Try.prog 28 #[.pointer (some ⟨B1, 0, none⟩)] wz fun e w' => e = .returned (.bool c'.isSome) ∧ wz = w') := Lib.hid (fun wz h => Good_c B1 c' wz h)
        generalize c'.isSome = gs at *
        generalize c'.isNone = gn at *
        go_region_with (first | (go_at_call 28; refine (HGD.out _ HG1.out).mono ?_; rintro e w' ⟨rfl, rfl⟩) | (go_at_call 30; refine (Whole_c B1 c' _ HG1.out).mono ?_; rintro e w' ⟨rfl, rfl⟩) | (go_at_call 36; refine (XWhole_c B2 c' _ HG2.out).mono ?_; rintro e w' ⟨rfl, rfl⟩))
        all_goals
          go_wp2_with fail
          go_roundw
          case rel => exact ⟨j + 1, c', by omega, by go_num, HB.out⟩
          case measure => simp [intOf]; omega
      · rw [hm] at hand
        clear hm
        go_wp2_with fail
        with_reducible refine (CInt_c B1 c _ HA.out).mono ?_
        rintro e w3 ⟨rfl, h31, h32⟩
        have HX := Lib.hid (HT.out.other H12.out h32)
        have H31 := Lib.hid h31
        have H32 := Lib.hid h32
        clear h31 h32 hc2
        go_wp2_with fail
        with_reducible refine (XInt_c B2 c _ HX.out).mono ?_
        rintro e w4 ⟨rfl, h41, h42⟩
        have HT2 := Lib.hid (HT.out.step H12.out H31.out H32.out h41 h42)
        clear h41 h42 HT HX H31 H32 HA
        generalize (curInt c).2 = c' at *
        generalize (curInt c).1 = val at *
        go_wp2_with fail
        have HB := Lib.hid (HST.out _ _ HT2.out)
        have HG1 := Lib.hid HB.out.1
        have HG2 := Lib.hid HB.out.2.1
        have hE := HG2.out.bad
        have hgb : (c'.isSome == c'.isNone) = false := by cases c' <;> rfl
        clear HST HT2 hand
        have HGD : Hid (∀ wz : World, CurAt R1 wz B1 c' → Calls Try.prog 28 #[.pointer (some ⟨B1, 0, none⟩)] wz fun e w' => e = .returned (.bool c'.isSome) ∧ wz = w') := Lib.hid (fun wz h => Good_c B1 c' wz h)
        generalize c'.isSome = gs at *
        generalize c'.isNone = gn at *
        go_region_with (first | (go_at_call 28; refine (HGD.out _ HG1.out).mono ?_; rintro e w' ⟨rfl, rfl⟩) | (go_at_call 30; refine (Whole_c B1 c' _ HG1.out).mono ?_; rintro e w' ⟨rfl, rfl⟩) | (go_at_call 36; refine (XWhole_c B2 c' _ HG2.out).mono ?_; rintro e w' ⟨rfl, rfl⟩))
        all_goals
          go_wp2_with fail
          go_roundw
          case rel => exact ⟨j + 1, c', by omega, by go_num, HB.out⟩
          case measure => simp [intOf]; omega
      · rw [hm] at hand
        clear hm
        go_wp2_with fail
        with_reducible refine (CStr_c B1 c _ HA.out).mono ?_
        rintro e w3 ⟨rfl, h31, h32⟩
        have HX := Lib.hid (HT.out.other H12.out h32)
        have H31 := Lib.hid h31
        have H32 := Lib.hid h32
        clear h31 h32 hc2
        go_wp2_with fail
        with_reducible refine (XStr_c B2 c _ HX.out).mono ?_
        rintro e w4 ⟨rfl, h41, h42⟩
        have HT2 := Lib.hid (HT.out.step H12.out H31.out H32.out h41 h42)
        clear h41 h42 HT HX H31 H32 HA
        generalize (curStr c).2 = c' at *
        generalize (curStr c).1 = val at *
        go_wp2_with fail
        have HB := Lib.hid (HST.out _ _ HT2.out)
        have HG1 := Lib.hid HB.out.1
        have HG2 := Lib.hid HB.out.2.1
        have hE := HG2.out.bad
        have hgb : (c'.isSome == c'.isNone) = false := by cases c' <;> rfl
        clear HST HT2 hand
        have HGD : Hid (∀ wz : World, CurAt R1 wz B1 c' → Calls Try.prog 28 #[.pointer (some ⟨B1, 0, none⟩)] wz fun e w' => e = .returned (.bool c'.isSome) ∧ wz = w') := Lib.hid (fun wz h => Good_c B1 c' wz h)
        generalize c'.isSome = gs at *
        generalize c'.isNone = gn at *
        go_region_with (first | (go_at_call 28; refine (HGD.out _ HG1.out).mono ?_; rintro e w' ⟨rfl, rfl⟩) | (go_at_call 30; refine (Whole_c B1 c' _ HG1.out).mono ?_; rintro e w' ⟨rfl, rfl⟩) | (go_at_call 36; refine (XWhole_c B2 c' _ HG2.out).mono ?_; rintro e w' ⟨rfl, rfl⟩))
        all_goals
          go_wp2_with fail
          go_roundw
          case rel => exact ⟨j + 1, c', by omega, by go_num, HB.out⟩
          case measure => simp [intOf]; omega
      · rw [hm] at hand
        clear hm
        go_wp2_with fail
        with_reducible refine (CReal_c B1 c _ HA.out).mono ?_
        rintro e w3 ⟨rfl, h31, h32⟩
        have HX := Lib.hid (HT.out.other H12.out h32)
        have H31 := Lib.hid h31
        have H32 := Lib.hid h32
        clear h31 h32 hc2
        go_wp2_with fail
        with_reducible refine (XReal_c B2 c _ HX.out).mono ?_
        rintro e w4 ⟨rfl, h41, h42⟩
        have HT2 := Lib.hid (HT.out.step H12.out H31.out H32.out h41 h42)
        clear h41 h42 HT HX H31 H32 HA
        generalize (curReal c).2 = c' at *
        generalize (curReal c).1 = val at *
        go_wp2_with (first | (go_at_call 35; (with_reducible refine (Same_c _ _ _).mono ?_); rintro e w' ⟨rfl, rfl⟩))
        have HB := Lib.hid (HST.out _ _ HT2.out)
        have HG1 := Lib.hid HB.out.1
        have HG2 := Lib.hid HB.out.2.1
        have hE := HG2.out.bad
        have hgb : (c'.isSome == c'.isNone) = false := by cases c' <;> rfl
        clear HST HT2 hand
        have HGD : Hid (∀ wz : World, CurAt R1 wz B1 c' → Calls Try.prog 28 #[.pointer (some ⟨B1, 0, none⟩)] wz fun e w' => e = .returned (.bool c'.isSome) ∧ wz = w') := Lib.hid (fun wz h => Good_c B1 c' wz h)
        generalize c'.isSome = gs at *
        generalize c'.isNone = gn at *
        go_region_with (first | (go_at_call 28; refine (HGD.out _ HG1.out).mono ?_; rintro e w' ⟨rfl, rfl⟩) | (go_at_call 30; refine (Whole_c B1 c' _ HG1.out).mono ?_; rintro e w' ⟨rfl, rfl⟩) | (go_at_call 36; refine (XWhole_c B2 c' _ HG2.out).mono ?_; rintro e w' ⟨rfl, rfl⟩))
        all_goals
          go_wp2_with fail
          go_roundw
          case rel => exact ⟨j + 1, c', by omega, by go_num, HB.out⟩
          case measure => simp [intOf]; omega
    · obtain rfl : j = x1.length := by omega
      have HB : Hid (Two w R1 R2 B1 B2 wr.drew c) := Lib.hid ⟨HT.out.1.below ((Below.refl _ _).drew), HT.out.2.1.below ((Below.refl _ _).drew), HT.out.2.2.drew⟩
      have HG1 := Lib.hid HB.out.1
      have hE := HB.out.2.1.bad
      clear hlt hj
      have hgb : (c.isSome == !c.isNone) = true := by cases c <;> rfl
      go_wp2_with fail
      go_region_with (first | (go_at_call 28; refine (Good_c B1 c _ HG1.out).mono ?_; rintro e w' ⟨rfl, rfl⟩) | (go_at_call 20; refine (known3_c _).mono ?_; rintro e w' ⟨rfl, hk⟩))
      all_goals
        go_wp2_with fail
        go_ret
        exact ⟨rfl, HB.out.2.2.trans (hk.mono HB.out.2.2.size)⟩
end Go.Proofs.Ytbnhepcfjjephaa
