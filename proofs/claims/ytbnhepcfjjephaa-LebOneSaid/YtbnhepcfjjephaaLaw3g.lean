/- The walk of LebOne. -/
import Derived.Test.YtbnhepcfjjephaaLaw3d
import Derived.Test.YtbnhepcfjjephaaRCur
import Derived.BigQuiet
import Derived.Deep.QuietTactic
namespace Go.Proofs.Ytbnhepcfjjephaa
open Go Go.RowKit
set_option linter.unusedVariables false

set_option maxRecDepth 100000 in
set_option maxHeartbeats 4000000 in
theorem LebOne_core (v0 : Value) (x0 : List UInt8) (w : World) (w0 : RowAt w v0 (bytesV x0)) :
    Calls Try.prog 5 #[v0] w fun e w' => e = .returned (.bool true) ∧ Below w.heap.size w w' := by
  obtain ⟨xb, cb, rfl⟩ := w0.shape
  rw [bytesV_length] at w0 ⊢
  by_cases g0 : 100 < x0.length
  · have h' : decide ((100 : Int) < (x0.length : Int)) = true := by simp; omega
    go_enter Try.func5, Try.ntmps5
    go_wp2
    go_ret
    exact ⟨rfl, Below.refl _ _⟩
  have h' : decide ((100 : Int) < (x0.length : Int)) = false := by simp; omega
  have HO := Lib.hid (Open_c _ x0 w w0 (by omega))
  have H0 := Lib.hid w0
  have HD := Lib.hid (decU_dec x0)
  have hx100 : x0.length ≤ 100 := by omega
  have HCU : Hid (curInt (some x0) = match decU x0 with | some (z, r) => (unzig z, some r) | none => (0, none)) := Lib.hid rfl
  cases hdec : decU x0 with
  | none =>
    rw [hdec] at HCU HD
    have HC0 : Hid (curInt (some x0) = (0, none)) := HCU
    clear w0 g0 hdec HCU
    go_enter Try.func5, Try.ntmps5
    go_wp2_with fail
    with_reducible refine HO.out.mono ?_
    rintro e w1 ⟨B1, R1, rfl, hB1, hc1, hb1, hR1, hB1l⟩
    have HI : Hid (Calls Try.prog 27 #[.pointer (some ⟨B1, 0, none⟩)] w1 (CurTo R1 B1 w1 (.int .i64 0) none)) := Lib.hid (by have := CInt_c B1 _ w1 hc1; rwa [HC0.out] at this)
    have HRL := Lib.hid hR1
    have HBL := Lib.hid hB1l
    have HB1 := Lib.hid hb1
    have HBB := Lib.hid hB1
    clear hc1 hR1 hB1l hb1 hB1
    go_wp2_with fail
    with_reducible refine HI.out.mono ?_
    rintro e w2 ⟨rfl, h21, h22⟩
    have hb2 := HB1.out.trans (Below.ofGrown h22 HBB.out HB1.out.size)
    have hs2 := hb2.size
    have hs12 := h22.size
    obtain ⟨R2, ha2, hR2⟩ := Apart.ofRow H0.out hs2
    have HC2 := Lib.hid (CurAt.new w2 (Value.slice xb x0.length cb) x0 44 (H0.out.below hb2) ha2)
    have HC1 := Lib.hid h21
    have HC1' : Hid (CurAt R1 (w2.alloc (.cells #[(Value.slice xb x0.length cb), .bool false] 44)) B1 none) := Lib.hid (h21.below ((Below.refl _ _).alloc (Nat.le_refl _) _))
    have HB2 : Hid (Below w.heap.size w (w2.alloc (.cells #[(Value.slice xb x0.length cb), .bool false] 44))) := Lib.hid (hb2.trans ((Below.refl _ _).alloc hs2 _))
    have HX : Hid (Calls Try.prog 29 #[.pointer (some ⟨w2.heap.size, 0, none⟩)] (w2.alloc (.cells #[(Value.slice xb x0.length cb), .bool false] 44)) (CurTo R2 w2.heap.size (w2.alloc (.cells #[(Value.slice xb x0.length cb), .bool false] 44)) (.int .i64 0) none)) := Lib.hid (by have := XInt_c w2.heap.size _ _ HC2.out; rwa [HC0.out] at this)
    have HNE : Hid (R1 ≠ some w2.heap.size ∧ B1 ≠ w2.heap.size ∧ w.heap.size ≤ w2.heap.size) := Lib.hid ⟨fun e => by have := (HRL.out _ e).2; omega, by have := HBL.out; omega, hs2⟩
    clear h21 h22 hb2 hs2 hs12 ha2 hR2 HC2
    go_wp2_with (first | (go_at_call 28; (with_reducible refine (Good_c B1 none _ HC1.out).mono ?_); rintro e w' ⟨rfl, rfl⟩))
    with_reducible refine HX.out.mono ?_
    rintro e w4 ⟨rfl, h41, h42⟩
    have HC4 := Lib.hid (HC1'.out.grown h42 HNE.out.2.1 HNE.out.1)
    have hE := h41.bad
    simp only [Option.isNone_none] at hE
    have HB4 := Lib.hid (HB2.out.trans (Below.ofGrown h42 HNE.out.2.2 HB2.out.size))
    clear h41 h42
    go_wp2_with (first | (go_at_call 30; (with_reducible refine (Whole_c B1 none _ HC4.out).mono ?_); rintro e w' ⟨rfl, rfl⟩) | (go_at_call 20; (with_reducible refine (known3_c _).mono ?_); rintro e w' ⟨rfl, hk⟩))
    go_ret
    exact ⟨rfl, HB4.out.trans (hk.mono HB4.out.size)⟩
  | some p =>
    obtain ⟨z, r⟩ := p
    rw [hdec] at HCU HD
    have HC0 : Hid (curInt (some x0) = (unzig z, some r)) := HCU
    have hz : z < W64 := HD.out.1
    have hbd := unzig_bd hz
    have HLZ : Hid (lebInts [unzig z] = Lib.uvarint z) := Lib.hid (by simp [lebInts, lebInt, zig_unzig])
    obtain ⟨pre, x, e1, e2, e3, _, _⟩ := uv_form z
    have HPX : Hid (Lib.uvarint z = pre ++ [x]) := Lib.hid e1
    have HPR : Hid (∀ b ∈ pre, 128 ≤ b.toNat) := Lib.hid e2
    have hl10 := Lib.uvarint_length64 hz
    have hlx : x0.length = (Lib.uvarint z).length + r.length := by rw [HD.out.2]; simp
    have HTK : Hid (x0.take (Lib.uvarint z).length = Lib.uvarint z) := Lib.hid (by rw [HD.out.2]; simp)
    have hlp : (Lib.uvarint z).length = pre.length + 1 := by rw [e1]; simp
    have HLP := Lib.hid hlp
    have HLX := Lib.hid hlx
    clear hlp
    have HBD := Lib.hid hbd
    generalize unzig z = n at *
    generalize Lib.uvarint z = T at *
    obtain ⟨va, ha, hra, _⟩ := w0.sliceHi elemU elemSz T.length (by simp; omega)
    clear hlx
    have etk : List.take T.length (bytesV x0) = bytesV T := by rw [← HTK.out]; simp [bytesV, List.map_take]
    rw [etk] at hra
    have HRA := Lib.hid hra
    have hln : ∀ w', (Builtin.len_ #[24] 3 #[.slice xb x0.length cb]).run Try.prog w' = .ok (.int .i64 (x0.length : Int)) w' := by
      have := w0.lenRun elemU 3
      rwa [bytesV_length] at this
    generalize Value.slice xb x0.length cb = vv at *
    clear w0 g0 hdec HCU hz hbd e1 e2 e3 etk hra
    go_enter Try.func5, Try.ntmps5
    go_wp2_with fail
    with_reducible refine HO.out.mono ?_
    rintro e w1 ⟨B1, R1, rfl, hB1, hc1, hb1, hR1, hB1l⟩
    have HI : Hid (Calls Try.prog 27 #[.pointer (some ⟨B1, 0, none⟩)] w1 (CurTo R1 B1 w1 (.int .i64 n) (some r))) := Lib.hid (by have := CInt_c B1 _ w1 hc1; rwa [HC0.out] at this)
    have HB1 := Lib.hid hb1
    have HBB := Lib.hid hB1
    clear hc1 hR1 hB1l hb1 hB1
    go_wp2_with fail
    with_reducible refine HI.out.mono ?_
    rintro e w2 ⟨rfl, h21, h22⟩
    have HB2 := Lib.hid (HB1.out.trans (Below.ofGrown h22 HBB.out HB1.out.size))
    have HC1 := Lib.hid h21
    have HIN := Lib.hid (Int_c (.slice none 0 0) (.slice (some ⟨w2.heap.size, 0, none⟩) 1 1) [] [n] (w2.alloc (.cells #[.int .i64 n] 3)) (RowAt.nil _) (RowAt.new (hc := by simp) w2 [.int .i64 n] 3 1 (by unfold maxLen; simp)) (by intro m hm; rw [List.mem_singleton.1 hm]; exact HBD.out) (by simp))
    clear h21 h22
    go_wp2_with (first | (go_at_call 28; (with_reducible refine (Good_c B1 (some r) _ HC1.out).mono ?_); rintro e w' ⟨rfl, rfl⟩))
    with_reducible refine HIN.out.mono ?_
    rintro e w3 ⟨v3, rfl, hown3, hb3⟩
    rw [List.nil_append, HLZ.out] at hown3
    have hr3 := RowAt.ofOwns hown3
    have HR3 := Lib.hid hr3
    have HB3 : Hid (Below w.heap.size w w3) := Lib.hid (HB2.out.trans (((Below.refl _ w2).alloc (Nat.le_refl _) _).trans (hb3.mono (by simp)) |>.mono HB2.out.size))
    have hln3 := hr3.lenRun elemU 3
    rw [bytesV_length] at hln3
    obtain ⟨vd, hd, hrd, _⟩ := hr3.sliceHi elemU elemSz (T.length - 1) (by simp)
    have ed : List.take (T.length - 1) (bytesV T) = bytesV pre := by
      rw [HLP.out, HPX.out]; simp [bytesV]
    rw [ed] at hrd
    have em : ((T.length - 1 : Nat) : Int) = (T.length : Int) - 1 := by have := HLP.out; omega
    rw [em] at hd
    have hlz : ((T.length : Int) == 0) = false := by have := HLP.out; rw [beq_eq_false_iff_ne]; omega
    have hlz2 : decide (x0.length < T.length) = false := by have := HLX.out; simp; omega
    have hlz2b : decide ((x0.length : Int) < (T.length : Int)) = false := by have := HLX.out; simp; omega
    have hlz3 : wrap64 ((T.length : Int) - 1) = (T.length : Int) - 1 := by unfold wrap64; omega
    have HRD := Lib.hid hrd
    have HRA3 := Lib.hid (HRA.out.below HB3.out)
    have hq1 : ∀ n, (convert 24 9 v3).run Try.prog (w3.drewN n) = .ok (.string ⟨T.toArray⟩) (w3.drewN n) := fun n => toS (RowAt.drewN HR3.out n)
    have hq2 : ∀ n, (convert 24 9 va).run Try.prog (w3.drewN n) = .ok (.string ⟨T.toArray⟩) (w3.drewN n) := fun n => toS (RowAt.drewN HRA3.out n)
    clear hown3 hb3 hr3 hrd ed em HIN HI HC1
    go_wp2_with fail
    go_quiet (fail)
    clear hq1 hq2
    have HRQ : Hid (RowAt (w3.drewN nq) vd (bytesV pre)) := Lib.hid (RowAt.drewN HRD.out nq)
    have HBQ : Hid (Below w.heap.size w (w3.drewN nq)) := Lib.hid (below_drewN HB3.out nq)
    generalize w3.drewN nq = wq at *
    have HO2 := Lib.hid (Open_c vd pre wq HRQ.out (by have := HLP.out; omega))
    go_wp2_with fail
    with_reducible refine HO2.out.mono ?_
    rintro e w4 ⟨B4, R4, rfl, hB4, hc4, hb4, hR4, hB4l⟩
    have HC0p : curInt (some pre) = (0, none) := by rw [curInt_U, curU_none (dec_short HPR.out)]; rfl
    have hs4 := HBQ.out.size
    have HI4 : Hid (Calls Try.prog 27 #[.pointer (some ⟨B4, 0, none⟩)] w4 (CurTo R4 B4 w4 (.int .i64 0) none)) := Lib.hid (by have := CInt_c B4 _ w4 hc4; rwa [HC0p] at this)
    have HB4 := Lib.hid (HBQ.out.trans (hb4.mono hs4))
    have HBB4 : Hid (w.heap.size ≤ B4) := Lib.hid (by omega)
    clear hc4 hb4 hR4 hB4l hB4 HC0p hs4 HO2
    go_wp2_with (go_at_call 27; (with_reducible refine HI4.out.mono ?_); rintro e w5 ⟨rfl, h51, h52⟩)
    have HC5 := Lib.hid h51
    have HB5 := Lib.hid (HB4.out.trans (Below.ofGrown h52 HBB4.out HB4.out.size))
    clear h51 h52 HI4
    go_wp2_with (first | (go_at_call 28; (with_reducible refine (Good_c B4 none _ HC5.out).mono ?_); rintro e w' ⟨rfl, rfl⟩) | (go_at_call 20; (with_reducible refine (known3_c _).mono ?_); rintro e w' ⟨rfl, hk⟩))
    go_ret
    exact ⟨rfl, HB5.out.trans (hk.mono HB5.out.size)⟩
end Go.Proofs.Ytbnhepcfjjephaa
