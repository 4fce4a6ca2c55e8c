
/- The laws on package redo: what is known; RedoOfNothing. -/
import Derived.Test.YtlllbacjdjllbaaDoorPl1
import Derived.Test.YtlllbacjdjllbaaDoorOpen
import Derived.Lib.SlBytesConst
namespace Go.Proofs.YtlllbacjdjllbaaDoor
open Go Go.Proofs Go.Shelf Go.RowKit Go.Great
set_option linter.unusedVariables false
set_option linter.unusedSimpArgs false

theorem LogAt.mono {lo lo' : Nat} {w : World} {L D : Nat} {bv : Value} {l : PL} (h : LogAt lo w L D bv l) (hl : lo' ≤ lo) : LogAt lo' w L D bv l := ⟨h.blk, own_mono h.own hl, Nat.le_trans hl h.ge⟩
theorem DrumAt.lo_le {lo : Nat} {w : World} {D g m : Nat} {v : Value} {d : PD} (h : DrumAt lo w D g m v d) : lo ≤ w.heap.size := by
  have := h.ne.2.1; have := h.blk.lt; omega
/-- a log is opened on a drum, and is what it says. -/
def OpenLD (lo : Nat) (w : World) (D g m : Nat) (v : Value) (d : PD) (l : PL) (es : List (List UInt8)) (e : Ending) (w' : World) : Prop :=
  ∃ L bv va vc, e = .returned (.tuple #[.pointer (some ⟨L, 0, none⟩), .slice va es.length vc, .int .i64 0]) ∧ LDAt lo w' L D g m bv v l d ∧ RowsU w.heap.size w' (.slice va es.length vc) es ∧ Below w.heap.size w w'
theorem OpenLD_c {lo D g m : Nat} {v : Value} {d : PD} {w : World} (h : DrumAt lo w D g m v d) (hn : 4 ≤ d.n) {l : PL} {es : List (List UInt8)} (he : entP (logB d) = (es, true)) (hl : logP d = l) : Calls Tryd.prog 11 #[.pointer (some ⟨D, 0, none⟩)] w (OpenLD lo w D g m v d l es) := by
  refine (ROpen_c h hn).mono ?_
  rintro e w' (⟨h1, L, bv, ov, rfl, h2, h3, h4⟩ | ⟨h1, _⟩)
  · rw [he] at h3
    obtain ⟨cells, ho, hc⟩ := h3
    obtain ⟨va, vc, rfl⟩ := owns_shape ho
    rw [hl] at h2
    exact ⟨L, bv, va, vc, rfl, ⟨h2.mono h.lo_le, h.below h4⟩, ⟨cells, ho, hc⟩, h4⟩
  · rw [he] at h1
    cases h1
theorem Open_new {lo D g m : Nat} {v : Value} {n : Nat} {w : World} (h : DrumAt lo w D g m v (newP n)) (hn : 4 ≤ n) : Calls Tryd.prog 11 #[.pointer (some ⟨D, 0, none⟩)] w (OpenLD lo w D g m v (newP n) log0 []) :=
  OpenLD_c h hn (by rw [logB_new n hn, entP_nil]) (logP_new n hn)
theorem Room0 {lo L D g m : Nat} {bv v : Value} {w : World} (h : LDAt lo w L D g m bv v log0 (newP 4)) : Calls Tryd.prog 18 #[.pointer (some ⟨L, 0, none⟩)] w fun e w' => e = .returned (.int .i64 64) ∧ w' = w.drew := RRoom_c h (log0_ok (by decide))
def log1 : PL := ⟨⟨1, 0, 2⟩, [2, 97], 1, false⟩
theorem Room1 {lo L D g m : Nat} {bv v : Value} {d : PD} {w : World} (h : LDAt lo w L D g m bv v log1 d) (hn : d.n = 4) : Calls Tryd.prog 18 #[.pointer (some ⟨L, 0, none⟩)] w fun e w' => e = .returned (.int .i64 62) ∧ w' = w.drew := by
  have hb : bankP d = 1 := by unfold bankP; rw [hn]
  have q := RRoom_c h ⟨by omega, ⟨by decide, by decide⟩, .inl rfl, by rw [hb]; decide, ⟨by decide, by decide⟩⟩
  rw [hb] at q
  exact q
theorem Len1 {lo L D g m : Nat} {bv v : Value} {d : PD} {w : World} (h : LDAt lo w L D g m bv v log1 d) : Calls Tryd.prog 14 #[.pointer (some ⟨L, 0, none⟩)] w fun e w' => e = .returned (.int .i64 1) ∧ w = w' := RLen_c h
theorem conv_a (w : World) : (convert 30 30 (.slice (some ⟨w.heap.size, 0, none⟩) 1 1)).run Tryd.prog (w.alloc (.cells #[.int .u8 97] 5)).drew = .ok (.slice (some ⟨w.heap.size, 0, none⟩) 1 1) (w.alloc (.cells #[.int .u8 97] 5 (1, 2))).drew :=
  Lib.run_convert_bytes_const w.drew 30 5 #[.int .u8 97] 1 1 Tryd.underlying30 Tryd.underlying5
theorem row_a (w : World) : RowAt (w.alloc (.cells #[.int .u8 97] 5 (1, 2))).drew (.slice (some ⟨w.heap.size, 0, none⟩) 1 1) (bytesV [97]) := by
  refine ⟨by simp [bytesV, maxLen], .inr ⟨⟨w.heap.size, 0, none⟩, 1, rfl, by simp [bytesV], fun i hi => ?_⟩⟩
  obtain rfl : i = 0 := by simp [bytesV] at hi; omega
  rw [World.cell?_drew, addr_add, World.cell?_alloc_mark]
  simp [bytesV, byteV]
theorem App0_c {lo L D g m : Nat} {bv v : Value} {w : World} (h : LDAt lo w L D g m bv v log0 (newP 4)) : Calls Tryd.prog 13 #[.pointer (some ⟨L, 0, none⟩), .slice (some ⟨w.heap.size, 0, none⟩) 1 1] (w.alloc (.cells #[.int .u8 97] 5 (1, 2))).drew fun e w' => ∃ bv' v' d', e = .returned (.int .i64 0) ∧ d'.n = 4 ∧ LDAt lo w' L D g m bv' v' log1 d' ∧ ChL lo w w' := by
  have hb : Below w.heap.size w (w.alloc (.cells #[.int .u8 97] 5 (1, 2))).drew := ((Below.refl _ w).alloc (Nat.le_refl _) _).drew
  have q := RAppend_c (h.below hb) (log0_ok (by decide)) [97] (.slice (some ⟨w.heap.size, 0, none⟩) 1 1) (row_a w) (by decide) (by decide)
  refine q.mono ?_
  rintro e w' ⟨bv', v', rfl, h1, h2⟩
  have a := app0
  rw [a.1]
  rw [a.2] at h1
  exact ⟨bv', v', _, rfl, lays_n _ _ _ _ _ _, h1, (ChL.ofBelow hb).trans h2⟩
set_option maxRecDepth 100000 in
set_option maxHeartbeats 4000000 in
theorem known5_c (w : World) : Calls Tryd.prog 16 #[] w fun e w' => e = .returned (.bool true) ∧ Below w.heap.size w w' := by
  have CN : Hid (Calls Tryd.prog 10 #[.int .i64 4] w (NewTo w 4)) := Lib.hid (New_c w 4 (by decide))
  have CS2 := conv_a
  go_enter Tryd.func16, Tryd.ntmps16
  go_wp2_with (first | (go_at_call 10; (with_reducible refine CN.out.mono ?_); rintro e w1 ⟨D, g, m, rfl, hd, hb1⟩; have HD := Lib.hid hd; have HB := Lib.hid hb1; clear hd hb1) | (go_at_call 11; (with_reducible refine (Open_new HD.out (by decide)).mono ?_); rintro e w2 ⟨L, bv, va, vc, rfl, hl, hr, hb2⟩; have H := Lib.hid hl; replace HB := Lib.hid (HB.out.trans (hb2.mono HB.out.size)); have H2 := H; have HB2 := HB; clear hl hr hb2) | (go_at_call 18; (with_reducible refine (Room0 H.out).mono ?_); rintro e wq ⟨rfl, rfl⟩; replace HB := Lib.hid HB.out.drew; replace H := Lib.hid (H.out.below (Below.refl _ _).drew)) | (go_at_call 13; (with_reducible refine (App0_c (w := w2) H2.out).mono ?_); rintro e wq ⟨bv', v', d', rfl, hn', hl, hc⟩; replace HB := Lib.hid (hc.below HB2.out (Nat.le_refl _)); have HN := Lib.hid hn'; replace H := Lib.hid hl; clear hn' hl hc) | (go_at_call 18; (with_reducible refine (Room1 H.out HN.out).mono ?_); rintro e wq ⟨rfl, rfl⟩; replace HB := Lib.hid HB.out.drew; replace H := Lib.hid (H.out.below (Below.refl _ _).drew)) | (go_at_call 14; (with_reducible refine (Len1 H.out).mono ?_); rintro e wq ⟨rfl, rfl⟩) | fail)
  go_ret
  exact ⟨rfl, HB.out⟩
theorem Open_few {lo D g m : Nat} {v : Value} {n : Nat} {w : World} (h : DrumAt lo w D g m v (newP n)) (hn : ¬ 4 ≤ n) : Calls Tryd.prog 11 #[.pointer (some ⟨D, 0, none⟩)] w fun e w' => e = .returned (.tuple #[.pointer none, .slice none 0 0, .int .i64 1]) ∧ w = w' := ROpen_small h (show n < 4 by omega)
theorem Wait0 {lo D g m : Nat} {v : Value} {n : Nat} {w : World} (h : DrumAt lo w D g m v (newP n)) : Calls Tryd.prog 17 #[.pointer (some ⟨D, 0, none⟩)] w fun e w' => e = .returned (.int .i64 0) ∧ w = w' := Waiting_c h
set_option maxRecDepth 100000 in
set_option maxHeartbeats 4000000 in
theorem RedoOfNothing_core (a0 : Int) (v1 : Value) (x1 : List UInt8) (w : World) (w0 : (Lit.int .i64 a0).wf = true) (w1 : RowAt w v1 (bytesV x1)) :
    Calls Tryd.prog 4 #[.int .i64 a0, v1] w fun e w' => e = .returned (.bool true) ∧ Below w.heap.size w w' := by
  have hln := fun w' => w1.lenRun elemU 3 w'
  rw [bytesV_length] at hln
  clear w1
  by_cases hout : a0 < 0 ∨ 20 < a0 ∨ 200 < (x1.length : Int)
  · by_cases h0 : a0 < 0
    · go_enter Tryd.func4, Tryd.ntmps4
      go_wp2_with fail
      go_ret
      exact ⟨rfl, Below.refl _ _⟩
    · by_cases h1 : 20 < a0
      · go_enter Tryd.func4, Tryd.ntmps4
        go_wp2_with fail
        go_ret
        exact ⟨rfl, Below.refl _ _⟩
      · have h2 : 200 < (x1.length : Int) := by omega
        go_enter Tryd.func4, Tryd.ntmps4
        go_wp2_with fail
        go_ret
        exact ⟨rfl, Below.refl _ _⟩
  obtain ⟨n, rfl⟩ : ∃ n : Nat, a0 = (n : Int) := ⟨a0.toNat, by omega⟩
  have h0 : ¬ (n : Int) < 0 := by omega
  have h1 : ¬ 20 < (n : Int) := by omega
  have h2 : ¬ 200 < (x1.length : Int) := by omega
  have CN := Lib.hid (New_c w n (by omega))
  by_cases h4 : 4 ≤ n
  · have h4' : 4 ≤ (n : Int) := by omega
    have H4 := Lib.hid h4
    clear hout w0
    go_enter Tryd.func4, Tryd.ntmps4
    go_wp2_with (first | (go_at_call 11; (with_reducible refine (ROpen_nil _).mono ?_); rintro e wq ⟨rfl, rfl⟩) | (go_at_call 10; (with_reducible refine CN.out.mono ?_); rintro e w1 ⟨D, g, m, rfl, hd, hb1⟩; have HD := Lib.hid hd; have HB := Lib.hid hb1; clear hd hb1) | (go_at_call 11; (with_reducible refine (Open_new HD.out H4.out).mono ?_); rintro e w2 ⟨L, bv, va, vc, rfl, hl, hr, hb2⟩; have H := Lib.hid hl; replace HB := Lib.hid (HB.out.trans (hb2.mono HB.out.size)); clear hl hr hb2) | (go_at_call 17; (with_reducible refine (Wait0 H.out.drum).mono ?_); rintro e w' ⟨rfl, rfl⟩) | (go_at_call 13; (with_reducible refine (RAppend_nil _ _).mono ?_); rintro e w' ⟨rfl, rfl⟩) | (go_at_call 15; (with_reducible refine (RReset_nil _ _).mono ?_); rintro e w' ⟨rfl, rfl⟩) | (go_at_call 14; (with_reducible refine (RLen_nil _).mono ?_); rintro e w' ⟨rfl, rfl⟩) | (go_at_call 18; (with_reducible refine (RRoom_nil _).mono ?_); rintro e w' ⟨rfl, rfl⟩) | (go_at_call 16; (with_reducible refine (known5_c _).mono ?_); rintro e wq ⟨rfl, hq⟩; replace HB := Lib.hid (HB.out.trans (hq.mono HB.out.size)); clear hq) | fail)
    go_ret
    exact ⟨rfl, HB.out⟩
  · have h4' : ¬ 4 ≤ (n : Int) := by omega
    have H4 := Lib.hid h4
    clear hout w0
    go_enter Tryd.func4, Tryd.ntmps4
    go_wp2_with (first | (go_at_call 11; (with_reducible refine (ROpen_nil _).mono ?_); rintro e wq ⟨rfl, rfl⟩) | (go_at_call 10; (with_reducible refine CN.out.mono ?_); rintro e w1 ⟨D, g, m, rfl, hd, hb1⟩; have HD := Lib.hid hd; have HB := Lib.hid hb1; clear hd hb1) | (go_at_call 11; (with_reducible refine (Open_few HD.out H4.out).mono ?_); rintro e wq ⟨rfl, rfl⟩) | (go_at_call 17; (with_reducible refine (Wait0 HD.out).mono ?_); rintro e w' ⟨rfl, rfl⟩) | (go_at_call 13; (with_reducible refine (RAppend_nil _ _).mono ?_); rintro e w' ⟨rfl, rfl⟩) | (go_at_call 15; (with_reducible refine (RReset_nil _ _).mono ?_); rintro e w' ⟨rfl, rfl⟩) | (go_at_call 14; (with_reducible refine (RLen_nil _).mono ?_); rintro e w' ⟨rfl, rfl⟩) | (go_at_call 18; (with_reducible refine (RRoom_nil _).mono ?_); rintro e w' ⟨rfl, rfl⟩) | (go_at_call 16; (with_reducible refine (known5_c _).mono ?_); rintro e wq ⟨rfl, hq⟩; replace HB := Lib.hid (HB.out.trans (hq.mono HB.out.size)); clear hq) | fail)
    go_ret
    have hd4 : (!decide (4 ≤ (n : Int))) = true := by rw [decide_eq_false (by have := H4.out; omega)]; rfl
    exact ⟨congrArg (fun b => Ending.returned (.bool b)) hd4, HB.out⟩
end Go.Proofs.YtlllbacjdjllbaaDoor
