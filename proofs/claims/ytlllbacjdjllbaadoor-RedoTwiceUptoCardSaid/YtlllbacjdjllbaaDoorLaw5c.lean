
/- The laws on package redo: RedoBig. -/
import Derived.Test.YtlllbacjdjllbaaDoorRows5
namespace Go.Proofs.YtlllbacjdjllbaaDoor
open Go Go.Proofs Go.Shelf Go.RowKit Go.Great
set_option linter.unusedVariables false
set_option linter.unusedSimpArgs false

theorem elemBK : ElemK 30 5 1 1 [.int .u8 0] := elemK_of (z := .int .u8 0) Tryd.underlying30 (by kernel_rfl) rfl rfl
theorem madeB (n : Nat) : madeCells #[.int .u8 0] n = (bytesV (List.replicate n 0)).toArray := by
  apply Array.ext'
  have := madeCells_flat [.int .u8 0] n (by decide)
  rw [List.length_singleton, Nat.mul_one] at this
  rw [show (#[.int .u8 0] : Array Value) = ([.int .u8 0] : List Value).toArray from rfl, this]
  unfold bytesV
  rw [List.map_replicate, List.flatten_replicate_singleton]
  rfl
theorem elemBools : Tryd.prog.underlying 36 = some (.slice (Tryd.prog.elem 36)) := by kernel_rfl
theorem byte_of {z : Int} (h : 0 ≤ z ∧ z < 256) : ∃ b : UInt8, Value.int .u8 z = byteV b := by
  refine ⟨z.toNat.toUInt8, ?_⟩
  have : (z.toNat.toUInt8).toNat = z.toNat := by simp [Nat.toUInt8]; omega
  unfold byteV
  rw [this]
  congr 1
  omega
theorem rowOfBlk {W : World} {P : Nat} {bs : List UInt8} (h : BlkT W P (bytesV bs) 5) (hl : bs.length ≤ maxLen) : RowAt W (.slice (some ⟨P, 0, none⟩) bs.length bs.length) (bytesV bs) :=
  ⟨by rw [bytesV_length]; exact hl, .inr ⟨⟨P, 0, none⟩, bs.length, by rw [bytesV_length], by rw [bytesV_length]; exact Nat.le_refl _, fun i hi => by rw [addr_add, Nat.zero_add]; exact h.blk.cell i _ (List.getElem?_eq_getElem hi)⟩⟩
set_option maxRecDepth 100000 in
set_option maxHeartbeats 8000000 in
theorem RedoBig_core (a0 : Int) (a1 : Int) (a2 : Int) (v3 : Value) (x3 : List Bool) (w : World) (w0 : (Lit.int .i64 a0).wf = true) (w1 : (Lit.int .u8 a1).wf = true) (w2 : (Lit.int .i64 a2).wf = true) (w3 : RowAt w v3 (x3.map Value.bool)) :
    Calls Tryd.prog 7 #[.int .i64 a0, .int .u8 a1, .int .i64 a2, v3] w fun e w' => e = .returned (.bool true) ∧ Below w.heap.size w w' := by
  obtain ⟨ka, kc, e3⟩ := w3.shape
  rw [List.length_map] at e3
  subst e3
  have HK := Lib.hid w3
  by_cases h0 : a0 < 0
  · go_enter Tryd.func7, Tryd.ntmps7
    go_wp2_with fail
    go_ret
    exact ⟨rfl, Below.refl _ _⟩
  by_cases h1 : 3000 < a0
  · go_enter Tryd.func7, Tryd.ntmps7
    go_wp2_with fail
    go_ret
    exact ⟨rfl, Below.refl _ _⟩
  by_cases h2 : a2 < 0
  · go_enter Tryd.func7, Tryd.ntmps7
    go_wp2_with fail
    go_ret
    exact ⟨rfl, Below.refl _ _⟩
  by_cases h3 : 80 < a2
  · go_enter Tryd.func7, Tryd.ntmps7
    go_wp2_with fail
    go_ret
    exact ⟨rfl, Below.refl _ _⟩
  by_cases h4 : 100 < (x3.length : Int)
  · go_enter Tryd.func7, Tryd.ntmps7
    go_wp2_with fail
    go_ret
    exact ⟨rfl, Below.refl _ _⟩
  obtain ⟨n, rfl⟩ : ∃ n : Nat, a0 = (n : Int) := ⟨a0.toNat, by omega⟩
  have HM := fun W => make_rowK elemBK .i64 .i64 n (by omega) (by omega) W
  have HN := Lib.hid (show n ≤ 3000 ∧ a2 ≤ 80 from ⟨by omega, by omega⟩)
  have CN : Hid (Calls Tryd.prog 10 #[.int .i64 120] w (NewTo w 120)) := Lib.hid (New_c w 120 (by decide))
  have hu := u8_ok w1
  clear w0 w2 w3 w1
  go_enter Tryd.func7, Tryd.ntmps7
  go_wp2_with (first | (go_at_call 10; (with_reducible refine CN.out.mono ?_); rintro e w1 ⟨D, g, m, rfl, hd, hb1⟩; have HD := Lib.hid hd; have HB := Lib.hid hb1; clear hd hb1) | (go_at_call 11; (with_reducible refine (Open_new HD.out (by decide)).mono ?_); rintro e w2 ⟨L, bv, va2, vc2, rfl, hl, hr, hb2⟩; have H := Lib.hid hl; replace HB := Lib.hid (HB.out.trans (hb2.mono HB.out.size)); clear hl hr hb2) | fail)
  rw [madeB]
  have HPB : Hid (BlkT (w2.alloc (.cells (bytesV (List.replicate n 0)).toArray 5)) w2.heap.size (bytesV (List.replicate n 0)) 5) := Lib.hid (BlkT.new w2 _ _)
  have HWB : Hid (Below w2.heap.size w2 (w2.alloc (.cells (bytesV (List.replicate n 0)).toArray 5))) := Lib.hid ((Below.refl _ w2).alloc (Nat.le_refl _) _)
  clear HD CN HM
  go_loopw [14] (fun i wr => ∃ (j : Nat) (bs : List UInt8), i = .int .i64 (j : Int) ∧ j ≤ n ∧ bs.length = n ∧ BlkT wr w2.heap.size (bytesV bs) 5 ∧ Below w2.heap.size w2 wr) (fun i _ => n - (intOf i).toNat)
  case atStart => exact ⟨0, List.replicate n 0, rfl, Nat.zero_le _, by simp, HPB.out, HWB.out⟩
  case round =>
    obtain ⟨j, bs, rfl, hjn, hbl, hpb, hwb⟩ := hrel
    have HPB := Lib.hid hpb
    have HWB := Lib.hid hwb
    by_cases hj : j < n
    · have hj' : (j : Int) < (n : Int) := by omega
      have t1 := hpb.blk.cell j ((bytesV bs)[j]'(by rw [bytesV_length]; omega)) (List.getElem?_eq_getElem _)
      have t2 := hpb.blk.thaw j
      obtain ⟨c0, rfl⟩ := hu
      clear hpb hwb
      go_wp2_with fail
      obtain ⟨b, hb⟩ := byte_of (z := ((c0.toNat : Int) + (j : Int)) % 256) (by omega)
      rw [hb]
      refine ⟨⟨j + 1, bs.set j b, rfl, hj, by simp [hbl], ?_, Below.setCell (p := (⟨w2.heap.size, j, none⟩ : Addr)) HWB.out (Nat.le_refl _) _⟩, ?_⟩
      · have q := HPB.out.set j (byteV b)
        have e : (bytesV bs).set j (byteV b) = bytesV (bs.set j b) := by unfold bytesV; rw [List.map_set]
        rw [e] at q
        exact q
      · simp [intOf]; omega
    · have hj' : ¬ (j : Int) < (n : Int) := by omega
      have HBL := Lib.hid hbl
      have HX := Lib.hid (H.out.below hwb)
      have HBW := Lib.hid (HB.out.trans (hwb.mono HB.out.size))
      clear hpb hwb hbl
      go_wp2_with (first | (go_at_call 12; (with_reducible refine (ldFuse HX.out _ (by have := HN.out.2; omega)).mono ?_); rintro e w3 ⟨rfl, hl, hc⟩; have H3 := Lib.hid hl; have HB3 := Lib.hid (hc.below HBW.out (Nat.le_refl _)); have HP3 := Lib.hid (HPB.out.chl hc (by decide)); clear hl hc) | fail)
      have HG : Hid (Gd log0 { newP 120 with fuse := max a2 (-1) } []) := Lib.hid (Gd.new (by decide) (by decide) _)
      have hbsl : bs.length = n := HBL.out
      have HPR : Hid (RowAt w3 (.slice (some ⟨w2.heap.size, 0, none⟩) n n) (bytesV bs)) := Lib.hid (by have q := rowOfBlk HP3.out (by rw [show maxLen = 9223372036854775807 by decide]; have := HN.out.1; omega); rwa [hbsl] at q)
      have HLS := Lib.hid (show (encs [] ++ lebStr bs).length ≤ 64 * bankP { newP 120 with fuse := max a2 (-1) } from by
        have := lebStr_len bs (by have := HN.out.1; omega)
        have h2 := HN.out.1
        have hb : bankP { newP 120 with fuse := max a2 (-1) } = 59 := by simp [bankP, newP]
        rw [hb]
        simp [encs]
        omega)
      have HAP := Lib.hid (app_lay H3.out HG.out bs _ HPR.out HLS.out (by decide) (Nat.zero_le _))
      clear HX H HB HBW HPB HWB hbsl
      go_wp2_with fail
      with_reducible refine (HAP.out).mono ?_
      rintro e w4 ⟨r, l4, d4, bv4, v4, rfl, h4, hc4, hn4, hw4, hlay⟩
      have H4 := Lib.hid h4
      have HB4 := Lib.hid (hc4.below HB3.out (Nat.le_refl _))
      have HP4 := Lib.hid (HP3.out.chl hc4 (by decide))
      have HK4 := Lib.hid (HK.out.below HB4.out)
      have HCR := Lib.hid (Crash_c h4.drum x3 ka kc HK4.out (by have : d4.wait.length ≤ 0 + 101 := hw4; omega))
      clear h4 hc4
      rcases hlay with ⟨rfl, _, hgd⟩ | ⟨rfl, _, hrd⟩
      · have HG4 := Lib.hid hgd
        clear hgd
        go_wp2_with (first | (go_at_call 20; (with_reducible refine (HCR.out).mono ?_); rintro e w5 ⟨D5, g5, m5, rfl, hd5, hb5⟩; have HD5 := Lib.hid hd5; have HB5 := Lib.hid (HB4.out.trans (hb5.mono HB4.out.size)); have HP5 := Lib.hid (HP4.out.below hb5); clear hd5 hb5) | fail)
        have hv : Vw (crashP d4 x3).n (crashP d4 x3).now l4.head (encs [bs]) := by
          obtain ⟨c1, c2⟩ := crash_none HG4.out.sync x3
          rw [c1, c2]
          exact HG4.out.view
        with_reducible refine (open_of HD5.out hv).mono ?_
        rintro e w6 ⟨L6, bv6, va6, vc6, rfl, hl6, hr6, hb6⟩
        have HP6 := HP5.out.below hb6
        have HPR6 : RowAt w6 (.slice (some ⟨w2.heap.size, 0, none⟩) n n) (bytesV bs) := by have q := rowOfBlk HP6 (by rw [show maxLen = 9223372036854775807 by decide]; have := HN.out.1; have := HBL.out; omega); rwa [HBL.out] at q
        have HROW : Hid (Calls Tryd.prog 19 #[.slice va6 1 vc6, .slice (some ⟨w6.heap.size, 0, none⟩) 1 1] (w6.alloc (.cells #[.slice (some ⟨w2.heap.size, 0, none⟩) n n] 30)) (fun e w' => e = .returned (.bool true) ∧ Below (w6.alloc (.cells #[.slice (some ⟨w2.heap.size, 0, none⟩) n n] 30)).heap.size (w6.alloc (.cells #[.slice (some ⟨w2.heap.size, 0, none⟩) n n] 30)) w')) := Lib.hid (rows_same (hr6.b.below ((Below.refl _ w6).alloc (Nat.le_refl _) _)) (brow1 HPR6))
        have HB6 := Lib.hid (HB5.out.trans (hb6.mono HB5.out.size))
        clear hl6 hr6 hb6
        go_wp2_with (first | (go_at_call 19; (with_reducible refine (HROW.out).mono ?_); rintro e w7 ⟨rfl, hq⟩; have HB7 := Lib.hid ((HB6.out.trans ((Below.refl _ w6).alloc HB6.out.size _)).trans (hq.mono (by have := HB6.out.size; simp; omega))); clear hq) | (go_at_call 16; (with_reducible refine (known5_c _).mono ?_); rintro e w8 ⟨rfl, hq⟩; have HB8 := Lib.hid (HB7.out.trans (hq.mono HB7.out.size)); clear hq) | fail)
        go_ret
        exact ⟨rfl, HB8.out⟩
      · have HR4 := Lib.hid hrd
        clear hrd
        go_wp2_with (first | (go_at_call 20; (with_reducible refine (HCR.out).mono ?_); rintro e w5 ⟨D5, g5, m5, rfl, hd5, hb5⟩; have HD5 := Lib.hid hd5; have HB5 := Lib.hid (HB4.out.trans (hb5.mono HB4.out.size)); have HP5 := Lib.hid (HP4.out.below hb5); clear hd5 hb5) | fail)
        have hcn : (crashP d4 x3).n = 120 := hn4
        rcases HR4.out x3 with ⟨hd, hv0⟩ | ⟨hd, hv0⟩
        · have hv : Vw (crashP d4 x3).n (crashP d4 x3).now hd (encs []) := by rw [hcn]; exact hv0
          with_reducible refine (open_of HD5.out hv).mono ?_
          rintro e w6 ⟨L6, bv6, va6, vc6, rfl, hl6, hr6, hb6⟩
          have HB6 := Lib.hid (HB5.out.trans (hb6.mono HB5.out.size))
          clear hl6 hr6 hb6
          go_wp2_with (first | (go_at_call 16; (with_reducible refine (known5_c _).mono ?_); rintro e w8 ⟨rfl, hq⟩; have HB8 := Lib.hid (HB6.out.trans (hq.mono HB6.out.size)); clear hq) | fail)
          go_ret
          exact ⟨rfl, HB8.out⟩
        · have hv : Vw (crashP d4 x3).n (crashP d4 x3).now hd (encs [bs]) := by rw [hcn]; exact hv0
          with_reducible refine (open_of HD5.out hv).mono ?_
          rintro e w6 ⟨L6, bv6, va6, vc6, rfl, hl6, hr6, hb6⟩
          have HP6 := HP5.out.below hb6
          have HPR6 : RowAt w6 (.slice (some ⟨w2.heap.size, 0, none⟩) n n) (bytesV bs) := by have q := rowOfBlk HP6 (by rw [show maxLen = 9223372036854775807 by decide]; have := HN.out.1; have := HBL.out; omega); rwa [HBL.out] at q
          have HROW : Hid (Calls Tryd.prog 19 #[.slice va6 1 vc6, .slice (some ⟨w6.heap.size, 0, none⟩) 1 1] (w6.alloc (.cells #[.slice (some ⟨w2.heap.size, 0, none⟩) n n] 30)) (fun e w' => e = .returned (.bool true) ∧ Below (w6.alloc (.cells #[.slice (some ⟨w2.heap.size, 0, none⟩) n n] 30)).heap.size (w6.alloc (.cells #[.slice (some ⟨w2.heap.size, 0, none⟩) n n] 30)) w')) := Lib.hid (rows_same (hr6.b.below ((Below.refl _ w6).alloc (Nat.le_refl _) _)) (brow1 HPR6))
          have HB6 := Lib.hid (HB5.out.trans (hb6.mono HB5.out.size))
          clear hl6 hr6 hb6
          go_wp2_with (first | (go_at_call 19; (with_reducible refine (HROW.out).mono ?_); rintro e w7 ⟨rfl, hq⟩; have HB7 := Lib.hid ((HB6.out.trans ((Below.refl _ w6).alloc HB6.out.size _)).trans (hq.mono (by have := HB6.out.size; simp; omega))); clear hq) | (go_at_call 16; (with_reducible refine (known5_c _).mono ?_); rintro e w8 ⟨rfl, hq⟩; have HB8 := Lib.hid (HB7.out.trans (hq.mono HB7.out.size)); clear hq) | fail)
          go_ret
          exact ⟨rfl, HB8.out⟩
end Go.Proofs.YtlllbacjdjllbaaDoor
