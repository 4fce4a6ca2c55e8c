/- The walk of LebBack. -/
import Derived.Test.YtbnhepcfjjephaaLaw3d
namespace Go.Proofs.Ytbnhepcfjjephaa
open Go Go.RowKit
set_option linter.unusedVariables false

theorem lebInts_cons (n : Int) (ns : List Int) : lebInts (n :: ns) = lebInt n ++ lebInts ns := by simp [lebInts]
theorem lebStrs_cons (s : List UInt8) (ss : List (List UInt8)) : lebStrs (s :: ss) = lebStr s ++ lebStrs ss := by simp [lebStrs]
theorem strsRoom_le (ss : List (List UInt8)) (h : ∀ s ∈ ss, s.length ≤ 300) : strsRoom ss ≤ 320 * ss.length := by
  induction ss with
  | nil => simp [strsRoom]
  | cons s ss ih =>
    have h1 := h s (by simp)
    have h2 := ih (fun t ht => h t (by simp [ht]))
    simp only [strsRoom, List.map_cons, List.sum_cons, List.length_cons] at *
    omega
set_option maxRecDepth 100000 in
set_option maxHeartbeats 4000000 in
theorem LebBack_core (v0 : Value) (x0 : List Int) (v1 : Value) (x1 : List (List UInt8)) (a2 : Int) (w : World) (w0 : RowAt w v0 (x0.map (Value.int .i64))) (y0 : ∀ n ∈ x0, -9223372036854775808 ≤ n ∧ n ≤ 9223372036854775807) (w1 : RowAt w v1 (x1.map (fun s => Value.string ⟨s.toArray⟩))) (y1 : ∀ s ∈ x1, s.length ≤ maxLen) (w2 : (Lit.int .u64 a2).wf = true) :
    Calls Try.prog 9 #[v0, v1, .int .u64 a2] w fun e w' => e = .returned (.bool true) ∧ Below w.heap.size w w' := by
  have hu : 0 ≤ a2 ∧ a2 < 18446744073709551616 := by
    simp [Lit.wf, IntKind.min, IntKind.max, IntKind.signed, IntKind.bits] at w2; omega
  obtain ⟨f, rfl⟩ := Int.eq_ofNat_of_zero_le hu.1
  have hf : f < W64 := by unfold W64; omega
  have W0 : RowAt w v0 (intsV x0) := w0
  have W1 : RowAt w v1 (strsV x1) := w1
  obtain ⟨xn, cn, rfl⟩ := W0.shapeI
  obtain ⟨xs, cs, rfl⟩ := W1.shapeS
  by_cases g0 : 100 < x0.length
  · have h' : decide ((100 : Int) < (x0.length : Int)) = true := by simp; omega
    go_enter Try.func9, Try.ntmps9
    go_wp2
    go_ret
    exact ⟨rfl, Below.refl _ _⟩
  by_cases g1 : 60 < x1.length
  · have h' : decide ((60 : Int) < (x1.length : Int)) = true := by simp; omega
    go_enter Try.func9, Try.ntmps9
    go_wp2
    go_ret
    exact ⟨rfl, Below.refl _ _⟩
  have h0' : decide ((100 : Int) < (x0.length : Int)) = false := by simp; omega
  have h1' : decide ((60 : Int) < (x1.length : Int)) = false := by simp; omega
  have HI := Lib.hid (Int_c (.slice none 0 0) _ [] x0 w (RowAt.nil _) W0 y0 (by simp; omega))
  have HS := Lib.hid W1
  have HN := Lib.hid W0
  have HY := Lib.hid y0
  have hb0 : x0.length ≤ 100 := by omega
  have hb1 : x1.length ≤ 60 := by omega
  have HF := Lib.hid hf
  clear w0 w1 W0 W1 y0 y1 g0 g1 w2 hu hf
  go_enter Try.func9, Try.ntmps9
  go_wp2_with fail
  with_reducible refine HI.out.mono ?_
  rintro e w3 ⟨v3, rfl, hown3, hb3⟩
  have H3 := Lib.hid (RowAt.ofOwns hown3)
  have hs3 := hb3.size
  have HB3 := Lib.hid hb3
  have HL3 : Hid (([] ++ lebInts x0).length ≤ 1000) := Lib.hid (by rw [List.nil_append]; have := lebInts_len x0 HY.out; omega)
  have HR := Lib.hid (Real_c v3 (.slice (some ⟨w3.heap.size, 0, none⟩) 1 1) ([] ++ lebInts x0) [f] (w3.alloc (.cells #[.float .f64 f] 33)) (H3.out.alloc _) (RowAt.new (hc := by simp) w3 [.float .f64 f] 33 1 (by unfold maxLen; simp)) (by intro g hg; rw [List.mem_singleton.1 hg]; exact HF.out) (by have := HL3.out; simp only [List.length_singleton]; omega))
  clear hown3 hb3
  go_wp2_with fail
  with_reducible refine HR.out.mono ?_
  rintro e w4 ⟨v4, rfl, hown4, hb4⟩
  have hlr : lebReals [f] = lebReal f := by simp [lebReals]
  rw [hlr] at hown4
  have H4 := Lib.hid (RowAt.ofOwns hown4)
  have hb4' : Below w.heap.size w w4 := HB3.out.trans (((Below.refl _ w3).alloc (Nat.le_refl _) _).trans (hb4.mono (by simp)) |>.mono HB3.out.size)
  have HB4 := Lib.hid hb4'
  clear hown4 hb4 hb4' HR HI H3 hlr
  go_wp2_with fail
  go_loopw [9] (fun i wr => ∃ j : Nat, j ≤ x1.length ∧ i = .int .i64 (j : Int) ∧ (∀ s ∈ x1.take j, s.length ≤ 300) ∧ wr = w4) (fun i _ => x1.length - (intOf i).toNat)
  case atStart => exact ⟨0, by omega, rfl, by simp, rfl⟩
  case round =>
    obtain ⟨j, hj, rfl, hall, rfl⟩ := hrel
    have HALL := Lib.hid hall
    clear hall
    by_cases hlt : j < x1.length
    · obtain ⟨b, o, rfl, hbl, hc⟩ := HS.out.cellAt j (by simpa [strsV] using hlt)
      have hc2 : wr.cell? ⟨b, o + j, none⟩ = some (.string ⟨x1[j].toArray⟩) := by rw [HB4.out.cell hbl, hc]; simp [strsV, strV]
      have HT : Hid (x1.take (j + 1) = x1.take j ++ [x1[j]]) := Lib.hid (by rw [List.take_append_getElem])
      clear hc hbl
      generalize x1[j] = s at *
      by_cases hbig : 300 < s.length
      · have hb' : decide ((300 : Int) < (s.length : Int)) = true := by simp; omega
        go_wp2_with fail
        go_ret
        exact ⟨rfl, HB4.out⟩
      · have hb' : decide ((300 : Int) < (s.length : Int)) = false := by simp; omega
        have HALL2 : Hid (∀ t ∈ x1.take (j + 1), t.length ≤ 300) := Lib.hid (by
          rw [HT.out]
          intro t ht
          rcases List.mem_append.1 ht with ht | ht
          · exact HALL.out t ht
          · rw [List.mem_singleton.1 ht]; omega)
        go_wp2_with fail
        go_roundw
        case rel => exact ⟨j + 1, by omega, by go_num, HALL2.out, trivial⟩
        case measure => simp [intOf]; omega
    · obtain rfl : j = x1.length := by omega
      have hk' : x1.take x1.length = x1 := List.take_of_length_le (Nat.le_refl _)
      have HX : Hid (∀ s ∈ x1, s.length ≤ 300) := Lib.hid (by have := HALL.out; rwa [hk'] at this)
      clear hk' HALL hlt hj
      generalize hL : [] ++ lebInts x0 ++ lebReal f = L at *
      have HL : Hid (L = lebInts x0 ++ lebReal f) := Lib.hid (by rw [← hL, List.nil_append])
      have HLl : Hid (L.length ≤ 1008) := Lib.hid (by rw [← hL, List.length_append]; have := HL3.out; have : (lebReal f).length = 8 := beL_length 8 _; omega)
      have HRm : Hid (strsRoom x1 ≤ 19200) := Lib.hid (by have := strsRoom_le x1 HX.out; omega)
      have HST := Lib.hid (Str_c v4 (.slice xs x1.length cs) L x1 wr H4.out (HS.out.below HB4.out) (by have := HLl.out; have := HRm.out; omega))
      clear hL
      go_wp2_with fail
      with_reducible refine HST.out.mono ?_
      rintro e w5 ⟨v5, rfl, hown5, hb5⟩
      have H5 := Lib.hid (RowAt.ofOwns hown5)
      have HB5 := Lib.hid (HB4.out.trans (hb5.mono HB4.out.size))
      have hbig : (L ++ lebStrs x1).length ≤ 17592186044416 := by
        have := lebStrs_len x1 (by have := HRm.out; omega)
        have := HLl.out; have := HRm.out
        rw [List.length_append]; omega
      have HO := Lib.hid (Open_c v5 (L ++ lebStrs x1) w5 H5.out hbig)
      clear hown5 hb5 hbig HST
      go_wp2_with fail
      with_reducible refine HO.out.mono ?_
      rintro e w6 ⟨B, R, rfl, hB, hc6, hb6, _, _⟩
      have H6 := Lib.hid hc6
      have HB6 := Lib.hid (HB5.out.trans (hb6.mono HB5.out.size))
      have HBw : Hid (w.heap.size ≤ B) := Lib.hid (by have := HB5.out.size; omega)
      clear hc6 hb6 hB HO H5
      go_wp2_with fail
      go_loopw [11] (fun i wr => ∃ j : Nat, j ≤ x0.length ∧ i = .int .i64 (j : Int) ∧ CurAt R wr B (some (lebInts (x0.drop j) ++ (lebReal f ++ lebStrs x1))) ∧ Below w.heap.size w wr) (fun i _ => x0.length - (intOf i).toNat)
      case atStart => exact ⟨0, by omega, rfl, by have := H6.out; rw [HL.out, List.append_assoc] at this; simpa using this, HB6.out⟩
      case round =>
        obtain ⟨j, hj, rfl, hcur, hbw⟩ := hrel
        have HC := Lib.hid hcur
        have HW := Lib.hid hbw
        clear hcur hbw
        by_cases hlt : j < x0.length
        · obtain ⟨b, o, rfl, hbl, hc⟩ := HN.out.cellAt j (by simpa [intsV] using hlt)
          have hc2 : wr.cell? ⟨b, o + j, none⟩ = some (.int .i64 x0[j]) := by rw [HW.out.cell hbl, hc]; simp [intsV]
          have HDR : Hid (x0.drop j = x0[j] :: x0.drop (j + 1)) := Lib.hid (by simp)
          have hy := HY.out x0[j] (List.getElem_mem hlt)
          have HCI : Hid (Calls Try.prog 27 #[.pointer (some ⟨B, 0, none⟩)] wr.drew (CurTo R B wr.drew (.int .i64 x0[j]) (some (lebInts (x0.drop (j + 1)) ++ (lebReal f ++ lebStrs x1))))) := by
            refine Lib.hid ?_
            have h1 := CInt_c B _ wr.drew (HC.out.below ((Below.refl _ _).drew))
            rw [HDR.out, lebInts_cons, List.append_assoc, curInt_back hy.1 hy.2] at h1
            exact h1
          have HBL := Lib.hid hbl
          have hd : wr.drew.cell? ⟨b, o + j, none⟩ = some (.int .i64 x0[j]) := hc2
          have HD := Lib.hid hd
          have HWD : Hid (Below w.heap.size w wr.drew) := Lib.hid HW.out.drew
          clear hc hbl hy HC HW
          generalize x0[j] = n at *
          go_wp2_with fail
          clear hc2
          go_region_with (go_at_call 27; refine HCI.out.mono ?_; rintro e w' ⟨rfl, hq1, hq2⟩; have hbq := Below.ofGrown hq2 HBw.out HWD.out.size; have hc3 := (hbq.cell (p := ⟨b, o + j, none⟩) HBL.out).trans HD.out; have HQ := Lib.hid hq1; have HQB := Lib.hid (HWD.out.trans hbq); clear hq1 hq2 hbq hd)
          all_goals
            go_wp2_with fail
            go_roundw
            case rel => exact ⟨j + 1, by omega, by go_num, HQ.out, HQB.out⟩
            case measure => simp [intOf]; omega
        · obtain rfl : j = x0.length := by omega
          have HC2 : Hid (CurAt R wr B (some (lebReal f ++ lebStrs x1))) := Lib.hid (by have := HC.out; rw [List.drop_of_length_le (Nat.le_refl _)] at this; exact this)
          have HCR : Hid (Calls Try.prog 31 #[.pointer (some ⟨B, 0, none⟩)] wr (CurTo R B wr (.float .f64 (normN f)) (some (lebStrs x1)))) := by
            refine Lib.hid ?_
            have h1 := CReal_c B _ wr HC2.out
            rw [curReal_back HF.out] at h1
            exact h1
          clear hlt hj
          go_wp2_with (go_at_call 31; (with_reducible refine HCR.out.mono ?_); rintro e w' ⟨rfl, hq1, hq2⟩; have HQ := Lib.hid hq1; have HQB := Lib.hid (HW.out.trans (Below.ofGrown hq2 HBw.out HW.out.size)); clear hq1 hq2)
          go_wp2_with (first | (go_at_call 37; (with_reducible refine (RNorm_c _ _).mono ?_); rintro e w' ⟨rfl, rfl⟩) | (go_at_call 35; (with_reducible refine (Same_c _ _ _).mono ?_); rintro e w' ⟨rfl, rfl⟩))
          go_loopw [12] (fun i wr => ∃ j : Nat, j ≤ x1.length ∧ i = .int .i64 (j : Int) ∧ CurAt R wr B (some (lebStrs (x1.drop j))) ∧ Below w.heap.size w wr) (fun i _ => x1.length - (intOf i).toNat)
          case atStart => exact ⟨0, by omega, rfl, HQ.out, HQB.out⟩
          case round =>
            clear HQ HQB HC HC2 HCR HW
            obtain ⟨j, hj, rfl, hcur, hbw⟩ := hrel
            have HC := Lib.hid hcur
            have HW := Lib.hid hbw
            clear hcur hbw
            by_cases hlt : j < x1.length
            · obtain ⟨b, o, rfl, hbl, hc⟩ := HS.out.cellAt j (by simpa [strsV] using hlt)
              have hd : wr.drew.cell? ⟨b, o + j, none⟩ = some (.string ⟨x1[j].toArray⟩) := by
                show wr.cell? ⟨b, o + j, none⟩ = _
                rw [HW.out.cell hbl, hc]; simp [strsV, strV]
              have HDR : Hid (x1.drop j = x1[j] :: x1.drop (j + 1)) := Lib.hid (by simp)
              have hy := HX.out x1[j] (List.getElem_mem hlt)
              have HCI : Hid (Calls Try.prog 33 #[.pointer (some ⟨B, 0, none⟩)] wr.drew (CurTo R B wr.drew (.string ⟨x1[j].toArray⟩) (some (lebStrs (x1.drop (j + 1)))))) := by
                refine Lib.hid ?_
                have h1 := CStr_c B _ wr.drew (HC.out.below ((Below.refl _ _).drew))
                rw [HDR.out, lebStrs_cons, curStr_back (by omega)] at h1
                exact h1
              have HBL := Lib.hid hbl
              have HD := Lib.hid hd
              have HWD : Hid (Below w.heap.size w wr.drew) := Lib.hid HW.out.drew
              clear hc hbl hy HC HW
              generalize x1[j] = s at *
              go_wp2_with fail
              go_region_with (go_at_call 33; refine HCI.out.mono ?_; rintro e w' ⟨rfl, hq1, hq2⟩; have hbq := Below.ofGrown hq2 HBw.out HWD.out.size; have hc3 := (hbq.cell (p := ⟨b, o + j, none⟩) HBL.out).trans HD.out; have HQ := Lib.hid hq1; have HQB := Lib.hid (HWD.out.trans hbq); clear hq1 hq2 hbq hd)
              all_goals
                go_wp2_with fail
                go_roundw
                case rel => exact ⟨j + 1, by omega, by go_num, HQ.out, HQB.out⟩
                case measure => simp [intOf]; omega
            · obtain rfl : j = x1.length := by omega
              have HC2 : Hid (CurAt R wr B (some [])) := Lib.hid (by have := HC.out; rw [List.drop_of_length_le (Nat.le_refl _)] at this; exact this)
              clear hlt hj HC
              go_wp2_with (first | (go_at_call 30; (with_reducible refine (Whole_c B (some []) _ HC2.out).mono ?_); rintro e w' ⟨rfl, rfl⟩) | (go_at_call 20; (with_reducible refine (known3_c _).mono ?_); rintro e w' ⟨rfl, hk⟩))
              go_ret
              exact ⟨rfl, HW.out.trans (hk.mono HW.out.size)⟩
end Go.Proofs.Ytbnhepcfjjephaa
