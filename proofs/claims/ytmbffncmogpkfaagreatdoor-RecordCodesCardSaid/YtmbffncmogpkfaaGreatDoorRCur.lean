
/- The reference's Cursor. -/
import Derived.Test.YtmbffncmogpkfaaGreatDoorRCur0
import Derived.Test.YtmbffncmogpkfaaGreatDoorCur2
import Derived.Lib.VarintBits
import Derived.Deep.RegionHeld3
namespace Go.Proofs.YtmbffncmogpkfaaGreatDoor
open Go Go.RowKit
set_option linter.unusedVariables false
variable {R : Option Nat}

set_option maxRecDepth 100000 in
set_option maxHeartbeats 8000000 in
theorem XInt_c (B : Nat) (c : Cur) (w : World) (h : CurAt R w B c) :
    Calls Tryz.prog 29 #[.pointer (some ⟨B, 0, none⟩)] w (CurTo R B w (.int .i64 (curInt c).1) (curInt c).2) := by
  have H := Lib.hid h
  obtain ⟨v, h0, h1, f0, f1, hr, hne⟩ := h
  obtain ⟨xa, ca, rfl⟩ := hr.shape
  rw [bytesV_length] at h0 hr hne
  generalize hl : c.getD [] = l at *
  have HR := Lib.hid hr
  have HN := Lib.hid hne
  have HL := Lib.hid hl
  have hlm : l.length ≤ 9223372036854775807 := by have := hr.1; rw [bytesV_length] at this; unfold maxLen at this; omega
  clear hr hne hl
  go_enter Tryz.func29, Tryz.ntmps29
  go_wp2_with fail
  go_loopw [3] (fun k wr => ∃ j : Nat, j ≤ l.length ∧ j ≤ 10 ∧ (∀ b ∈ l.take j, 128 ≤ b.toNat) ∧ k = .int .i64 (j : Int) ∧ wr = w) (fun k _ => 10 - (intOf k).toNat)
  case atStart => exact ⟨0, by omega, by omega, by simp, rfl, rfl⟩
  case round =>
    obtain ⟨j, hj, hj10, hpre, rfl, rfl⟩ := hrel
    have HP := Lib.hid hpre
    clear hpre
    by_cases hjl : j < l.length
    case neg =>
      obtain rfl : j = l.length := by omega
      have hT : Hid (curInt c = (0, none)) := by
        refine Lib.hid ?_
        cases c with
        | none => rfl
        | some l' =>
          have e : l' = l := HL.out
          subst e
          rw [curInt_U, curU_none (by have := HP.out; rw [List.take_of_length_le (Nat.le_refl _)] at this; exact dec_short this)]
          rfl
      clear hj hjl hj10
      cases hc : c.isNone
      all_goals
        rw [hc] at h1
        go_wp2_with (first | (go_at_call 56; (with_reducible refine (fail_c B c _ H.out).mono ?_); rintro e w' ⟨rfl, hq1, hq2⟩))
        go_ret
        rw [hT.out]
        exact ⟨rfl, hq1, hq2⟩
    case pos =>
      by_cases hj9 : j < 10
      case neg =>
        obtain rfl : j = 10 := by omega
        have hT : Hid (curInt c = (0, none)) := by
          refine Lib.hid ?_
          cases c with
          | none => rfl
          | some l' =>
            have e : l' = l := HL.out
            subst e
            rw [curInt_U, curU_none (by have := dec_long (rest := l'.drop 10) HP.out (by simp; omega); rwa [List.take_append_drop] at this)]
            rfl
        have hle : decide (l.length ≤ 10) = false := by simp; omega
        cases hc : c.isNone
        all_goals
          rw [hc] at h1
          go_wp2_with (first | (go_at_call 56; (with_reducible refine (fail_c B c _ H.out).mono ?_); rintro e w' ⟨rfl, hq1, hq2⟩))
          go_ret
          rw [hT.out]
          exact ⟨rfl, hq1, hq2⟩
      case pos =>
        obtain ⟨b, o, rfl, hbl, hx⟩ := HR.out.cellAt j (by simpa using hjl)
        rw [bytesV_get] at hx
        unfold byteV at hx
        by_cases hx8 : 128 ≤ (l[j]).toNat
        · have HP2 : Hid (∀ b ∈ l.take (j + 1), 128 ≤ b.toNat) := Lib.hid (by
            rw [← List.take_append_getElem hjl]
            intro b hb
            rcases List.mem_append.1 hb with hb | hb
            · exact HP.out b hb
            · rw [List.mem_singleton.1 hb]; exact hx8)
          generalize l[j] = x at *
          go_wp2_with fail
          go_roundw
          case rel => exact ⟨j + 1, by omega, by omega, HP2.out, by go_num, trivial⟩
          case measure => simp [intOf]; omega
        · have HX := Lib.hid hx8
          have HE : Hid (l = l.take j ++ l[j] :: l.drop (j + 1)) := Lib.hid (by simp)
          have HPL : Hid (l.take (j + 1) = l.take j ++ [l[j]]) := Lib.hid (by rw [List.take_append_getElem])
          have hle : decide (l.length ≤ j) = false := by simp; omega
          cases hc : c.isNone
          case true =>
            rw [hc] at h1
            obtain rfl : c = none := by cases c; rfl; simp at hc
            generalize l[j] = x at *
            go_wp2_with (first | (go_at_call 56; (with_reducible refine (fail_c B none _ H.out).mono ?_); rintro e w' ⟨rfl, hq1, hq2⟩))
            go_ret
            exact ⟨rfl, hq1, hq2⟩
          case false =>
            rw [hc] at h1
            obtain rfl : c = some l := by
              cases c
              · simp at hc
              · rw [show l = _ from HL.out.symm]; rfl
            clear hc
            generalize l[j] = x at *
            have hPl : (l.take (j + 1)).length = j + 1 := by simp; omega
            have HPL1 := Lib.hid hPl
            generalize hP : l.take (j + 1) = P at *
            have HPP := Lib.hid hP
            clear hP hPl
            go_wp2_with fail
            go_loopw [4, 5] (fun z i w2 => ∃ m : Nat, m ≤ j + 1 ∧ i = .int .i64 ((m : Int) - 1) ∧ z = .int .u64 ((valL (P.drop m) % W64 : Nat) : Int) ∧ w2 = wr) (fun _ i _ => (intOf i + 1).toNat)
            case atStart => exact ⟨j + 1, by omega, by go_num, by rw [List.drop_of_length_le (by rw [HPL1.out]; omega)]; rfl, rfl⟩
            case round =>
              obtain ⟨m, hm, rfl, rfl, rfl⟩ := hrel
              cases m with
              | succ m =>
                have hPm : m < P.length := by rw [HPL1.out]; omega
                obtain ⟨b', o', e1, _, hy⟩ := HR.out.cellAt m (by simp; omega)
                obtain ⟨rfl, rfl⟩ : b = b' ∧ o = o' := by simpa using e1
                rw [bytesV_get] at hy
                have hg : l[m]'(by omega) = P[m] := by simp [← HPP.out]
                rw [hg] at hy
                have hd : P.drop m = P[m] :: P.drop (m + 1) := by simp
                have hV : valL (P.drop m) = (P[m]).toNat % 128 + 128 * valL (P.drop (m + 1)) := by rw [hd]; rfl
                have HV := Lib.hid hV
                have hb127 := and127 P[m]
                have hb256 := UInt8.toNat_lt P[m]
                unfold byteV at hy
                clear hV hd hg e1
                generalize P[m] = y at *
                have hOr := seven (valL (P.drop (m + 1))) y
                rw [← HV.out] at hOr
                generalize valL (P.drop (m + 1)) % W64 = Z at *
                generalize hU : valL (P.drop m) % W64 = U at *
                have HU := Lib.hid hU
                have e2 : ((m + 1 : Nat) : Int) - 1 = (m : Int) := by omega
                rw [e2]
                clear hU HV
                go_wp2_with fail
                go_roundw
                case rel => exact ⟨m, by omega, by go_num, by rw [HU.out], trivial⟩
                case measure => simp [intOf]
              | zero =>
                rw [List.drop_zero]
                have hzl : valL P % W64 < W64 := Nat.mod_lt _ (by unfold W64; omega)
                have HZ : Hid (lebInt (unzig (valL P % W64)) = P ↔ valL P < W64 ∧ (l.take j ≠ [] → x.toNat ≠ 0)) := Lib.hid (canon 0 P (l.take j) x HPL.out HP.out (by have := HX.out; omega))
                have HCI : Hid (curInt (some l) = if lebInt (unzig (valL P % W64)) = P then (unzig (valL P % W64), some (l.drop (j + 1))) else (0, none)) := by
                  refine Lib.hid ?_
                  rw [curInt_U]
                  by_cases hq : valL P < W64 ∧ (l.take j ≠ [] → x.toNat ≠ 0)
                  · rw [if_pos (HZ.out.2 hq), Nat.mod_eq_of_lt hq.1]
                    have := dec_some (r := l.drop (j + 1)) HP.out (by have := HX.out; omega) hq.2 (by rw [← HPL.out]; exact hq.1)
                    rw [← HE.out, ← HPL.out] at this
                    rw [curU_some this]
                  · rw [if_neg (fun h => hq (HZ.out.1 h))]
                    have : Dec l none := by
                      rw [HE.out]
                      by_cases hv : valL P < W64
                      · have hc0 : ¬ (l.take j ≠ [] → x.toNat ≠ 0) := fun h => hq ⟨hv, h⟩
                        have hp : l.take j ≠ [] := fun hp => hc0 (fun h => absurd hp h)
                        have hz : x.toNat = 0 := by
                          rcases Nat.eq_zero_or_pos x.toNat with hz | hz
                          · exact hz
                          · exact absurd (fun _ => by omega) hc0
                        exact dec_zero HP.out hp hz
                      · exact dec_big HP.out (by have := HX.out; omega) (by rw [← HPL.out]; exact hv)
                    rw [curU_none this]
                    rfl
                obtain ⟨va, ha, hra, hpa⟩ := HR.out.sliceHi elemU elemSz (j + 1) (by simp; omega)
                obtain ⟨vb, hb, hrb, hpb⟩ := HR.out.sliceLo elemU elemSz (j + 1) (by simp; omega)
                have etk : List.take (j + 1) (bytesV l) = bytesV P := by rw [← HPP.out]; simp [bytesV, List.map_take]
                have edl : List.drop (j + 1) (bytesV l) = bytesV (l.drop (j + 1)) := by simp [bytesV, List.map_drop]
                rw [etk] at hra
                rw [edl] at hrb
                obtain ⟨xb, cb, rfl⟩ := hrb.shape
                have hdl : (bytesV (l.drop (j + 1))).length = l.length - (j + 1) := by simp
                rw [hdl] at hb hrb hpb
                have hneb : Apart R (Value.slice xb (l.length - (j + 1)) cb) B (l.drop (j + 1)) := Apart.part HN.out hpb (fun e => by simp [e])
                rw [show ((j + 1 : Nat) : Int) = (j : Int) + 1 from by omega] at ha hb
                have HRA := Lib.hid hra
                have HRB := Lib.hid hrb
                have HNB := Lib.hid hneb
                clear etk edl hra hrb hpa hpb hdl hneb HE HPL HPP HZ HPL1 HR HN HP
                generalize l.length - (j + 1) = nd at *
                generalize valL P % W64 = z at *
                have hbd := unzig_bd hzl
                have hw : wrap64 ((z : Int) / 2) = ((z / 2 : Nat) : Int) := by
                  unfold W64 at hzl
                  unfold wrap64; omega
                have hand : bits .and .u64 (z : Int) 1 = (z : Int) % 2 := Lib.u64_and1 _ (by omega) (by unfold W64 at hzl; omega)
                have hxo : bits .xor .i64 (-1) ((z / 2 : Nat) : Int) = -((z / 2 : Nat) : Int) - 1 := Lib.i64_not _ (by unfold W64 at hzl; omega)
                have hs : IntKind.i64.signed = true := rfl
                have HI : Hid (∀ w : World, Calls Tryz.prog 46 #[.int .i64 (unzig z)] w (OwnB w (lebInt (unzig z)))) := Lib.hid (fun w => RInt_c _ w hbd.1 hbd.2)
                have hdec : decide (10 ≤ (j : Int)) = false := by simp; omega
                clear hzl hbd hx hx8 hm hj hj10
                by_cases hp : z % 2 = 0
                all_goals
                  first
                  | (have hb2 : ((z : Int) % 2 == 1) = false := by (simp; omega))
                  | (have hb2 : ((z : Int) % 2 == 1) = true := by (simp; omega))
                  first
                  | (have hun : unzig z = ((z / 2 : Nat) : Int) := by (unfold unzig; rw [if_pos hp]))
                  | (have hun : unzig z = -((z / 2 : Nat) : Int) - 1 := by (unfold unzig; rw [if_neg hp]))
                  generalize z / 2 = mm at *
                  have HUN := Lib.hid hun
                  clear hun hp
                  go_wp2_with fail
                  try simp only [hw]
                  rw [← HUN.out]
                  clear hand hw hxo hb2 HX hlm hs HUN
                  generalize unzig z = n at *
                  generalize Value.slice (some ⟨b, o, none⟩) l.length ca = vv at *
                  generalize lebInt n = Q at *
                  by_cases hQ : Q = P
                  all_goals
                    first
                    | (subst hQ; have HC2 : Hid (curInt (some l) = (n, some (l.drop (j + 1)))) := Lib.hid (by rw [HCI.out, if_pos rfl]))
                    | (have HC2 : Hid (curInt (some l) = (0, none)) := Lib.hid (by rw [HCI.out, if_neg hQ]); have hbn : (Q == P) = false := by simp [hQ])
                    try clear hQ
                    clear HCI HL
                    have c1 : (convert 23 9 va).run Tryz.prog wr.drew = .ok (.string ⟨_⟩) wr.drew := toS (RowAt.drewN HRA.out 1)
                    have hwj : IntKind.i64.wrap ((j : Int) + 1) = (j : Int) + 1 := by rw [IntKind.wrap_i64]; omega
                    have hwj2 : wrap64 ((j : Int) + 1) = (j : Int) + 1 := by unfold wrap64; omega
                    have d0 : wr.drew.cell? ⟨B, 0, none⟩ = some vv := h0
                    have hBl : B < wr.drew.heap.size := World.block_lt_of_cell? _ ⟨B, 0, none⟩ d0
                    have HBL := Lib.hid hBl
                    have HD0 := Lib.hid d0
                    have HC0 : Hid (CurAt R wr.drew B (some l)) := Lib.hid (H.out.below ((Below.refl _ _).drew))
                    have HB0 : Hid (wr.grownBy wr.drew (some B)) := Lib.hid (grown_of_below B ((Below.refl _ _).drew))
                    have HF0 : Hid (wr.drew.frozen? ⟨B, 0, none⟩ = false) := Lib.hid f0
                    have HRB0 := Lib.hid (RowAt.drewN HRB.out 1)
                    clear hBl f0 f1 h1 h0 hbl hle hdec hjl H
                    go_region_with (first | (go_at_call 46; refine (HI.out _).mono ?_; rintro e w' ⟨v', rfl, hown, hbel⟩; have hcv := toS (RowAt.ofOwns hown); have hcu := toS ((RowAt.drewN HRA.out 1).below hbel); have hbx := Lib.hid hbel; have h0' := (hbel.cell (p := ⟨B, 0, none⟩) HBL.out).trans HD0.out; have f0' := (hbel.frozen (p := ⟨B, 0, none⟩) HBL.out).trans HF0.out; clear hown hbel c1 d0))
                    all_goals
                      have hc' := HC0.out.below hbx.out
                      have HG := Lib.hid (grownBy_trans HB0.out (grown_of_below B hbx.out))
                      have HLF := Lib.hid (cur_left hc' (HRB0.out.below hbx.out) HNB.out)
                      have HCC := Lib.hid hc'
                      clear hc' hcv hcu ha hwj
                      first
                      | (go_wp2_with fail; go_ret; rw [HC2.out]; exact ⟨rfl, HLF.out.1, grownBy_trans HG.out HLF.out.2⟩)
                      | (go_wp2_with (first | (go_at_call 56; (with_reducible refine (fail_c B (some l) _ HCC.out).mono ?_); rintro e w' ⟨rfl, hq1, hq2⟩)); go_ret; rw [HC2.out]; exact ⟨rfl, hq1, grownBy_trans HG.out hq2⟩)
end Go.Proofs.YtmbffncmogpkfaaGreatDoor
