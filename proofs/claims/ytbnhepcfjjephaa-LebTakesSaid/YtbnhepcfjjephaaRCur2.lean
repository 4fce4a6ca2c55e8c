/- The reference's Cursor. -/
import Derived.Test.YtbnhepcfjjephaaRCur0
import Derived.Test.YtbnhepcfjjephaaCur2
import Derived.Lib.VarintBits
import Derived.Deep.RegionHeld3
namespace Go.Proofs.Ytbnhepcfjjephaa
open Go Go.RowKit
set_option linter.unusedVariables false
variable {R : Option Nat}

set_option maxRecDepth 100000 in
set_option maxHeartbeats 1000000 in
theorem XReal_c (B : Nat) (c : Cur) (w : World) (h : CurAt R w B c) :
    Calls Try.prog 32 #[.pointer (some ⟨B, 0, none⟩)] w (CurTo R B w (.float .f64 (curReal c).1) (curReal c).2) := by
  have H := Lib.hid h
  cases c with
  | none =>
    obtain ⟨v, h0, h1, f0, f1, hr, hne⟩ := h
    simp only [Option.isNone_none] at h1
    clear hr hne
    go_enter Try.func32, Try.ntmps32
    go_wp2_with (first | (go_at_call 53; (with_reducible refine (fail_c B none _ H.out).mono ?_); rintro e w' ⟨rfl, hq1, hq2⟩))
    go_ret
    exact ⟨rfl, hq1, hq2⟩
  | some l =>
    obtain ⟨v, h0, h1, f0, f1, hr, hne⟩ := h
    simp only [Option.isNone_some, Option.getD_some] at h1 hr
    have hln := hr.lenRun elemU 3
    rw [bytesV_length] at hln
    by_cases h8 : 8 ≤ l.length
    · have hd : decide ((l.length : Int) < 8) = false := by simp; omega
      obtain ⟨vb, hb, hrb, hpb⟩ := hr.sliceLo elemU elemSz 8 (by simp; omega)
      have edl : List.drop 8 (bytesV l) = bytesV (l.drop 8) := by simp [bytesV, List.map_drop]
      rw [edl] at hrb
      obtain ⟨xb, cb, rfl⟩ := hrb.shape
      have hdl : (bytesV (l.drop 8)).length = l.length - 8 := by simp
      rw [hdl] at hb hrb hpb
      have hneb : Apart R (Value.slice xb (l.length - 8) cb) B (l.drop 8) := Apart.part hne hpb (fun e => by simp at e; simp [e])
      have HLF := Lib.hid (cur_left H.out hrb hneb)
      have HR := Lib.hid hr
      have HT : Hid (curReal (some l) = if (ofN (beVal (l.take 8))).2 = true then ((ofN (beVal (l.take 8))).1, some (l.drop 8)) else (0, none)) := Lib.hid (by simp only [curReal]; rw [if_pos h8])
      obtain ⟨xa, ca, rfl⟩ := hr.shape
      have hb' : ∀ (w' : World) (kk : IntKind), (Instr.slice 24 (.slice xa (bytesV l).length ca) (some (.int kk 8)) none none).run Try.prog w' = .ok (.slice xb (l.length - 8) cb) w' := hb
      generalize hvv : Value.slice xa (bytesV l).length ca = vv at *
      have HVV := Lib.hid hvv
      generalize l.length - 8 = nd at *
      clear hr hne hb hrb hpb edl hdl hneb hvv
      go_enter Try.func32, Try.ntmps32
      go_wp2_with fail
      go_loopw [3, 4] (fun k i wr => ∃ j : Nat, j ≤ 8 ∧ k = .int .u64 (beVal (l.take j) : Int) ∧ i = .int .i64 (j : Int) ∧ wr = w) (fun _ i _ => 8 - (intOf i).toNat)
      case atStart => exact ⟨0, by omega, rfl, rfl, rfl⟩
      case round =>
        obtain ⟨j, hj, rfl, rfl, rfl⟩ := hrel
        by_cases hlt : j < 8
        · have hjl : j < l.length := by omega
          obtain ⟨b, o, e1, _, hc⟩ := (HVV.out ▸ HR.out : RowAt wr (.slice xa (bytesV l).length ca) (bytesV l)).cellAt j (by simpa using hjl)
          rw [bytesV_get] at hc
          unfold byteV at hc
          have hvs : vv = .slice (some ⟨b, o, none⟩) l.length ca := by rw [← HVV.out, e1]; simp
          have ht : l.take (j + 1) = l.take j ++ [l[j]] := by rw [List.take_append_getElem]
          have hv : beVal (l.take (j + 1)) = beVal (l.take j) * 256 + (l[j]).toNat := by rw [ht, beVal_snoc]
          have hk : beVal (l.take j) < 72057594037927936 := by
            have h1 := beVal_lt (l.take j)
            have h2 : 256 ^ (l.take j).length ≤ 256 ^ 7 := Nat.pow_le_pow_right (by omega) (by simp; omega)
            have e7 : (256 : Nat) ^ 7 = 72057594037927936 := by decide +kernel
            omega
          obtain ⟨hs1, hs2⟩ := shift8 _ l[j] hk
          have HV := Lib.hid hv
          rw [hvs] at h0
          have hx := UInt8.toNat_lt l[j]
          have hwx : IntKind.u64.wrap ((l[j].toNat : Nat) : Int) = ((l[j].toNat : Nat) : Int) := by rw [IntKind.wrap_u64]; omega
          clear hv ht hk hvs hln hb' HVV e1
          generalize beVal (l.take j) = V at *
          generalize l[j].toNat = x at *
          clear hx
          go_wp2_with fail
          go_roundw
          case rel => exact ⟨j + 1, by omega, by rw [HV.out, Int.natCast_add, Int.natCast_mul]; rfl, by go_num, trivial⟩
          case measure => simp [intOf]; omega
        · obtain rfl : j = 8 := by omega
          have hB := beVal_lt (l.take 8)
          have hW : beVal (l.take 8) < W64 := by
            have h2 : 256 ^ (l.take 8).length ≤ 256 ^ 8 := Nat.pow_le_pow_right (by omega) (by simp; omega)
            have e8 : (256 : Nat) ^ 8 = 18446744073709551616 := by decide +kernel
            unfold W64; omega
          have HW := Lib.hid hW
          clear hB hW hlt hj
          generalize beVal (l.take 8) = V at *
          by_cases hok : (ofN V).2 = true
          · have HT2 : Hid (curReal (some l) = ((ofN V).1, some (l.drop 8))) := Lib.hid (by rw [HT.out, if_pos hok])
            clear HT
            go_wp2_with (first | (go_at_call 57; (with_reducible refine (ROf_c V HW.out _).mono ?_); rintro e w' ⟨rfl, rfl⟩))
            go_ret
            rw [HT2.out]
            exact ⟨rfl, HLF.out.1, HLF.out.2⟩
          · have hok2 : (ofN V).2 = false := by simpa using hok
            have HT2 : Hid (curReal (some l) = (0, none)) := Lib.hid (by rw [HT.out, if_neg hok])
            clear HT hok
            go_wp2_with (first | (go_at_call 57; (with_reducible refine (ROf_c V HW.out _).mono ?_); rintro e w' ⟨rfl, rfl⟩) | (go_at_call 53; (with_reducible refine (fail_c B (some l) _ H.out).mono ?_); rintro e w' ⟨rfl, hq1, hq2⟩))
            go_ret
            rw [HT2.out]
            exact ⟨rfl, hq1, hq2⟩
    · have hd : decide ((l.length : Int) < 8) = true := by simp; omega
      have HT : Hid (curReal (some l) = (0, none)) := Lib.hid (by simp only [curReal]; rw [if_neg h8])
      clear hr hne
      go_enter Try.func32, Try.ntmps32
      go_wp2_with (first | (go_at_call 53; (with_reducible refine (fail_c B (some l) _ H.out).mono ?_); rintro e w' ⟨rfl, hq1, hq2⟩))
      go_ret
      rw [HT.out]
      exact ⟨rfl, hq1, hq2⟩
end Go.Proofs.Ytbnhepcfjjephaa
