
/- The reference's Str. -/
import Derived.Test.YtlllbacjdjllbaaDoorRCur
namespace Go.Proofs.YtlllbacjdjllbaaDoor
open Go Go.RowKit
set_option linter.unusedVariables false
variable {R : Option Nat}

set_option maxRecDepth 100000 in
set_option maxHeartbeats 1000000 in
theorem XStr_c (B : Nat) (c : Cur) (w : World) (h : CurAt R w B c) :
    Calls Tryd.prog 58 #[.pointer (some ⟨B, 0, none⟩)] w (CurTo R B w (.string ⟨(curStr c).1.toArray⟩) (curStr c).2) := by
  have H := Lib.hid h
  have HT : Hid (curStr c = curTake (curInt c).1 (curInt c).2) := Lib.hid rfl
  clear h
  go_enter Tryd.func58, Tryd.ntmps58
  go_wp2_with fail
  with_reducible refine (XInt_c B c w H.out).mono ?_
  rintro e w1 ⟨rfl, h1, h2⟩
  have H1 := Lib.hid h1
  have H2 := Lib.hid h2
  clear h2
  generalize (curInt c).1 = n at *
  generalize (curInt c).2 = c1 at *
  obtain ⟨v, h10, h11, f0, f1, hr, hne⟩ := h1
  cases c1 with
  | none =>
    have HT2 : Hid (curStr c = ([], none)) := Lib.hid (by rw [HT.out]; rfl)
    simp only [Option.isNone_none] at h11
    clear h10 f0 f1 hr hne
    go_wp2_with (first | (go_at_call 66; (with_reducible refine (fail_c B none _ H1.out).mono ?_); rintro e w' ⟨rfl, hq1, hq2⟩))
    go_ret
    rw [HT2.out]
    exact ⟨rfl, hq1, grownBy_trans H2.out hq2⟩
  | some l =>
    simp only [Option.isNone_some, Option.getD_some] at h11 hr hne
    have hln := hr.lenRun elemU 3
    rw [bytesV_length] at hln
    by_cases hn : 0 ≤ n ∧ n ≤ l.length
    · obtain ⟨k, rfl⟩ := Int.eq_ofNat_of_zero_le hn.1
      have hk : k ≤ l.length := by omega
      obtain ⟨va, ha, hra, hpa⟩ := hr.sliceHi elemU elemSz k (by simpa using hk)
      obtain ⟨vb, hb, hrb, hpb⟩ := hr.sliceLo elemU elemSz k (by simpa using hk)
      have edl : List.drop k (bytesV l) = bytesV (l.drop k) := by simp [bytesV, List.map_drop]
      have etk : List.take k (bytesV l) = bytesV (l.take k) := by simp [bytesV, List.map_take]
      rw [edl] at hrb
      rw [etk] at hra
      obtain ⟨xb, cb, rfl⟩ := hrb.shape
      have hdl : (bytesV (l.drop k)).length = l.length - k := by simp
      rw [hdl] at hb hrb hpb
      have hneb : Apart R (Value.slice xb (l.length - k) cb) B (l.drop k) := Apart.part hne hpb (fun e => by simp [e])
      have hcv := toS hra
      have HC := Lib.hid (cur_left H1.out hrb hneb)
      have hd1 : decide ((k : Int) < 0) = false := by simp
      have hd2 : decide (l.length < k) = false := by simp; omega
      have HT2 : Hid (curStr c = (l.take k, some (l.drop k))) := Lib.hid (by rw [HT.out]; simp only [curTake]; rw [if_pos hn]; simp)
      clear hn hra hrb hpa hpb hneb hne hr edl etk hdl hk
      generalize l.length - k = nd at *
      generalize l.take k = lt at *
      go_wp2_with fail
      go_ret
      rw [HT2.out]
      exact ⟨rfl, HC.out.1, grownBy_trans H2.out HC.out.2⟩
    · have HT2 : Hid (curStr c = ([], none)) := Lib.hid (by rw [HT.out]; simp only [curTake]; rw [if_neg hn])
      by_cases h0n : n < 0
      · have hd : decide (n < 0) = true := by simp [h0n]
        clear hn hr hne
        go_wp2_with (first | (go_at_call 66; (with_reducible refine (fail_c B (some l) _ H1.out).mono ?_); rintro e w' ⟨rfl, hq1, hq2⟩))
        go_ret
        rw [HT2.out]
        exact ⟨rfl, hq1, grownBy_trans H2.out hq2⟩
      · have hd : decide (n < 0) = false := by simp; omega
        have hgt : decide ((l.length : Int) < n) = true := by simp; omega
        clear hn hr hne
        go_wp2_with (first | (go_at_call 66; (with_reducible refine (fail_c B (some l) _ H1.out).mono ?_); rintro e w' ⟨rfl, hq1, hq2⟩))
        go_ret
        rw [HT2.out]
        exact ⟨rfl, hq1, grownBy_trans H2.out hq2⟩
end Go.Proofs.YtlllbacjdjllbaaDoor
