
/- The rest of the Cursor: Int, Str, Real, Whole, Open; a nil one. -/
import Derived.Test.YtmbffncmogpkfaaGreatDoorCur
import Derived.Test.YtmbffncmogpkfaaGreatDoorLeb
namespace Go.Proofs.YtmbffncmogpkfaaGreatDoor
open Go Go.RowKit
set_option linter.unusedVariables false
variable {R : Option Nat}

theorem curU_lt (c : Cur) : (curU c).1 < W64 := by
  cases c with
  | none => simp [curU, W64]
  | some l =>
    simp only [curU]
    have h := decU_dec l
    cases hd : decU l with
    | none => simp [W64]
    | some p => rw [hd] at h; exact h.1
theorem curInt_U (c : Cur) : curInt c = (unzig (curU c).1, (curU c).2) := by
  cases c with
  | none => rfl
  | some l =>
    simp only [curInt, curU]
    cases decU l <;> rfl

set_option maxHeartbeats 400000 in
theorem CInt_c (B : Nat) (c : Cur) (w : World) (h : CurAt R w B c) :
    Calls Tryz.prog 24 #[.pointer (some ⟨B, 0, none⟩)] w (CurTo R B w (.int .i64 (curInt c).1) (curInt c).2) := by
  rw [curInt_U]
  have H := Lib.hid h
  have hz := curU_lt c
  clear h
  go_enter Tryz.func24, Tryz.ntmps24
  go_wp2_with fail
  with_reducible refine (unsigned_c B c w H.out).mono ?_
  rintro e w' ⟨rfl, h1, h2⟩
  have H1 := Lib.hid h1
  clear h1
  generalize hZ : (curU c).1 = z at *
  clear hZ
  have hw : wrap64 ((z : Int) / 2) = ((z / 2 : Nat) : Int) := by
    unfold W64 at hz
    unfold wrap64; omega
  have ha : bits .and .u64 (z : Int) 1 = (z : Int) % 2 := Lib.u64_and1 _ (by omega) (by unfold W64 at hz; omega)
  have hx : bits .xor .i64 (-1) ((z / 2 : Nat) : Int) = -((z / 2 : Nat) : Int) - 1 := Lib.i64_not _ (by unfold W64 at hz; omega)
  by_cases hp : z % 2 = 0
  · have hb : ((z : Int) % 2 != 0) = false := by simp; omega
    have HE : Hid (unzig z = ((z / 2 : Nat) : Int)) := Lib.hid (by unfold unzig; rw [if_pos hp])
    generalize z / 2 = m at *
    clear hx hz hp
    go_wp2_with fail
    go_ret
    rw [HE.out]
    exact ⟨by simp [hw], H1.out, h2⟩
  · have hb : ((z : Int) % 2 != 0) = true := by simp; omega
    have HE : Hid (unzig z = -((z / 2 : Nat) : Int) - 1) := Lib.hid (by unfold unzig; rw [if_neg hp])
    have hs : IntKind.i64.signed = true := rfl
    generalize z / 2 = m at *
    clear hz hp
    go_wp2_with fail
    go_ret
    rw [HE.out]
    exact ⟨rfl, H1.out, h2⟩
set_option maxHeartbeats 400000 in
theorem CStr_c (B : Nat) (c : Cur) (w : World) (h : CurAt R w B c) :
    Calls Tryz.prog 51 #[.pointer (some ⟨B, 0, none⟩)] w (CurTo R B w (.string ⟨(curStr c).1.toArray⟩) (curStr c).2) := by
  have H := Lib.hid h
  clear h
  go_enter Tryz.func51, Tryz.ntmps51
  go_wp2_with fail
  with_reducible refine (CInt_c B c w H.out).mono ?_
  rintro e w' ⟨rfl, h1, h2⟩
  go_wp2_with fail
  with_reducible refine (take_c B (curInt c).2 (curInt c).1 w' h1).mono ?_
  rintro e w2 ⟨v, rfl, h3, h4, h5, h6⟩
  have hs := h3.toStr 23 9 5 Tryz.underlying23 Tryz.underlying5 Tryz.underlying9
  have H5 := Lib.hid h5
  clear h5 h1 h3 h4
  go_wp2_with fail
  go_ret
  exact ⟨rfl, H5.out, grownBy_trans h2 h6⟩
theorem Whole_c (B : Nat) (c : Cur) (w : World) (h : CurAt R w B c) :
    Calls Tryz.prog 27 #[.pointer (some ⟨B, 0, none⟩)] w fun e w' => e = .returned (.bool (decide (c = some []))) ∧ w = w' := by
  have H := Lib.hid h
  obtain ⟨v, h0, h1, f0, f1, hr, hne⟩ := h
  cases c with
  | none =>
    clear h0 h1 f0 f1 hr hne
    go_enter Tryz.func27, Tryz.ntmps27
    go_wp2_with (first | (go_at_call 50; (with_reducible refine (Good_c B none _ H.out).mono ?_); rintro e w' ⟨rfl, rfl⟩))
    go_ret
    exact ⟨rfl, rfl⟩
  | some l =>
    have hln := hr.lenRun elemU 3
    rw [bytesV_length] at hln
    simp only [Option.getD_some] at hln
    have hd : decide (some l = some ([] : List UInt8)) = ((l.length : Int) == 0) := by
      cases l <;> simp
      omega
    rw [hd]
    clear h1 f0 f1 hr hne hd
    go_enter Tryz.func27, Tryz.ntmps27
    go_wp2_with (first | (go_at_call 50; (with_reducible refine (Good_c B (some l) _ H.out).mono ?_); rintro e w' ⟨rfl, rfl⟩))
    go_ret
    exact ⟨rfl, rfl⟩
theorem frozen_ge (w : World) (a : Addr) (h : w.heap.size ≤ a.block) : w.frozen? a = false := by
  have e : w.heap[a.block]? = none := Array.getElem?_eq_none h
  unfold World.frozen?; rw [e]
theorem Open_c (v : Value) (l : List UInt8) (w : World) (h : RowAt w v (bytesV l)) (hl : l.length ≤ 17592186044416) :
    Calls Tryz.prog 23 #[v] w fun e w' => ∃ B R, e = .returned (.pointer (some ⟨B, 0, none⟩)) ∧ w.heap.size ≤ B ∧ CurAt R w' B (some l) ∧ Below w.heap.size w w' ∧ (∀ r, R = some r → w.heap.size ≤ r ∧ r < w'.heap.size) ∧ B < w'.heap.size := by
  have HC := Lib.hid (Clone_c v l w h (by omega))
  clear h
  go_enter Tryz.func23, Tryz.ntmps23
  go_wp2_with fail
  with_reducible refine HC.out.mono ?_
  rintro e w1 ⟨v1, rfl, hown1, hb1⟩
  have hr1 := RowAt.ofOwns hown1
  obtain ⟨a, c, rfl⟩ := hr1.shape
  have hs1 := hb1.size
  obtain ⟨R, hlt, hRl⟩ := Apart.ofRow hr1 (Nat.le_refl _)
  have hRl2 : Hid (∀ r, R = some r → w.heap.size ≤ r ∧ r < w1.heap.size) := Lib.hid (fun r hr => ⟨(hown1.lt _ (hRl r hr).2).1, (hRl r hr).1⟩)
  clear hRl
  have HR := Lib.hid hr1
  have HN := Lib.hid hlt
  clear hown1 hr1 hlt
  go_wp2_with fail
  go_ret
  refine ⟨_, R, rfl, hs1, ⟨_, ?_, ?_, ?_, ?_, HR.out.alloc _, HN.out⟩, hb1.trans ((Below.refl _ _).alloc hs1 _), fun r hr => ⟨(hRl2.out r hr).1, by have := (hRl2.out r hr).2; simp; omega⟩, by simp⟩
  · rw [World.cell?_alloc_mark]; simp
  · rw [World.cell?_alloc_mark]; rfl
  · rw [frozen?_alloc_cells]; exact frozen_ge _ _ (Nat.le_refl _)
  · rw [frozen?_alloc_cells]; exact frozen_ge _ _ (Nat.le_refl _)
theorem curReal_T (c : Cur) : curReal c = if (ofN (beVal (curTake 8 c).1)).2 = true ∧ (curTake 8 c).2.isSome = true then ((ofN (beVal (curTake 8 c).1)).1, (curTake 8 c).2) else (0, none) := by
  cases c with
  | none => simp [curReal, curTake]
  | some l =>
    simp only [curReal, curTake]
    by_cases h : 8 ≤ l.length
    · have e : (0 ≤ (8 : Int) ∧ (8 : Int) ≤ l.length) := by omega
      simp [h, e]
    · have e : ¬ (0 ≤ (8 : Int) ∧ (8 : Int) ≤ l.length) := by omega
      have e2 : ¬ ((8 : Int) ≤ l.length) := by omega
      simp [h, e2]
theorem curTake_len (c : Cur) : (curTake 8 c).1.length ≤ 8 := by
  cases c with
  | none => simp [curTake]
  | some l =>
    simp only [curTake]
    split <;> simp
    omega
theorem shift8 (k : Nat) (x : UInt8) (h : k < 72057594037927936) : IntKind.u64.wrap ((k : Int) * 256) = (k : Int) * 256 ∧ bits .or .u64 ((k : Int) * 256) (x.toNat : Int) = (k : Int) * 256 + (x.toNat : Int) := by
  have hx : x.toNat < 256 := UInt8.toNat_lt x
  refine ⟨by rw [IntKind.wrap_u64]; omega, ?_⟩
  have e64 : (2 : Int) ^ 64 = 18446744073709551616 := by decide +kernel
  have e8 : (2 : Int) ^ 8 = 256 := by decide +kernel
  rw [bits_join .u64 64 (by decide) wraps_u64 8 ((k : Int) * 256) (x.toNat : Int) (by omega) (by rw [e8]; omega) (by rw [e64]; omega) (by omega) (by rw [e8]; omega) (by rw [e64]; omega)]
set_option maxHeartbeats 1000000 in
theorem CReal_c (B : Nat) (c : Cur) (w : World) (h : CurAt R w B c) :
    Calls Tryz.prog 52 #[.pointer (some ⟨B, 0, none⟩)] w (CurTo R B w (.float .f64 (curReal c).1) (curReal c).2) := by
  have HT := Lib.hid (curReal_T c)
  have H := Lib.hid h
  clear h
  go_enter Tryz.func52, Tryz.ntmps52
  go_wp2_with fail
  with_reducible refine (take_c B c 8 w H.out).mono ?_
  rintro e w2 ⟨v, rfl, h3, h4, h5, h6⟩
  have hl8 := curTake_len c
  generalize curTake 8 c = q at *
  obtain ⟨p, c'⟩ := q
  have H5 := Lib.hid h5
  obtain ⟨a1, c1, rfl⟩ := h3.shape
  have H3 := Lib.hid h3
  have H8 := Lib.hid hl8
  simp only [bytesV_length]
  clear h5 h3 h4 hl8
  go_wp2_with fail
  go_loopw [3, 11] (fun k i wr => ∃ j : Nat, j ≤ p.length ∧ k = .int .u64 (beVal (p.take j) : Int) ∧ i = .int .i64 (j : Int) ∧ wr = w2) (fun _ i _ => p.length - (intOf i).toNat)
  case atStart => exact ⟨0, by omega, rfl, rfl, rfl⟩
  case round =>
    obtain ⟨j, hj, rfl, rfl, rfl⟩ := hrel
    have h8 := H8.out
    by_cases hlt : j < p.length
    · have hc : ∃ b o, a1 = some ⟨b, o, none⟩ ∧ wr.cell? ⟨b, o + j, none⟩ = some (byteV p[j]) := by
        obtain ⟨b, o, h1, _, h2⟩ := H3.out.cellAt j (by simpa using hlt)
        exact ⟨b, o, h1, by rw [h2, bytesV_get]⟩
      obtain ⟨b, o, rfl, hc⟩ := hc
      have ht : p.take (j + 1) = p.take j ++ [p[j]] := by rw [List.take_append_getElem]
      have hv : beVal (p.take (j + 1)) = beVal (p.take j) * 256 + (p[j]).toNat := by rw [ht, beVal_snoc]
      have hk : beVal (p.take j) < 72057594037927936 := by
        have h1 := beVal_lt (p.take j)
        have h2 : 256 ^ (p.take j).length ≤ 256 ^ 7 := Nat.pow_le_pow_right (by omega) (by have := H8.out; simp; omega)
        have e7 : (256 : Nat) ^ 7 = 72057594037927936 := by decide +kernel
        omega
      have hs := shift8 _ p[j] hk
      obtain ⟨hs1, hs2⟩ := hs
      have HV := Lib.hid hv
      unfold byteV at hc
      clear hv ht hk
      generalize beVal (p.take j) = V at *
      have hx := UInt8.toNat_lt p[j]
      have hwx : IntKind.u64.wrap ((p[j].toNat : Nat) : Int) = ((p[j].toNat : Nat) : Int) := by rw [IntKind.wrap_u64]; omega
      generalize p[j].toNat = x at *
      clear hx
      go_wp2_with fail
      go_roundw
      case rel => exact ⟨j + 1, by omega, by rw [HV.out, Int.natCast_add, Int.natCast_mul]; rfl, by go_num, trivial⟩
      case measure => have := H8.out; simp [intOf]; omega
    · have hk' : p.take j = p := List.take_of_length_le (by omega)
      rw [hk']
      obtain rfl : j = p.length := by omega
      have hB := beVal_lt p
      have hW : beVal p < W64 := by
        have h2 : 256 ^ p.length ≤ 256 ^ 8 := Nat.pow_le_pow_right (by omega) H8.out
        have e8 : (256 : Nat) ^ 8 = 18446744073709551616 := by decide +kernel
        unfold W64; omega
      have HW := Lib.hid hW
      clear hB hW hk'
      generalize beVal p = V at *
      clear hlt hj
      by_cases hok : (ofN V).2 = true
      · cases c' with
        | none =>
          have HT2 : Hid (curReal c = (0, none)) := Lib.hid (by rw [HT.out]; simp)
          clear HT
          go_wp2_with (first | (go_at_call 75; (with_reducible refine (Of_c V HW.out _).mono ?_); rintro e w' ⟨rfl, rfl⟩) | (go_at_call 50; (with_reducible refine (Good_c B none _ H5.out).mono ?_); rintro e w' ⟨rfl, rfl⟩) | (go_at_call 74; (with_reducible refine (errs_c B none _ H5.out).mono ?_); rintro e w' ⟨rfl, hq1, hq2⟩))
          go_ret
          rw [HT2.out]
          exact ⟨rfl, hq1, grownBy_trans h6 hq2⟩
        | some l' =>
          have HT2 : Hid (curReal c = ((ofN V).1, some l')) := Lib.hid (by rw [HT.out]; simp [hok])
          clear HT
          go_wp2_with (first | (go_at_call 75; (with_reducible refine (Of_c V HW.out _).mono ?_); rintro e w' ⟨rfl, rfl⟩) | (go_at_call 50; (with_reducible refine (Good_c B (some l') _ H5.out).mono ?_); rintro e w' ⟨rfl, rfl⟩))
          go_ret
          rw [HT2.out]
          exact ⟨rfl, H5.out, h6⟩
      · have hok2 : (ofN V).2 = false := by simpa using hok
        have HT2 : Hid (curReal c = (0, none)) := Lib.hid (by rw [HT.out]; simp [hok])
        clear HT hok
        go_wp2_with (first | (go_at_call 75; (with_reducible refine (Of_c V HW.out _).mono ?_); rintro e w' ⟨rfl, rfl⟩) | (go_at_call 74; (with_reducible refine (errs_c B c' _ H5.out).mono ?_); rintro e w' ⟨rfl, hq1, hq2⟩))
        go_ret
        rw [HT2.out]
        exact ⟨rfl, hq1, grownBy_trans h6 hq2⟩

/-! ### A nil one. -/
theorem take_nil (n : Int) (w : World) : Calls Tryz.prog 73 #[.pointer none, .int .i64 n] w fun e w' => e = .returned (.slice none 0 0) ∧ w = w' := by
  go_enter Tryz.func73, Tryz.ntmps73
  go_wp2_with (first | (go_at_call 50; (with_reducible refine (Good_nil _).mono ?_); rintro e w' ⟨rfl, rfl⟩) | (go_at_call 74; (with_reducible refine (errs_nil _).mono ?_); rintro e w' ⟨rfl, rfl⟩))
  go_ret
  exact ⟨rfl, rfl⟩
theorem unsigned_nil (w : World) : Calls Tryz.prog 49 #[.pointer none] w fun e w' => e = .returned (.int .u64 0) ∧ w = w' := by
  go_enter Tryz.func49, Tryz.ntmps49
  go_wp2_with fail
  go_loopw [3, 4] (fun z i wr => w = wr) (fun _ i _ => 0)
  case atStart => rfl
  case round =>
    subst hrel
    go_wp2_with (first | (go_at_call 73; (with_reducible refine (take_nil _ _).mono ?_); rintro e w' ⟨rfl, rfl⟩))
    go_ret
    exact ⟨rfl, rfl⟩
theorem CInt_nil (w : World) : Calls Tryz.prog 24 #[.pointer none] w fun e w' => e = .returned (.int .i64 0) ∧ w = w' := by
  have hb : bits .and .u64 0 1 = 0 := by decide
  go_enter Tryz.func24, Tryz.ntmps24
  go_wp2_with (first | (go_at_call 49; (with_reducible refine (unsigned_nil _).mono ?_); rintro e w' ⟨rfl, rfl⟩))
  go_ret
  exact ⟨rfl, rfl⟩
theorem CStr_nil (w : World) : Calls Tryz.prog 51 #[.pointer none] w fun e w' => e = .returned (.string ⟨#[]⟩) ∧ w = w' := by
  have hs : ∀ w', (convert 23 9 (.slice none 0 0)).run Tryz.prog w' = .ok (.string ⟨#[]⟩) w' := fun w' => (RowAt.nil w').toStr (l := []) 23 9 5 Tryz.underlying23 Tryz.underlying5 Tryz.underlying9
  go_enter Tryz.func51, Tryz.ntmps51
  go_wp2_with (first | (go_at_call 24; (with_reducible refine (CInt_nil _).mono ?_); rintro e w' ⟨rfl, rfl⟩) | (go_at_call 73; (with_reducible refine (take_nil _ _).mono ?_); rintro e w' ⟨rfl, rfl⟩))
  go_ret
  exact ⟨rfl, rfl⟩
theorem CReal_nil (w : World) : Calls Tryz.prog 52 #[.pointer none] w fun e w' => e = .returned (.float .f64 0) ∧ w = w' := by
  have h0 : ∀ w : World, Calls Tryz.prog 75 #[.int .u64 0] w fun e w' => e = .returned (.tuple #[.float .f64 (ofN 0).1, .bool (ofN 0).2]) ∧ w = w' := fun w => Of_c 0 (by decide) w
  go_enter Tryz.func52, Tryz.ntmps52
  go_wp2_with (first | (go_at_call 73; (with_reducible refine (take_nil _ _).mono ?_); rintro e w' ⟨rfl, rfl⟩))
  go_loopw [3, 11] (fun k i wr => k = .int .u64 0 ∧ i = .int .i64 0 ∧ w = wr) (fun _ i _ => 0)
  case atStart => exact ⟨rfl, rfl, rfl⟩
  case round =>
    obtain ⟨rfl, rfl, rfl⟩ := hrel
    generalize ofN 0 = q at *
    obtain ⟨f, ok⟩ := q
    cases ok
    all_goals
      go_wp2_with (first | (go_at_call 75; (with_reducible refine (h0 _).mono ?_); rintro e w' ⟨rfl, rfl⟩) | (go_at_call 50; (with_reducible refine (Good_nil _).mono ?_); rintro e w' ⟨rfl, rfl⟩) | (go_at_call 74; (with_reducible refine (errs_nil _).mono ?_); rintro e w' ⟨rfl, rfl⟩))
      go_ret
      exact ⟨rfl, rfl⟩
theorem Whole_nil (w : World) : Calls Tryz.prog 27 #[.pointer none] w fun e w' => e = .returned (.bool false) ∧ w = w' := by
  go_enter Tryz.func27, Tryz.ntmps27
  go_wp2_with (first | (go_at_call 50; (with_reducible refine (Good_nil _).mono ?_); rintro e w' ⟨rfl, rfl⟩))
  go_ret
  exact ⟨rfl, rfl⟩
end Go.Proofs.YtmbffncmogpkfaaGreatDoor
