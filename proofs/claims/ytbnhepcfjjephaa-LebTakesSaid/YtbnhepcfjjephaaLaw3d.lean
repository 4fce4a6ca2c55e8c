/- The walk of LebReals. -/
import Derived.Test.YtbnhepcfjjephaaRCur2
import Derived.Deep.RegionHeld3
namespace Go.Proofs.Ytbnhepcfjjephaa
open Go Go.RowKit
set_option linter.unusedVariables false
variable {R : Option Nat}

theorem CurAt.new (w : World) (v : Value) (l : List UInt8) (t : TypeId) (hr : RowAt w v (bytesV l)) (ha : Apart R v w.heap.size l) : CurAt R (w.alloc (.cells #[v, .bool false] t)) w.heap.size (some l) := by
  refine ⟨v, ?_, ?_, ?_, ?_, hr.alloc _, ha⟩
  · rw [World.cell?_alloc_mark]; simp
  · rw [World.cell?_alloc_mark]; rfl
  · rw [frozen?_alloc_cells]; exact frozen_ge _ _ (Nat.le_refl _)
  · rw [frozen?_alloc_cells]; exact frozen_ge _ _ (Nat.le_refl _)
theorem CurAt.bad {w : World} {B : Nat} {c : Cur} (h : CurAt R w B c) : w.cell? ⟨B, 1, none⟩ = some (.bool c.isNone) := by
  obtain ⟨_, _, h1, _⟩ := h
  exact h1
/-- what a cursor's call wrote lies behind the law's arguments. -/
theorem Below.ofGrown {N B : Nat} {w w' : World} (h : w.grownBy w' (some B)) (hB : N ≤ B) (hN : N ≤ w.heap.size) : Below N w w' :=
  ⟨h.os, h.tape, h.output, h.size, fun k hk => h.block k (by omega) (by simp; omega)⟩
theorem curReal8 (l : List UInt8) (h : l.length = 8) : curReal (some l) = if (ofN (beVal l)).2 = true then ((ofN (beVal l)).1, some []) else (0, none) := by
  simp only [curReal]
  rw [if_pos (by omega), List.take_of_length_le (by omega), List.drop_of_length_le (by omega)]
theorem lebReal_ofN (l : List UInt8) (h : l.length = 8) (hok : (ofN (beVal l)).2 = true) : lebReal (ofN (beVal l)).1 = l ∧ (ofN (beVal l)).1 < W64 := by
  have hb := beL_beVal l
  have hlt := beVal_lt l
  rw [h] at hb hlt
  have e8 : (256 : Nat) ^ 8 = 18446744073709551616 := by decide +kernel
  have hW : beVal l < W64 := by unfold W64; omega
  unfold ofN at hok ⊢
  by_cases hk : keyN (unkeyN (beVal l)) = beVal l
  · rw [if_pos hk]
    exact ⟨by unfold lebReal; rw [hk, hb], unkeyN_lt hW⟩
  · rw [if_neg hk] at hok
    simp at hok
set_option maxRecDepth 100000 in
set_option maxHeartbeats 4000000 in
theorem LebReals_core (v0 : Value) (x0 : List UInt8) (w : World) (w0 : RowAt w v0 (bytesV x0)) :
    Calls Try.prog 6 #[v0] w fun e w' => e = .returned (.bool true) ∧ Below w.heap.size w w' := by
  obtain ⟨xb, cb, rfl⟩ := w0.shape
  rw [bytesV_length] at w0 ⊢
  by_cases g0 : x0.length = 8
  case neg =>
    have h' : ((x0.length : Int) != 8) = true := by simp; omega
    go_enter Try.func6, Try.ntmps6
    go_wp2
    go_ret
    exact ⟨rfl, Below.refl _ _⟩
  case pos =>
    have h' : ((x0.length : Int) != 8) = false := by simp; omega
    have HO := Lib.hid (Open_c _ x0 w w0 (by omega))
    have H0 := Lib.hid w0
    clear w0
    have HG0 := Lib.hid g0
    clear g0
    go_enter Try.func6, Try.ntmps6
    go_wp2_with fail
    with_reducible refine HO.out.mono ?_
    rintro e w1 ⟨B1, R1, rfl, hB1, hc1, hb1, hR1, hB1l⟩
    have hs1 := hb1.size
    obtain ⟨R2, ha2, hR2⟩ := Apart.ofRow H0.out hs1
    have hc2 := CurAt.new w1 (Value.slice xb x0.length cb) x0 44 (H0.out.below hb1) ha2
    have hc1' : CurAt R1 (w1.alloc (.cells #[(Value.slice xb x0.length cb), .bool false] 44)) B1 (some x0) := hc1.below ((Below.refl _ _).alloc (Nat.le_refl _) _)
    have H1 := Lib.hid hc1'
    have H2 := Lib.hid hc2
    have H12 : Hid (R1 ≠ some w1.heap.size ∧ R2 ≠ some B1 ∧ B1 ≠ w1.heap.size) := Lib.hid ⟨fun e => by have := (hR1 _ e).2; omega, fun e => by have := (hR2 _ e).1; omega, by omega⟩
    have HB1 := Lib.hid hb1
    clear hc1 hc1' hc2 ha2 hR1 hR2 hb1
    go_wp2_with fail
    with_reducible refine (CReal_c B1 (some x0) _ H1.out).mono ?_
    rintro e w3 ⟨rfl, h31, h32⟩
    have H31 := Lib.hid h31
    have H23 := Lib.hid (H2.out.grown h32 (fun e => H12.out.2.2 e.symm) H12.out.2.1)
    have H32 := Lib.hid h32
    clear h31 h32
    go_wp2_with fail
    with_reducible refine (XReal_c _ (some x0) _ H23.out).mono ?_
    rintro e w4 ⟨rfl, h41, h42⟩
    have H41 := Lib.hid h41
    have H14 := Lib.hid (H31.out.grown h42 H12.out.2.2 H12.out.1)
    have hE := h41.bad
    have hbb : Below w.heap.size w w4 := (HB1.out.trans (((Below.refl _ _).alloc hs1 _).trans (Below.ofGrown H32.out hB1 (by simp; omega)))).trans (Below.ofGrown h42 (by omega) (by have := H32.out.size; simp at this; omega))
    have HBB := Lib.hid hbb
    clear h41 h42 hbb
    rw [curReal8 x0 HG0.out] at hE H14 H41 ⊢
    by_cases hok : (ofN (beVal x0)).2 = true
    · rw [if_pos hok] at hE H14 H41 ⊢
      obtain ⟨hL, hlt⟩ := lebReal_ofN x0 HG0.out hok
      generalize (ofN (beVal x0)).1 = f at *
      have HL := Lib.hid hL
      have HLT := Lib.hid hlt
      simp only [Option.isNone_some] at hE
      have H14' : Hid (CurAt R1 w4 B1 (some [])) := H14
      clear hL hlt hok
      have HV := Lib.hid (H0.out.below HBB.out)
      clear H31 H23 H32 H1 H2 HO H41 H14 HB1 H12
      go_wp2_with fail
      have HR : Hid (Calls Try.prog 25 #[.slice none 0 0, .slice (some ⟨w4.heap.size, 0, none⟩) 1 1] (w4.alloc (.cells #[.float .f64 f] 33)).drew (OwnB (w4.alloc (.cells #[.float .f64 f] 33)).drew x0)) := Lib.hid (by
        have := Real_c (.slice none 0 0) (.slice (some ⟨w4.heap.size, 0, none⟩) 1 1) [] [f] (w4.alloc (.cells #[.float .f64 f] 33)).drew (RowAt.nil _) (RowAt.drewN (RowAt.new (hc := by simp) w4 [.float .f64 f] 33 1 (by unfold maxLen; simp)) 1) (by intro g hg; rw [List.mem_singleton.1 hg]; exact HLT.out) (by simp)
        have e : [] ++ lebReals [f] = x0 := by simp [lebReals, HL.out]
        rwa [e] at this)
      have HW : Hid (CurAt R1 w4.drew B1 (some [])) := Lib.hid (H14'.out.below ((Below.refl _ _).drew))
      have HBD : Hid (Below w.heap.size w w4.drew) := Lib.hid HBB.out.drew
      have HVD : Hid (RowAt w4.drew (.slice xb x0.length cb) (bytesV x0)) := Lib.hid (RowAt.drewN HV.out 1)
      have c1 : (convert 24 9 (.slice xb x0.length cb)).run Try.prog w4.drew = .ok (.string ⟨x0.toArray⟩) w4.drew := toS HVD.out
      have HVE : Hid (RowAt (w4.alloc (.cells #[.float .f64 f] 33)).drew (.slice xb x0.length cb) (bytesV x0)) := Lib.hid (RowAt.drewN (HV.out.alloc _) 1)
      have c2 := toS HVE.out
      have HBE : Hid (Below w.heap.size w (w4.alloc (.cells #[.float .f64 f] 33)).drew) := Lib.hid (HBB.out.trans ((Below.refl _ w4).alloc (Nat.le_refl _) _ |>.mono HBB.out.size)).drew
      clear hE hB1 hB1l hs1
      go_region_with (first | (go_at_call 30; refine (Whole_c B1 (some []) _ HW.out).mono ?_; rintro e w' ⟨rfl, rfl⟩) | (go_at_call 25; refine HR.out.mono ?_; rintro e w' ⟨v', rfl, hown, hb⟩; have hcv := toS (RowAt.ofOwns hown); have hcu := toS (HVE.out.below hb); have hbx := Lib.hid (HBE.out.trans (hb.mono HBE.out.size)); clear hown hb c1 c2) | (go_at_call 20; refine (known3_c _).mono ?_; rintro e w' ⟨rfl, hk⟩))
      all_goals
        go_wp2_with fail
        go_ret
        exact ⟨rfl, by have := hbx.out; exact Below.step this (by assumption)⟩
    · rw [if_neg hok] at hE H14 H41 ⊢
      have H14' : Hid (CurAt R1 w4 B1 none) := H14
      simp only [Option.isNone_none] at hE
      clear hok H14 H41
      go_wp2_with (first | (go_at_call 28; (with_reducible refine (Good_c B1 none _ H14'.out).mono ?_); rintro e w' ⟨rfl, rfl⟩) | (go_at_call 20; (with_reducible refine (known3_c _).mono ?_); rintro e w' ⟨rfl, hk⟩))
      go_ret
      exact ⟨rfl, HBB.out.trans (hk.mono HBB.out.size)⟩
end Go.Proofs.Ytbnhepcfjjephaa
