
/- The laws on package redo: RedoDead. -/
import Derived.Test.YtlllbacjdjllbaaDoorLaw5a
import Derived.Test.YtlllbacjdjllbaaDoorOpenB
namespace Go.Proofs.YtlllbacjdjllbaaDoor
open Go Go.Proofs Go.Shelf Go.RowKit Go.Great
set_option linter.unusedVariables false
set_option linter.unusedSimpArgs false

theorem elemUU : Tryd.prog.underlying 22 = some (.slice (Tryd.prog.elem 22)) := by kernel_rfl
theorem ldFuse {lo L D g m : Nat} {bv v : Value} {l : PL} {d : PD} {w : World} (h : LDAt lo w L D g m bv v l d) (n : Int) (hn : n ≤ 9223372036854775807) : Calls Tryd.prog 12 #[.pointer (some ⟨D, 0, none⟩), .int .i64 n] w fun e w' => e = .returned (.tuple #[]) ∧ LDAt lo w' L D g m bv v l { d with fuse := max n (-1) } ∧ ChL lo w w' := by
  refine (Fuse_c h.drum n hn).mono ?_
  rintro e w' ⟨rfl, h1, h2⟩
  exact ⟨rfl, ⟨h.log.chg h2, h1⟩, ChL.ofChg h2⟩
theorem reset_dead {lo L D g m : Nat} {bv v : Value} {l : PL} {d : PD} {w : World} (h : LDAt lo w L D g m bv v l d) (hok : l.ok d) (hd : l.dead = true) (hw : d.wait.length ≤ 1099511000000) : Calls Tryd.prog 15 #[.pointer (some ⟨L, 0, none⟩), .slice none 0 0] w fun e w' => e = .returned (.int .i64 9) ∧ ChL lo w w' := by
  refine (RReset_c h hok [] (.slice none 0 0) (RowAt.nil _) (by simp) hw).mono ?_
  rintro e w' ⟨bv', v', rfl, _, hc⟩
  have e : (resetP l d []).1 = 9 := by unfold resetP laysP; rw [if_pos hd]
  rw [e]
  exact ⟨rfl, hc⟩
/-- what RedoDead holds of its log. -/
structure DeadAt (lo : Nat) (w0 w : World) (L D g m : Nat) (bv v : Value) (l : PL) (d : PD) (j : Nat) : Prop where
  ld : LDAt lo w L D g m bv v l d
  ok : l.ok d
  n : d.n = 200
  wait : d.wait.length ≤ 101 * j
  len : l.b.length ≤ 110 * j
  no : l.head.number ≤ j
  cnt : l.count ≤ j
  bel : Below w0.heap.size w0 w
  lo : w0.heap.size ≤ lo
theorem DeadAt.app {lo : Nat} {w0 w : World} {L D g m : Nat} {bv v : Value} {l : PL} {d : PD} {j : Nat} (h : DeadAt lo w0 w L D g m bv v l d j) (hj : j < 30) (p : List UInt8) (hp : p.length ≤ 100) (vp : Value) (hr : RowAt w vp (bytesV p)) :
    Calls Tryd.prog 13 #[.pointer (some ⟨L, 0, none⟩), vp] w fun e w' => ∃ bv' v' l' d' r, e = .returned (.int .i64 r) ∧ DeadAt lo w0 w' L D g m bv' v' l' d' (j + 1) ∧ ((r = 0 ∧ l.dead = false ∧ l'.dead = false ∧ l'.count = l.count + 1) ∨ (r = 9 ∧ l'.dead = true ∧ l'.count = l.count)) := by
  have hls := lebStr_len p (by omega)
  have hb : bankP d = 99 := by unfold bankP; rw [h.n]
  have hbk := h.ok.bank
  have hlen := h.len
  have hno := h.no
  have hcnt := h.cnt
  have hw := h.wait
  have hc0 := h.ok.count
  have s := lays_step (k := l.head.bank.toNat) (b := l.b) (p := p) (count := l.count + 1) h.ok (by rw [h.n]; decide) (by omega) (by omega) (by rw [List.length_append, hb]; omega) (by omega)
  refine (RAppend_c h.ld h.ok p vp hr (by omega) (by omega)).mono ?_
  rintro e w' ⟨bv', v', rfl, h1, h2⟩
  have hs : (laysP l d l.head.bank.toNat l.b p (l.count + 1)) = appendP l d p := rfl
  rw [hs] at s
  have hbel := h2.below h.bel h.lo
  obtain ⟨s1, s2, s3, s4⟩ := s
  refine ⟨bv', v', _, _, _, rfl, ⟨h1, s2, s3.trans h.n, by omega, ?_, ?_, ?_, hbel, h.lo⟩, ?_⟩
  · rcases s1 with ⟨_, _, s1⟩ | ⟨_, s1⟩ <;> rw [s1]
    · show (l.b ++ lebStr p).length ≤ _; rw [List.length_append]; omega
    · show l.b.length ≤ _; omega
  · rcases s1 with ⟨_, _, s1⟩ | ⟨_, s1⟩ <;> rw [s1]
    · show l.head.number + 1 ≤ _; omega
    · show l.head.number ≤ _; omega
  · rcases s1 with ⟨_, _, s1⟩ | ⟨_, s1⟩ <;> rw [s1]
    · show l.count + 1 ≤ _; omega
    · show l.count ≤ _; omega
  · rcases s1 with ⟨s0, s5, s1⟩ | ⟨s5, s1⟩ <;> rw [s1, s5]
    · exact .inl ⟨rfl, s0, rfl, rfl⟩
    · exact .inr ⟨rfl, rfl, rfl⟩
set_option maxRecDepth 100000 in
set_option maxHeartbeats 8000000 in
theorem RedoDead_core (v0 : Value) (x0 : List (List UInt8)) (a1 : Int) (w : World) (w0 : BRows w v0 x0) (y0 : ∀ x ∈ x0, x.length ≤ 140737488355328) (z0 : x0.length ≤ 5864062014805) (w1 : (Lit.int .i64 a1).wf = true) :
    Calls Tryd.prog 3 #[v0, .int .i64 a1] w fun e w' => e = .returned (.bool true) ∧ Below w.heap.size w w' := by
  obtain ⟨cells, hcr, hcl, hce⟩ := w0
  obtain ⟨va, vc, rfl⟩ := hcr.shape
  have HR := Lib.hid hcr
  have HE := Lib.hid hce
  have hcn := Lib.hid hcl
  have hxl : ∃ N : Nat, cells.length = N ∧ x0.length = N := ⟨_, rfl, hcl.symm⟩
  obtain ⟨N, hN, hxN⟩ := hxl
  rw [hN] at HR ⊢
  clear hcr hce hcl
  by_cases h1 : N < 1
  · have h1' : (N : Int) < 1 := by omega
    go_enter Tryd.func3, Tryd.ntmps3
    go_wp2_with fail
    go_ret
    exact ⟨rfl, Below.refl _ _⟩
  have h1' : ¬ (N : Int) < 1 := by omega
  by_cases h2 : 30 < N
  · have h2' : 30 < (N : Int) := by omega
    go_enter Tryd.func3, Tryd.ntmps3
    go_wp2_with fail
    go_ret
    exact ⟨rfl, Below.refl _ _⟩
  have h2' : ¬ 30 < (N : Int) := by omega
  by_cases h3 : a1 < 0
  · go_enter Tryd.func3, Tryd.ntmps3
    go_wp2_with fail
    go_ret
    exact ⟨rfl, Below.refl _ _⟩
  by_cases h4 : 60 < a1
  · go_enter Tryd.func3, Tryd.ntmps3
    go_wp2_with fail
    go_ret
    exact ⟨rfl, Below.refl _ _⟩
  have HA := Lib.hid (show 0 ≤ a1 ∧ a1 ≤ 60 ∧ 1 ≤ N ∧ N ≤ 30 ∧ cells.length = N ∧ x0.length = N from ⟨by omega, by omega, by omega, by omega, hN, hxN⟩)
  have CN : Hid (Calls Tryd.prog 10 #[.int .i64 200] w (NewTo w 200)) := Lib.hid (New_c w 200 (by decide))
  clear h1 h2 w1 hN hxN
  go_enter Tryd.func3, Tryd.ntmps3
  go_wp2_with (first | (go_at_call 10; (with_reducible refine CN.out.mono ?_); rintro e w1 ⟨D, g, m, rfl, hd, hb1⟩; have HD := Lib.hid hd; have HB := Lib.hid hb1; clear hd hb1) | (go_at_call 11; (with_reducible refine (Open_new HD.out (by decide)).mono ?_); rintro e w2 ⟨L, bv, va2, vc2, rfl, hl, hr, hb2⟩; have H := Lib.hid hl; replace HB := Lib.hid (HB.out.trans (hb2.mono HB.out.size)); clear hl hr hb2) | (go_at_call 12; (with_reducible refine (ldFuse H.out _ (by have := HA.out.2.1; omega)).mono ?_); rintro e w3 ⟨rfl, hl, hc⟩; replace H := Lib.hid hl; replace HB := Lib.hid (hc.below HB.out (Nat.le_refl _)); clear hl hc) | fail)
  have HT := Lib.hid (show DeadAt w.heap.size w w3 L D g m bv (.slice none 0 0) log0 { newP 200 with fuse := max a1 (-1) } 0 from ⟨H.out, log0_ok (by show 4 ≤ 200; decide), rfl, Nat.zero_le _, Nat.zero_le _, by decide, by decide, HB.out, Nat.le_refl _⟩)
  clear HD H HB CN
  go_loopw [9, 10, 11] (fun nn dd i wr => ∃ (j : Nat) (l : PL) (d : PD) (bv v : Value), i = .int .i64 (j : Int) ∧ j ≤ N ∧ nn = .int .i64 l.count ∧ dd = .bool l.dead ∧ DeadAt w.heap.size w wr L D g m bv v l d j) (fun _ _ i _ => N - (intOf i).toNat)
  case atStart => exact ⟨0, _, _, _, _, rfl, Nat.zero_le _, rfl, rfl, HT.out⟩
  case round =>
    obtain ⟨j, l, d, bv', v', rfl, hjN, rfl, rfl, hda⟩ := hrel
    have HDA := Lib.hid hda
    by_cases hj : j < N
    · have hj' : (j : Int) < (N : Int) := by omega
      obtain ⟨B, o, rfl, hB, hx⟩ := (HR.out.below hda.bel).cellAt j (by have := HA.out.2.2.2.2.1; omega)
      have HP := (HE.out j (x0[j]'(by have := HA.out.2.2.2.2.2; omega)) (cells[j]'(by have := HA.out.2.2.2.2.1; omega)) (List.getElem?_eq_getElem _) (List.getElem?_eq_getElem _)).below hda.bel
      generalize x0[j]'(by have := HA.out.2.2.2.2.2; omega) = p at *
      generalize cells[j]'(by have := HA.out.2.2.2.2.1; omega) = cp at *
      obtain ⟨pa, pc, rfl⟩ := HP.shapeB
      have HPR := Lib.hid HP
      clear HP hda
      by_cases hp : 100 < p.length
      · have hp' : 100 < (p.length : Int) := by omega
        go_wp2_with fail
        go_ret
        exact ⟨rfl, HDA.out.bel⟩
      · have hp' : ¬ 100 < (p.length : Int) := by omega
        have HAP := Lib.hid (HDA.out.app (by have := HA.out.2.2.2.1; omega) p (by omega) _ HPR.out)
        have hc1 := HDA.out.ok.count.1
        have hc2 : l.count ≤ 30 := by have := HDA.out.cnt; have := HA.out.2.2.2.1; omega
        go_wp2_with fail
        with_reducible refine (HAP.out).mono ?_
        rintro e wq ⟨bv2, v2, l2, d2, r, rfl, hd2, (⟨rfl, q1, q2, q3⟩ | ⟨rfl, q2, q3⟩)⟩
        · have hln := RLen_c hd2.ld
          rw [q3] at hln
          have HLN := Lib.hid hln
          have HD2 := Lib.hid hd2
          have HQ := Lib.hid (show l2.dead = false ∧ l2.count = l.count + 1 from ⟨q2, q3⟩)
          clear hln hd2 q2 q3
          go_wp2_with (first | (go_at_call 14; (with_reducible refine (HLN.out).mono ?_); rintro e w' ⟨rfl, rfl⟩) | fail)
          refine ⟨⟨j + 1, l2, d2, bv2, v2, rfl, hj, by rw [HQ.out.2], by rw [HQ.out.1], HD2.out⟩, ?_⟩
          simp [intOf]; omega
        · have hln := RLen_c hd2.ld
          rw [q3] at hln
          have HLN := Lib.hid hln
          have HD2 := Lib.hid hd2
          have HQ := Lib.hid (show l2.dead = true ∧ l2.count = l.count from ⟨q2, q3⟩)
          clear hln hd2 q2 q3
          cases hld : l.dead
          · go_wp2_with (first | (go_at_call 14; (with_reducible refine (HLN.out).mono ?_); rintro e w' ⟨rfl, rfl⟩) | fail)
            refine ⟨⟨j + 1, l2, d2, bv2, v2, rfl, hj, by rw [HQ.out.2], by rw [HQ.out.1], HD2.out⟩, ?_⟩
            simp [intOf]; omega
          · go_wp2_with (first | (go_at_call 14; (with_reducible refine (HLN.out).mono ?_); rintro e w' ⟨rfl, rfl⟩) | fail)
            refine ⟨⟨j + 1, l2, d2, bv2, v2, rfl, hj, by rw [HQ.out.2], by rw [HQ.out.1], HD2.out⟩, ?_⟩
            simp [intOf]; omega
    · have hj' : ¬ (j : Int) < (N : Int) := by omega
      cases hld : l.dead
      · go_wp2_with (first | (go_at_call 16; (with_reducible refine (known5_c _).mono ?_); rintro e wq ⟨rfl, hq⟩; have HB := Lib.hid (HDA.out.bel.trans (hq.mono HDA.out.bel.size)); clear hq) | fail)
        go_ret
        exact ⟨rfl, HB.out⟩
      · have HRS := Lib.hid (reset_dead HDA.out.ld HDA.out.ok hld (by have := HDA.out.wait; have := HA.out.2.2.2.1; omega))
        go_wp2_with (first | (go_at_call 15; (with_reducible refine (HRS.out).mono ?_); rintro e wr2 ⟨rfl, hc⟩; have HB2 := Lib.hid (hc.below HDA.out.bel (Nat.le_refl _)); clear hc) | (go_at_call 16; (with_reducible refine (known5_c _).mono ?_); rintro e wq ⟨rfl, hq⟩; have HB := Lib.hid (HB2.out.trans (hq.mono HB2.out.size)); clear hq) | fail)
        go_ret
        exact ⟨rfl, HB.out⟩
end Go.Proofs.YtlllbacjdjllbaaDoor
