
/- The laws on package redo: two rows of rows of bytes are compared. -/
import Derived.Test.YtlllbacjdjllbaaDoorLaw5b
import Derived.Test.YtlllbacjdjllbaaDoorPl5
import Derived.BigQuiet
import Derived.Deep.QuietTactic
namespace Go.Proofs.YtlllbacjdjllbaaDoor
open Go Go.Proofs Go.Shelf Go.RowKit Go.Great
set_option linter.unusedVariables false
set_option linter.unusedSimpArgs false

theorem below_dr {B : Nat} {a w : World} (h : Below B a w) (n : Nat) : Below B a (w.drewN n) := h.trans ⟨rfl, rfl, rfl, Nat.le_refl _, fun _ _ => rfl⟩
theorem convS {w : World} {v : Value} {l : List UInt8} (h : RowAt w v (bytesV l)) : ∀ n, (convert 30 9 v).run Tryd.prog (w.drewN n) = .ok (.string ⟨l.toArray⟩) (w.drewN n) := fun n => (RowAt.drewN h n).toStr 30 9 5 Tryd.underlying30 Tryd.underlying5 Tryd.underlying9
theorem RowsU.b {lo : Nat} {w : World} {v : Value} {es : List (List UInt8)} (h : RowsU lo w v es) : BRows w v es := by
  obtain ⟨cells, h1, h2⟩ := h
  exact ⟨cells, RowAt.ofOwns h1, by have := h1.1; omega, fun i e c he hc => (h2 i e c he hc).1⟩
set_option maxRecDepth 100000 in
set_option maxHeartbeats 4000000 in
theorem rows_c {w : World} {va vb : Value} {xs ys : List (List UInt8)} (ha : BRows w va xs) (hb : BRows w vb ys) : Calls Tryd.prog 19 #[va, vb] w fun e w' => e = .returned (.bool (decide (xs = ys))) ∧ Below w.heap.size w w' := by
  obtain ⟨ca, hca, hla, hea⟩ := ha
  obtain ⟨cb, hcb, hlb, heb⟩ := hb
  obtain ⟨aa, ac, rfl⟩ := hca.shape
  obtain ⟨ba, bc, rfl⟩ := hcb.shape
  have HA := Lib.hid hca
  have HB := Lib.hid hcb
  have HEA := Lib.hid hea
  have HEB := Lib.hid heb
  obtain ⟨N, hN, hxN⟩ : ∃ N : Nat, ca.length = N ∧ xs.length = N := ⟨_, rfl, hla.symm⟩
  obtain ⟨M, hM, hyM⟩ : ∃ M : Nat, cb.length = M ∧ ys.length = M := ⟨_, rfl, hlb.symm⟩
  rw [hN] at HA ⊢
  rw [hM] at HB ⊢
  have HL := Lib.hid (show ca.length = N ∧ xs.length = N ∧ cb.length = M ∧ ys.length = M from ⟨hN, hxN, hM, hyM⟩)
  have hmax : (ca.length : Int) ≤ 9223372036854775807 := by have := hca.1; rw [show maxLen = 9223372036854775807 by decide] at this; omega
  rw [hN] at hmax
  clear hca hcb hea heb hla hlb hN hxN hM hyM
  by_cases hNM : N = M
  · subst hNM
    go_enter Tryd.func19, Tryd.ntmps19
    go_wp2_with fail
    go_loopw [5] (fun i wr => ∃ j : Nat, i = .int .i64 (j : Int) ∧ j ≤ N ∧ Below w.heap.size w wr ∧ xs.take j = ys.take j) (fun i _ => N - (intOf i).toNat)
    case atStart => exact ⟨0, rfl, Nat.zero_le _, Below.refl _ _, rfl⟩
    case round =>
      obtain ⟨j, rfl, hjN, hbel, hpre⟩ := hrel
      have HBE := Lib.hid hbel
      have HPR := Lib.hid hpre
      by_cases hj : j < N
      · have hj' : (j : Int) < (N : Int) := by omega
        obtain ⟨B, o, rfl, hB, hx⟩ := (HA.out.below hbel).cellAt j (by have := HL.out.1; omega)
        obtain ⟨B', o', rfl, hB', hx'⟩ := (HB.out.below hbel).cellAt j (by have := HL.out.2.2.1; omega)
        have h1 := HEA.out j (xs[j]'(by have := HL.out.2.1; omega)) (ca[j]'(by have := HL.out.1; omega)) (List.getElem?_eq_getElem _) (List.getElem?_eq_getElem _)
        have h2 := HEB.out j (ys[j]'(by have := HL.out.2.2.2; omega)) (cb[j]'(by have := HL.out.2.2.1; omega)) (List.getElem?_eq_getElem _) (List.getElem?_eq_getElem _)
        have HXJ : Hid (xs[j]? = some (xs[j]'(by have := HL.out.2.1; omega)) ∧ ys[j]? = some (ys[j]'(by have := HL.out.2.2.2; omega))) := Lib.hid ⟨List.getElem?_eq_getElem _, List.getElem?_eq_getElem _⟩
        generalize xs[j]'(by have := HL.out.2.1; omega) = x at *
        generalize ys[j]'(by have := HL.out.2.2.2; omega) = y at *
        generalize ca[j]'(by have := HL.out.1; omega) = cx at *
        generalize cb[j]'(by have := HL.out.2.2.1; omega) = cy at *
        have k1 := convS (h1.below hbel)
        have k2 := convS (h2.below hbel)
        have hx1 : ∀ m, (wr.drewN m).cell? ⟨B, o + j, none⟩ = some cx := fun m => by rw [World.cell?_drewN]; exact hx
        have hx2 : ∀ m, (wr.drewN m).cell? ⟨B', o' + j, none⟩ = some cy := fun m => by rw [World.cell?_drewN]; exact hx'
        clear h1 h2 hx hx' hbel hpre
        by_cases hxy : x = y
        · subst hxy
          go_wp2_with fail
          go_quiet (fail)
          go_wp2_with fail
          refine ⟨⟨j + 1, rfl, hj, below_dr HBE.out _, ?_⟩, ?_⟩
          · rw [List.take_add_one, List.take_add_one, HPR.out, HXJ.out.1, HXJ.out.2]
          · simp [intOf]; omega
        · have hxb : (x == y) = false := by simpa using hxy
          go_wp2_with fail
          go_quiet (fail)
          go_wp2_with fail
          go_ret
          have hne : decide (xs = ys) = false := decide_eq_false (fun e => by
            have h := HXJ.out.1
            rw [e, HXJ.out.2] at h
            exact hxy (Option.some.inj h).symm)
          rw [hne]
          exact ⟨rfl, below_dr HBE.out _⟩
      · have hj' : ¬ (j : Int) < (N : Int) := by omega
        go_wp2_with fail
        go_ret
        have he : decide (xs = ys) = true := decide_eq_true (by
          have h := HPR.out
          rwa [List.take_of_length_le (by have := HL.out.2.1; omega), List.take_of_length_le (by have := HL.out.2.2.2; omega)] at h)
        rw [he]
        exact ⟨rfl, HBE.out⟩
  · have hNM' : ¬ (N : Int) = (M : Int) := by omega
    have hne : decide (xs = ys) = false := decide_eq_false (fun e => by
      have := HL.out
      rw [e] at this
      omega)
    rw [hne]
    go_enter Tryd.func19, Tryd.ntmps19
    go_wp2_with fail
    go_ret
    exact ⟨rfl, Below.refl _ _⟩
theorem brow1 {W : World} {vp : Value} {p : List UInt8} (hp : RowAt W vp (bytesV p)) : BRows (W.alloc (.cells #[vp] 30)) (.slice (some ⟨W.heap.size, 0, none⟩) 1 1) [p] := by
  refine ⟨[vp], RowAt.new (hc := by simp) W [vp] 30 1 (by simp [maxLen]), rfl, fun i x c hx hc => ?_⟩
  cases i with
  | zero =>
    simp at hx hc
    subst hx hc
    exact hp.below ((Below.refl _ W).alloc (Nat.le_refl _) _)
  | succ i => simp at hx
theorem app_lay {lo L D g m : Nat} {bv v : Value} {l : PL} {d : PD} {w : World} {es : List (List UInt8)} (h : LDAt lo w L D g m bv v l d) (hg : Gd l d es) (p : List UInt8) (vp : Value) (hp : RowAt w vp (bytesV p)) (hb : (encs es ++ lebStr p).length ≤ 64 * bankP d) (hno : l.head.number < 1099511627776) (hw : d.wait.length ≤ 1099511000000) :
    Calls Tryd.prog 13 #[.pointer (some ⟨L, 0, none⟩), vp] w fun e w' => ∃ r l' d' bv' v', e = .returned (.int .i64 r) ∧ LDAt lo w' L D g m bv' v' l' d' ∧ ChL lo w w' ∧ LayTo l d es (es ++ [p]) (r, l', d') := by
  have hq : bankP d ≤ 99 := by unfold bankP; have := hg.view.rg.2; omega
  have hpl : p.length ≤ (lebStr p).length := by unfold lebStr; rw [List.length_append]; omega
  rw [List.length_append] at hb
  refine (RAppend_c h hg.ok p vp hp (by omega) hw).mono ?_
  rintro e w' ⟨bv', v', rfl, h1, h2⟩
  exact ⟨_, _, _, bv', v', rfl, h1, h2, append_gd hg (by rw [List.length_append]; exact hb) hno⟩
theorem res_lay {lo L D g m : Nat} {bv v : Value} {l : PL} {d : PD} {w : World} {es : List (List UInt8)} (h : LDAt lo w L D g m bv v l d) (hg : Gd l d es) (p : List UInt8) (vp : Value) (hp : RowAt w vp (bytesV p)) (hb : (lebStr p).length ≤ 64 * bankP d) (hno : l.head.number < 1099511627776) (hw : d.wait.length ≤ 1099511000000) :
    Calls Tryd.prog 15 #[.pointer (some ⟨L, 0, none⟩), vp] w fun e w' => ∃ r l' d' bv' v', e = .returned (.int .i64 r) ∧ LDAt lo w' L D g m bv' v' l' d' ∧ ChL lo w w' ∧ LayTo l d es [p] (r, l', d') := by
  have hq : bankP d ≤ 99 := by unfold bankP; have := hg.view.rg.2; omega
  have hpl : p.length ≤ (lebStr p).length := by unfold lebStr; rw [List.length_append]; omega
  refine (RReset_c h hg.ok p vp hp (by omega) hw).mono ?_
  rintro e w' ⟨bv', v', rfl, h1, h2⟩
  exact ⟨_, _, _, bv', v', rfl, h1, h2, reset_gd hg hb hno⟩
/-- two rows that read alike. -/
theorem rows_same {w : World} {va vb : Value} {xs : List (List UInt8)} (ha : BRows w va xs) (hb : BRows w vb xs) : Calls Tryd.prog 19 #[va, vb] w fun e w' => e = .returned (.bool true) ∧ Below w.heap.size w w' := by
  have q := rows_c ha hb
  rw [decide_eq_true rfl] at q
  exact q
end Go.Proofs.YtlllbacjdjllbaaDoor
