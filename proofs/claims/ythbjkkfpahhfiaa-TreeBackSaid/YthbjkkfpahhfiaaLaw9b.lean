
/- The laws on package tree: TreeBack. -/
import Derived.Test.YthbjkkfpahhfiaaTree7
namespace Go.Proofs.Ythbjkkfpahhfiaa
open Go Go.Proofs Go.RowKit
set_option linter.unusedVariables false
set_option linter.unusedSimpArgs false

theorem TrAt.len {w0 : World} {tb : Nat} {es : List E6} {W : World} (h : TrAt w0 tb es W) : Below w0.heap.size w0 W := h.2.1
/-- what a call of a method leaves of the facts: the tree, and what was held ahead of it. -/
theorem Keep.tr {w w1 W : World} {F : World → Prop} {tb : Nat} {es : List E6} (h : Keep w F w1) (ht : TrAt w1 tb es W) : Keep w F W := h.on ht.2.1
set_option maxRecDepth 100000 in
set_option maxHeartbeats 8000000 in
theorem TreeBack_core (v0 : Value) (x0 : List AC) (a1 : E6) (w : World) (w0 : RowK 7 w v0 (x0.map AC.cells)) (y0 : ∀ p ∈ x0, okAC p) (o1 : okE a1) :
    Calls Try.prog 5 #[v0, a1.val] w fun e w' => e = .returned (.bool true) ∧ Below w.heap.size w w' := by
  have m9 : maxLen = 9223372036854775807 := by decide
  obtain ⟨a, c, rfl, hac⟩ := w0.shape
  rw [List.length_map] at *
  have HM := Lib.hid (fun W (h : RowK 7 W (.slice a x0.length c) (x0.map AC.cells)) => may9_c x0 _ W h y0)
  have HI := Lib.hid (fun W => XIs_c a1.v W (by have := o1.1.2.2.2; rw [m9] at this; exact this))
  have H0 : Hid (Keep w (fun W => RowK 7 W (.slice a x0.length c) (x0.map AC.cells) ∧ Blk W w.heap.size a1.cells) (w.alloc (.cells a1.cells.toArray 37))) := Lib.hid ⟨⟨w0.alloc _, Blk.new _ _ _⟩, (Below.refl _ w).alloc (Nat.le_refl _) _, fun w' h => ⟨(w0.alloc _).below h, (Blk.new w _ _).below h⟩⟩
  have HA := Lib.hid (fun j (hj : j < x0.length) W1 tb es W (h : TrAt W1 tb es W) (hl : es.length ≤ 1099511627776) => AddT_c W1 tb es x0[j].x W h hl (y0 _ (List.getElem_mem hj)).2.1.2.2.1)
  have HAx := Lib.hid (fun W1 tb es P W (h : TrH W1 tb es P W) (hl : es.length ≤ 1099511627776) => AddH_c W1 tb es P a1 W h hl o1.1.2.2.1)
  have HDx := Lib.hid (fun W1 tb es P W (h : TrH W1 tb es P W) (hl : es.length ≤ 1099511627776) => DelH_c W1 tb es P a1 W h hl o1.1.2.2.1)
  have HFA : Hid (∀ es, foundE es a1 = true → addE es a1 = es) := Lib.hid (fun es h => by simp [addE, h])
  have HFI : Hid (∀ es, foundE es a1 = false → foundE (addE es a1) a1 = true ∧ remE (addE es a1) a1 = es ∧ (addE es a1).length = es.length + 1) := Lib.hid (fun es h => by
    obtain ⟨_, g2, g3⟩ := found_ins es a1
    have e : addE es a1 = insE es a1 := by simp [addE, h]
    have hl := addE_len es a1
    rw [h] at hl
    refine ⟨by rw [e]; exact g2, ?_, by simpa using hl⟩
    rw [e]; unfold remE; rw [g2, if_pos rfl, g3])
  have HFD : Hid (∀ es, Sorted es → foundE es a1 = true → foundE (remE es a1) a1 = false ∧ (remE es a1).length = es.length - 1 ∧ 1 ≤ es.length ∧ remE (remE es a1) a1 = remE es a1) := Lib.hid (fun es hs h => by
    have e : remE es a1 = delE es a1 := by simp [remE, h]
    have hl := remE_len es a1
    rw [h] at hl
    have g := found_del hs a1 h
    have := foundE_lt h
    refine ⟨by rw [e]; exact g, by simpa using hl, by omega, ?_⟩
    rw [e]; unfold remE; rw [g]; rfl)
  clear w0 y0 o1 m9 hac
  generalize mayA x0 = ma at *
  generalize isV a1.v = iv at *
  have hval : a1.val = (⟨a1.v, a1.id⟩ : E6).val := rfl
  obtain ⟨⟨k, b, n, f, t⟩, i⟩ := a1
  clear hval
  unfold E6.val at HAx HDx ⊢
  unfold V5.v at HI
  unfold E6.cells at H0
  dsimp only at H0 HAx HDx HI
  have hk := E6.facts H0.out.facts.2
  cases ma
  case false =>
    go_enter Try.func5, Try.ntmps5
    go_wp2_with (first | (go_at_call 22; (with_reducible refine (HM.out _ H0.out.facts.1).mono ?_); rintro e wq ⟨rfl, hq⟩; have HT := Lib.hid (Keep.on (Hid.out (by assumption)) hq); clear hq; skip))
    go_ret
    exact ⟨rfl, HT.out.below⟩
  cases iv
  case false =>
    go_enter Try.func5, Try.ntmps5
    go_wp2_with (first | (go_at_call 22; (with_reducible refine (HM.out _ H0.out.facts.1).mono ?_); rintro e wq ⟨rfl, hq⟩; have HT := Lib.hid (Keep.on (Hid.out (by assumption)) hq); clear hq; have hk := E6.facts HT.out.facts.2) | (go_at_call 23; (with_reducible refine (HI.out _).mono ?_); rintro e wq ⟨rfl, hq⟩; have HT := Lib.hid (Keep.on (Hid.out (by assumption)) hq); clear hq; skip))
    go_ret
    exact ⟨rfl, HT.out.below⟩
  go_enter Try.func5, Try.ntmps5
  go_wp2_with (first | (go_at_call 22; (with_reducible refine (HM.out _ H0.out.facts.1).mono ?_); rintro e wq ⟨rfl, hq⟩; have HT := Lib.hid (Keep.on (Hid.out (by assumption)) hq); clear hq; have hk := E6.facts HT.out.facts.2) | (go_at_call 23; (with_reducible refine (HI.out _).mono ?_); rintro e wq ⟨rfl, hq⟩; have HT := Lib.hid (Keep.on (Hid.out (by assumption)) hq); clear hq; skip) | (go_at_call 9; (with_reducible refine (New_c _).mono ?_); rintro e wz ⟨rfl, rfl⟩))
  have HN := Lib.hid (TrAt.new wq)
  generalize wq.alloc (.cells #[.slice none 0 0] 58) = W0 at *
  clear hk
  clear H0 HM HI
  go_loopw [6] (fun u wr => ∃ (j : Nat) (es : List E6), j ≤ x0.length ∧ j ≤ 120 ∧ es.length ≤ j ∧ u = .int .i64 (j : Int) ∧ TrAt wq wq.heap.size es wr) (fun u _ => x0.length - (intOf u).toNat)
  case atStart => exact ⟨0, [], by omega, by omega, by simp, rfl, HN.out⟩
  case round =>
    clear HN
    obtain ⟨j, es, hj, hj2, hes, rfl, ht⟩ := hrel
    have HR := Lib.hid ht
    clear ht
    have HK := Lib.hid (HT.out.on HR.out.2.1)
    by_cases hgo : j < x0.length ∧ j < 120
    · obtain ⟨hlt, h120⟩ := hgo
      obtain ⟨B, o, rfl, hB, hx⟩ := row_ac HK.out.facts.1 j hlt
      have HC := Lib.hid (fun W (h : TrAt wq wq.heap.size es W) => HA.out j hlt _ _ es W h (by omega))
      have HL := addE_len es x0[j].x
      have HL2 : (addE es x0[j].x).length ≤ j + 1 := by split at HL <;> omega
      clear HL
      generalize x0[j] = y at *
      obtain ⟨q, ⟨⟨k2, b2, n2, f2, t2⟩, i2⟩⟩ := y
      unfold E6.val at HC
      dsimp only at HC HL2
      have hk := AC.factsAt hx
      have hmi : (j : Int) < (x0.length : Int) := by omega
      have hmj : (j : Int) < 120 := by omega
      clear hx
      go_wp2_with (first | (go_at_call 13; (with_reducible refine (HC.out _ HR.out).mono ?_); rintro e wz ⟨rfl, hq⟩; have HR2 := Lib.hid hq; clear hq))
      go_roundw
      case rel => exact ⟨j + 1, _, by omega, by omega, HL2, by go_num, HR2.out⟩
      case measure => simp [intOf]; omega
    · clear HA
      have HAl := Lib.hid (fun W (h : TrAt wq wq.heap.size es W) => AllT_c wq _ es W h (by omega))
      have HSo := HR.out.2.2.2.1
      have HEx : Hid (∀ W (h : Keep w (fun W => RowK 7 W (.slice a x0.length c) (x0.map AC.cells) ∧ Blk W w.heap.size [.int .i64 k, .bool b, .int .i64 n, .float .f64 f, .string ⟨t.toArray⟩, .int .i64 i]) W), W.cell? ⟨w.heap.size, 0, none⟩ = some (.int .i64 k) ∧ W.cell? ⟨w.heap.size, 1, none⟩ = some (.bool b) ∧ W.cell? ⟨w.heap.size, 2, none⟩ = some (.int .i64 n) ∧ W.cell? ⟨w.heap.size, 3, none⟩ = some (.float .f64 f) ∧ W.cell? ⟨w.heap.size, 4, none⟩ = some (.string ⟨t.toArray⟩) ∧ W.cell? ⟨w.heap.size, 5, none⟩ = some (.int .i64 i)) := Lib.hid (fun W h => E6.facts h.facts.2)
      have hlen2 : es.length ≤ 120 := by omega
      clear hj hj2 hes
      have hno : (¬ (j : Int) < (x0.length : Int)) ∨ ((j : Int) < (x0.length : Int) ∧ ¬ (j : Int) < 120) := by omega
      clear hgo
      have hkn := Lib.hid (fun W => known9_c W)
      cases hf : foundE es ⟨⟨k, b, n, f, t⟩, i⟩
      · obtain ⟨g1, g2, g3⟩ := HFI.out es hf
        clear HFA HFD HFI
        have HA1 := Lib.hid (fun P W (h : TrH wq wq.heap.size es P W) => HAx.out _ _ es P W h (by omega))
        rw [hf] at HA1
        generalize addE es ⟨⟨k, b, n, f, t⟩, i⟩ = es1 at *
        have HL1 : Hid (∀ P W, TrH wq wq.heap.size es1 P W → Calls Try.prog 21 #[.pointer (some ⟨wq.heap.size, 0, none⟩)] W fun e w' => e = .returned (.int .i64 ((es.length : Int) + 1)) ∧ W = w') := Lib.hid (fun P W h => by have := LenT_c wq _ es1 W h.tr; rw [g3] at this; exact this)
        have HD1 := Lib.hid (fun P W (h : TrH wq wq.heap.size es1 P W) => HDx.out _ _ es1 P W h (by omega))
        rw [g1, g2] at HD1
        have HS := Lib.hid (fun W va vb (h1 : RowK 6 W va (es.map E6.cells)) (h2 : RowK 6 W vb (es.map E6.cells)) => Same9_c es va vb W h1 h2 (by omega))
        clear HAx HDx hf g1 g2 g3 HSo
        have hlw : (es.length : Int) ≤ 120 := by omega
        have hwr : (es.length : Int) + 1 ≤ 121 := by omega
        rcases hno with hno | ⟨hno, hno2⟩
        all_goals
          go_wp2_with (first
           | (go_at_call 16; (with_reducible refine (HAl.out _ HR.out).mono ?_); rintro e wz ⟨v', rfl, hown, hb⟩; obtain ⟨va, vc, rfl⟩ := owns_shape hown; have HH := Lib.hid (TrAt.hold HR.out hown hb); clear hown hb; have hkk := HEx.out _ (HT.out.on HH.out.below0))
           | (go_at_call 13; (with_reducible refine (HA1.out _ _ HH.out).mono ?_); rintro e wz ⟨rfl, hq⟩; have HH := Lib.hid hq; clear hq; have hkk := HEx.out _ (HT.out.on HH.out.below0))
           | (go_at_call 21; (with_reducible refine (HL1.out _ _ HH.out).mono ?_); rintro e wz ⟨rfl, rfl⟩)
           | (go_at_call 24; (with_reducible refine (HD1.out _ _ HH.out).mono ?_); rintro e wz ⟨rfl, hq⟩; have HH := Lib.hid hq; clear hq; have hkk := HEx.out _ (HT.out.on HH.out.below0))
           | (go_at_call 16; (with_reducible refine (HAl.out _ HH.out.tr).mono ?_); rintro e wz ⟨v2, rfl, hown, hb⟩; obtain ⟨va2, vc2, rfl⟩ := owns_shape hown; have HH := Lib.hid (HH.out.below hb); have HO := Lib.hid hown.row; clear hown hb)
           | (go_at_call 15; (with_reducible refine (HS.out _ _ _ HO.out HH.out.held).mono ?_); rintro e wz ⟨rfl, hq⟩; have HH := Lib.hid (HH.out.below hq); clear hq)
           | (go_at_call 19; (with_reducible refine (hkn.out _).mono ?_); rintro e wz ⟨rfl, hq⟩; have HH := Lib.hid (HH.out.below hq); clear hq))
          go_ret
          exact ⟨rfl, (HT.out.on HH.out.below0).below⟩
      · have g0 := HFA.out es hf
        obtain ⟨g1, g2, g3, g4⟩ := HFD.out es HSo hf
        clear HFA HFD HFI
        have HA1 := Lib.hid (fun P W (h : TrH wq wq.heap.size es P W) => HAx.out _ _ es P W h (by omega))
        have HD0 := Lib.hid (fun P W (h : TrH wq wq.heap.size es P W) => HDx.out _ _ es P W h (by omega))
        rw [hf, g0] at HA1
        rw [hf] at HD0
        generalize remE es ⟨⟨k, b, n, f, t⟩, i⟩ = es1 at *
        have HL1 : Hid (∀ P W, TrH wq wq.heap.size es1 P W → Calls Try.prog 21 #[.pointer (some ⟨wq.heap.size, 0, none⟩)] W fun e w' => e = .returned (.int .i64 ((es.length : Int) - 1)) ∧ W = w') := Lib.hid (fun P W h => by have := LenT_c wq _ es1 W h.tr; rw [g2, show ((es.length - 1 : Nat) : Int) = (es.length : Int) - 1 by omega] at this; exact this)
        have HD1 := Lib.hid (fun P W (h : TrH wq wq.heap.size es1 P W) => HDx.out _ _ es1 P W h (by omega))
        rw [g1, g4] at HD1
        clear HAx HDx hf g0 g1 g2 g4 HSo
        have hlw : (es.length : Int) ≤ 120 := by omega
        have hwr : 1 ≤ (es.length : Int) := by omega
        rcases hno with hno | ⟨hno, hno2⟩
        all_goals
          go_wp2_with (first
           | (go_at_call 16; (with_reducible refine (HAl.out _ HR.out).mono ?_); rintro e wz ⟨v', rfl, hown, hb⟩; obtain ⟨va, vc, rfl⟩ := owns_shape hown; have HH := Lib.hid (TrAt.hold HR.out hown hb); clear hown hb; have hkk := HEx.out _ (HT.out.on HH.out.below0))
           | (go_at_call 13; (with_reducible refine (HA1.out _ _ HH.out).mono ?_); rintro e wz ⟨rfl, hq⟩; have HH := Lib.hid hq; clear hq; have hkk := HEx.out _ (HT.out.on HH.out.below0))
           | (go_at_call 21; (with_reducible refine (HL1.out _ _ HH.out).mono ?_); rintro e wz ⟨rfl, rfl⟩)
           | (go_at_call 24; (with_reducible refine (HD0.out _ _ HH.out).mono ?_); rintro e wz ⟨rfl, hq⟩; have HH := Lib.hid hq; clear hq; have hkk := HEx.out _ (HT.out.on HH.out.below0))
           | (go_at_call 24; (with_reducible refine (HD1.out _ _ HH.out).mono ?_); rintro e wz ⟨rfl, hq⟩; have HH := Lib.hid hq; clear hq; have hkk := HEx.out _ (HT.out.on HH.out.below0))
           | (go_at_call 19; (with_reducible refine (hkn.out _).mono ?_); rintro e wz ⟨rfl, hq⟩; have HH := Lib.hid (HH.out.below hq); clear hq))
          go_ret
          exact ⟨rfl, (HT.out.on HH.out.below0).below⟩
end Go.Proofs.Ythbjkkfpahhfiaa
