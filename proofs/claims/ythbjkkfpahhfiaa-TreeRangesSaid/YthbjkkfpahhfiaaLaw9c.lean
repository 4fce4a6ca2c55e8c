
/- The laws on package tree: TreeRanges. -/
import Derived.Test.YthbjkkfpahhfiaaRef5
namespace Go.Proofs.Ythbjkkfpahhfiaa
open Go Go.Proofs Go.RowKit
set_option linter.unusedVariables false
set_option linter.unusedSimpArgs false

set_option maxRecDepth 100000 in
set_option maxHeartbeats 8000000 in
theorem TreeRanges_core (v0 : Value) (x0 : List AC) (a1 : V5) (a2 : V5) (w : World) (w0 : RowK 7 w v0 (x0.map AC.cells)) (y0 : ∀ p ∈ x0, okAC p) (o1 : okV a1) (o2 : okV a2) :
    Calls Try.prog 6 #[v0, a1.v, a2.v] w fun e w' => e = .returned (.bool true) ∧ Below w.heap.size w w' := by
  have m9 : maxLen = 9223372036854775807 := by decide
  obtain ⟨a, c, rfl, hac⟩ := w0.shape
  rw [List.length_map] at *
  have HM := Lib.hid (fun W (h : RowK 7 W (.slice a x0.length c) (x0.map AC.cells)) => may9_c x0 _ W h y0)
  have HI := Lib.hid (fun W => XIs_c a1 W (by have := o1.2.2.2; rw [m9] at this; exact this))
  have HI2 := Lib.hid (fun W => XIs_c a2 W (by have := o2.2.2.2; rw [m9] at this; exact this))
  have H0 : Hid (Keep w (fun W => RowK 7 W (.slice a x0.length c) (x0.map AC.cells) ∧ Blk W w.heap.size a1.cells ∧ Blk W (w.heap.size + 1) a2.cells) ((w.alloc (.cells a1.cells.toArray 32)).alloc (.cells a2.cells.toArray 32))) := by
    have b0 := (w0.alloc (.cells a1.cells.toArray 32)).alloc (.cells a2.cells.toArray 32)
    have b1 := (Blk.new w a1.cells 32).alloc (.cells a2.cells.toArray 32)
    have b2 := Blk.newAtT (w.alloc (.cells a1.cells.toArray 32)) a2.cells 32 (w.heap.size + 1) (by simp)
    exact Lib.hid ⟨⟨b0, b1, b2⟩, ((Below.refl _ w).alloc (Nat.le_refl _) _).alloc (by simp) _, fun w' hb => ⟨b0.below hb, b1.below hb, b2.below hb⟩⟩
  have HA := Lib.hid (fun j (hj : j < x0.length) W1 tb xb es xs W (h : TwoS W1 tb xb es xs W) (hl : es.length ≤ 1099511627776) => AddA_c W1 tb xb es xs x0[j].x W h hl (y0 _ (List.getElem_mem hj)).2.1.2.2.1)
  have HB := Lib.hid (fun j (hj : j < x0.length) W1 tb xb es xs W (h : TwoS W1 tb xb es xs W) (hl : xs.length ≤ 1099511627776) => AddB_c W1 tb xb es xs x0[j].x W h hl (y0 _ (List.getElem_mem hj)).2.1.2.2.1)
  have HC := Lib.hid (fun j (hj : j < x0.length) W1 tb xb es xs W (h : TwoS W1 tb xb es xs W) (hl : es.length ≤ 1099511627776) => DelA_c W1 tb xb es xs x0[j].x W h hl (y0 _ (List.getElem_mem hj)).2.1.2.2.1)
  have HD := Lib.hid (fun j (hj : j < x0.length) W1 tb xb es xs W (h : TwoS W1 tb xb es xs W) (hl : xs.length ≤ 1099511627776) => DelB_c W1 tb xb es xs x0[j].x W h hl (y0 _ (List.getElem_mem hj)).2.1.2.2.1)
  have HRA := Lib.hid (fun W1 tb xb es xs W (h : TwoS W1 tb xb es xs W) (hl : es.length ≤ 1099511627776) => RangeA_c W1 tb xb es xs a1 a2 W h hl o1.2.2.1 o2.2.2.1)
  have HRB := Lib.hid (fun W1 tb xb es xs W (h : TwoS W1 tb xb es xs W) (hl : xs.length ≤ 1099511627776) => RangeB_c W1 tb xb es xs a1 a2 W h hl o1.2.2.1 o2.2.2.1)
  have HRA1 := Lib.hid (fun W1 tb xb es xs W (h : TwoS W1 tb xb es xs W) (hl : es.length ≤ 1099511627776) => RangeA_c W1 tb xb es xs a1 a1 W h hl o1.2.2.1 o1.2.2.1)
  have HRB1 := Lib.hid (fun W1 tb xb es xs W (h : TwoS W1 tb xb es xs W) (hl : xs.length ≤ 1099511627776) => RangeB_c W1 tb xb es xs a1 a1 W h hl o1.2.2.1 o1.2.2.1)
  have HFL : Hid (∀ (es : List E6) (y z : V5), (es.filter (inE y z)).length ≤ es.length) := Lib.hid (fun es y z => List.length_filter_le _ _)
  clear w0 y0 o1 o2 m9 hac
  generalize mayA x0 = ma at *
  generalize isV a1 = iv at *
  generalize isV a2 = iv2 at *
  obtain ⟨k, b, n, f, t⟩ := a1
  obtain ⟨k', b', n', f', t'⟩ := a2
  unfold V5.v at HI HI2 HRA HRB HRA1 HRB1 ⊢
  unfold V5.cells at H0
  dsimp only at H0 HRA HRB HRA1 HRB1 HI HI2
  have HEx : Hid (∀ W (h : Keep w (fun W => RowK 7 W (.slice a x0.length c) (x0.map AC.cells) ∧ Blk W w.heap.size [.int .i64 k, .bool b, .int .i64 n, .float .f64 f, .string ⟨t.toArray⟩] ∧ Blk W (w.heap.size + 1) [.int .i64 k', .bool b', .int .i64 n', .float .f64 f', .string ⟨t'.toArray⟩]) W), (W.cell? ⟨w.heap.size, 0, none⟩ = some (.int .i64 k) ∧ W.cell? ⟨w.heap.size, 1, none⟩ = some (.bool b) ∧ W.cell? ⟨w.heap.size, 2, none⟩ = some (.int .i64 n) ∧ W.cell? ⟨w.heap.size, 3, none⟩ = some (.float .f64 f) ∧ W.cell? ⟨w.heap.size, 4, none⟩ = some (.string ⟨t.toArray⟩)) ∧ (W.cell? ⟨w.heap.size + 1, 0, none⟩ = some (.int .i64 k') ∧ W.cell? ⟨w.heap.size + 1, 1, none⟩ = some (.bool b') ∧ W.cell? ⟨w.heap.size + 1, 2, none⟩ = some (.int .i64 n') ∧ W.cell? ⟨w.heap.size + 1, 3, none⟩ = some (.float .f64 f') ∧ W.cell? ⟨w.heap.size + 1, 4, none⟩ = some (.string ⟨t'.toArray⟩))) := Lib.hid (fun W h => ⟨V5.factsB h.facts.2.1, V5.factsB h.facts.2.2⟩)
  have hk := HEx.out _ H0.out
  cases ma
  case false =>
    go_enter Try.func6, Try.ntmps6
    go_wp2_with (first | (go_at_call 22; (with_reducible refine (HM.out _ H0.out.facts.1).mono ?_); rintro e wq ⟨rfl, hq⟩; have HT := Lib.hid (Keep.on (Hid.out (by assumption)) hq); clear hq; skip))
    go_ret
    exact ⟨rfl, HT.out.below⟩
  cases iv
  case false =>
    go_enter Try.func6, Try.ntmps6
    go_wp2_with (first | (go_at_call 22; (with_reducible refine (HM.out _ H0.out.facts.1).mono ?_); rintro e wq ⟨rfl, hq⟩; have HT := Lib.hid (Keep.on (Hid.out (by assumption)) hq); clear hq; have hk := HEx.out _ HT.out) | (go_at_call 23; (with_reducible refine (HI.out _).mono ?_); rintro e wq ⟨rfl, hq⟩; have HT := Lib.hid (Keep.on (Hid.out (by assumption)) hq); clear hq; skip))
    go_ret
    exact ⟨rfl, HT.out.below⟩
  cases iv2
  case false =>
    go_enter Try.func6, Try.ntmps6
    go_wp2_with (first | (go_at_call 22; (with_reducible refine (HM.out _ H0.out.facts.1).mono ?_); rintro e wq ⟨rfl, hq⟩; have HT := Lib.hid (Keep.on (Hid.out (by assumption)) hq); clear hq; have hk := HEx.out _ HT.out) | (go_at_call 23; (with_reducible refine (HI.out _).mono ?_); rintro e wq ⟨rfl, hq⟩; have HT := Lib.hid (Keep.on (Hid.out (by assumption)) hq); clear hq; have hk := HEx.out _ HT.out) | (go_at_call 23; (with_reducible refine (HI2.out _).mono ?_); rintro e wq ⟨rfl, hq⟩; have HT := Lib.hid (Keep.on (Hid.out (by assumption)) hq); clear hq; skip))
    go_ret
    exact ⟨rfl, HT.out.below⟩
  go_enter Try.func6, Try.ntmps6
  go_wp2_with (first | (go_at_call 22; (with_reducible refine (HM.out _ H0.out.facts.1).mono ?_); rintro e wq ⟨rfl, hq⟩; have HT := Lib.hid (Keep.on (Hid.out (by assumption)) hq); clear hq; have hk := HEx.out _ HT.out) | (go_at_call 23; (with_reducible refine (HI.out _).mono ?_); rintro e wq ⟨rfl, hq⟩; have HT := Lib.hid (Keep.on (Hid.out (by assumption)) hq); clear hq; have hk := HEx.out _ HT.out) | (go_at_call 23; (with_reducible refine (HI2.out _).mono ?_); rintro e wq ⟨rfl, hq⟩; have HT := Lib.hid (Keep.on (Hid.out (by assumption)) hq); clear hq; skip) | (go_at_call 9; (with_reducible refine (New_c _).mono ?_); rintro e wz ⟨rfl, rfl⟩))
  have HN := Lib.hid (TwoS.start wq)
  generalize (wq.alloc (.cells #[.slice none 0 0] 58)).alloc (.cells #[.slice none 0 0] 29) = W0 at *
  clear hk H0 HM HI HI2
  go_loopw [9] (fun u wr => ∃ (j : Nat) (es : List E6), j ≤ x0.length ∧ j ≤ 120 ∧ es.length ≤ j ∧ u = .int .i64 (j : Int) ∧ TwoS wq wq.heap.size (wq.heap.size + 1) es es wr) (fun u _ => x0.length - (intOf u).toNat)
  case atStart => exact ⟨0, [], by omega, by omega, by simp, rfl, HN.out⟩
  case round =>
    clear HN
    obtain ⟨j, es, hj, hj2, hes, rfl, ht⟩ := hrel
    have HR := Lib.hid ht
    clear ht
    have HK := Lib.hid (HT.out.on HR.out.bel)
    by_cases hgo : j < x0.length ∧ j < 120
    · obtain ⟨hlt, h120⟩ := hgo
      obtain ⟨B, o, rfl, hB, hx⟩ := row_ac HK.out.facts.1 j hlt
      have HX := Lib.hid (fun W (h : RowK 7 W (.slice (some ⟨B, o, none⟩) x0.length c) (x0.map AC.cells)) => (row_ac h j hlt))
      have HXc : Hid (∀ W (h : RowK 7 W (.slice (some ⟨B, o, none⟩) x0.length c) (x0.map AC.cells)), CellsAt W B (o + j * 7) x0[j].cells) := Lib.hid (fun W h => by
        obtain ⟨B2, o2, e2, _, h2⟩ := HX.out W h
        simp only [Option.some.injEq, Addr.mk.injEq, and_true] at e2
        obtain ⟨rfl, rfl⟩ := e2
        exact h2)
      have HAj := Lib.hid (fun W (h : TwoS wq wq.heap.size (wq.heap.size + 1) es es W) => HA.out j hlt _ _ _ es es W h (by omega))
      have HBj := Lib.hid (fun es2 W (h : TwoS wq wq.heap.size (wq.heap.size + 1) es2 es W) => HB.out j hlt _ _ _ es2 es W h (by omega))
      have HCj := Lib.hid (fun W (h : TwoS wq wq.heap.size (wq.heap.size + 1) es es W) => HC.out j hlt _ _ _ es es W h (by omega))
      have HDj := Lib.hid (fun es2 W (h : TwoS wq wq.heap.size (wq.heap.size + 1) es2 es W) => HD.out j hlt _ _ _ es2 es W h (by omega))
      have hl1 := addE_len es x0[j].x
      have HL1 : Hid ((addE es x0[j].x).length ≤ j + 1) := Lib.hid (by split at hl1 <;> omega)
      have hl2 := remE_len es x0[j].x
      have HL2 : Hid ((remE es x0[j].x).length ≤ j + 1) := Lib.hid (by split at hl2 <;> omega)
      clear hl1 hl2 HX hx
      generalize x0[j] = y at *
      obtain ⟨q, ⟨⟨k2, b2, n2, f2, t2⟩, i2⟩⟩ := y
      unfold E6.val at HAj HBj HCj HDj
      dsimp only at HAj HBj HCj HDj HL1 HL2
      have hk := AC.factsAt (HXc.out _ HK.out.facts.1)
      have hmi : (j : Int) < (x0.length : Int) := by omega
      have hmj : (j : Int) < 120 := by omega
      by_cases hq1 : q = 1
      · subst hq1
        go_wp2_with (first
          | (go_at_call 13; (with_reducible refine (HAj.out _ HR.out).mono ?_); rintro e wz ⟨rfl, hq⟩; have HR2 := Lib.hid hq; clear hq; have HK := Lib.hid (HT.out.on HR2.out.bel); have hk := AC.factsAt (HXc.out _ HK.out.facts.1))
          | (go_at_call 14; (with_reducible refine (HBj.out _ _ HR2.out).mono ?_); rintro e wz ⟨rfl, hq⟩; have HR2 := Lib.hid hq; clear hq))
        go_roundw
        case rel => exact ⟨j + 1, _, by omega, by omega, HL1.out, by go_num, HR2.out⟩
        case measure => simp [intOf]; omega
      · have hqb : (q == 1) = false := by simpa using hq1
        go_wp2_with (first
          | (go_at_call 24; (with_reducible refine (HCj.out _ HR.out).mono ?_); rintro e wz ⟨rfl, hq⟩; have HR2 := Lib.hid hq; clear hq; have HK := Lib.hid (HT.out.on HR2.out.bel); have hk := AC.factsAt (HXc.out _ HK.out.facts.1))
          | (go_at_call 25; (with_reducible refine (HDj.out _ _ HR2.out).mono ?_); rintro e wz ⟨rfl, hq⟩; have HR2 := Lib.hid hq; clear hq))
        go_roundw
        case rel => exact ⟨j + 1, _, by omega, by omega, HL2.out, by go_num, HR2.out⟩
        case measure => simp [intOf]; omega
    · clear HA HB HC HD
      have hlen2 : es.length ≤ 120 := by omega
      have hno : (¬ (j : Int) < (x0.length : Int)) ∨ ((j : Int) < (x0.length : Int) ∧ ¬ (j : Int) < 120) := by omega
      clear hj hj2 hes hgo
      have HRA := Lib.hid (fun W (h : TwoS wq wq.heap.size (wq.heap.size + 1) es es W) => HRA.out _ _ _ es es W h (by omega))
      have HRB := Lib.hid (fun W (h : TwoS wq wq.heap.size (wq.heap.size + 1) es es W) => HRB.out _ _ _ es es W h (by omega))
      have HRA1 := Lib.hid (fun W (h : TwoS wq wq.heap.size (wq.heap.size + 1) es es W) => HRA1.out _ _ _ es es W h (by omega))
      have HRB1 := Lib.hid (fun W (h : TwoS wq wq.heap.size (wq.heap.size + 1) es es W) => HRB1.out _ _ _ es es W h (by omega))
      have HS := Lib.hid (fun (rs : List E6) (hl : rs.length ≤ es.length) W va vb (h1 : RowK 6 W va (rs.map E6.cells)) (h2 : RowK 6 W vb (rs.map E6.cells)) => Same9_c rs va vb W h1 h2 (by omega))
      have HS1 := Lib.hid (HS.out _ (HFL.out es ⟨k, b, n, f, t⟩ ⟨k', b', n', f', t'⟩))
      have HS2 := Lib.hid (HS.out _ (HFL.out es ⟨k, b, n, f, t⟩ ⟨k, b, n, f, t⟩))
      have hkn := Lib.hid (fun W => known9_c W)
      have HR := Lib.hid (HR.out.below (Below.refl _ _).drew)
      clear HK HFL HS
      rcases hno with hno | ⟨hno, hno2⟩
      all_goals
        go_wp2_with fail
        (first | go_region_held3 (fun w' => (w'.cell? ⟨w.heap.size, 0, none⟩ = some (.int .i64 k) ∧ w'.cell? ⟨w.heap.size, 1, none⟩ = some (.bool b) ∧ w'.cell? ⟨w.heap.size, 2, none⟩ = some (.int .i64 n) ∧ w'.cell? ⟨w.heap.size, 3, none⟩ = some (.float .f64 f) ∧ w'.cell? ⟨w.heap.size, 4, none⟩ = some (.string ⟨t.toArray⟩)) ∧ (w'.cell? ⟨w.heap.size + 1, 0, none⟩ = some (.int .i64 k') ∧ w'.cell? ⟨w.heap.size + 1, 1, none⟩ = some (.bool b') ∧ w'.cell? ⟨w.heap.size + 1, 2, none⟩ = some (.int .i64 n') ∧ w'.cell? ⟨w.heap.size + 1, 3, none⟩ = some (.float .f64 f') ∧ w'.cell? ⟨w.heap.size + 1, 4, none⟩ = some (.string ⟨t'.toArray⟩)))
          (exact HEx.out _ (HT.out.on HR.out.bel))
          (first
           | (go_at_call 17; (with_reducible refine (HRA.out _ HR.out).mono ?_); rintro e wz ⟨v', rfl, hown, hb⟩; obtain ⟨va, vc, rfl⟩ := owns_shape hown; have HR := Lib.hid (HR.out.below hb); have HO := Lib.hid hown.row; clear hown hb)
           | (go_at_call 18; (with_reducible refine (HRB.out _ HR.out).mono ?_); rintro e wz ⟨v', rfl, hown, hb⟩; obtain ⟨vb, vd, rfl⟩ := owns_shape hown; have HR := Lib.hid (HR.out.below hb); have HO := Lib.hid (HO.out.below hb); have HO2 := Lib.hid hown.row; clear hown hb)
           | (go_at_call 17; (with_reducible refine (HRA1.out _ HR.out).mono ?_); rintro e wz ⟨v', rfl, hown, hb⟩; obtain ⟨va, vc, rfl⟩ := owns_shape hown; have HR := Lib.hid (HR.out.below hb); have HO := Lib.hid hown.row; clear hown hb)
           | (go_at_call 18; (with_reducible refine (HRB1.out _ HR.out).mono ?_); rintro e wz ⟨v', rfl, hown, hb⟩; obtain ⟨vb, vd, rfl⟩ := owns_shape hown; have HR := Lib.hid (HR.out.below hb); have HO := Lib.hid (HO.out.below hb); have HO2 := Lib.hid hown.row; clear hown hb)
           | (go_at_call 15; (with_reducible refine (HS1.out _ _ _ HO.out HO2.out).mono ?_); rintro e wz ⟨rfl, hq⟩; have HR := Lib.hid (HR.out.below hq); clear hq)
           | (go_at_call 15; (with_reducible refine (HS2.out _ _ _ HO.out HO2.out).mono ?_); rintro e wz ⟨rfl, hq⟩; have HR := Lib.hid (HR.out.below hq); clear hq)
           | (go_at_call 19; (with_reducible refine (hkn.out _).mono ?_); rintro e wz ⟨rfl, hq⟩; have HR := Lib.hid (HR.out.below hq); clear hq)
           | fail) | fail)
        go_wp2_with fail
        go_ret
        exact ⟨rfl, (HT.out.on HR.out.bel).below⟩
end Go.Proofs.Ythbjkkfpahhfiaa
