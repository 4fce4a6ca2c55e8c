
/- The laws on package tree: TreePlays. -/
import Derived.Test.YthbjkkfpahhfiaaRef5
import Derived.Laws.MathBits
namespace Go.Proofs.Ythbjkkfpahhfiaa
open Go Go.Proofs Go.RowKit
set_option linter.unusedVariables false
set_option linter.unusedSimpArgs false

theorem DepthT_c (w0 : World) (tb : Nat) (es : List E6) (w : World) (h : TrAt w0 tb es w) (hlen : es.length ≤ 1099511627776) : Calls Try.prog 26 #[.pointer (some ⟨tb, 0, none⟩)] w fun e w' => e = .returned (.int .i64 (Lib.bitLen es.length)) ∧ w = w' := by
  obtain ⟨⟨v, h1⟩, _⟩ := h
  exact Depth_c _ tb es v w h1 hlen
theorem depth_facts (m : Nat) (hm : m ≤ 1099511627776) : 0 ≤ (Lib.bitLen m : Int) ∧ (Lib.bitLen m : Int) ≤ 64 ∧ ((m : Int) == 0) = ((Lib.bitLen m : Int) == 0) := by
  have h1 : Lib.bitLen m ≤ 64 := bitLenAux_le 64 m
  refine ⟨by omega, by omega, ?_⟩
  by_cases h0 : m = 0
  · subst h0; rfl
  · have h2 := Lib.bitLen_half m h0 (by omega)
    have e1 : ((m : Int) == 0) = false := by simpa using h0
    have e2 : ((Lib.bitLen m : Int) == 0) = false := by simp; omega
    rw [e1, e2]
set_option maxRecDepth 100000 in
set_option maxHeartbeats 8000000 in
theorem TreePlays_core (v0 : Value) (x0 : List AC) (w : World) (w0 : RowK 7 w v0 (x0.map AC.cells)) (y0 : ∀ p ∈ x0, okAC p) :
    Calls Try.prog 7 #[v0] w fun e w' => e = .returned (.bool true) ∧ Below w.heap.size w w' := by
  obtain ⟨a, c, rfl, hac⟩ := w0.shape
  rw [List.length_map] at *
  have HM := Lib.hid (fun W (h : RowK 7 W (.slice a x0.length c) (x0.map AC.cells)) => may9_c x0 _ W h y0)
  have H0 : Hid (Keep w (fun W => RowK 7 W (.slice a x0.length c) (x0.map AC.cells) ∧ True) w) := Lib.hid ⟨⟨w0, trivial⟩, Below.refl _ w, fun w' hb => ⟨w0.below hb, trivial⟩⟩
  have HA := Lib.hid (fun j (hj : j < x0.length) W1 tb xb es xs W (h : TwoS W1 tb xb es xs W) (hl : es.length ≤ 1099511627776) => AddA_c W1 tb xb es xs x0[j].x W h hl (y0 _ (List.getElem_mem hj)).2.1.2.2.1)
  have HB := Lib.hid (fun j (hj : j < x0.length) W1 tb xb es xs W (h : TwoS W1 tb xb es xs W) (hl : xs.length ≤ 1099511627776) => AddB_c W1 tb xb es xs x0[j].x W h hl (y0 _ (List.getElem_mem hj)).2.1.2.2.1)
  have HC := Lib.hid (fun j (hj : j < x0.length) W1 tb xb es xs W (h : TwoS W1 tb xb es xs W) (hl : es.length ≤ 1099511627776) => DelA_c W1 tb xb es xs x0[j].x W h hl (y0 _ (List.getElem_mem hj)).2.1.2.2.1)
  have HD := Lib.hid (fun j (hj : j < x0.length) W1 tb xb es xs W (h : TwoS W1 tb xb es xs W) (hl : xs.length ≤ 1099511627776) => DelB_c W1 tb xb es xs x0[j].x W h hl (y0 _ (List.getElem_mem hj)).2.1.2.2.1)
  clear w0 y0 hac
  generalize mayA x0 = ma at *
  cases ma
  case false =>
    go_enter Try.func7, Try.ntmps7
    go_wp2_with (first | (go_at_call 22; (with_reducible refine (HM.out _ H0.out.facts.1).mono ?_); rintro e wq ⟨rfl, hq⟩; have HT := Lib.hid (Keep.on (Hid.out (by assumption)) hq); clear hq; skip))
    go_ret
    exact ⟨rfl, HT.out.below⟩
  go_enter Try.func7, Try.ntmps7
  go_wp2_with (first | (go_at_call 22; (with_reducible refine (HM.out _ H0.out.facts.1).mono ?_); rintro e wq ⟨rfl, hq⟩; have HT := Lib.hid (Keep.on (Hid.out (by assumption)) hq); clear hq; skip) | (go_at_call 9; (with_reducible refine (New_c _).mono ?_); rintro e wz ⟨rfl, rfl⟩))
  have HN := Lib.hid (TwoS.start wq)
  generalize (wq.alloc (.cells #[.slice none 0 0] 58)).alloc (.cells #[.slice none 0 0] 29) = W0 at *
  clear H0 HM
  go_loopw [5] (fun u wr => ∃ (j : Nat) (es : List E6), j ≤ x0.length ∧ j ≤ 120 ∧ es.length ≤ j ∧ u = .int .i64 (j : Int) ∧ TwoS wq wq.heap.size (wq.heap.size + 1) es es wr) (fun u _ => x0.length - (intOf u).toNat)
  case atStart => exact ⟨0, [], by omega, by omega, by simp, rfl, HN.out⟩
  case round =>
    clear HN
    obtain ⟨j, es, hj, hj2, hes, rfl, ht⟩ := hrel
    have HR := Lib.hid ht
    clear ht
    have HK := Lib.hid (HT.out.on HR.out.bel)
    by_cases hgo : j < x0.length ∧ j < 120
    · obtain ⟨hlt, h120⟩ := hgo
      obtain ⟨B, o, rfl, hB, hx⟩ := row_ac HK.out.facts.1 j hlt
      have HX := Lib.hid (fun W (h : RowK 7 W (.slice (some ⟨B, o, none⟩) x0.length c) (x0.map AC.cells)) => (row_ac h j hlt))
      have HXc : Hid (∀ W (h : RowK 7 W (.slice (some ⟨B, o, none⟩) x0.length c) (x0.map AC.cells)), CellsAt W B (o + j * 7) x0[j].cells) := Lib.hid (fun W h => by
        obtain ⟨B2, o2, e2, _, h2⟩ := HX.out W h
        simp only [Option.some.injEq, Addr.mk.injEq, and_true] at e2
        obtain ⟨rfl, rfl⟩ := e2
        exact h2)
      have HAj := Lib.hid (fun W (h : TwoS wq wq.heap.size (wq.heap.size + 1) es es W) => HA.out j hlt _ _ _ es es W h (by omega))
      have HBj := Lib.hid (fun es2 W (h : TwoS wq wq.heap.size (wq.heap.size + 1) es2 es W) => HB.out j hlt _ _ _ es2 es W h (by omega))
      have HCj := Lib.hid (fun W (h : TwoS wq wq.heap.size (wq.heap.size + 1) es es W) => HC.out j hlt _ _ _ es es W h (by omega))
      have HDj := Lib.hid (fun es2 W (h : TwoS wq wq.heap.size (wq.heap.size + 1) es2 es W) => HD.out j hlt _ _ _ es2 es W h (by omega))
      have hl1 := addE_len es x0[j].x
      have HL1 : Hid ((addE es x0[j].x).length ≤ j + 1) := Lib.hid (by split at hl1 <;> omega)
      have hl2 := remE_len es x0[j].x
      have HL2 : Hid ((remE es x0[j].x).length ≤ j + 1) := Lib.hid (by split at hl2 <;> omega)
      clear hl1 hl2 HX hx HA HB HC HD
      generalize x0[j] = y at *
      obtain ⟨q, ⟨⟨k2, b2, n2, f2, t2⟩, i2⟩⟩ := y
      unfold E6.val at HAj HBj HCj HDj
      dsimp only at HAj HBj HCj HDj HL1 HL2
      generalize foundE es ⟨⟨k2, b2, n2, f2, t2⟩, i2⟩ = fd at *
      have hk := AC.factsAt (HXc.out _ HK.out.facts.1)
      have hmi : (j : Int) < (x0.length : Int) := by omega
      have hmj : (j : Int) < 120 := by omega
      have HR := Lib.hid (HR.out.below (Below.refl _ _).drew)
      by_cases hq1 : q = 1
      · subst hq1
        go_wp2_with fail
        (first | go_region_held3 (fun w' => w'.cell? ⟨B, o + j * 7, none⟩ = some (.int .i64 1) ∧ w'.cell? ⟨B, o + j * 7 + 1, none⟩ = some (.int .i64 k2) ∧ w'.cell? ⟨B, o + j * 7 + 2, none⟩ = some (.bool b2) ∧ w'.cell? ⟨B, o + j * 7 + 3, none⟩ = some (.int .i64 n2) ∧ w'.cell? ⟨B, o + j * 7 + 4, none⟩ = some (.float .f64 f2) ∧ w'.cell? ⟨B, o + j * 7 + 5, none⟩ = some (.string ⟨t2.toArray⟩) ∧ w'.cell? ⟨B, o + j * 7 + 6, none⟩ = some (.int .i64 i2))
          (exact AC.factsAt (HXc.out _ (HT.out.on HR.out.bel).facts.1))
          (first
           | (go_at_call 13; (with_reducible refine (HAj.out _ HR.out).mono ?_); rintro e wz ⟨rfl, hq⟩; have HR := Lib.hid hq; clear hq)
           | (go_at_call 14; (with_reducible refine (HBj.out _ _ HR.out).mono ?_); rintro e wz ⟨rfl, hq⟩; have HR := Lib.hid hq; clear hq)
           | fail) | fail)
        generalize addE es ⟨⟨k2, b2, n2, f2, t2⟩, i2⟩ = es2 at *
        have HL := HL1
        clear HL1 HL2 HAj HBj HCj HDj hk
        have hl120 : es2.length ≤ 120 := by have := HL.out; omega
        obtain ⟨u, hu⟩ := HR.out.other
        obtain ⟨ua, uc, rfl⟩ := owns_shape hu.2
        have HU := Lib.hid hu
        have hu0 := hu.1.cell 0 _ rfl
        clear hu
        have HAl := Lib.hid (fun W (h : TwoS wq wq.heap.size (wq.heap.size + 1) es2 es2 W) => AllT_c wq _ es2 W h.one (by omega))
        have HLn := Lib.hid (fun W (h : TwoS wq wq.heap.size (wq.heap.size + 1) es2 es2 W) => LenT_c wq _ es2 W h.one)
        have HDp := Lib.hid (fun W (h : TwoS wq wq.heap.size (wq.heap.size + 1) es2 es2 W) => DepthT_c wq _ es2 W h.one (by omega))
        have HDg := Lib.hid (fun W => digits_c es2.length W (by omega))
        have HSm := Lib.hid (fun W va vb (h1 : RowK 6 W va (es2.map E6.cells)) (h2 : RowK 6 W vb (es2.map E6.cells)) => Same9_c es2 va vb W h1 h2 (by omega))
        obtain ⟨hb0, hb1, hb2⟩ := depth_facts es2.length (by omega)
        have hb3 : IntKind.i64.wrap (2 * (Lib.bitLen es2.length : Int)) = 2 * (Lib.bitLen es2.length : Int) := by rw [IntKind.wrap_i64]; omega
        generalize (Lib.bitLen es2.length : Int) = bd at *
        have hb4 : decide (2 * bd < bd) = false := decide_eq_false (by omega)
        have hb5 : decide (bd < 0) = false := decide_eq_false (by omega)
        have hln0 : ((es2.length : Int) == 0) = (bd == 0) := hb2
        clear hb2
        obtain ⟨zz, hz1⟩ : ∃ zz, (bd == 0) = zz := ⟨_, rfl⟩
        rw [hz1] at hln0
        have hzz : (zz != zz) = false := by simp
        go_wp2_with (first | (go_at_call 26; (with_reducible refine (HDp.out _ HR.out).mono ?_); rintro e wz ⟨rfl, rfl⟩))
        have HR := Lib.hid (HR.out.below (Below.refl _ _).drew)
        have HU := Lib.hid (HU.out.below (Below.refl _ _).drew)
        go_region_held3 (fun w' => w'.cell? ⟨wq.heap.size + 1, 0, none⟩ = some (.slice ua es2.length uc))
          (exact HU.out.1.cell 0 _ rfl)
          (first
           | (go_at_call 16; (with_reducible refine (HAl.out _ HR.out).mono ?_); rintro e wz ⟨v', rfl, hown, hb⟩; obtain ⟨va, vc, rfl⟩ := owns_shape hown; have HR := Lib.hid (HR.out.below hb); have HU := Lib.hid (HU.out.below hb); have HO := Lib.hid hown.row; clear hown hb)
           | (go_at_call 15; have HUr := Lib.hid HU.out.2.row; (with_reducible refine (HSm.out _ _ _ HO.out HUr.out).mono ?_); rintro e wz ⟨rfl, hq⟩; have HR := Lib.hid (HR.out.below hq); have HU := Lib.hid (HU.out.below hq); clear hq)
           | (go_at_call 21; (with_reducible refine (HLn.out _ HR.out).mono ?_); rintro e wz ⟨rfl, rfl⟩)
           | (go_at_call 27; (with_reducible refine (HDg.out _).mono ?_); rintro e wz ⟨rfl, rfl⟩)
           | fail)
        go_wp2_with fail
        go_roundw
        case rel => exact ⟨j + 1, es2, by omega, by omega, HL.out, by go_num, HR.out⟩
        case measure => simp [intOf]; omega
      · have hqb : (q == 1) = false := by simpa using hq1
        go_wp2_with fail
        (first | go_region_held3 (fun w' => w'.cell? ⟨B, o + j * 7, none⟩ = some (.int .i64 q) ∧ w'.cell? ⟨B, o + j * 7 + 1, none⟩ = some (.int .i64 k2) ∧ w'.cell? ⟨B, o + j * 7 + 2, none⟩ = some (.bool b2) ∧ w'.cell? ⟨B, o + j * 7 + 3, none⟩ = some (.int .i64 n2) ∧ w'.cell? ⟨B, o + j * 7 + 4, none⟩ = some (.float .f64 f2) ∧ w'.cell? ⟨B, o + j * 7 + 5, none⟩ = some (.string ⟨t2.toArray⟩) ∧ w'.cell? ⟨B, o + j * 7 + 6, none⟩ = some (.int .i64 i2))
          (exact AC.factsAt (HXc.out _ (HT.out.on HR.out.bel).facts.1))
          (first
           | (go_at_call 24; (with_reducible refine (HCj.out _ HR.out).mono ?_); rintro e wz ⟨rfl, hq⟩; have HR := Lib.hid hq; clear hq)
           | (go_at_call 25; (with_reducible refine (HDj.out _ _ HR.out).mono ?_); rintro e wz ⟨rfl, hq⟩; have HR := Lib.hid hq; clear hq)
           | fail) | fail)
        generalize remE es ⟨⟨k2, b2, n2, f2, t2⟩, i2⟩ = es2 at *
        have HL := HL2
        clear HL1 HL2 HAj HBj HCj HDj hk
        have hl120 : es2.length ≤ 120 := by have := HL.out; omega
        obtain ⟨u, hu⟩ := HR.out.other
        obtain ⟨ua, uc, rfl⟩ := owns_shape hu.2
        have HU := Lib.hid hu
        have hu0 := hu.1.cell 0 _ rfl
        clear hu
        have HAl := Lib.hid (fun W (h : TwoS wq wq.heap.size (wq.heap.size + 1) es2 es2 W) => AllT_c wq _ es2 W h.one (by omega))
        have HLn := Lib.hid (fun W (h : TwoS wq wq.heap.size (wq.heap.size + 1) es2 es2 W) => LenT_c wq _ es2 W h.one)
        have HDp := Lib.hid (fun W (h : TwoS wq wq.heap.size (wq.heap.size + 1) es2 es2 W) => DepthT_c wq _ es2 W h.one (by omega))
        have HDg := Lib.hid (fun W => digits_c es2.length W (by omega))
        have HSm := Lib.hid (fun W va vb (h1 : RowK 6 W va (es2.map E6.cells)) (h2 : RowK 6 W vb (es2.map E6.cells)) => Same9_c es2 va vb W h1 h2 (by omega))
        obtain ⟨hb0, hb1, hb2⟩ := depth_facts es2.length (by omega)
        have hb3 : IntKind.i64.wrap (2 * (Lib.bitLen es2.length : Int)) = 2 * (Lib.bitLen es2.length : Int) := by rw [IntKind.wrap_i64]; omega
        generalize (Lib.bitLen es2.length : Int) = bd at *
        have hb4 : decide (2 * bd < bd) = false := decide_eq_false (by omega)
        have hb5 : decide (bd < 0) = false := decide_eq_false (by omega)
        have hln0 : ((es2.length : Int) == 0) = (bd == 0) := hb2
        clear hb2
        obtain ⟨zz, hz1⟩ : ∃ zz, (bd == 0) = zz := ⟨_, rfl⟩
        rw [hz1] at hln0
        have hzz : (zz != zz) = false := by simp
        go_wp2_with (first | (go_at_call 26; (with_reducible refine (HDp.out _ HR.out).mono ?_); rintro e wz ⟨rfl, rfl⟩))
        have HR := Lib.hid (HR.out.below (Below.refl _ _).drew)
        have HU := Lib.hid (HU.out.below (Below.refl _ _).drew)
        go_region_held3 (fun w' => w'.cell? ⟨wq.heap.size + 1, 0, none⟩ = some (.slice ua es2.length uc))
          (exact HU.out.1.cell 0 _ rfl)
          (first
           | (go_at_call 16; (with_reducible refine (HAl.out _ HR.out).mono ?_); rintro e wz ⟨v', rfl, hown, hb⟩; obtain ⟨va, vc, rfl⟩ := owns_shape hown; have HR := Lib.hid (HR.out.below hb); have HU := Lib.hid (HU.out.below hb); have HO := Lib.hid hown.row; clear hown hb)
           | (go_at_call 15; have HUr := Lib.hid HU.out.2.row; (with_reducible refine (HSm.out _ _ _ HO.out HUr.out).mono ?_); rintro e wz ⟨rfl, hq⟩; have HR := Lib.hid (HR.out.below hq); have HU := Lib.hid (HU.out.below hq); clear hq)
           | (go_at_call 21; (with_reducible refine (HLn.out _ HR.out).mono ?_); rintro e wz ⟨rfl, rfl⟩)
           | (go_at_call 27; (with_reducible refine (HDg.out _).mono ?_); rintro e wz ⟨rfl, rfl⟩)
           | fail)
        go_wp2_with fail
        go_roundw
        case rel => exact ⟨j + 1, es2, by omega, by omega, HL.out, by go_num, HR.out⟩
        case measure => simp [intOf]; omega
    · clear HA HB HC HD
      have hno : (¬ (j : Int) < (x0.length : Int)) ∨ ((j : Int) < (x0.length : Int) ∧ ¬ (j : Int) < 120) := by omega
      clear hj hj2 hes hgo
      have hkn := Lib.hid (fun W => known9_c W)
      rcases hno with hno | ⟨hno, hno2⟩
      all_goals
        go_wp2_with (first | (go_at_call 19; (with_reducible refine (hkn.out _).mono ?_); rintro e wz ⟨rfl, hq⟩; have HR := Lib.hid (HR.out.below hq); clear hq))
        go_ret
        exact ⟨rfl, (HT.out.on HR.out.bel).below⟩
end Go.Proofs.Ythbjkkfpahhfiaa
