
/- The laws on package tree: TreeReals. -/
import Derived.Test.YthbjkkfpahhfiaaRef5
namespace Go.Proofs.Ythbjkkfpahhfiaa
open Go Go.Proofs Go.RowKit
set_option linter.unusedVariables false
set_option linter.unusedSimpArgs false

@[go_sem] theorem run_frombits9 (k : Nat) (w : World) : (callFunc 12 #[.int .u64 (k : Int)]).run Try.prog w = .ok (.value (.float .f64 k)) w := by kernel_rfl
def vR (k : Nat) : V5 := ⟨3, false, 0, normN k, []⟩
set_option maxRecDepth 100000 in
theorem vR_c (k : Nat) (w : World) : Calls Try.prog 10 #[.int .u64 (k : Int)] w (Gives w (.agg #[.int .i64 3, .bool false, .int .i64 0, .float .f64 (normN k), .string ⟨#[]⟩])) := by
  have HN := Lib.hid (fun W => RNorm_c k W)
  go_enter Try.func10, Try.ntmps10
  go_wp2_with (first | (go_at_call 11; (with_reducible refine (HN.out _).mono ?_); rintro e wz ⟨rfl, rfl⟩))
  (try simp only [Exit.inBlock, Exit.then])
  refine bodyPost_ret (results_cell_row rfl _ _ w.heap.size 32 #[_, _, _, _, _] (0, 0) _ rfl (by rw [alloc_at, if_pos (by simp)]) Try.underlying32 rfl infoVal) rfl ?_
  exact ⟨rfl, (Below.refl _ w).alloc (Nat.le_refl _) _⟩
/-- two trees, and a block beside them. -/
def Two3 (B tb xb : Nat) (es xs : List E6) (g : Nat) (cs : List Value) (W : World) : Prop :=
  ∃ v u, TreeAt B tb W v es ∧ TreeAt B xb W u xs ∧ tb ≠ xb ∧ v.ownBlock ≠ some xb ∧ u.ownBlock ≠ some tb ∧ (∀ q, v.ownBlock = some q → u.ownBlock ≠ some q) ∧ Blk W g cs ∧ g ≠ tb ∧ g ≠ xb ∧ v.ownBlock ≠ some g ∧ u.ownBlock ≠ some g
theorem Two3.two {B tb xb g : Nat} {cs : List Value} {es xs : List E6} {W : World} (h : Two3 B tb xb es xs g cs W) : Two B tb xb es xs W := by
  obtain ⟨v, u, h1, h2, h3, h4, h5, h6, _⟩ := h
  exact ⟨v, u, h1, h2, h3, h4, h5, h6⟩
theorem Two3.blk {B tb xb g : Nat} {cs : List Value} {es xs : List E6} {W : World} (h : Two3 B tb xb es xs g cs W) : Blk W g cs := by
  obtain ⟨v, u, _, _, _, _, _, _, h, _⟩ := h
  exact h
theorem Two3.swap {B tb xb g : Nat} {cs : List Value} {es xs : List E6} {W : World} (h : Two3 B tb xb es xs g cs W) : Two3 B xb tb xs es g cs W := by
  obtain ⟨v, u, h1, h2, h3, h4, h5, h6, h7, h8, h9, h10, h11⟩ := h
  exact ⟨u, v, h2, h1, fun e => h3 e.symm, h5, h4, fun q hq hv => h6 q hv hq, h7, h9, h8, h11, h10⟩
theorem Two3.drew {B tb xb g : Nat} {cs : List Value} {es xs : List E6} {W : World} (h : Two3 B tb xb es xs g cs W) : Two3 B tb xb es xs g cs W.drew := h
theorem Two3.new {B tb xb : Nat} {es xs : List E6} {W : World} (h : Two B tb xb es xs W) (cs : List Value) (t : TypeId) : Two3 B tb xb es xs W.heap.size cs (W.alloc (.cells cs.toArray t)) := by
  obtain ⟨v, u, h1, h2, h3⟩ := h
  refine ⟨v, u, h1.below ((Below.refl _ W).alloc (Nat.le_refl _) _), h2.below ((Below.refl _ W).alloc (Nat.le_refl _) _), h3.1, h3.2.1, h3.2.2.1, h3.2.2.2, Blk.new W cs t, ?_, ?_, ?_, ?_⟩
  · have := h1.1.1; omega
  · have := h2.1.1; omega
  · intro e; have := (h1.2.lt _ e).2; omega
  · intro e; have := (h2.2.lt _ e).2; omega
theorem Two3.step {B tb xb g : Nat} {cs : List Value} {es xs : List E6} {W : World} (h : Two3 B tb xb es xs g cs W) : ∃ v, TreeAt B tb W v es ∧ ∀ r es' e w', TreeTo B tb W v r es' e w' → e = .returned r ∧ Two3 B tb xb es' xs g cs w' ∧ ∀ w0 : World, Below B w0 W → B ≤ w0.heap.size → B ≤ tb → Below B w0 w' := by
  obtain ⟨v, u, h1, h2, h3, h4, h5, h6, h7, h8, h9, h10, h11⟩ := h
  refine ⟨v, h1, fun r es' e w' h => ?_⟩
  obtain ⟨v', rfl, g1, gl, gc⟩ := h
  have hkb : Blk w' xb [u] := by
    obtain ⟨q1, t, q2⟩ := h2.1
    exact ⟨Nat.lt_of_lt_of_le q1 gc.size, t, (gc.block xb q1 (fun e => h3 e.symm) (fun e => h4 e.symm)).trans q2⟩
  have hkg : Blk w' g cs := by
    obtain ⟨q1, t, q2⟩ := h7
    exact ⟨Nat.lt_of_lt_of_le q1 gc.size, t, (gc.block g q1 h8 (fun e => h10 e.symm)).trans q2⟩
  have hu : OwnE B w' u xs := h2.2.held (fun k hk => gc.block k (h2.2.lt k hk.symm).2 (fun e => h5 (by rw [← hk, e])) (fun e => h6 k e.symm hk.symm))
  have hnew : ∀ k, k < W.heap.size → v.ownBlock ≠ some k → v'.ownBlock ≠ some k := fun k hk hv => by
    rcases gl with gl | ⟨q, hq, hq2⟩
    · rw [gl]; exact hv
    · rw [hq]; intro e; simp only [Option.some.injEq] at e; omega
  refine ⟨rfl, ⟨v', u, g1, ⟨hkb, hu⟩, h3, hnew xb h2.1.1 h4, h5, ?_, hkg, h8, h9, hnew g h7.1 h10, h11⟩, fun w0 hb h0 ht => ?_⟩
  · intro k hk hk2
    exact hnew k (h2.2.lt k hk2).2 (fun e => h6 k e hk2) hk
  · refine hb.trans ⟨gc.os, gc.tape, gc.output, gc.size, fun k hk => gc.block k (by have := hb.size; omega) (by omega) (fun he => ?_)⟩
    have := (h1.2.lt _ he.symm).1
    omega
/-- since the world w0. -/
def TwoS3 (w0 : World) (tb xb : Nat) (es xs : List E6) (g : Nat) (cs : List Value) (W : World) : Prop := Two3 w0.heap.size tb xb es xs g cs W ∧ TwoS w0 tb xb es xs W
theorem AddA3_c (w0 : World) (tb xb g : Nat) (cs : List Value) (es xs : List E6) (x : E6) (w : World) (h : TwoS3 w0 tb xb es xs g cs w) (hlen : es.length ≤ 1099511627776) (hx : okF x) :
    Calls Try.prog 13 #[.pointer (some ⟨tb, 0, none⟩), x.val] w fun e w' => e = .returned (.bool (!foundE es x)) ∧ TwoS3 w0 tb xb (addE es x) xs g cs w' := by
  obtain ⟨h3, h⟩ := h
  obtain ⟨v, h1, hs⟩ := h3.step
  refine (Add_c w0.heap.size tb es x v w h1 h.bel.size hlen h.oe hx (h.so.mono x)).mono fun e w' h' => ?_
  obtain ⟨r1, r2, r3⟩ := hs _ _ _ _ h'
  exact ⟨r1, r2, r2.two, r3 w0 h.bel (Nat.le_refl _) h.ht, h.ht, h.hx, h.so.add x, fun y hy => by rcases addE_mem hy with hy | rfl; exact h.oe y hy; exact hx, h.ox⟩
theorem AddB3_c (w0 : World) (tb xb g : Nat) (cs : List Value) (es xs : List E6) (x : E6) (w : World) (h : TwoS3 w0 tb xb es xs g cs w) (hlen : xs.length ≤ 1099511627776) (hx : okF x) :
    Calls Try.prog 14 #[.pointer (some ⟨xb, 0, none⟩), x.val] w fun e w' => e = .returned (.bool (!foundE xs x)) ∧ TwoS3 w0 tb xb es (addE xs x) g cs w' := by
  obtain ⟨h3, h⟩ := h
  obtain ⟨v, h1, hs⟩ := h3.swap.step
  refine (Add9_c w0.heap.size xb xs x v w h1 h.bel.size hlen h.ox hx).mono fun e w' h' => ?_
  obtain ⟨r1, r2, r3⟩ := hs _ _ _ _ h'
  exact ⟨r1, r2.swap, r2.swap.two, r3 w0 h.bel (Nat.le_refl _) h.hx, h.ht, h.hx, h.so, h.oe, fun y hy => by rcases addE_mem hy with hy | rfl; exact h.ox y hy; exact hx⟩
set_option maxRecDepth 100000 in
set_option maxHeartbeats 8000000 in
theorem TreeReals_core (v0 : Value) (x0 : List Nat) (a1 : Int) (a2 : Int) (w : World) (w0 : RowAt w v0 (x0.map (fun n : Nat => Value.int .u64 (n : Int)))) (y0 : ∀ n ∈ x0, n < 18446744073709551616) (w1 : (Lit.int .u64 a1).wf = true) (w2 : (Lit.int .u64 a2).wf = true) :
    Calls Try.prog 3 #[v0, .int .u64 a1, .int .u64 a2] w fun e w' => e = .returned (.bool true) ∧ Below w.heap.size w w' := by
  obtain ⟨p1, rfl, hp1⟩ := u64_nat w1
  obtain ⟨p2, rfl, hp2⟩ := u64_nat w2
  obtain ⟨a, c, rfl⟩ := w0.shape
  rw [List.length_map] at *
  have HV := Lib.hid vR_c
  have HA := Lib.hid (fun (j : Nat) (hj : j < x0.length) (id : Int) W1 tb xb g cs es xs W (h : TwoS3 W1 tb xb es xs g cs W) (hl : es.length ≤ 1099511627776) => AddA3_c W1 tb xb g cs es xs ⟨vR x0[j], id⟩ W h hl (normN_lt (y0 _ (List.getElem_mem hj))))
  have HB := Lib.hid (fun (j : Nat) (hj : j < x0.length) (id : Int) W1 tb xb g cs es xs W (h : TwoS3 W1 tb xb es xs g cs W) (hl : xs.length ≤ 1099511627776) => AddB3_c W1 tb xb g cs es xs ⟨vR x0[j], id⟩ W h hl (normN_lt (y0 _ (List.getElem_mem hj))))
  have HRA := Lib.hid (fun W1 tb xb es xs W (h : TwoS W1 tb xb es xs W) (hl : es.length ≤ 1099511627776) => RangeA_c W1 tb xb es xs (vR p1) (vR p2) W h hl (normN_lt hp1) (normN_lt hp2))
  have HRB := Lib.hid (fun W1 tb xb es xs W (h : TwoS W1 tb xb es xs W) (hl : xs.length ≤ 1099511627776) => RangeB_c W1 tb xb es xs (vR p1) (vR p2) W h hl (normN_lt hp1) (normN_lt hp2))
  have HFL : Hid (∀ (es : List E6), (es.filter (inE (vR p1) (vR p2))).length ≤ es.length) := Lib.hid (fun es => List.length_filter_le _ _)
  have HT : Hid (Keep w (fun W => RowAt W (.slice a x0.length c) (x0.map (fun n : Nat => Value.int .u64 (n : Int)))) w) := Lib.hid ⟨w0, Below.refl _ w, fun w' hb => w0.below hb⟩
  unfold E6.val vR at HA HB
  unfold V5.v vR at HRA HRB
  dsimp only at HA HB HRA HRB
  clear w0 y0 w1 w2 hp1 hp2
  by_cases hl100 : x0.length ≤ 100
  case neg =>
    go_enter Try.func3, Try.ntmps3
    go_wp2_with fail
    go_ret
    exact ⟨rfl, HT.out.below⟩
  go_enter Try.func3, Try.ntmps3
  go_wp2_with (first | (go_at_call 9; (with_reducible refine (New_c _).mono ?_); rintro e wz ⟨rfl, rfl⟩))
  have HN := Lib.hid (TwoS.start w)
  generalize (w.alloc (.cells #[.slice none 0 0] 58)).alloc (.cells #[.slice none 0 0] 29) = W0 at *
  go_loopw [10] (fun u wr => ∃ (j : Nat) (es : List E6), j ≤ x0.length ∧ es.length ≤ j ∧ u = .int .i64 (j : Int) ∧ TwoS w w.heap.size (w.heap.size + 1) es es wr) (fun u _ => x0.length - (intOf u).toNat)
  case atStart => exact ⟨0, [], by omega, by simp, rfl, HN.out⟩
  case round =>
    clear HN
    obtain ⟨j, es, hj, hes, rfl, ht⟩ := hrel
    have HR := Lib.hid ht
    clear ht
    have HK := Lib.hid (HT.out.on HR.out.bel)
    by_cases hlt : j < x0.length
    · obtain ⟨B, o, rfl, hB, hx⟩ := HK.out.facts.cellAt j (by simpa using hlt)
      simp only [List.getElem_map] at hx
      have hmi : (j : Int) < (x0.length : Int) := by omega
      have HAj := Lib.hid (fun id g cs W (h : TwoS3 w w.heap.size (w.heap.size + 1) es es g cs W) => HA.out j hlt id _ _ _ g cs es es W h (by omega))
      have HBj := Lib.hid (fun id es2 g cs W (h : TwoS3 w w.heap.size (w.heap.size + 1) es2 es g cs W) => HB.out j hlt id _ _ _ g cs es2 es W h (by omega))
      have HL : Hid (∀ id, (addE es ⟨⟨3, false, 0, normN x0[j], []⟩, id⟩).length ≤ j + 1) := Lib.hid (fun id => by have h := addE_len es ⟨⟨3, false, 0, normN x0[j], []⟩, id⟩; split at h <;> omega)
      clear HA HB HRA HRB
      generalize x0[j] = k at *
      generalize hid : bits .and .i64 (j : Int) 3 = id
      have HAj := Lib.hid (HAj.out id)
      have HBj := Lib.hid (HBj.out id)
      have HL := Lib.hid (HL.out id)
      generalize foundE es ⟨⟨3, false, 0, normN k, []⟩, id⟩ = fd at *
      generalize addE es ⟨⟨3, false, 0, normN k, []⟩, id⟩ = es2 at *
      go_wp2_with (first | (go_at_call 10; (with_reducible refine (HV.out _ _).mono ?_); rintro e wz ⟨rfl, hq⟩; have HR := Lib.hid (HR.out.below hq); clear hq))
      have HR3 : Hid (TwoS3 w w.heap.size (w.heap.size + 1) es es wz.heap.size [.int .i64 3, .bool false, .int .i64 0, .float .f64 (normN k), .string ⟨#[]⟩, .int .i64 id] (wz.alloc (.cells #[.int .i64 3, .bool false, .int .i64 0, .float .f64 (normN k), .string ⟨#[]⟩, .int .i64 id] 37)).drew) := Lib.hid ⟨(Two3.new HR.out.two [.int .i64 3, .bool false, .int .i64 0, .float .f64 (normN k), .string ⟨#[]⟩, .int .i64 id] 37).drew, HR.out.below ((Below.refl _ wz).alloc (Nat.le_refl _) _).drew⟩
      (first | go_region_held3 (fun w' => w'.cell? ⟨wz.heap.size, 0, none⟩ = some (.int .i64 3) ∧ w'.cell? ⟨wz.heap.size, 1, none⟩ = some (.bool false) ∧ w'.cell? ⟨wz.heap.size, 2, none⟩ = some (.int .i64 0) ∧ w'.cell? ⟨wz.heap.size, 3, none⟩ = some (.float .f64 (normN k)) ∧ w'.cell? ⟨wz.heap.size, 4, none⟩ = some (.string ⟨#[]⟩) ∧ w'.cell? ⟨wz.heap.size, 5, none⟩ = some (.int .i64 id))
        (exact E6.facts (t := []) HR3.out.1.blk)
        (first
         | (go_at_call 13; (with_reducible refine (HAj.out _ _ _ HR3.out).mono ?_); rintro e wy ⟨rfl, hq⟩; have HR3 := Lib.hid hq; clear hq)
         | (go_at_call 14; (with_reducible refine (HBj.out _ _ _ _ HR3.out).mono ?_); rintro e wy ⟨rfl, hq⟩; have HR3 := Lib.hid hq; clear hq)
         | fail))
      go_wp2_with fail
      go_roundw
      case rel => exact ⟨j + 1, es2, by omega, HL.out, by go_num, HR3.out.2⟩
      case measure => simp [intOf]; omega
    · have hno : ¬ (j : Int) < (x0.length : Int) := by omega
      have HRA := Lib.hid (fun W (h : TwoS w w.heap.size (w.heap.size + 1) es es W) => HRA.out _ _ _ es es W h (by omega))
      have HRB := Lib.hid (fun W (h : TwoS w w.heap.size (w.heap.size + 1) es es W) => HRB.out _ _ _ es es W h (by omega))
      have HAl := Lib.hid (fun W (h : TwoS w w.heap.size (w.heap.size + 1) es es W) => AllT_c w _ es W h.one (by omega))
      have HS := Lib.hid (fun (rs : List E6) (hl : rs.length ≤ es.length) W va vb (h1 : RowK 6 W va (rs.map E6.cells)) (h2 : RowK 6 W vb (rs.map E6.cells)) => Same9_c rs va vb W h1 h2 (by omega))
      have HS1 := Lib.hid (HS.out _ (HFL.out es))
      have HS0 := Lib.hid (HS.out es (Nat.le_refl _))
      have hkn := Lib.hid (fun W => known9_c W)
      obtain ⟨u, hu⟩ := HR.out.other
      obtain ⟨ua, uc, rfl⟩ := owns_shape hu.2
      have HU := Lib.hid (hu.below (Below.refl _ _).drew)
      have HR := Lib.hid (HR.out.below (Below.refl _ _).drew)
      clear HK HFL HS HA HB hu hj hes
      unfold vR at HS1
      generalize es.filter (inE ⟨3, false, 0, normN p1, []⟩ ⟨3, false, 0, normN p2, []⟩) = fs at *
      go_wp2_with fail
      (first | go_region_held3 (fun w' => w'.cell? ⟨w.heap.size + 1, 0, none⟩ = some (.slice ua es.length uc))
        (exact HU.out.1.cell 0 _ rfl)
        (first
         | (go_at_call 16; (with_reducible refine (HAl.out _ HR.out).mono ?_); rintro e wz ⟨v', rfl, hown, hb⟩; obtain ⟨va, vc, rfl⟩ := owns_shape hown; have HR := Lib.hid (HR.out.below hb); have HU := Lib.hid (HU.out.below hb); have HO := Lib.hid hown.row; clear hown hb)
         | (go_at_call 15; have HUr := Lib.hid HU.out.2.row; (with_reducible refine (HS0.out _ _ _ HO.out HUr.out).mono ?_); rintro e wz ⟨rfl, hq⟩; have HR := Lib.hid (HR.out.below hq); have HU := Lib.hid (HU.out.below hq); clear hq HO)
         | (go_at_call 10; (with_reducible refine (HV.out p1 _).mono ?_); rintro e wz ⟨rfl, hq⟩; have HR := Lib.hid (HR.out.below hq); have HU := Lib.hid (HU.out.below hq); (try (have HO := Lib.hid (HO.out.below hq))); clear hq)
         | (go_at_call 10; (with_reducible refine (HV.out p2 _).mono ?_); rintro e wz ⟨rfl, hq⟩; have HR := Lib.hid (HR.out.below hq); have HU := Lib.hid (HU.out.below hq); (try (have HO := Lib.hid (HO.out.below hq))); clear hq)
         | (go_at_call 17; (with_reducible refine (HRA.out _ HR.out).mono ?_); rintro e wz ⟨v', rfl, hown, hb⟩; obtain ⟨va, vc, rfl⟩ := owns_shape hown; have HR := Lib.hid (HR.out.below hb); have HU := Lib.hid (HU.out.below hb); have HO := Lib.hid hown.row; clear hown hb)
         | (go_at_call 18; (with_reducible refine (HRB.out _ HR.out).mono ?_); rintro e wz ⟨v', rfl, hown, hb⟩; obtain ⟨vb, vd, rfl⟩ := owns_shape hown; have HR := Lib.hid (HR.out.below hb); have HU := Lib.hid (HU.out.below hb); have HO := Lib.hid (HO.out.below hb); have HO2 := Lib.hid hown.row; clear hown hb)
         | (go_at_call 15; (with_reducible refine (HS1.out _ _ _ HO.out HO2.out).mono ?_); rintro e wz ⟨rfl, hq⟩; have HR := Lib.hid (HR.out.below hq); have HU := Lib.hid (HU.out.below hq); clear hq)
         | (go_at_call 19; (with_reducible refine (hkn.out _).mono ?_); rintro e wz ⟨rfl, hq⟩; have HR := Lib.hid (HR.out.below hq); have HU := Lib.hid (HU.out.below hq); clear hq)
         | fail))
      go_wp2_with fail
      go_ret
      exact ⟨rfl, HR.out.bel⟩
end Go.Proofs.Ythbjkkfpahhfiaa
