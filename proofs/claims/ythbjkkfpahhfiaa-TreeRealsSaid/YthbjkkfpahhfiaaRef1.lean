
/- Contracts of package ligatureref9: order, at. -/
import Derived.Test.YthbjkkfpahhfiaaTree7
namespace Go.Proofs.Ythbjkkfpahhfiaa
open Go Go.Proofs Go.RowKit
set_option linter.unusedVariables false
set_option linter.unusedSimpArgs false

set_option maxRecDepth 100000 in
set_option maxHeartbeats 4000000 in
theorem order9_c (x y : E6) (w : World) (hx : okF x) (hy : okF y) : Calls Try.prog 45 #[x.val, y.val] w (Gives w (.int .i64 (ordE x y))) := by
  have HO : Hid (ordE x y = if cmpV x.v y.v = 0 then cmpI x.id y.id else cmpV x.v y.v) := Lib.hid rfl
  have HC := Lib.hid (fun w => XCmp_c x.v y.v w hx hy)
  have H0 : Hid (Keep w (fun W => Blk W w.heap.size x.cells ∧ Blk W (w.heap.size + 1) y.cells) ((w.alloc (.cells x.cells.toArray 37)).alloc (.cells y.cells.toArray 37))) := by
    have b1 := (Blk.new w x.cells 37).alloc (.cells y.cells.toArray 37)
    have b2 := Blk.newAtT (w.alloc (.cells x.cells.toArray 37)) y.cells 37 (w.heap.size + 1) (by simp)
    exact Lib.hid ⟨⟨b1, b2⟩, ((Below.refl _ w).alloc (Nat.le_refl _) _).alloc (by simp) _, fun w' hb => ⟨b1.below hb, b2.below hb⟩⟩
  clear hx hy
  generalize ordE x y = r at *
  generalize cmpV x.v y.v = c at *
  obtain ⟨⟨k, b, n, f, t⟩, i⟩ := x
  obtain ⟨⟨k', b', n', f', t'⟩, i'⟩ := y
  unfold E6.val
  unfold E6.cells at H0
  unfold V5.v at HC
  dsimp only at H0 HC HO
  have hk := E6.facts H0.out.facts.1
  have hk' := E6.facts H0.out.facts.2
  by_cases hc : c = 0
  · subst hc
    rw [if_pos rfl] at HO
    unfold cmpI at HO
    by_cases h1 : i < i'
    · rw [if_pos h1] at HO
      go_enter Try.func45, Try.ntmps45
      go_wp2_with (first | (go_at_call 46; (with_reducible refine (HC.out _).mono ?_); rintro e wq ⟨rfl, hq⟩; have HT := Lib.hid (Keep.on (Hid.out (by assumption)) hq); clear hq; have hk := E6.facts HT.out.facts.1; have hk' := E6.facts HT.out.facts.2))
      go_ret
      exact ⟨by rw [HO.out]; rfl, HT.out.below⟩
    · rw [if_neg h1] at HO
      by_cases h2 : i' < i
      · rw [if_pos h2] at HO
        go_enter Try.func45, Try.ntmps45
        go_wp2_with (first | (go_at_call 46; (with_reducible refine (HC.out _).mono ?_); rintro e wq ⟨rfl, hq⟩; have HT := Lib.hid (Keep.on (Hid.out (by assumption)) hq); clear hq; have hk := E6.facts HT.out.facts.1; have hk' := E6.facts HT.out.facts.2))
        go_ret
        exact ⟨by rw [HO.out]; rfl, HT.out.below⟩
      · rw [if_neg h2] at HO
        go_enter Try.func45, Try.ntmps45
        go_wp2_with (first | (go_at_call 46; (with_reducible refine (HC.out _).mono ?_); rintro e wq ⟨rfl, hq⟩; have HT := Lib.hid (Keep.on (Hid.out (by assumption)) hq); clear hq; have hk := E6.facts HT.out.facts.1; have hk' := E6.facts HT.out.facts.2))
        go_ret
        exact ⟨by rw [HO.out]; rfl, HT.out.below⟩
  · rw [if_neg hc] at HO
    have hcb : (c != 0) = true := by simpa using hc
    go_enter Try.func45, Try.ntmps45
    go_wp2_with (first | (go_at_call 46; (with_reducible refine (HC.out _).mono ?_); rintro e wq ⟨rfl, hq⟩; have HT := Lib.hid (Keep.on (Hid.out (by assumption)) hq); clear hq; have hk := E6.facts HT.out.facts.1; have hk' := E6.facts HT.out.facts.2))
    go_ret
    exact ⟨by rw [HO.out]; rfl, HT.out.below⟩
set_option maxRecDepth 100000 in
set_option maxHeartbeats 4000000 in
theorem at9_c (xb : Nat) (es : List E6) (x : E6) (xv : Value) (w : World) (hb : Blk w xb [xv]) (hr : RowK 6 w xv (es.map E6.cells)) (hf : ∀ e ∈ es, okF e) (hx : okF x) (hlen : es.length ≤ 1099511627776) :
    Calls Try.prog 32 #[.pointer (some ⟨xb, 0, none⟩), x.val] w (Gives w (.tuple #[.int .i64 (lbE es x : Int), .bool (foundE es x)])) := by
  obtain ⟨a, c, rfl, hcc⟩ := hr.shape
  rw [List.length_map] at hr hb hcc
  have H0 : Hid (Keep w (fun W => (Blk W xb [.slice a es.length c] ∧ RowK 6 W (.slice a es.length c) (es.map E6.cells)) ∧ Blk W w.heap.size x.cells) (w.alloc (.cells x.cells.toArray 37))) :=
    Lib.hid ⟨⟨⟨hb.alloc _, hr.alloc _⟩, Blk.new w _ _⟩, (Below.refl _ w).alloc (Nat.le_refl _) _, fun w' hb' => ⟨⟨(hb.alloc _).below hb', (hr.alloc _).below hb'⟩, (Blk.new w _ _).below hb'⟩⟩
  have HC := Lib.hid (fun j (hj : j < es.length) W => order9_c es[j] x W (hf _ (List.getElem_mem hj)) hx)
  have HLB := Lib.hid (lb_is es x)
  have HFD : Hid (foundE es x = match es[lbE es x]? with | some e => ordE e x == 0 | none => false) := Lib.hid rfl
  clear hr hb hf hx hcc
  generalize foundE es x = fd at *
  generalize lbE es x = lb at *
  obtain ⟨⟨k, b, n, f, t⟩, ix⟩ := x
  unfold E6.val at HC ⊢
  unfold E6.cells at H0
  dsimp only at H0 HC
  go_enter Try.func32, Try.ntmps32
  go_wp2_with fail
  go_loopw [6] (fun u wr => ∃ j : Nat, j ≤ es.length ∧ u = .int .i64 (j : Int) ∧ (∀ q (h : q < es.length), q < j → ordE es[q] ⟨⟨k, b, n, f, t⟩, ix⟩ < 0) ∧
     Keep w (fun W => (Blk W xb [.slice a es.length c] ∧ RowK 6 W (.slice a es.length c) (es.map E6.cells)) ∧ Blk W w.heap.size [.int .i64 k, .bool b, .int .i64 n, .float .f64 f, .string ⟨t.toArray⟩, .int .i64 ix]) wr) (fun u _ => es.length - (intOf u).toNat)
  case atStart => exact ⟨0, by omega, rfl, fun q h hq => by omega, H0.out⟩
  case round =>
    obtain ⟨j, hj, rfl, h1, hkp⟩ := hrel
    have HK := Lib.hid hkp
    have H1 := Lib.hid h1
    clear h1 hkp
    have hb0 := HK.out.facts.1.1.cell 0 _ rfl
    by_cases hlt : j < es.length
    · obtain ⟨B, o, rfl, hB, hx⟩ := row_e6 HK.out.facts.1.2 j hlt
      have HX := Lib.hid (fun W (h : RowK 6 W (.slice (some ⟨B, o, none⟩) es.length c) (es.map E6.cells)) => e6_at h j hlt)
      have HCj := Lib.hid (fun W => HC.out j hlt W)
      have HN : Hid (ordE es[j] ⟨⟨k, b, n, f, t⟩, ix⟩ < 0 → ∀ q (h : q < es.length), q < j + 1 → ordE es[q] ⟨⟨k, b, n, f, t⟩, ix⟩ < 0) := Lib.hid (fun h q hq hqj => by
        rcases Nat.lt_or_ge q j with h' | h'
        · exact H1.out q hq h'
        · obtain rfl : q = j := by omega
          exact h)
      have HE : Hid (¬ ordE es[j] ⟨⟨k, b, n, f, t⟩, ix⟩ < 0 → lb = j ∧ fd = (ordE es[j] ⟨⟨k, b, n, f, t⟩, ix⟩ == 0)) := Lib.hid (fun h => by
        have e := HLB.out j H1.out hj (fun _ => by omega)
        refine ⟨e, ?_⟩
        rw [HFD.out, e, List.getElem?_eq_getElem hlt])
      generalize ordE es[j] ⟨⟨k, b, n, f, t⟩, ix⟩ = om at *
      generalize es[j] = y at *
      obtain ⟨⟨k', b', n', f', t'⟩, i'⟩ := y
      dsimp only at HCj
      have hmi : (j : Int) < (es.length : Int) := by omega
      have HKd := Lib.hid HK.out.drew
      clear hx
      go_wp2_with fail
      (first | go_region_held3 (fun w' => (w'.cell? ⟨B, o + j * 6, none⟩ = some (.int .i64 k') ∧ w'.cell? ⟨B, o + j * 6 + 1, none⟩ = some (.bool b') ∧ w'.cell? ⟨B, o + j * 6 + 2, none⟩ = some (.int .i64 n') ∧ w'.cell? ⟨B, o + j * 6 + 3, none⟩ = some (.float .f64 f') ∧ w'.cell? ⟨B, o + j * 6 + 4, none⟩ = some (.string ⟨t'.toArray⟩) ∧ w'.cell? ⟨B, o + j * 6 + 5, none⟩ = some (.int .i64 i')) ∧ (w'.cell? ⟨w.heap.size, 0, none⟩ = some (.int .i64 k) ∧ w'.cell? ⟨w.heap.size, 1, none⟩ = some (.bool b) ∧ w'.cell? ⟨w.heap.size, 2, none⟩ = some (.int .i64 n) ∧ w'.cell? ⟨w.heap.size, 3, none⟩ = some (.float .f64 f) ∧ w'.cell? ⟨w.heap.size, 4, none⟩ = some (.string ⟨t.toArray⟩) ∧ w'.cell? ⟨w.heap.size, 5, none⟩ = some (.int .i64 ix)) ∧ w'.cell? ⟨xb, 0, none⟩ = some (.slice (some ⟨B, o, none⟩) es.length c))
        (exact ⟨E6.factsAt (HX.out _ HKd.out.facts.1.2), E6.facts HKd.out.facts.2, HKd.out.facts.1.1.cell 0 _ rfl⟩)
        (first | (go_at_call 45; (with_reducible refine (HCj.out _).mono ?_); rintro e wq ⟨rfl, hq⟩; have HKd := Lib.hid (Keep.on HKd.out hq); clear hq) | fail) | fail)
      by_cases hom : om < 0
      · have HN2 := Lib.hid (HN.out hom)
        clear HN HE
        have hng : ¬ 0 ≤ om := by omega
        go_wp2_with fail
        go_roundw
        case rel => exact ⟨j + 1, by omega, by go_num, HN2.out, HKd.out⟩
        case measure => simp [intOf]; omega
      · obtain ⟨g1, g2⟩ := HE.out (by omega)
        have G1 := Lib.hid g1
        have G2 := Lib.hid g2
        clear HN HE g1 g2
        have hng : 0 ≤ om := by omega
        go_wp2_with fail
        go_ret2
        exact ⟨by rw [G1.out, G2.out]; rfl, HKd.out.below⟩
    · obtain rfl : j = es.length := by omega
      have G1 : Hid (lb = es.length) := Lib.hid (HLB.out es.length H1.out (Nat.le_refl _) (fun h => absurd h (Nat.lt_irrefl _)))
      have G2 : Hid (fd = false) := Lib.hid (by rw [HFD.out, G1.out, List.getElem?_eq_none (Nat.le_refl _)])
      go_wp2_with fail
      go_ret2
      exact ⟨by rw [G1.out, G2.out]; rfl, HK.out.below⟩
end Go.Proofs.Ythbjkkfpahhfiaa
