/- Contracts of package shape: Joins, the closures, Is; the laws' known. -/
import Derived.Test.YtlgglkkafcbikaaDoorShape
import Derived.Deep.RegionHeld3
namespace Go.Proofs.YtlgglkkafcbikaaDoor
open Go Go.Proofs Go.RowKit
set_option linter.unusedVariables false
set_option linter.unusedSimpArgs false

@[go_sem] theorem run_store_func (P : Program) (w : World) (a : Addr) (f : Fn) (x y : Array Value) (m : Mode) : (store a (.func f x y) m).run P w = stored P w a (.func f x y) m := run_store P w a _ m rfl
theorem row_pn {w : World} {a : Option Addr} {n c : Nat} {ps : List PN} (h : RowK 12 w (.slice a n c) (ps.map PN.cells)) (j : Nat) (hj : j < ps.length) :
    ∃ B o, a = some ⟨B, o, none⟩ ∧ B < w.heap.size ∧ CellsAt w B (o + j * 12) ps[j].cells := by
  obtain ⟨B, o, h1, h2, h3⟩ := h.cells j (by simpa using hj)
  exact ⟨B, o, h1, h2, by simpa using h3⟩
theorem row_pe {w : World} {a : Option Addr} {n c : Nat} {ps : List PE} (h : RowK 4 w (.slice a n c) (ps.map PE.cells)) (j : Nat) (hj : j < ps.length) :
    ∃ B o, a = some ⟨B, o, none⟩ ∧ B < w.heap.size ∧ CellsAt w B (o + j * 4) ps[j].cells := by
  obtain ⟨B, o, h1, h2, h3⟩ := h.cells j (by simpa using hj)
  exact ⟨B, o, h1, h2, by simpa using h3⟩
theorem PE.factsAt {w : World} {B o : Nat} {a b : Int} {t : List UInt8} {e : Bool} (h : CellsAt w B o (⟨a, b, t, e⟩ : PE).cells) :
    w.cell? ⟨B, o, none⟩ = some (.int .i64 a) ∧ w.cell? ⟨B, o + 1, none⟩ = some (.int .i64 b) ∧ w.cell? ⟨B, o + 2, none⟩ = some (.string ⟨t.toArray⟩) ∧ w.cell? ⟨B, o + 3, none⟩ = some (.bool e) :=
  ⟨h.at 0 _ rfl, h.at 1 _ rfl, h.at 2 _ rfl, h.at 3 _ rfl⟩
theorem PN.factsAt {w : World} {g o : Nat} {l key : List UInt8} {k : Int} {b : Bool} {n : Int} {f : Nat} {t : List UInt8} {k' : Int} {b' : Bool} {n' : Int} {f' : Nat} {t' : List UInt8} (h : CellsAt w g o (⟨l, key, ⟨k, b, n, f, t⟩, ⟨k', b', n', f', t'⟩⟩ : PN).cells) :
    w.cell? ⟨g, o, none⟩ = some (.string ⟨l.toArray⟩) ∧ w.cell? ⟨g, o + 1, none⟩ = some (.string ⟨key.toArray⟩) ∧
    w.cell? ⟨g, o + 2, none⟩ = some (.int .i64 k) ∧ w.cell? ⟨g, o + 3, none⟩ = some (.bool b) ∧ w.cell? ⟨g, o + 4, none⟩ = some (.int .i64 n) ∧ w.cell? ⟨g, o + 5, none⟩ = some (.float .f64 f) ∧ w.cell? ⟨g, o + 6, none⟩ = some (.string ⟨t.toArray⟩) ∧
    w.cell? ⟨g, o + 7, none⟩ = some (.int .i64 k') ∧ w.cell? ⟨g, o + 8, none⟩ = some (.bool b') ∧ w.cell? ⟨g, o + 9, none⟩ = some (.int .i64 n') ∧ w.cell? ⟨g, o + 10, none⟩ = some (.float .f64 f') ∧ w.cell? ⟨g, o + 11, none⟩ = some (.string ⟨t'.toArray⟩) :=
  ⟨h.at 0 _ rfl, h.at 1 _ rfl, h.at 2 _ rfl, h.at 3 _ rfl, h.at 4 _ rfl, h.at 5 _ rfl, h.at 6 _ rfl, h.at 7 _ rfl, h.at 8 _ rfl, h.at 9 _ rfl, h.at 10 _ rfl, h.at 11 _ rfl⟩
theorem any_take {α : Type} (p : α → Bool) (l : List α) (j : Nat) (h : j < l.length) : (l.take (j + 1)).any p = ((l.take j).any p || p l[j]) := by
  rw [List.take_succ_eq_append_getElem h, List.any_append]; simp
theorem any_at {α : Type} (p : α → Bool) (l : List α) (j : Nat) (h : j < l.length) (hb : p l[j] = true) : l.any p = true := by
  rw [List.any_eq_true]; exact ⟨l[j], List.getElem_mem h, hb⟩
set_option maxHeartbeats 1000000 in
theorem IndexFuncE_c (ps : List PE) (sv : Value) (g : Nat) (pr : PE → Bool) (w : World) (hr : RowK 4 w sv (ps.map PE.cells)) (hf : ∀ p ∈ ps, ∀ W : World, Below w.heap.size w W → Calls Tryd.prog 26 #[p.v, .pointer (some ⟨g, 0, none⟩)] W (Gives W (.bool (pr p)))) :
    Calls Tryd.prog 43 #[sv, .func (Fn.func 26) #[] #[.pointer (some ⟨g, 0, none⟩)]] w fun e w' => (∃ i : Int, e = .returned (.int .i64 i) ∧ decide (0 ≤ i) = ps.any pr) ∧ Below w.heap.size w w' := by
  obtain ⟨a, c, rfl, hc⟩ := hr.shape
  have hml := hr.1
  have m9 : maxLen = 9223372036854775807 := by decide
  rw [m9] at hml
  rw [List.length_map] at hml hc hr ⊢
  have HR := Lib.hid hr
  have HF := Lib.hid hf
  clear hr hf m9 hc
  go_enter Tryd.func43, Tryd.ntmps43
  go_wp2_with fail
  go_loopw [8] (fun i wr => ∃ j : Nat, j ≤ ps.length ∧ i = .int .i64 (j : Int) ∧ (ps.take j).any pr = false ∧ Below w.heap.size w wr) (fun i _ => ps.length - (intOf i).toNat)
  case atStart => exact ⟨0, by omega, rfl, rfl, Below.refl _ w⟩
  case round =>
    obtain ⟨j, hj, rfl, ht, hbl⟩ := hrel
    have HBL := Lib.hid hbl
    by_cases hlt : j < ps.length
    · obtain ⟨B, o, rfl, hB, hx⟩ := row_pe (HR.out.below hbl) j hlt
      have HC := Lib.hid (HF.out ps[j] (List.getElem_mem hlt) wr hbl)
      have HT : Hid ((ps.take (j + 1)).any pr = pr ps[j]) := Lib.hid (by rw [any_take pr ps j hlt, ht, Bool.false_or])
      have HA := Lib.hid (any_at pr ps j hlt)
      clear ht hbl
      generalize pr ps[j] = r at *
      generalize ps[j] = y at *
      obtain ⟨a', b', t, e⟩ := y
      have hk := PE.factsAt hx
      unfold PE.v at HC
      clear hx
      go_wp2_with fail
      refine HC.out.mono ?_
      rintro e wq ⟨rfl, hq⟩
      have HQ := Lib.hid (HBL.out.trans (hq.mono HBL.out.size))
      clear hq hk
      cases r
      · go_wp2_with fail
        go_roundw
        case rel => exact ⟨j + 1, by omega, by go_num, HT.out, HQ.out⟩
        case measure => simp [intOf]; omega
      · go_wp2_with fail
        go_ret
        exact ⟨⟨_, rfl, by rw [HA.out (by first | rfl | trivial)]; simp⟩, HQ.out⟩
    · rw [List.take_of_length_le (by omega)] at ht
      have HT := Lib.hid ht
      clear ht hbl
      go_wp2_with fail
      go_ret
      exact ⟨⟨_, rfl, by rw [HT.out]; rfl⟩, HBL.out⟩
theorem ContainsFuncE_c (ps : List PE) (sv : Value) (g : Nat) (pr : PE → Bool) (w : World) (hr : RowK 4 w sv (ps.map PE.cells)) (hf : ∀ p ∈ ps, ∀ W : World, Below w.heap.size w W → Calls Tryd.prog 26 #[p.v, .pointer (some ⟨g, 0, none⟩)] W (Gives W (.bool (pr p)))) :
    Calls Tryd.prog 29 #[sv, .func (Fn.func 26) #[] #[.pointer (some ⟨g, 0, none⟩)]] w (Gives w (.bool (ps.any pr))) := by
  obtain ⟨a, c, rfl, _⟩ := hr.shape
  have HI := Lib.hid (IndexFuncE_c ps _ g pr w hr hf)
  clear hr hf
  generalize ps.any pr = r at *
  generalize (ps.map PE.cells).length = n at *
  go_enter Tryd.func29, Tryd.ntmps29
  go_wp2_with fail
  refine HI.out.mono ?_
  rintro e wq ⟨⟨i, rfl, hi⟩, hq⟩
  have HQ := Lib.hid hq
  clear hq
  go_wp2_with fail
  go_ret
  exact ⟨by first | rfl | (rw [← hi]; rfl), HQ.out⟩
set_option maxHeartbeats 1000000 in
theorem IndexFuncN_c (ps : List PN) (sv : Value)  (pr : PN → Bool) (w : World) (hr : RowK 12 w sv (ps.map PN.cells)) (hf : ∀ p ∈ ps, ∀ W : World, Below w.heap.size w W → Calls Tryd.prog 24 #[p.v] W (Gives W (.bool (pr p)))) :
    Calls Tryd.prog 42 #[sv, .func (Fn.func 24) #[] #[]] w fun e w' => (∃ i : Int, e = .returned (.int .i64 i) ∧ decide (0 ≤ i) = ps.any pr) ∧ Below w.heap.size w w' := by
  obtain ⟨a, c, rfl, hc⟩ := hr.shape
  have hml := hr.1
  have m9 : maxLen = 9223372036854775807 := by decide
  rw [m9] at hml
  rw [List.length_map] at hml hc hr ⊢
  have HR := Lib.hid hr
  have HF := Lib.hid hf
  clear hr hf m9 hc
  go_enter Tryd.func42, Tryd.ntmps42
  go_wp2_with fail
  go_loopw [8] (fun i wr => ∃ j : Nat, j ≤ ps.length ∧ i = .int .i64 (j : Int) ∧ (ps.take j).any pr = false ∧ Below w.heap.size w wr) (fun i _ => ps.length - (intOf i).toNat)
  case atStart => exact ⟨0, by omega, rfl, rfl, Below.refl _ w⟩
  case round =>
    obtain ⟨j, hj, rfl, ht, hbl⟩ := hrel
    have HBL := Lib.hid hbl
    by_cases hlt : j < ps.length
    · obtain ⟨B, o, rfl, hB, hx⟩ := row_pn (HR.out.below hbl) j hlt
      have HC := Lib.hid (HF.out ps[j] (List.getElem_mem hlt) wr hbl)
      have HT : Hid ((ps.take (j + 1)).any pr = pr ps[j]) := Lib.hid (by rw [any_take pr ps j hlt, ht, Bool.false_or])
      have HA := Lib.hid (any_at pr ps j hlt)
      clear ht hbl
      generalize pr ps[j] = r at *
      generalize ps[j] = y at *
      obtain ⟨l, key, ⟨k, b, n, f, t⟩, ⟨k', b', n', f', t'⟩⟩ := y
      have hk := PN.factsAt hx
      unfold PN.v at HC
      clear hx
      go_wp2_with fail
      refine HC.out.mono ?_
      rintro e wq ⟨rfl, hq⟩
      have HQ := Lib.hid (HBL.out.trans (hq.mono HBL.out.size))
      clear hq hk
      cases r
      · go_wp2_with fail
        go_roundw
        case rel => exact ⟨j + 1, by omega, by go_num, HT.out, HQ.out⟩
        case measure => simp [intOf]; omega
      · go_wp2_with fail
        go_ret
        exact ⟨⟨_, rfl, by rw [HA.out (by first | rfl | trivial)]; simp⟩, HQ.out⟩
    · rw [List.take_of_length_le (by omega)] at ht
      have HT := Lib.hid ht
      clear ht hbl
      go_wp2_with fail
      go_ret
      exact ⟨⟨_, rfl, by rw [HT.out]; rfl⟩, HBL.out⟩
theorem ContainsFuncN_c (ps : List PN) (sv : Value)  (pr : PN → Bool) (w : World) (hr : RowK 12 w sv (ps.map PN.cells)) (hf : ∀ p ∈ ps, ∀ W : World, Below w.heap.size w W → Calls Tryd.prog 24 #[p.v] W (Gives W (.bool (pr p)))) :
    Calls Tryd.prog 28 #[sv, .func (Fn.func 24) #[] #[]] w (Gives w (.bool (ps.any pr))) := by
  obtain ⟨a, c, rfl, _⟩ := hr.shape
  have HI := Lib.hid (IndexFuncN_c ps _  pr w hr hf)
  clear hr hf
  generalize ps.any pr = r at *
  generalize (ps.map PN.cells).length = n at *
  go_enter Tryd.func28, Tryd.ntmps28
  go_wp2_with fail
  refine HI.out.mono ?_
  rintro e wq ⟨⟨i, rfl, hi⟩, hq⟩
  have HQ := Lib.hid hq
  clear hq
  go_wp2_with fail
  go_ret
  exact ⟨by first | rfl | (rw [← hi]; rfl), HQ.out⟩
theorem place_c (a1 a2 : Option Addr) (n1 c1 n2 c2 gp : Nat) (i : Int) (w : World) (hp : Blk w gp [.slice a1 n1 c1, .slice a2 n2 c2]) :
    Calls Tryd.prog 23 #[.int .i64 i, .pointer (some ⟨gp, 0, none⟩)] w (Gives w (.bool (decide (0 ≤ i) && decide (i < n1)))) := by
  have d0 := hp.cell 0 _ rfl
  have d1 := hp.cell 1 _ rfl
  clear hp
  cases h1 : decide (0 ≤ i)
  all_goals
    go_enter Tryd.func23, Tryd.ntmps23
    go_wp2_with fail
    go_ret
    exact ⟨by first | rfl | simp, Below.refl _ w⟩
theorem badNode_c (p : PN) (w : World) (hl : p.len) : Calls Tryd.prog 24 #[p.v] w (Gives w (.bool (!okPN p))) := by
  have HN := Lib.hid (fun w => isNode_c p w hl)
  have H0 := Lib.hid (Keep.one w p.cells 48)
  clear hl
  generalize okPN p = r at *
  obtain ⟨l, key, ⟨k, b, n, f, t⟩, ⟨k', b', n', f', t'⟩⟩ := p
  unfold PN.v at *
  go_enter Tryd.func24, Tryd.ntmps24
  go_wp2_with fail
  refine (HN.out _).mono ?_
  rintro e wq ⟨rfl, hq⟩
  have HQ := Lib.hid (H0.out.on hq)
  clear hq
  go_wp2_with fail
  go_ret
  exact ⟨rfl, HQ.out.below⟩
theorem PE.facts {w : World} {g : Nat} {a b : Int} {t : List UInt8} {e : Bool} (h : Blk w g (⟨a, b, t, e⟩ : PE).cells) :
    w.cell? ⟨g, 0, none⟩ = some (.int .i64 a) ∧ w.cell? ⟨g, 1, none⟩ = some (.int .i64 b) ∧ w.cell? ⟨g, 2, none⟩ = some (.string ⟨t.toArray⟩) ∧ w.cell? ⟨g, 3, none⟩ = some (.bool e) :=
  ⟨h.cell 0 _ rfl, h.cell 1 _ rfl, h.cell 2 _ rfl, h.cell 3 _ rfl⟩
set_option maxHeartbeats 4000000 in
theorem badEdge_c (p : PE) (a1 a2 : Option Addr) (n1 c1 n2 c2 gp gl : Nat) (w : World) (hl : p.t.length ≤ 9223372036854775807) (hp : Blk w gp [.slice a1 n1 c1, .slice a2 n2 c2])
    (hg : Blk w gl [.func (Fn.func 23) #[] #[.pointer (some ⟨gp, 0, none⟩)]]) : Calls Tryd.prog 26 #[p.v, .pointer (some ⟨gl, 0, none⟩)] w (Gives w (.bool (!okPE n1 p))) := by
  have HN := Lib.hid (fun w => isName_c p.t w hl)
  have HA := Lib.hid (fun w h => place_c a1 a2 n1 c1 n2 c2 gp p.a w h)
  have HB := Lib.hid (fun w h => place_c a1 a2 n1 c1 n2 c2 gp p.b w h)
  have HE : Hid (okPE n1 p = (optB p.t && (decide (0 ≤ p.a) && decide (p.a < n1)) && (decide (0 ≤ p.b) && decide (p.b < n1)))) := Lib.hid rfl
  have H0 : Hid (Keep w (fun w' => Blk w' w.heap.size p.cells ∧ Blk w' gp [.slice a1 n1 c1, .slice a2 n2 c2] ∧ Blk w' gl [.func (Fn.func 23) #[] #[.pointer (some ⟨gp, 0, none⟩)]]) (w.alloc (.cells p.cells.toArray 34))) :=
    Lib.hid ⟨⟨Blk.new w _ _, hp.alloc _, hg.alloc _⟩, (Below.refl _ w).alloc (Nat.le_refl _) _, fun w' hb => ⟨(Blk.new w _ _).below hb, (hp.alloc _).below hb, (hg.alloc _).below hb⟩⟩
  have hgl : w.heap.size ≠ gl := Nat.ne_of_gt hg.lt
  have d0 := (hg.alloc (.cells p.cells.toArray 34)).cell 0 _ rfl
  clear hl hp hg
  generalize okPE n1 p = r at *
  generalize optB p.t = o1 at *
  generalize (decide (0 ≤ p.a) && decide (p.a < n1)) = o2 at *
  generalize (decide (0 ≤ p.b) && decide (p.b < n1)) = o3 at *
  obtain ⟨a', b', t, ee⟩ := p
  unfold PE.v
  cases o1
  case false =>
    have HV : Hid (r = false) := Lib.hid (by rw [HE.out]; rfl)
    go_enter Tryd.func26, Tryd.ntmps26
    go_wp2_with (first | (go_at_call 27; (with_reducible refine (HN.out _).mono ?_); rintro e wq ⟨rfl, hq⟩; have HT := Lib.hid (Keep.on (Hid.out (by assumption)) hq); clear hq; have hk := PE.facts HT.out.facts.1; have hg := HT.out.facts.2.2.cell 0 _ rfl))
    go_ret
    exact ⟨by rw [HV.out]; rfl, HT.out.below⟩
  cases o2
  case false =>
    have HV : Hid (r = false) := Lib.hid (by rw [HE.out]; rfl)
    go_enter Tryd.func26, Tryd.ntmps26
    go_wp2_with (first | (go_at_call 27; (with_reducible refine (HN.out _).mono ?_); rintro e wq ⟨rfl, hq⟩; have HT := Lib.hid (Keep.on (Hid.out (by assumption)) hq); clear hq; have hk := PE.facts HT.out.facts.1; have hg := HT.out.facts.2.2.cell 0 _ rfl) | (go_at_call 23; (with_reducible refine (HA.out _ HT.out.facts.2.1).mono ?_); rintro e wq ⟨rfl, hq⟩; have HT := Lib.hid (Keep.on (Hid.out (by assumption)) hq); clear hq; have hk := PE.facts HT.out.facts.1; have hg := HT.out.facts.2.2.cell 0 _ rfl))
    go_ret
    exact ⟨by rw [HV.out]; rfl, HT.out.below⟩
  cases o3
  case false =>
    have HV : Hid (r = false) := Lib.hid (by rw [HE.out]; rfl)
    go_enter Tryd.func26, Tryd.ntmps26
    go_wp2_with (first | (go_at_call 27; (with_reducible refine (HN.out _).mono ?_); rintro e wq ⟨rfl, hq⟩; have HT := Lib.hid (Keep.on (Hid.out (by assumption)) hq); clear hq; have hk := PE.facts HT.out.facts.1; have hg := HT.out.facts.2.2.cell 0 _ rfl) | (go_at_call 23; (with_reducible refine (HA.out _ HT.out.facts.2.1).mono ?_); rintro e wq ⟨rfl, hq⟩; have HT := Lib.hid (Keep.on (Hid.out (by assumption)) hq); clear hq; have hk := PE.facts HT.out.facts.1; have hg := HT.out.facts.2.2.cell 0 _ rfl) | (go_at_call 23; (with_reducible refine (HB.out _ HT.out.facts.2.1).mono ?_); rintro e wq ⟨rfl, hq⟩; have HT := Lib.hid (Keep.on (Hid.out (by assumption)) hq); clear hq; have hk := PE.facts HT.out.facts.1; have hg := HT.out.facts.2.2.cell 0 _ rfl))
    go_ret
    exact ⟨by rw [HV.out]; rfl, HT.out.below⟩
  case true =>
    have HV : Hid (r = true) := Lib.hid (by rw [HE.out]; rfl)
    go_enter Tryd.func26, Tryd.ntmps26
    go_wp2_with (first | (go_at_call 27; (with_reducible refine (HN.out _).mono ?_); rintro e wq ⟨rfl, hq⟩; have HT := Lib.hid (Keep.on (Hid.out (by assumption)) hq); clear hq; have hk := PE.facts HT.out.facts.1; have hg := HT.out.facts.2.2.cell 0 _ rfl) | (go_at_call 23; (with_reducible refine (HA.out _ HT.out.facts.2.1).mono ?_); rintro e wq ⟨rfl, hq⟩; have HT := Lib.hid (Keep.on (Hid.out (by assumption)) hq); clear hq; have hk := PE.facts HT.out.facts.1; have hg := HT.out.facts.2.2.cell 0 _ rfl) | (go_at_call 23; (with_reducible refine (HB.out _ HT.out.facts.2.1).mono ?_); rintro e wq ⟨rfl, hq⟩; have HT := Lib.hid (Keep.on (Hid.out (by assumption)) hq); clear hq; have hk := PE.facts HT.out.facts.1; have hg := HT.out.facts.2.2.cell 0 _ rfl))
    go_ret
    exact ⟨by rw [HV.out]; rfl, HT.out.below⟩
end Go.Proofs.YtlgglkkafcbikaaDoor
