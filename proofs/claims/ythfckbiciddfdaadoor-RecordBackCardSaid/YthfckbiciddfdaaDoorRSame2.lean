
/- Contracts of the reference of chapter 10: SameWrites of what is alike. -/
import Derived.Test.YthfckbiciddfdaaDoorRSame
namespace Go.Proofs.YthfckbiciddfdaaDoor
open Go Go.Proofs Go.RowKit
set_option linter.unusedVariables false
set_option linter.unusedSimpArgs false

set_option maxRecDepth 100000 in
set_option maxHeartbeats 8000000 in
theorem RSameWrites_s (ps qs : List WV) (hxq : ps.map WV.x = qs.map WV.x) (v u : Value) (w : World) (hr : RowK 9 w v (ps.map WV.cells)) (hr' : RowK 9 w u (qs.map WV.cells)) (hrows : ∀ p ∈ ps, p.rows w) (hrows' : ∀ p ∈ qs, p.rows w)
    (hok : ∀ p ∈ ps, (∀ q ∈ p.x.ps, q.v.f < W64) ∧ p.x.ed.w < W64 ∧ p.x.ss.length ≤ 9223372036854775807 ∧ p.x.ps.length ≤ 9223372036854775807) (hlen : ps.length ≤ 9223372036854775807) :
    Calls Tryd.prog 18 #[v, u] w (Gives w (.bool true)) := by
  have hl : qs.length = ps.length := by have := congrArg List.length hxq; simpa using this.symm
  obtain ⟨a, c, rfl, _⟩ := hr.shape
  obtain ⟨b, d, rfl, _⟩ := hr'.shape
  rw [List.length_map] at hr hr' ⊢
  rw [List.length_map, hl] 
  rw [hl] at hr'
  have HT : Hid (Keep w (fun W => (((True ∧ RowK 9 W (.slice a ps.length c) (ps.map WV.cells)) ∧ RowK 9 W (.slice b ps.length d) (qs.map WV.cells)) ∧ ∀ p ∈ ps, p.rows W) ∧ ∀ p ∈ qs, p.rows W) w) :=
    Lib.hid ⟨⟨⟨⟨⟨trivial, hr⟩, hr'⟩, hrows⟩, hrows'⟩, Below.refl _ w, fun W hW => ⟨⟨⟨⟨trivial, hr.below hW⟩, hr'.below hW⟩, fun p hp => ⟨(hrows p hp).1.below hW, (hrows p hp).2.below hW⟩⟩, fun p hp => ⟨(hrows' p hp).1.below hW, (hrows' p hp).2.below hW⟩⟩⟩
  have HX : Hid (∀ j (h1 : j < ps.length) (h2 : j < qs.length), ps[j].x = qs[j].x) := Lib.hid (fun j h1 h2 => by
    have : (ps.map WV.x)[j]'(by simpa using h1) = (qs.map WV.x)[j]'(by simpa using h2) := by simp only [hxq]
    simpa using this)
  have HOK := Lib.hid hok
  have HL := Lib.hid hl
  have q1 : ((ps.length : Int) != (ps.length : Int)) = false := by simp
  clear hr hr' hrows hrows' hok hxq hl
  go_enter Tryd.func18, Tryd.ntmps18
  go_wp2_with fail
  go_loopw [5] (fun i wr => ∃ j : Nat, j ≤ ps.length ∧ i = .int .i64 (j : Int) ∧ Keep w (fun W => (((True ∧ RowK 9 W (.slice a ps.length c) (ps.map WV.cells)) ∧ RowK 9 W (.slice b ps.length d) (qs.map WV.cells)) ∧ ∀ p ∈ ps, p.rows W) ∧ ∀ p ∈ qs, p.rows W) wr) (fun i _ => ps.length - (intOf i).toNat)
  case atStart => exact ⟨0, by omega, rfl, HT.out⟩
  case round =>
    clear HT
    obtain ⟨j, hj, rfl, hT⟩ := hrel
    have HT := Lib.hid hT
    by_cases hlt : j < ps.length
    · have hltq : j < qs.length := by rw [HL.out]; exact hlt
      obtain ⟨B, o, hB1, hBl, hx⟩ := hT.facts.1.1.1.2.cells j (by simpa using hlt)
      obtain rfl : a = some ⟨B, o, none⟩ := hB1
      obtain ⟨B', o', hB1', hBl', hx'⟩ := hT.facts.1.1.2.cells j (by simpa using hltq)
      obtain rfl : b = some ⟨B', o', none⟩ := hB1'
      simp only [List.getElem_map] at hx hx'
      have hp := hT.facts.1.2 _ (List.getElem_mem hlt)
      have hq := hT.facts.2 _ (List.getElem_mem hltq)
      have hpq := HX.out j hlt hltq
      have hoj := HOK.out _ (List.getElem_mem hlt)
      generalize ps[j] = p at *
      generalize qs[j] = q at *
      obtain ⟨⟨e, id, g, ss, pr, ⟨ea, eb, et, ew⟩⟩, sa, sc, pa, pc⟩ := p
      obtain ⟨x', sa', sc', pa', pc'⟩ := q
      dsimp only at hpq
      subst hpq
      obtain ⟨k1, k2, k3, k4⟩ := hoj
      dsimp only at k1 k2 k3 k4
      have C1 := Lib.hid (fun W (h1 : RowAt W (.slice sa ss.length sc) (ss.map strV)) (h2 : RowK 6 W (.slice pa pr.length pc) (pr.map PR.cells)) (h3 : RowAt W (.slice sa' ss.length sc') (ss.map strV)) (h4 : RowK 6 W (.slice pa' pr.length pc') (pr.map PR.cells)) => RSame_s ss pr sa pa sa' pa' sc pc sc' pc' W h1 h2 h3 h4 k1 k3 k4)
      have C2 := Lib.hid (fun W => RSameEdge_s ⟨ea, eb, et, ew⟩ W k2)
      unfold ED.v at C2
      dsimp only at C2
      have HR : Hid (∀ W, Below wr.heap.size wr W → RowAt W (.slice sa ss.length sc) (ss.map strV) ∧ RowK 6 W (.slice pa pr.length pc) (pr.map PR.cells) ∧ RowAt W (.slice sa' ss.length sc') (ss.map strV) ∧ RowK 6 W (.slice pa' pr.length pc') (pr.map PR.cells)) := Lib.hid (fun W hW => ⟨hp.1.below hW, hp.2.below hW, hq.1.below hW, hq.2.below hW⟩)
      have HZ : Hid (∀ W, Below wr.heap.size wr W → _ ∧ _) := Lib.hid (fun W hW => ⟨facts9At (hx.below hW hBl), facts9At (hx'.below hW hBl')⟩)
      dsimp only at HZ
      have hz := HZ.out wr (Below.refl _ wr)
      have hj1 : (j : Int) < (ps.length : Int) := by omega
      have r1 : (e != e) = false := by cases e <;> rfl
      have r2 : (id != id) = false := by simp
      have r3 : (g != g) = false := by cases g <;> rfl
      have HB : Hid (Below wr.heap.size wr wr) := Lib.hid (Below.refl _ wr)
      clear hT hx hx' hp hq k1 k2 k3 k4
      replace HB : Hid (Below wr.heap.size wr wr.drew) := Lib.hid (below_drewN' wr 1)
      go_wp2_with fail
      dsimp only [List.append]
      go_region_held3 (fun W => (W.cell? ⟨B, o + j * 9, none⟩ = some (.bool e) ∧ W.cell? ⟨B, o + j * 9 + 1, none⟩ = some (.int .i64 id) ∧ W.cell? ⟨B, o + j * 9 + 2, none⟩ = some (.bool g) ∧ W.cell? ⟨B, o + j * 9 + 3, none⟩ = some (.slice sa ss.length sc) ∧ W.cell? ⟨B, o + j * 9 + 4, none⟩ = some (.slice pa pr.length pc) ∧ W.cell? ⟨B, o + j * 9 + 5, none⟩ = some (.int .i64 ea) ∧ W.cell? ⟨B, o + j * 9 + 6, none⟩ = some (.int .i64 eb) ∧ W.cell? ⟨B, o + j * 9 + 7, none⟩ = some (.string ⟨et.toArray⟩) ∧ W.cell? ⟨B, o + j * 9 + 8, none⟩ = some (.float .f64 ew)) ∧ (W.cell? ⟨B', o' + j * 9, none⟩ = some (.bool e) ∧ W.cell? ⟨B', o' + j * 9 + 1, none⟩ = some (.int .i64 id) ∧ W.cell? ⟨B', o' + j * 9 + 2, none⟩ = some (.bool g) ∧ W.cell? ⟨B', o' + j * 9 + 3, none⟩ = some (.slice sa' ss.length sc') ∧ W.cell? ⟨B', o' + j * 9 + 4, none⟩ = some (.slice pa' pr.length pc') ∧ W.cell? ⟨B', o' + j * 9 + 5, none⟩ = some (.int .i64 ea) ∧ W.cell? ⟨B', o' + j * 9 + 6, none⟩ = some (.int .i64 eb) ∧ W.cell? ⟨B', o' + j * 9 + 7, none⟩ = some (.string ⟨et.toArray⟩) ∧ W.cell? ⟨B', o' + j * 9 + 8, none⟩ = some (.float .f64 ew)))
        ((exact HZ.out _ HB.out))
        (first
          | (go_at_call 42; (with_reducible refine (C1.out _ (HR.out _ HB.out).1 (HR.out _ HB.out).2.1 (HR.out _ HB.out).2.2.1 (HR.out _ HB.out).2.2.2).mono ?_); rintro e' wq ⟨rfl, hq⟩; replace HB := Lib.hid (HB.out.trans (hq.mono HB.out.size)); clear hq)
          | (go_at_call 43; (with_reducible refine (C2.out _).mono ?_); rintro e' wq ⟨rfl, hq⟩; replace HB := Lib.hid (HB.out.trans (hq.mono HB.out.size)); clear hq))
      replace HT := Lib.hid (HT.out.on HB.out)
      clear HB HZ HR C1 C2 hz
      go_wp2_with fail
      go_roundw
      case rel => exact ⟨j + 1, by omega, by go_num, HT.out⟩
      case measure => simp [intOf]; omega
    · have hj1 : ¬ (j : Int) < (ps.length : Int) := by omega
      clear hT
      go_wp2_with fail
      go_ret
      exact ⟨rfl, HT.out.below⟩
end Go.Proofs.YthfckbiciddfdaaDoor
