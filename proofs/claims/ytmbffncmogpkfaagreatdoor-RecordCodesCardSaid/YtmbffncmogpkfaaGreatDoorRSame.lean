
/- Contracts of the reference of chapter 10: SameVal, SameEdge, Same, SameWrites of what is alike. -/
import Derived.Test.YtmbffncmogpkfaaGreatDoorEnc2
import Derived.Test.YtmbffncmogpkfaaGreatDoorRowN
namespace Go.Proofs.YtmbffncmogpkfaaGreatDoor
open Go Go.Proofs Go.RowKit
set_option linter.unusedVariables false
set_option linter.unusedSimpArgs false

set_option maxHeartbeats 4000000 in
theorem RSameEdge_s (x : ED) (w : World) (hx : x.w < W64) : Calls Tryz.prog 36 #[x.v, x.v] w (Gives w (.bool true)) := by
  have HC := Lib.hid (fun W => RCmp_c x.w x.w hx hx W)
  rw [cmpN_self] at HC
  clear hx
  obtain ⟨a, b, t, f⟩ := x
  unfold ED.v
  dsimp only at HC
  have h1 : (a == a) = true := by simp
  have h2 : (b == b) = true := by simp
  have h3 : (t == t) = true := by simp
  go_enter Tryz.func36, Tryz.ntmps36
  go_wp2_with (first | (go_at_call 60; (with_reducible refine (HC.out _).mono ?_); rintro e wz ⟨rfl, rfl⟩))
  go_ret
  exact ⟨by first | rfl | simp, ((Below.refl _ w).alloc (Nat.le_refl _) _).alloc (by simp) _⟩
set_option maxHeartbeats 4000000 in
theorem RSameVal_s (x : V5) (w : World) (hx : x.f < W64) : Calls Tryz.prog 59 #[x.v, x.v] w (Gives w (.bool true)) := by
  have HC := Lib.hid (fun W => RCmp_c x.f x.f hx hx W)
  rw [cmpN_self] at HC
  clear hx
  obtain ⟨k, b, n, f, t⟩ := x
  unfold V5.v
  dsimp only at HC
  have h1 : (k == k) = true := by simp
  have h2 : (b == b) = true := by simp
  have h3 : (n == n) = true := by simp
  have h4 : (t == t) = true := by simp
  go_enter Tryz.func59, Tryz.ntmps59
  go_wp2_with (first | (go_at_call 60; (with_reducible refine (HC.out _).mono ?_); rintro e wz ⟨rfl, rfl⟩))
  go_ret
  exact ⟨by first | rfl | simp, ((Below.refl _ w).alloc (Nat.le_refl _) _).alloc (by simp) _⟩
theorem below_drewN' (w : World) (n : Nat) : Below w.heap.size w (w.drewN n) := ⟨rfl, rfl, rfl, Nat.le_refl _, fun _ _ => rfl⟩
set_option maxRecDepth 100000 in
set_option maxHeartbeats 8000000 in
theorem RSame_s (ss : List (List UInt8)) (ps : List PR) (a1 a2 b1 b2 : Option Addr) (c1 c2 d1 d2 : Nat) (w : World) (h1 : RowAt w (.slice a1 ss.length c1) (ss.map strV)) (h2 : RowK 6 w (.slice a2 ps.length c2) (ps.map PR.cells)) (k1 : RowAt w (.slice b1 ss.length d1) (ss.map strV)) (k2 : RowK 6 w (.slice b2 ps.length d2) (ps.map PR.cells))
    (hf : ∀ p ∈ ps, p.v.f < W64) (hs : ss.length ≤ 9223372036854775807) (hp : ps.length ≤ 9223372036854775807) :
    Calls Tryz.prog 35 #[.agg #[.slice a1 ss.length c1, .slice a2 ps.length c2], .agg #[.slice b1 ss.length d1, .slice b2 ps.length d2]] w (Gives w (.bool true)) := by
  obtain ⟨w1, hw1⟩ : ∃ w1, w1 = (w.alloc (.cells #[.slice a1 ss.length c1, .slice a2 ps.length c2] 43)).alloc (.cells #[.slice b1 ss.length d1, .slice b2 ps.length d2] 43) := ⟨_, rfl⟩
  have hB1 : Below w.heap.size w w1 := by rw [hw1]; exact ((Below.refl _ w).alloc (Nat.le_refl _) _).alloc (by simp) _
  have hk1 : Blk w1 w.heap.size [.slice a1 ss.length c1, .slice a2 ps.length c2] := by rw [hw1]; exact (Blk.new w [.slice a1 ss.length c1, .slice a2 ps.length c2] _).alloc _
  have hk2 : Blk w1 (w.heap.size + 1) [.slice b1 ss.length d1, .slice b2 ps.length d2] := by rw [hw1]; exact Blk.newAt _ _ _ _ (by simp)
  have HT : Hid (Keep w (fun W => (((((True ∧ RowAt W (.slice a1 ss.length c1) (ss.map strV)) ∧ RowK 6 W (.slice a2 ps.length c2) (ps.map PR.cells)) ∧ RowAt W (.slice b1 ss.length d1) (ss.map strV)) ∧ RowK 6 W (.slice b2 ps.length d2) (ps.map PR.cells)) ∧ Blk W w.heap.size [.slice a1 ss.length c1, .slice a2 ps.length c2]) ∧ Blk W (w.heap.size + 1) [.slice b1 ss.length d1, .slice b2 ps.length d2]) w1) :=
    Lib.hid ⟨⟨⟨⟨⟨⟨⟨trivial, h1.below hB1⟩, h2.below hB1⟩, k1.below hB1⟩, k2.below hB1⟩, hk1⟩, hk2⟩, hB1, fun W hW => ⟨⟨⟨⟨⟨⟨trivial, (h1.below hB1).below hW⟩, (h2.below hB1).below hW⟩, (k1.below hB1).below hW⟩, (k2.below hB1).below hW⟩, hk1.below hW⟩, hk2.below hW⟩⟩
  have HF := Lib.hid hf
  have e0 := hk1.cell 0 _ rfl
  have e1 := hk1.cell 1 _ rfl
  have e2 := hk2.cell 0 _ rfl
  have e3 := hk2.cell 1 _ rfl
  have q1 : ((ss.length : Int) != (ss.length : Int)) = false := by simp
  have q2 : ((ps.length : Int) != (ps.length : Int)) = false := by simp
  clear h1 h2 k1 k2 hf hB1 hk1 hk2
  go_enter Tryz.func35, Tryz.ntmps35
  rw [hw1] at e0 e1 e2 e3
  go_wp2_with fail
  rw [← hw1] at e0 e1 e2 e3 ⊢
  clear hw1 e0 e1 e2 e3
  go_loopw [5] (fun i wr => ∃ j : Nat, j ≤ ss.length ∧ i = .int .i64 (j : Int) ∧ Keep w (fun W => (((((True ∧ RowAt W (.slice a1 ss.length c1) (ss.map strV)) ∧ RowK 6 W (.slice a2 ps.length c2) (ps.map PR.cells)) ∧ RowAt W (.slice b1 ss.length d1) (ss.map strV)) ∧ RowK 6 W (.slice b2 ps.length d2) (ps.map PR.cells)) ∧ Blk W w.heap.size [.slice a1 ss.length c1, .slice a2 ps.length c2]) ∧ Blk W (w.heap.size + 1) [.slice b1 ss.length d1, .slice b2 ps.length d2]) wr) (fun i _ => ss.length - (intOf i).toNat)
  case atStart => exact ⟨0, by omega, rfl, HT.out⟩
  case round =>
    clear HT
    obtain ⟨j, hj, rfl, hT⟩ := hrel
    have HT := Lib.hid hT
    have e0 := hT.facts.1.2.cell 0 _ rfl
    by_cases hlt : j < ss.length
    · obtain ⟨B, o, rfl, hx⟩ := str_at hT.facts.1.1.1.1.1.2 j hlt
      obtain ⟨B', o', rfl, hx'⟩ := str_at hT.facts.1.1.1.2 j hlt
      generalize ss[j] = s at *
      have f0 : ∀ z, (wr.drewN z).cell? ⟨w.heap.size, 0, none⟩ = _ := fun _ => e0
      have f1 : ∀ z, (wr.drewN z).cell? ⟨w.heap.size + 1, 0, none⟩ = _ := fun _ => hT.facts.2.cell 0 _ rfl
      have f2 : ∀ z, (wr.drewN z).cell? ⟨B, o + j, none⟩ = _ := fun _ => hx
      have f3 : ∀ z, (wr.drewN z).cell? ⟨B', o' + j, none⟩ = _ := fun _ => hx'
      have hj1 : (j : Int) < (ss.length : Int) := by omega
      have hss2 : (s != s) = false := by simp
      clear hT hx hx'
      go_wp2_with fail
      go_quiet (fail)
      go_wp2_with fail
      go_roundw
      case rel => exact ⟨j + 1, by omega, by go_num, HT.out.on (below_drewN' _ _)⟩
      case measure => simp [intOf]; omega
    · have hj1 : ¬ (j : Int) < (ss.length : Int) := by omega
      clear hT
      go_wp2_with fail
      go_loopw [6] (fun i wr => ∃ j : Nat, j ≤ ps.length ∧ i = .int .i64 (j : Int) ∧ Keep w (fun W => (((((True ∧ RowAt W (.slice a1 ss.length c1) (ss.map strV)) ∧ RowK 6 W (.slice a2 ps.length c2) (ps.map PR.cells)) ∧ RowAt W (.slice b1 ss.length d1) (ss.map strV)) ∧ RowK 6 W (.slice b2 ps.length d2) (ps.map PR.cells)) ∧ Blk W w.heap.size [.slice a1 ss.length c1, .slice a2 ps.length c2]) ∧ Blk W (w.heap.size + 1) [.slice b1 ss.length d1, .slice b2 ps.length d2]) wr) (fun i _ => ps.length - (intOf i).toNat)
      case atStart => exact ⟨0, by omega, rfl, HT.out⟩
      case round =>
        clear HT e0
        obtain ⟨k, hk, rfl, hT⟩ := hrel
        have HT := Lib.hid hT
        have e1 := hT.facts.1.2.cell 1 _ rfl
        by_cases hlt2 : k < ps.length
        · obtain ⟨B, o, rfl, hBl, hx⟩ := row_pr hT.facts.1.1.1.1.2 k hlt2
          obtain ⟨B', o', rfl, hBl', hx'⟩ := row_pr hT.facts.1.1.2 k hlt2
          have hfk := HF.out _ (List.getElem_mem hlt2)
          have HS := Lib.hid (fun W => RSameVal_s ps[k].v W hfk)
          have HX : Hid (∀ W, Below wr.heap.size wr W → CellsAt W B (o + k * 6) ps[k].cells ∧ CellsAt W B' (o' + k * 6) ps[k].cells) := Lib.hid (fun W hW => ⟨hx.below hW hBl, hx'.below hW hBl'⟩)
          generalize ps[k] = y at *
          obtain ⟨key, ⟨vk, vb, vn, vf, vt⟩⟩ := y
          unfold V5.v at HS
          dsimp only at HS
          have hj2 : (k : Int) < (ps.length : Int) := by omega
          have hss2 : (key != key) = false := by simp
          have HZ : Hid (∀ W, Below wr.heap.size wr W → (W.cell? ⟨w.heap.size, 1, none⟩ = some (.slice (some ⟨B, o, none⟩) ps.length c2) ∧ W.cell? ⟨w.heap.size + 1, 1, none⟩ = some (.slice (some ⟨B', o', none⟩) ps.length d2)) ∧
              (W.cell? ⟨B, o + k * 6, none⟩ = some (.string ⟨key.toArray⟩) ∧ W.cell? ⟨B, o + k * 6 + 1, none⟩ = some (.int .i64 vk) ∧ W.cell? ⟨B, o + k * 6 + 2, none⟩ = some (.bool vb) ∧ W.cell? ⟨B, o + k * 6 + 3, none⟩ = some (.int .i64 vn) ∧ W.cell? ⟨B, o + k * 6 + 4, none⟩ = some (.float .f64 vf) ∧ W.cell? ⟨B, o + k * 6 + 5, none⟩ = some (.string ⟨vt.toArray⟩)) ∧
              (W.cell? ⟨B', o' + k * 6, none⟩ = some (.string ⟨key.toArray⟩) ∧ W.cell? ⟨B', o' + k * 6 + 1, none⟩ = some (.int .i64 vk) ∧ W.cell? ⟨B', o' + k * 6 + 2, none⟩ = some (.bool vb) ∧ W.cell? ⟨B', o' + k * 6 + 3, none⟩ = some (.int .i64 vn) ∧ W.cell? ⟨B', o' + k * 6 + 4, none⟩ = some (.float .f64 vf) ∧ W.cell? ⟨B', o' + k * 6 + 5, none⟩ = some (.string ⟨vt.toArray⟩))) := Lib.hid (fun W hW =>
              ⟨⟨(HT.out.on hW).facts.1.2.cell 1 _ rfl, (HT.out.on hW).facts.2.cell 1 _ rfl⟩, PR.factsAt (HX.out W hW).1, PR.factsAt (HX.out W hW).2⟩)
          have HB : Hid (Below wr.heap.size wr wr.drew) := Lib.hid (below_drewN' wr 1)
          clear hT hx hx' HX
          go_wp2_with fail
          go_region_held3 (fun W => (W.cell? ⟨w.heap.size, 1, none⟩ = some (.slice (some ⟨B, o, none⟩) ps.length c2) ∧ W.cell? ⟨w.heap.size + 1, 1, none⟩ = some (.slice (some ⟨B', o', none⟩) ps.length d2)) ∧
              (W.cell? ⟨B, o + k * 6, none⟩ = some (.string ⟨key.toArray⟩) ∧ W.cell? ⟨B, o + k * 6 + 1, none⟩ = some (.int .i64 vk) ∧ W.cell? ⟨B, o + k * 6 + 2, none⟩ = some (.bool vb) ∧ W.cell? ⟨B, o + k * 6 + 3, none⟩ = some (.int .i64 vn) ∧ W.cell? ⟨B, o + k * 6 + 4, none⟩ = some (.float .f64 vf) ∧ W.cell? ⟨B, o + k * 6 + 5, none⟩ = some (.string ⟨vt.toArray⟩)) ∧
              (W.cell? ⟨B', o' + k * 6, none⟩ = some (.string ⟨key.toArray⟩) ∧ W.cell? ⟨B', o' + k * 6 + 1, none⟩ = some (.int .i64 vk) ∧ W.cell? ⟨B', o' + k * 6 + 2, none⟩ = some (.bool vb) ∧ W.cell? ⟨B', o' + k * 6 + 3, none⟩ = some (.int .i64 vn) ∧ W.cell? ⟨B', o' + k * 6 + 4, none⟩ = some (.float .f64 vf) ∧ W.cell? ⟨B', o' + k * 6 + 5, none⟩ = some (.string ⟨vt.toArray⟩)))
            ((exact HZ.out _ HB.out))
            (first
              | (go_at_call 59; (with_reducible refine (HS.out _).mono ?_); rintro e wq ⟨rfl, hq⟩; replace HB := Lib.hid (HB.out.trans (hq.mono HB.out.size)); clear hq)
              | fail)
          replace HT := Lib.hid (HT.out.on HB.out)
          clear HB HZ
          go_wp2_with fail
          go_roundw
          case rel => exact ⟨k + 1, by omega, by go_num, HT.out⟩
          case measure => simp [intOf]; omega
        · have hj2 : ¬ (k : Int) < (ps.length : Int) := by omega
          clear hT
          go_wp2_with fail
          go_ret
          exact ⟨rfl, HT.out.below⟩
end Go.Proofs.YtmbffncmogpkfaaGreatDoor
