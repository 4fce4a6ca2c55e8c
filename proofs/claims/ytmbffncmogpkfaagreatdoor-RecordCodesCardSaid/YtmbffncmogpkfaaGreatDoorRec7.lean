
/- Contracts of package record: areWrites. -/
import Derived.Test.YtmbffncmogpkfaaGreatDoorRec6
import Derived.Maps.Own
namespace Go.Proofs.YtmbffncmogpkfaaGreatDoor
open Go Go.Proofs Go.RowKit
set_option linter.unusedVariables false
set_option linter.unusedSimpArgs false

theorem facts9At {w : World} {B q : Nat} {e : Bool} {id : Int} {g : Bool} {sv pv : Value} {a b : Int} {t : List UInt8} {f : Nat} (h : CellsAt w B q (cells9 e id g sv pv a b t f)) :
    w.cell? ⟨B, q, none⟩ = some (.bool e) ∧ w.cell? ⟨B, q + 1, none⟩ = some (.int .i64 id) ∧ w.cell? ⟨B, q + 2, none⟩ = some (.bool g) ∧ w.cell? ⟨B, q + 3, none⟩ = some sv ∧ w.cell? ⟨B, q + 4, none⟩ = some pv ∧ w.cell? ⟨B, q + 5, none⟩ = some (.int .i64 a) ∧ w.cell? ⟨B, q + 6, none⟩ = some (.int .i64 b) ∧ w.cell? ⟨B, q + 7, none⟩ = some (.string ⟨t.toArray⟩) ∧ w.cell? ⟨B, q + 8, none⟩ = some (.float .f64 f) :=
  ⟨h.at 0 _ rfl, h.at 1 _ rfl, h.at 2 _ rfl, h.at 3 _ rfl, h.at 4 _ rfl, h.at 5 _ rfl, h.at 6 _ rfl, h.at 7 _ rfl, h.at 8 _ rfl⟩
set_option maxRecDepth 100000 in
set_option maxHeartbeats 8000000 in
theorem areWrites_c (nodes edges : Int) (ps : List WV) (v : Value) (w : World) (hr : RowK 9 w v (ps.map WV.cells)) (hrows : ∀ p ∈ ps, p.rows w) (hok : ∀ p ∈ ps, okWR p.x) (hlen : ps.length ≤ 4398046511104) :
    Calls Tryz.prog 11 #[.int .i64 nodes, .int .i64 edges, v] w (Gives w (.bool (areW nodes edges [] (ps.map WV.x)))) := by
  have hmm := @run_makeMap Tryz.prog
  obtain ⟨a, c, rfl, hac⟩ := hr.shape
  rw [List.length_map] at *
  have H0 : Hid (Keep w (fun W => RowK 9 W (.slice a ps.length c) (ps.map WV.cells) ∧ ∀ p ∈ ps, p.rows W) w) := Lib.hid ⟨⟨hr, hrows⟩, Below.refl _ w, fun w' h => ⟨hr.below h, fun p hp => ⟨(hrows p hp).1.below h, (hrows p hp).2.below h⟩⟩⟩
  have HOK := Lib.hid hok
  clear hr hrows hok hac
  go_enter Tryz.func11, Tryz.ntmps11
  go_wp2_with fail
  have HS0 := Lib.hid (SeenS.start w)
  have HB0 : Hid (Below w.heap.size w (w.alloc (.map #[] 0))) := Lib.hid ((Below.refl _ w).alloc (Nat.le_refl _) _)
  generalize w.alloc (.map #[] 0) = W0 at *
  go_loopw [14] (fun u wr => ∃ (j : Nat) (seen : List (Bool × Int)), j ≤ ps.length ∧ u = .int .i64 (j : Int) ∧ SeenS wr w.heap.size j seen ∧ areW nodes edges [] (ps.map WV.x) = areW nodes edges seen ((ps.drop j).map WV.x) ∧ Below w.heap.size w wr) (fun u _ => ps.length - (intOf u).toNat)
  case atStart => exact ⟨0, [], by omega, rfl, HS0.out, rfl, HB0.out⟩
  case round =>
    clear HS0 HB0
    obtain ⟨j, seen, hj, rfl, hs, ha, hbl⟩ := hrel
    have HS := Lib.hid hs
    have HA := Lib.hid ha
    have HB := Lib.hid hbl
    clear hs ha hbl
    by_cases hlt : j < ps.length
    · have HF := Lib.hid (H0.out.on HB.out)
      obtain ⟨B, o, hB', hB, hx⟩ := HF.out.facts.1.cells j (by simpa using hlt)
      obtain rfl : a = some ⟨B, o, none⟩ := hB'
      simp only [List.getElem_map] at hx
      have hrj := HF.out.facts.2 _ (List.getElem_mem hlt)
      have hoj := HOK.out _ (List.getElem_mem hlt)
      have HA2 : Hid (areW nodes edges [] (ps.map WV.x) = if seen.contains (ps[j].x.e, ps[j].x.id) || !writeB nodes edges ps[j].x then false else areW nodes edges ((ps[j].x.e, ps[j].x.id) :: seen) ((ps.drop (j + 1)).map WV.x)) := Lib.hid (by
        rw [HA.out, List.drop_eq_getElem_cons hlt]; rfl)
      have hmi : (j : Int) < (ps.length : Int) := by omega
      generalize ps[j] = p at *
      obtain ⟨⟨e, id, g, ss, pr, ⟨ea, eb, et, ew⟩⟩, sa, sc, pa, pc⟩ := p
      have hk := facts9At hx
      have hi : i64R id := hoj.2.2.2.2.2.2
      have HIW := Lib.hid (fun W h1 h2 => isWrite_c nodes edges ⟨e, id, g, ss, pr, ⟨ea, eb, et, ew⟩⟩ sa pa sc pc W h1 h2 hoj.1 hoj.2.1 hoj.2.2.1 hoj.2.2.2.1 hoj.2.2.2.2.1 hoj.2.2.2.2.2.1)
      have H2 : Hid (Keep w (fun W => (RowAt W (.slice sa ss.length sc) (ss.map strV) ∧ RowK 6 W (.slice pa pr.length pc) (pr.map PR.cells)) ∧ Blk W wr.heap.size (cells9 e id g (.slice sa ss.length sc) (.slice pa pr.length pc) ea eb et ew) ∧ Blk W (wr.heap.size + 1) [.bool e, .int .i64 id] ∧ SeenS W w.heap.size j seen)
          ((wr.alloc (.cells #[.bool e, .int .i64 id, .bool g, .slice sa ss.length sc, .slice pa pr.length pc, .int .i64 ea, .int .i64 eb, .string ⟨et.toArray⟩, .float .f64 ew] 45)).alloc (.cells #[.bool e, .int .i64 id] 82))) := by
        have q1 := (hrj.1.alloc (.cells #[.bool e, .int .i64 id, .bool g, .slice sa ss.length sc, .slice pa pr.length pc, .int .i64 ea, .int .i64 eb, .string ⟨et.toArray⟩, .float .f64 ew] 45)).alloc (.cells #[.bool e, .int .i64 id] 82)
        have q2 := (hrj.2.alloc (.cells #[.bool e, .int .i64 id, .bool g, .slice sa ss.length sc, .slice pa pr.length pc, .int .i64 ea, .int .i64 eb, .string ⟨et.toArray⟩, .float .f64 ew] 45)).alloc (.cells #[.bool e, .int .i64 id] 82)
        have q3 := (Blk.new wr (cells9 e id g (.slice sa ss.length sc) (.slice pa pr.length pc) ea eb et ew) 45).alloc (.cells #[.bool e, .int .i64 id] 82)
        have q4 := Blk.newAt (wr.alloc (.cells #[.bool e, .int .i64 id, .bool g, .slice sa ss.length sc, .slice pa pr.length pc, .int .i64 ea, .int .i64 eb, .string ⟨et.toArray⟩, .float .f64 ew] 45)) [.bool e, .int .i64 id] 82 (wr.heap.size + 1) (by simp)
        have hb2 := ((Below.refl _ wr).alloc (Nat.le_refl _) (.cells #[.bool e, .int .i64 id, .bool g, .slice sa ss.length sc, .slice pa pr.length pc, .int .i64 ea, .int .i64 eb, .string ⟨et.toArray⟩, .float .f64 ew] 45)).alloc (by simp) (.cells #[.bool e, .int .i64 id] 82)
        have q5 := HS.out.held (hb2.block _ HS.out.lt)
        exact Lib.hid ⟨⟨⟨q1, q2⟩, q3, q4, q5⟩, HB.out.trans (hb2.mono HB.out.size), fun W hW => ⟨⟨q1.below hW, q2.below hW⟩, q3.below hW, q4.below hW, q5.held (hW.block _ q5.lt)⟩⟩
      have hlk := H2.out.facts.2.2.2.look e id hi
      have hk2 := facts9 H2.out.facts.2.1
      have hks0 := H2.out.facts.2.2.1.cell 0 _ rfl
      have hks1 := H2.out.facts.2.2.1.cell 1 _ rfl
      dsimp only at HA2 HIW
      generalize writeB nodes edges ⟨e, id, g, ss, pr, ⟨ea, eb, et, ew⟩⟩ = wb at *
      obtain ⟨ct, hct⟩ : ∃ ct, seen.contains (e, id) = ct := ⟨_, rfl⟩
      rw [hct] at hlk HA2
      clear hct
      clear hx hrj hoj HF
      cases ct
      · cases wb
        · go_wp2_with (first | (go_at_call 39; (with_reducible refine (HIW.out _ H2.out.facts.1.1 H2.out.facts.1.2).mono ?_); rintro e wz ⟨rfl, hq⟩; have H2 := Lib.hid (H2.out.on hq); clear hq))
          go_ret
          exact ⟨by rw [HA2.out]; rfl, H2.out.below⟩
        · go_wp2_with (first
            | (go_at_call 39; (with_reducible refine (HIW.out _ H2.out.facts.1.1 H2.out.facts.1.2).mono ?_); rintro e wz ⟨rfl, hq⟩; have H2 := Lib.hid (H2.out.on hq); clear hq; have hk3 := facts9 H2.out.facts.2.1; obtain ⟨D, hown, hat⟩ := H2.out.facts.2.2.2; have hism := hown.isMap)
            | (at_mapUpdate; refine wpList_mapUpdate_own _ rfl _ _ _ 80 rfl 82 4 subj_keyed Tryz.underlying80 (plainElem Tryz.prog 4) w.heap.size j D rfl hown (by unfold maxLen; omega) _ _ (subjL e id) rfl rfl (subj_key e id hi) (.lit (.bool true)) [] (plainElem_bool Tryz.underlying4 true) ?_; intro W1 hown1 hgr; have HS2 := Lib.hid (SeenS.put hi hown1 hism hat); have HB2 := Lib.hid (H2.out.below.grown hgr H2.out.below.size (fun k hk => by simp only [Option.some.injEq] at hk; omega)); clear hown1 hgr hown hat hism))
          go_roundw
          case rel => exact ⟨j + 1, (e, id) :: seen, by omega, by go_num, HS2.out, by rw [HA2.out]; rfl, HB2.out⟩
          case measure => simp [intOf]; omega
      · go_wp2_with fail
        go_ret
        exact ⟨by rw [HA2.out]; rfl, H2.out.below⟩
    · obtain rfl : j = ps.length := by omega
      rw [List.drop_of_length_le (Nat.le_refl _)] at HA
      have I1 := Lib.hid (fun W => isIn_c nodes 0 24 W)
      have I2 := Lib.hid (fun W => isIn_c edges 0 32 W)
      have HA := Lib.hid (HA.out.trans (show areW nodes edges seen (([] : List WV).map WV.x) = ((decide (0 ≤ nodes) && decide (nodes ≤ 24)) && (decide (0 ≤ edges) && decide (edges ≤ 32))) from rfl))
      generalize areW nodes edges [] (ps.map WV.x) = r at *
      generalize (decide (0 ≤ nodes) && decide (nodes ≤ 24)) = b1 at *
      generalize (decide (0 ≤ edges) && decide (edges ≤ 32)) = b2 at *
      cases b1
      all_goals
        go_wp2_with (first | (go_at_call 40; (with_reducible refine (I1.out _).mono ?_); rintro e wz ⟨rfl, rfl⟩) | (go_at_call 40; (with_reducible refine (I2.out _).mono ?_); rintro e wz ⟨rfl, rfl⟩))
        go_ret
        exact ⟨by rw [HA.out]; first | rfl | (simp; done), HB.out⟩
end Go.Proofs.YtmbffncmogpkfaaGreatDoor
