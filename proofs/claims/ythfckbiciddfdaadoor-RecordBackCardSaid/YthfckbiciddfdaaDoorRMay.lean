
/- Contracts of the reference of chapter 10: May; what it tells is what areWrites tells. -/
import Derived.Test.YthfckbiciddfdaaDoorRWrite
import Derived.Test.YthfckbiciddfdaaDoorRec7
import Derived.Test.YthfckbiciddfdaaDoorWide
namespace Go.Proofs.YthfckbiciddfdaaDoor
open Go Go.Proofs Go.RowKit
set_option linter.unusedVariables false
set_option linter.unusedSimpArgs false

/-- is the subject of the j-th among those of the first j? -/
def dupAt (xs : List WR) (j : Nat) : Bool := (xs.take j).any (fun y => match xs[j]? with | some x => (y.e == x.e) && (y.id == x.id) | none => false)
def mayB (nodes edges : Int) (xs : List WR) : Bool :=
  ((decide (0 ≤ nodes) && decide (nodes ≤ 24)) && (decide (0 ≤ edges) && decide (edges ≤ 32))) && (xs.all (writeB nodes edges) && (List.range xs.length).all (fun j => !dupAt xs j))
/-- areWrites by its parts. -/
theorem areW_iff (nodes edges : Int) : ∀ (xs : List WR) (seen : List (Bool × Int)), areW nodes edges seen xs = true ↔
    (((0 ≤ nodes ∧ nodes ≤ 24) ∧ 0 ≤ edges ∧ edges ≤ 32) ∧ (∀ x ∈ xs, writeB nodes edges x = true) ∧ (∀ x ∈ xs, (x.e, x.id) ∉ seen) ∧ (xs.map (fun x => (x.e, x.id))).Nodup)
  | [], seen => by simp [areW]
  | x :: xs, seen => by
    unfold areW
    by_cases hc : (seen.contains (x.e, x.id) || !writeB nodes edges x) = true
    · rw [if_pos hc]
      constructor
      · intro h; simp at h
      · rintro ⟨_, h2, h3, _⟩
        exfalso
        simp only [Bool.or_eq_true, Bool.not_eq_true', List.contains_iff_mem] at hc
        rcases hc with hc | hc
        · exact h3 x (by simp) hc
        · rw [h2 x (by simp)] at hc; cases hc
    · rw [if_neg hc, areW_iff nodes edges xs ((x.e, x.id) :: seen)]
      simp only [Bool.or_eq_true, Bool.not_eq_true', List.contains_iff_mem, not_or, Bool.not_eq_false] at hc
      simp only [List.map_cons, List.nodup_cons, List.mem_map, List.mem_cons, not_or, not_exists, not_and]
      constructor
      · rintro ⟨h1, h2, h3, h4⟩
        refine ⟨h1, ?_, ?_, ?_, h4⟩
        · rintro y (rfl | hy)
          · exact hc.2
          · exact h2 y hy
        · rintro y (rfl | hy)
          · exact hc.1
          · exact (h3 y hy).2
        · intro y hy he
          exact (h3 y hy).1 he
      · rintro ⟨h1, h2, h3, h4, h5⟩
        exact ⟨h1, fun y hy => h2 y (.inr hy), fun y hy => ⟨h4 y hy, h3 y (.inr hy)⟩, h5⟩
theorem nodup_iff (l : List (Bool × Int)) : l.Nodup ↔ ∀ i j (hi : i < j) (hj : j < l.length), l[i] ≠ l[j] := by
  rw [List.nodup_iff_pairwise_ne, List.pairwise_iff_getElem]
  exact ⟨fun h i j hij hj => h i j (by omega) hj hij, fun h i j hi hj hij => h i j hij hj⟩
theorem dupAt_iff (xs : List WR) (j : Nat) (hj : j < xs.length) : dupAt xs j = false ↔ ∀ i (hi : i < j), ((xs[i]'(by omega)).e, (xs[i]'(by omega)).id) ≠ (xs[j].e, xs[j].id) := by
  unfold dupAt
  rw [List.getElem?_eq_getElem hj, List.any_eq_false]
  constructor
  · intro h i hi he
    have hm : xs[i]'(by omega) ∈ xs.take j := by rw [List.mem_take_iff_getElem]; exact ⟨i, by omega, rfl⟩
    have := h _ hm
    simp only [Prod.mk.injEq] at he
    simp [he.1, he.2] at this
  · intro h y hy
    rw [List.mem_take_iff_getElem] at hy
    obtain ⟨i, hi, rfl⟩ := hy
    have := h i (by omega)
    intro hb
    simp only [Bool.and_eq_true, beq_iff_eq] at hb
    exact this (by rw [hb.1, hb.2])
theorem may_are (nodes edges : Int) (xs : List WR) : mayB nodes edges xs = areW nodes edges [] xs := by
  rw [Bool.eq_iff_iff, areW_iff, nodup_iff]
  unfold mayB
  simp only [Bool.and_eq_true, decide_eq_true_eq, List.all_eq_true, List.mem_range, Bool.not_eq_true', List.not_mem_nil, not_false_eq_true, implies_true, true_and, List.length_map, List.getElem_map]
  constructor
  · rintro ⟨⟨h1, h2⟩, h3, h4⟩
    exact ⟨⟨h1, h2⟩, h3, fun i j hij hj => (dupAt_iff xs j (by simpa using hj)).1 (h4 j (by simpa using hj)) i hij⟩
  · rintro ⟨⟨h1, h2⟩, h3, h4⟩
    exact ⟨⟨h1, h2⟩, h3, fun j hj => (dupAt_iff xs j hj).2 (fun i hi => h4 i j hi (by simpa using hj))⟩
/-- what is within a write that comes in. -/
def okWm (x : WR) : Prop := (∀ s ∈ x.ss, s.length ≤ 9223372036854775807) ∧ (∀ p ∈ x.ps, p.key.length ≤ 9223372036854775807 ∧ p.v.t.length ≤ 9223372036854775807) ∧ x.ed.t.length ≤ 9223372036854775807 ∧ x.ed.w < W64
theorem may_bad {nodes edges : Int} {xs : List WR} {j : Nat} (h : j < xs.length) (hb : writeB nodes edges xs[j] = false ∨ dupAt xs j = true) : mayB nodes edges xs = false := by
  unfold mayB
  rcases hb with hb | hb
  · rw [all_bad' (writeB nodes edges) xs j h hb]; simp
  · rw [range_bad (fun j => !dupAt xs j) xs.length j h (by rw [hb]; rfl)]; simp
theorem dup_take (xs : List WR) (j k : Nat) (h : k < j) (hj : j < xs.length) (hn : (xs.take k).any (fun y => (y.e == xs[j].e) && (y.id == xs[j].id)) = false) (hc : ((xs[k]'(by omega)).e == xs[j].e && (xs[k]'(by omega)).id == xs[j].id) = false) : (xs.take (k + 1)).any (fun y => (y.e == xs[j].e) && (y.id == xs[j].id)) = false := by
  rw [any_take _ xs k (by omega), hn, hc]; rfl
theorem dup_hit (xs : List WR) (j k : Nat) (h : k < j) (hj : j < xs.length) (hc : ((xs[k]'(by omega)).e == xs[j].e && (xs[k]'(by omega)).id == xs[j].id) = true) : dupAt xs j = true := by
  unfold dupAt
  rw [List.getElem?_eq_getElem hj, List.any_eq_true]
  exact ⟨xs[k]'(by omega), by rw [List.mem_take_iff_getElem]; exact ⟨k, by omega, rfl⟩, hc⟩
set_option maxRecDepth 100000 in
set_option maxHeartbeats 16000000 in
theorem RMay_c (nodes edges : Int) (ps : List WV) (v : Value) (w : World) (hr : RowK 9 w v (ps.map WV.cells)) (hrows : ∀ p ∈ ps, p.rows w) (hok : ∀ p ∈ ps, okWm p.x) (hlen : ps.length ≤ 9223372036854775807) :
    Calls Tryd.prog 16 #[.int .i64 nodes, .int .i64 edges, v] w (Gives w (.bool (mayB nodes edges (ps.map WV.x)))) := by
  obtain ⟨a, c, rfl, _⟩ := hr.shape
  rw [List.length_map] at hr ⊢
  obtain ⟨xs, hxs⟩ : ∃ xs, xs = ps.map WV.x := ⟨_, rfl⟩
  rw [← hxs]
  have hxl : xs.length = ps.length := by rw [hxs, List.length_map]
  have HXJ : Hid (∀ j (h : j < ps.length) (h' : j < xs.length), xs[j] = ps[j].x) := Lib.hid (fun j h h' => by simp only [hxs, List.getElem_map])
  have HMB : Hid (mayB nodes edges xs = (((decide (0 ≤ nodes) && decide (nodes ≤ 24)) && (decide (0 ≤ edges) && decide (edges ≤ 32))) && (xs.all (writeB nodes edges) && (List.range xs.length).all (fun j => !dupAt xs j)))) := Lib.hid rfl
  have HBAD := Lib.hid (fun j h hb => may_bad (nodes := nodes) (edges := edges) (xs := xs) (j := j) h hb)
  have HXL := Lib.hid hxl
  have HT : Hid (Keep w (fun W => (True ∧ RowK 9 W (.slice a ps.length c) (ps.map WV.cells)) ∧ ∀ p ∈ ps, p.rows W) w) := Lib.hid ⟨⟨⟨trivial, hr⟩, hrows⟩, Below.refl _ w, fun w' h => ⟨⟨trivial, hr.below h⟩, fun p hp => ⟨(hrows p hp).1.below h, (hrows p hp).2.below h⟩⟩⟩
  have HOK := Lib.hid hok
  clear hr hrows hok hxs hxl
  generalize mayB nodes edges xs = r at *
  by_cases c1 : nodes < 0
  · have HV : Hid (r = false) := Lib.hid (by rw [HMB.out, decide_eq_false (show ¬ 0 ≤ nodes by omega)]; simp)
    go_enter Tryd.func16, Tryd.ntmps16
    go_wp2_with fail
    go_ret
    exact ⟨by rw [HV.out]; rfl, HT.out.below⟩
  by_cases c2 : 24 < nodes
  · have HV : Hid (r = false) := Lib.hid (by rw [HMB.out, decide_eq_false (show ¬ nodes ≤ 24 by omega)]; simp)
    go_enter Tryd.func16, Tryd.ntmps16
    go_wp2_with fail
    go_ret
    exact ⟨by rw [HV.out]; rfl, HT.out.below⟩
  by_cases c3 : edges < 0
  · have HV : Hid (r = false) := Lib.hid (by rw [HMB.out, decide_eq_false (show ¬ 0 ≤ edges by omega)]; simp)
    go_enter Tryd.func16, Tryd.ntmps16
    go_wp2_with fail
    go_ret
    exact ⟨by rw [HV.out]; rfl, HT.out.below⟩
  by_cases c4 : 32 < edges
  · have HV : Hid (r = false) := Lib.hid (by rw [HMB.out, decide_eq_false (show ¬ edges ≤ 32 by omega)]; simp)
    go_enter Tryd.func16, Tryd.ntmps16
    go_wp2_with fail
    go_ret
    exact ⟨by rw [HV.out]; rfl, HT.out.below⟩
  replace HMB : Hid (r = (xs.all (writeB nodes edges) && (List.range xs.length).all (fun j => !dupAt xs j))) := Lib.hid (by rw [HMB.out, decide_eq_true (show 0 ≤ nodes by omega), decide_eq_true (show nodes ≤ 24 by omega), decide_eq_true (show 0 ≤ edges by omega), decide_eq_true (show edges ≤ 32 by omega)]; simp)
  go_enter Tryd.func16, Tryd.ntmps16
  go_wp2_with fail
  go_loopw [7] (fun i wr => ∃ j : Nat, j ≤ ps.length ∧ i = .int .i64 (j : Int) ∧ ((xs.take j).all (writeB nodes edges) = true ∧ (List.range j).all (fun j => !dupAt xs j) = true) ∧ Keep w (fun W => (True ∧ RowK 9 W (.slice a ps.length c) (ps.map WV.cells)) ∧ ∀ p ∈ ps, p.rows W) wr) (fun i _ => ps.length - (intOf i).toNat)
  case atStart => exact ⟨0, by omega, rfl, ⟨rfl, rfl⟩, HT.out⟩
  case round =>
    clear HT
    obtain ⟨j, hj, rfl, hall, hT⟩ := hrel
    have HT := Lib.hid hT
    have HALL := Lib.hid hall
    clear hall
    by_cases hlt : j < ps.length
    · obtain ⟨B, o, hB', hBl, hx⟩ := hT.facts.1.2.cells j (by simpa using hlt)
      obtain rfl : a = some ⟨B, o, none⟩ := hB'
      simp only [List.getElem_map] at hx
      have hxlt : j < xs.length := by rw [HXL.out]; exact hlt
      have hxj := HXJ.out j hlt hxlt
      have hrj := hT.facts.2 _ (List.getElem_mem hlt)
      have hoj := HOK.out _ (List.getElem_mem hlt)
      have HBJ := Lib.hid (HBAD.out j hxlt)
      have HAT := Lib.hid (all_take' (writeB nodes edges) xs j hxlt)
      have HRA := Lib.hid (range_all (fun j => !dupAt xs j) j)
      have HDT := Lib.hid (fun k h => dup_take xs j k h hxlt)
      have HDH := Lib.hid (fun k h => dup_hit xs j k h hxlt)
      have HDU : Hid (dupAt xs j = (xs.take j).any (fun y => (y.e == xs[j].e) && (y.id == xs[j].id))) := Lib.hid (by unfold dupAt; rw [List.getElem?_eq_getElem hxlt])
      have HCK : Hid (∀ (W : World) k (hk : k < ps.length), RowK 9 W (.slice (some ⟨B, o, none⟩) ps.length c) (ps.map WV.cells) → CellsAt W B (o + k * 9) ps[k].cells) := Lib.hid (fun W k hk h => by
        obtain ⟨B2, o2, he, _, hx2⟩ := h.cells k (by simpa using hk)
        simp only [Option.some.injEq, Addr.mk.injEq, and_true] at he
        obtain ⟨rfl, rfl⟩ := he
        simpa using hx2)
      rw [hxj] at HBJ HAT HDT HDH HDU
      generalize hp : ps[j] = p at *
      obtain ⟨⟨e, id, g, ss, pr, ⟨ea, eb, et, ew⟩⟩, sa, sc, pa, pc⟩ := p
      have hk := facts9At hx
      obtain ⟨k1, k2, k3, k4⟩ := hoj
      dsimp only at k1 k2 k3 k4 hk HBJ HAT HDT HDH HDU
      have CW := Lib.hid (fun W (h1 : RowAt W (.slice sa ss.length sc) (ss.map strV)) (h2 : RowK 6 W (.slice pa pr.length pc) (pr.map PR.cells)) => RWrite_c nodes edges ⟨e, id, g, ss, pr, ⟨ea, eb, et, ew⟩⟩ sa pa sc pc W h1 h2 k1 k2 k3 k4)
      dsimp only at CW
      have HRJ : Hid (RowAt wr (.slice sa ss.length sc) (ss.map strV) ∧ RowK 6 wr (.slice pa pr.length pc) (pr.map PR.cells)) := Lib.hid hrj
      have hi1 : (j : Int) < (ps.length : Int) := by omega
      generalize writeB nodes edges ⟨e, id, g, ss, pr, ⟨ea, eb, et, ew⟩⟩ = wb at *
      have HPJ := Lib.hid hp
      clear hT hx hrj k1 k2 k3 k4 hp
      cases wb
      case false =>
        have HV : Hid (r = false) := Lib.hid (HBJ.out (.inl rfl))
        go_wp2_with (first | (go_at_call 35; (with_reducible refine (CW.out _ HRJ.out.1 HRJ.out.2).mono ?_); rintro e' wq ⟨rfl, hq⟩; replace HT := Lib.hid (HT.out.on hq); clear hq) | fail)
        go_ret
        exact ⟨by rw [HV.out]; rfl, HT.out.below⟩
      case true =>
        go_wp2_with (first | (go_at_call 35; (with_reducible refine (CW.out _ HRJ.out.1 HRJ.out.2).mono ?_); rintro e' wq ⟨rfl, hq⟩; replace HT := Lib.hid (HT.out.on hq); clear hq) | fail)
        clear CW HRJ hk
        go_loopw [8] (fun i wr => ∃ k : Nat, k ≤ j ∧ i = .int .i64 (k : Int) ∧ (xs.take k).any (fun y => (y.e == e) && (y.id == id)) = false ∧ Keep w (fun W => (True ∧ RowK 9 W (.slice (some ⟨B, o, none⟩) ps.length c) (ps.map WV.cells)) ∧ ∀ p ∈ ps, p.rows W) wr) (fun i _ => j - (intOf i).toNat)
        case atStart => exact ⟨0, by omega, rfl, rfl, HT.out⟩
        case round =>
          clear HT
          obtain ⟨k, hk, rfl, hany, hT⟩ := hrel
          have HT := Lib.hid hT
          have HAN := Lib.hid hany
          clear hany
          by_cases hkl : k < j
          · have hkp : k < ps.length := by omega
            have hkx : k < xs.length := by omega
            have hcj := facts9At (by have := HCK.out _ j hlt hT.facts.1.2; rwa [HPJ.out] at this)
            have hxk := HXJ.out k hkp hkx
            have hck0 := HCK.out _ k hkp hT.facts.1.2
            have HD1 := Lib.hid (HDT.out k hkl HAN.out)
            have HD2 := Lib.hid (HDH.out k hkl)
            rw [hxk] at HD1 HD2
            generalize ps[k] = q at *
            obtain ⟨⟨e2, id2, g2, ss2, pr2, ⟨ea2, eb2, et2, ew2⟩⟩, sa2, sc2, pa2, pc2⟩ := q
            have hck := facts9At hck0
            dsimp only at hck hcj HD1 HD2
            have f1 : ∀ z, (wr.drewN z).cell? ⟨B, o + k * 9, none⟩ = _ := fun _ => hck.1
            have f2 : ∀ z, (wr.drewN z).cell? ⟨B, o + k * 9 + 1, none⟩ = _ := fun _ => hck.2.1
            have f3 : ∀ z, (wr.drewN z).cell? ⟨B, o + j * 9, none⟩ = _ := fun _ => hcj.1
            have f4 : ∀ z, (wr.drewN z).cell? ⟨B, o + j * 9 + 1, none⟩ = _ := fun _ => hcj.2.1
            have hk1 : (k : Int) < (j : Int) := by omega
            have hk2 : (k : Int) < (ps.length : Int) := by omega
            clear hT hck0 hck hcj hxk
            cases q1 : (e2 == e)
            case false =>
              rw [q1] at HD1
              go_wp2_with fail
              go_quiet (fail)
              go_wp2_with fail
              go_roundw
              case rel => exact ⟨k + 1, by omega, by go_num, HD1.out rfl, HT.out.on (below_drewN' _ _)⟩
              case measure => simp [intOf]; omega
            case true =>
              cases q2 : (id2 == id)
              case false =>
                rw [q1, q2] at HD1
                go_wp2_with fail
                go_quiet (fail)
                go_wp2_with fail
                go_roundw
                case rel => exact ⟨k + 1, by omega, by go_num, HD1.out rfl, HT.out.on (below_drewN' _ _)⟩
                case measure => simp [intOf]; omega
              case true =>
                rw [q1, q2] at HD2
                have HV : Hid (r = false) := Lib.hid (HBJ.out (.inr (HD2.out rfl)))
                go_wp2_with fail
                go_quiet (fail)
                go_wp2_with fail
                go_ret
                exact ⟨by rw [HV.out]; rfl, (HT.out.on (below_drewN' _ _)).below⟩
          · obtain rfl : k = j := by omega
            have hk1 : ¬ (k : Int) < (k : Int) := by omega
            clear hT
            go_wp2_with fail
            go_roundw
            case rel => exact ⟨k + 1, by omega, by go_num, ⟨by rw [HAT.out, HALL.out.1]; rfl, by rw [HRA.out, HALL.out.2, HDU.out, HAN.out]; rfl⟩, HT.out⟩
            case measure => simp [intOf]; omega
    · obtain rfl : j = ps.length := by omega
      have HV : Hid (r = true) := Lib.hid (by
        have h1 := HALL.out.1
        rw [List.take_of_length_le (by rw [HXL.out]; exact Nat.le_refl _)] at h1
        rw [HMB.out, h1, HXL.out, HALL.out.2]; rfl)
      have hi1 : ¬ (ps.length : Int) < (ps.length : Int) := by omega
      clear hT
      go_wp2_with fail
      go_ret
      exact ⟨by rw [HV.out]; rfl, HT.out.below⟩
end Go.Proofs.YthfckbiciddfdaaDoor
