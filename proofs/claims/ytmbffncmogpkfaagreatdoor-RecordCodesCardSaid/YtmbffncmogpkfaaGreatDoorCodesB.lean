
/- Several texts in one: Contracts of the reference of chapter 10: May; what it tells is what areWrites tells. Contracts of the reference's record: Encode. Contracts of the reference's record: Decode. The reference's record, plainly: what was laid is taken back; how great what is taken may be. How a row's argument of type []api.Write is opened; what the form's own reach says of its parts. Contracts of the reference of chapter 10: SameWrites of what is alike. The laws on package record: RecordBack. The laws on package record: RecordCodes. -/
import Derived.Test.YtmbffncmogpkfaaGreatDoorRWrite
import Derived.Test.YtmbffncmogpkfaaGreatDoorRec7
import Derived.Test.YtmbffncmogpkfaaGreatDoorWide
import Derived.Test.YtmbffncmogpkfaaGreatDoorCodesA
import Derived.Test.YtmbffncmogpkfaaGreatDoorEnc3
import Derived.Deep.DeepCutAuto
import Derived.Test.YtmbffncmogpkfaaGreatDoorOpen2
import Derived.Test.YtmbffncmogpkfaaGreatDoorDec3
import Derived.Test.YtmbffncmogpkfaaGreatDoorRowM
import Derived.Test.YtmbffncmogpkfaaGreatDoorRSame
namespace Go.Proofs.YtmbffncmogpkfaaGreatDoor
open Go Go.Proofs Go.RowKit
set_option linter.unusedVariables false
set_option linter.unusedSimpArgs false
abbrev R_RE8_0 : Oper := { dst := some 32, op := Op.move (Operand.tmp 8), type := 23, pos := "record.go:158", after := #[], guard := none }
abbrev R_RE8_1 : Oper := { dst := some 33, op := Op.fieldAddr 45 (Operand.tmp 10) 0, type := 0, pos := "record.go:158", after := #[], guard := none }
abbrev R_RE8_10 : Oper := { dst := some 42, op := Op.call { callee := Callee.value (Operand.func 18), args := #[Operand.tmp 41], argTypes := #[85] }, type := 23, pos := "record.go:158", after := #[{ on := 9, ground := Ground.data }, { on := 8, ground := Ground.chain }], guard := none }
abbrev R_RE8_11 : Oper := { dst := some 43, op := Op.call { callee := Callee.builtin Builtin.append, args := #[Operand.tmp 32, Operand.tmp 42], argTypes := #[23, 23] }, type := 23, pos := "record.go:158", after := #[{ on := 0, ground := Ground.data }, { on := 10, ground := Ground.data }, { on := 10, ground := Ground.chain }], guard := none }
abbrev R_RE8_2 : Oper := { dst := some 34, op := Op.load 4 (Operand.tmp 33), type := 4, pos := "record.go:158", after := #[{ on := 1, ground := Ground.data }], guard := none }
abbrev R_RE8_3 : Oper := { dst := some 35, op := Op.call { callee := Callee.value (Operand.func 19), args := #[Operand.tmp 34], argTypes := #[4] }, type := 3, pos := "record.go:158", after := #[{ on := 2, ground := Ground.data }], guard := none }
abbrev R_RE8_4 : Oper := { dst := some 36, op := Op.fieldAddr 45 (Operand.tmp 10) 1, type := 0, pos := "record.go:158", after := #[], guard := none }
abbrev R_RE8_5 : Oper := { dst := some 37, op := Op.load 3 (Operand.tmp 36), type := 3, pos := "record.go:158", after := #[{ on := 4, ground := Ground.data }], guard := none }
abbrev R_RE8_6 : Oper := { dst := some 38, op := Op.fieldAddr 45 (Operand.tmp 10) 2, type := 0, pos := "record.go:158", after := #[], guard := none }
abbrev R_RE8_7 : Oper := { dst := some 39, op := Op.load 4 (Operand.tmp 38), type := 4, pos := "record.go:158", after := #[{ on := 6, ground := Ground.data }], guard := none }
abbrev R_RE8_8 : Oper := { dst := some 40, op := Op.call { callee := Callee.value (Operand.func 19), args := #[Operand.tmp 39], argTypes := #[4] }, type := 3, pos := "record.go:158", after := #[{ on := 7, ground := Ground.data }, { on := 3, ground := Ground.chain }], guard := none }
abbrev R_RE8_9 : Oper := { dst := some 41, op := Op.buildSlice 85 3 #[(0, Operand.tmp 35), (1, Operand.tmp 37), (2, Operand.tmp 40)], type := 85, pos := "record.go:158", after := #[{ on := 3, ground := Ground.data }, { on := 5, ground := Ground.data }, { on := 8, ground := Ground.data }], guard := none }

/-- is the subject of the j-th among those of the first j? -/
def dupAt (xs : List WR) (j : Nat) : Bool := (xs.take j).any (fun y => match xs[j]? with | some x => (y.e == x.e) && (y.id == x.id) | none => false)
def mayB (nodes edges : Int) (xs : List WR) : Bool :=
  ((decide (0 ≤ nodes) && decide (nodes ≤ 24)) && (decide (0 ≤ edges) && decide (edges ≤ 32))) && (xs.all (writeB nodes edges) && (List.range xs.length).all (fun j => !dupAt xs j))
/-- areWrites by its parts. -/
theorem areW_iff (nodes edges : Int) : ∀ (xs : List WR) (seen : List (Bool × Int)), areW nodes edges seen xs = true ↔
    (((0 ≤ nodes ∧ nodes ≤ 24) ∧ 0 ≤ edges ∧ edges ≤ 32) ∧ (∀ x ∈ xs, writeB nodes edges x = true) ∧ (∀ x ∈ xs, (x.e, x.id) ∉ seen) ∧ (xs.map (fun x => (x.e, x.id))).Nodup)
  | [], seen => by simp [areW]
  | x :: xs, seen => by
    unfold areW
    by_cases hc : (seen.contains (x.e, x.id) || !writeB nodes edges x) = true
    · rw [if_pos hc]
      constructor
      · intro h; simp at h
      · rintro ⟨_, h2, h3, _⟩
        exfalso
        simp only [Bool.or_eq_true, Bool.not_eq_true', List.contains_iff_mem] at hc
        rcases hc with hc | hc
        · exact h3 x (by simp) hc
        · rw [h2 x (by simp)] at hc; cases hc
    · rw [if_neg hc, areW_iff nodes edges xs ((x.e, x.id) :: seen)]
      simp only [Bool.or_eq_true, Bool.not_eq_true', List.contains_iff_mem, not_or, Bool.not_eq_false] at hc
      simp only [List.map_cons, List.nodup_cons, List.mem_map, List.mem_cons, not_or, not_exists, not_and]
      constructor
      · rintro ⟨h1, h2, h3, h4⟩
        refine ⟨h1, ?_, ?_, ?_, h4⟩
        · rintro y (rfl | hy)
          · exact hc.2
          · exact h2 y hy
        · rintro y (rfl | hy)
          · exact hc.1
          · exact (h3 y hy).2
        · intro y hy he
          exact (h3 y hy).1 he
      · rintro ⟨h1, h2, h3, h4, h5⟩
        exact ⟨h1, fun y hy => h2 y (.inr hy), fun y hy => ⟨h4 y hy, h3 y (.inr hy)⟩, h5⟩
theorem nodup_iff (l : List (Bool × Int)) : l.Nodup ↔ ∀ i j (hi : i < j) (hj : j < l.length), l[i] ≠ l[j] := by
  rw [List.nodup_iff_pairwise_ne, List.pairwise_iff_getElem]
  exact ⟨fun h i j hij hj => h i j (by omega) hj hij, fun h i j hi hj hij => h i j hij hj⟩
theorem dupAt_iff (xs : List WR) (j : Nat) (hj : j < xs.length) : dupAt xs j = false ↔ ∀ i (hi : i < j), ((xs[i]'(by omega)).e, (xs[i]'(by omega)).id) ≠ (xs[j].e, xs[j].id) := by
  unfold dupAt
  rw [List.getElem?_eq_getElem hj, List.any_eq_false]
  constructor
  · intro h i hi he
    have hm : xs[i]'(by omega) ∈ xs.take j := by rw [List.mem_take_iff_getElem]; exact ⟨i, by omega, rfl⟩
    have := h _ hm
    simp only [Prod.mk.injEq] at he
    simp [he.1, he.2] at this
  · intro h y hy
    rw [List.mem_take_iff_getElem] at hy
    obtain ⟨i, hi, rfl⟩ := hy
    have := h i (by omega)
    intro hb
    simp only [Bool.and_eq_true, beq_iff_eq] at hb
    exact this (by rw [hb.1, hb.2])
theorem may_are (nodes edges : Int) (xs : List WR) : mayB nodes edges xs = areW nodes edges [] xs := by
  rw [Bool.eq_iff_iff, areW_iff, nodup_iff]
  unfold mayB
  simp only [Bool.and_eq_true, decide_eq_true_eq, List.all_eq_true, List.mem_range, Bool.not_eq_true', List.not_mem_nil, not_false_eq_true, implies_true, true_and, List.length_map, List.getElem_map]
  constructor
  · rintro ⟨⟨h1, h2⟩, h3, h4⟩
    exact ⟨⟨h1, h2⟩, h3, fun i j hij hj => (dupAt_iff xs j (by simpa using hj)).1 (h4 j (by simpa using hj)) i hij⟩
  · rintro ⟨⟨h1, h2⟩, h3, h4⟩
    exact ⟨⟨h1, h2⟩, h3, fun j hj => (dupAt_iff xs j hj).2 (fun i hi => h4 i j hi (by simpa using hj))⟩
/-- what is within a write that comes in. -/
def okWm (x : WR) : Prop := (∀ s ∈ x.ss, s.length ≤ 9223372036854775807) ∧ (∀ p ∈ x.ps, p.key.length ≤ 9223372036854775807 ∧ p.v.t.length ≤ 9223372036854775807) ∧ x.ed.t.length ≤ 9223372036854775807 ∧ x.ed.w < W64
theorem may_bad {nodes edges : Int} {xs : List WR} {j : Nat} (h : j < xs.length) (hb : writeB nodes edges xs[j] = false ∨ dupAt xs j = true) : mayB nodes edges xs = false := by
  unfold mayB
  rcases hb with hb | hb
  · rw [all_bad' (writeB nodes edges) xs j h hb]; simp
  · rw [range_bad (fun j => !dupAt xs j) xs.length j h (by rw [hb]; rfl)]; simp
theorem dup_take (xs : List WR) (j k : Nat) (h : k < j) (hj : j < xs.length) (hn : (xs.take k).any (fun y => (y.e == xs[j].e) && (y.id == xs[j].id)) = false) (hc : ((xs[k]'(by omega)).e == xs[j].e && (xs[k]'(by omega)).id == xs[j].id) = false) : (xs.take (k + 1)).any (fun y => (y.e == xs[j].e) && (y.id == xs[j].id)) = false := by
  rw [any_take _ xs k (by omega), hn, hc]; rfl
theorem dup_hit (xs : List WR) (j k : Nat) (h : k < j) (hj : j < xs.length) (hc : ((xs[k]'(by omega)).e == xs[j].e && (xs[k]'(by omega)).id == xs[j].id) = true) : dupAt xs j = true := by
  unfold dupAt
  rw [List.getElem?_eq_getElem hj, List.any_eq_true]
  exact ⟨xs[k]'(by omega), by rw [List.mem_take_iff_getElem]; exact ⟨k, by omega, rfl⟩, hc⟩
set_option maxRecDepth 100000 in
set_option maxHeartbeats 16000000 in
theorem RMay_c (nodes edges : Int) (ps : List WV) (v : Value) (w : World) (hr : RowK 9 w v (ps.map WV.cells)) (hrows : ∀ p ∈ ps, p.rows w) (hok : ∀ p ∈ ps, okWm p.x) (hlen : ps.length ≤ 9223372036854775807) :
    Calls Tryz.prog 17 #[.int .i64 nodes, .int .i64 edges, v] w (Gives w (.bool (mayB nodes edges (ps.map WV.x)))) := by
  obtain ⟨a, c, rfl, _⟩ := hr.shape
  rw [List.length_map] at hr ⊢
  obtain ⟨xs, hxs⟩ : ∃ xs, xs = ps.map WV.x := ⟨_, rfl⟩
  rw [← hxs]
  have hxl : xs.length = ps.length := by rw [hxs, List.length_map]
  have HXJ : Hid (∀ j (h : j < ps.length) (h' : j < xs.length), xs[j] = ps[j].x) := Lib.hid (fun j h h' => by simp only [hxs, List.getElem_map])
  have HMB : Hid (mayB nodes edges xs = (((decide (0 ≤ nodes) && decide (nodes ≤ 24)) && (decide (0 ≤ edges) && decide (edges ≤ 32))) && (xs.all (writeB nodes edges) && (List.range xs.length).all (fun j => !dupAt xs j)))) := Lib.hid rfl
  have HBAD := Lib.hid (fun j h hb => may_bad (nodes := nodes) (edges := edges) (xs := xs) (j := j) h hb)
  have HXL := Lib.hid hxl
  have HT : Hid (Keep w (fun W => (True ∧ RowK 9 W (.slice a ps.length c) (ps.map WV.cells)) ∧ ∀ p ∈ ps, p.rows W) w) := Lib.hid ⟨⟨⟨trivial, hr⟩, hrows⟩, Below.refl _ w, fun w' h => ⟨⟨trivial, hr.below h⟩, fun p hp => ⟨(hrows p hp).1.below h, (hrows p hp).2.below h⟩⟩⟩
  have HOK := Lib.hid hok
  clear hr hrows hok hxs hxl
  generalize mayB nodes edges xs = r at *
  by_cases c1 : nodes < 0
  · have HV : Hid (r = false) := Lib.hid (by rw [HMB.out, decide_eq_false (show ¬ 0 ≤ nodes by omega)]; simp)
    go_enter Tryz.func17, Tryz.ntmps17
    go_wp2_with fail
    go_ret
    exact ⟨by rw [HV.out]; rfl, HT.out.below⟩
  by_cases c2 : 24 < nodes
  · have HV : Hid (r = false) := Lib.hid (by rw [HMB.out, decide_eq_false (show ¬ nodes ≤ 24 by omega)]; simp)
    go_enter Tryz.func17, Tryz.ntmps17
    go_wp2_with fail
    go_ret
    exact ⟨by rw [HV.out]; rfl, HT.out.below⟩
  by_cases c3 : edges < 0
  · have HV : Hid (r = false) := Lib.hid (by rw [HMB.out, decide_eq_false (show ¬ 0 ≤ edges by omega)]; simp)
    go_enter Tryz.func17, Tryz.ntmps17
    go_wp2_with fail
    go_ret
    exact ⟨by rw [HV.out]; rfl, HT.out.below⟩
  by_cases c4 : 32 < edges
  · have HV : Hid (r = false) := Lib.hid (by rw [HMB.out, decide_eq_false (show ¬ edges ≤ 32 by omega)]; simp)
    go_enter Tryz.func17, Tryz.ntmps17
    go_wp2_with fail
    go_ret
    exact ⟨by rw [HV.out]; rfl, HT.out.below⟩
  replace HMB : Hid (r = (xs.all (writeB nodes edges) && (List.range xs.length).all (fun j => !dupAt xs j))) := Lib.hid (by rw [HMB.out, decide_eq_true (show 0 ≤ nodes by omega), decide_eq_true (show nodes ≤ 24 by omega), decide_eq_true (show 0 ≤ edges by omega), decide_eq_true (show edges ≤ 32 by omega)]; simp)
  go_enter Tryz.func17, Tryz.ntmps17
  go_wp2_with fail
  go_loopw [7] (fun i wr => ∃ j : Nat, j ≤ ps.length ∧ i = .int .i64 (j : Int) ∧ ((xs.take j).all (writeB nodes edges) = true ∧ (List.range j).all (fun j => !dupAt xs j) = true) ∧ Keep w (fun W => (True ∧ RowK 9 W (.slice a ps.length c) (ps.map WV.cells)) ∧ ∀ p ∈ ps, p.rows W) wr) (fun i _ => ps.length - (intOf i).toNat)
  case atStart => exact ⟨0, by omega, rfl, ⟨rfl, rfl⟩, HT.out⟩
  case round =>
    clear HT
    obtain ⟨j, hj, rfl, hall, hT⟩ := hrel
    have HT := Lib.hid hT
    have HALL := Lib.hid hall
    clear hall
    by_cases hlt : j < ps.length
    · obtain ⟨B, o, hB', hBl, hx⟩ := hT.facts.1.2.cells j (by simpa using hlt)
      obtain rfl : a = some ⟨B, o, none⟩ := hB'
      simp only [List.getElem_map] at hx
      have hxlt : j < xs.length := by rw [HXL.out]; exact hlt
      have hxj := HXJ.out j hlt hxlt
      have hrj := hT.facts.2 _ (List.getElem_mem hlt)
      have hoj := HOK.out _ (List.getElem_mem hlt)
      have HBJ := Lib.hid (HBAD.out j hxlt)
      have HAT := Lib.hid (all_take' (writeB nodes edges) xs j hxlt)
      have HRA := Lib.hid (range_all (fun j => !dupAt xs j) j)
      have HDT := Lib.hid (fun k h => dup_take xs j k h hxlt)
      have HDH := Lib.hid (fun k h => dup_hit xs j k h hxlt)
      have HDU : Hid (dupAt xs j = (xs.take j).any (fun y => (y.e == xs[j].e) && (y.id == xs[j].id))) := Lib.hid (by unfold dupAt; rw [List.getElem?_eq_getElem hxlt])
      have HCK : Hid (∀ (W : World) k (hk : k < ps.length), RowK 9 W (.slice (some ⟨B, o, none⟩) ps.length c) (ps.map WV.cells) → CellsAt W B (o + k * 9) ps[k].cells) := Lib.hid (fun W k hk h => by
        obtain ⟨B2, o2, he, _, hx2⟩ := h.cells k (by simpa using hk)
        simp only [Option.some.injEq, Addr.mk.injEq, and_true] at he
        obtain ⟨rfl, rfl⟩ := he
        simpa using hx2)
      rw [hxj] at HBJ HAT HDT HDH HDU
      generalize hp : ps[j] = p at *
      obtain ⟨⟨e, id, g, ss, pr, ⟨ea, eb, et, ew⟩⟩, sa, sc, pa, pc⟩ := p
      have hk := facts9At hx
      obtain ⟨k1, k2, k3, k4⟩ := hoj
      dsimp only at k1 k2 k3 k4 hk HBJ HAT HDT HDH HDU
      have CW := Lib.hid (fun W (h1 : RowAt W (.slice sa ss.length sc) (ss.map strV)) (h2 : RowK 6 W (.slice pa pr.length pc) (pr.map PR.cells)) => RWrite_c nodes edges ⟨e, id, g, ss, pr, ⟨ea, eb, et, ew⟩⟩ sa pa sc pc W h1 h2 k1 k2 k3 k4)
      dsimp only at CW
      have HRJ : Hid (RowAt wr (.slice sa ss.length sc) (ss.map strV) ∧ RowK 6 wr (.slice pa pr.length pc) (pr.map PR.cells)) := Lib.hid hrj
      have hi1 : (j : Int) < (ps.length : Int) := by omega
      generalize writeB nodes edges ⟨e, id, g, ss, pr, ⟨ea, eb, et, ew⟩⟩ = wb at *
      have HPJ := Lib.hid hp
      clear hT hx hrj k1 k2 k3 k4 hp
      cases wb
      case false =>
        have HV : Hid (r = false) := Lib.hid (HBJ.out (.inl rfl))
        go_wp2_with (first | (go_at_call 45; (with_reducible refine (CW.out _ HRJ.out.1 HRJ.out.2).mono ?_); rintro e' wq ⟨rfl, hq⟩; replace HT := Lib.hid (HT.out.on hq); clear hq) | fail)
        go_ret
        exact ⟨by rw [HV.out]; rfl, HT.out.below⟩
      case true =>
        go_wp2_with (first | (go_at_call 45; (with_reducible refine (CW.out _ HRJ.out.1 HRJ.out.2).mono ?_); rintro e' wq ⟨rfl, hq⟩; replace HT := Lib.hid (HT.out.on hq); clear hq) | fail)
        clear CW HRJ hk
        go_loopw [8] (fun i wr => ∃ k : Nat, k ≤ j ∧ i = .int .i64 (k : Int) ∧ (xs.take k).any (fun y => (y.e == e) && (y.id == id)) = false ∧ Keep w (fun W => (True ∧ RowK 9 W (.slice (some ⟨B, o, none⟩) ps.length c) (ps.map WV.cells)) ∧ ∀ p ∈ ps, p.rows W) wr) (fun i _ => j - (intOf i).toNat)
        case atStart => exact ⟨0, by omega, rfl, rfl, HT.out⟩
        case round =>
          clear HT
          obtain ⟨k, hk, rfl, hany, hT⟩ := hrel
          have HT := Lib.hid hT
          have HAN := Lib.hid hany
          clear hany
          by_cases hkl : k < j
          · have hkp : k < ps.length := by omega
            have hkx : k < xs.length := by omega
            have hcj := facts9At (by have := HCK.out _ j hlt hT.facts.1.2; rwa [HPJ.out] at this)
            have hxk := HXJ.out k hkp hkx
            have hck0 := HCK.out _ k hkp hT.facts.1.2
            have HD1 := Lib.hid (HDT.out k hkl HAN.out)
            have HD2 := Lib.hid (HDH.out k hkl)
            rw [hxk] at HD1 HD2
            generalize ps[k] = q at *
            obtain ⟨⟨e2, id2, g2, ss2, pr2, ⟨ea2, eb2, et2, ew2⟩⟩, sa2, sc2, pa2, pc2⟩ := q
            have hck := facts9At hck0
            dsimp only at hck hcj HD1 HD2
            have f1 : ∀ z, (wr.drewN z).cell? ⟨B, o + k * 9, none⟩ = _ := fun _ => hck.1
            have f2 : ∀ z, (wr.drewN z).cell? ⟨B, o + k * 9 + 1, none⟩ = _ := fun _ => hck.2.1
            have f3 : ∀ z, (wr.drewN z).cell? ⟨B, o + j * 9, none⟩ = _ := fun _ => hcj.1
            have f4 : ∀ z, (wr.drewN z).cell? ⟨B, o + j * 9 + 1, none⟩ = _ := fun _ => hcj.2.1
            have hk1 : (k : Int) < (j : Int) := by omega
            have hk2 : (k : Int) < (ps.length : Int) := by omega
            clear hT hck0 hck hcj hxk
            cases q1 : (e2 == e)
            case false =>
              rw [q1] at HD1
              go_wp2_with fail
              go_quiet (fail)
              go_wp2_with fail
              go_roundw
              case rel => exact ⟨k + 1, by omega, by go_num, HD1.out rfl, HT.out.on (below_drewN' _ _)⟩
              case measure => simp [intOf]; omega
            case true =>
              cases q2 : (id2 == id)
              case false =>
                rw [q1, q2] at HD1
                go_wp2_with fail
                go_quiet (fail)
                go_wp2_with fail
                go_roundw
                case rel => exact ⟨k + 1, by omega, by go_num, HD1.out rfl, HT.out.on (below_drewN' _ _)⟩
                case measure => simp [intOf]; omega
              case true =>
                rw [q1, q2] at HD2
                have HV : Hid (r = false) := Lib.hid (HBJ.out (.inr (HD2.out rfl)))
                go_wp2_with fail
                go_quiet (fail)
                go_wp2_with fail
                go_ret
                exact ⟨by rw [HV.out]; rfl, (HT.out.on (below_drewN' _ _)).below⟩
          · obtain rfl : k = j := by omega
            have hk1 : ¬ (k : Int) < (k : Int) := by omega
            clear hT
            go_wp2_with fail
            go_roundw
            case rel => exact ⟨k + 1, by omega, by go_num, ⟨by rw [HAT.out, HALL.out.1]; rfl, by rw [HRA.out, HALL.out.2, HDU.out, HAN.out]; rfl⟩, HT.out⟩
            case measure => simp [intOf]; omega
    · obtain rfl : j = ps.length := by omega
      have HV : Hid (r = true) := Lib.hid (by
        have h1 := HALL.out.1
        rw [List.take_of_length_le (by rw [HXL.out]; exact Nat.le_refl _)] at h1
        rw [HMB.out, h1, HXL.out, HALL.out.2]; rfl)
      have hi1 : ¬ (ps.length : Int) < (ps.length : Int) := by omega
      clear hT
      go_wp2_with fail
      go_ret
      exact ⟨by rw [HV.out]; rfl, HT.out.below⟩
end Go.Proofs.YtmbffncmogpkfaaGreatDoor

namespace Go.Proofs.YtmbffncmogpkfaaGreatDoor
open Go Go.Proofs Go.RowKit
set_option linter.unusedVariables false
set_option linter.unusedSimpArgs false

theorem step_appRow {ops : Array Oper} {o : Oper} {a : Act} {w : World} {Q : Exit → Act → World → Prop} {K : Act → World → Prop} {E : Prop} {t e : TypeId} {bytes : Nat} (he : Elem1 t e bytes) (hgd : o.guard = none) (s x : Operand) (ho : o.op = .call { callee := .builtin .append, args := #[s, x], argTypes := #[t, t] })
    (B n : Nat) (v : Value) (xs : List Value) (hs : a.eval s = v) (hown : w.ownsRow B e 1 v n xs) (vx : Value) (us : List Value) (hx : a.eval x = vx) (hr : RowAt w vx us) (h1 : ∀ u ∈ us, u.oneCell' = true)
    (hn : (n + us.length) * bytes ≤ 140737488355328) (hm : n + us.length ≤ 140737488355328) (hB : B ≤ w.heap.size)
    (h : ∀ va vc w', w'.ownsRow B e 1 (.slice va (n + us.length) vc) (n + us.length) (xs ++ us) → w.grownBy w' v.ownBlock → K (a.put o.dst (.slice va (n + us.length) vc)) w') :
    if Region.wanted o (yielded ops a.tmps) = true then Oper.wp Tryz.prog o a w K Q else E := by
  have hw : Region.wanted o (yielded ops a.tmps) = true := by simp [Region.wanted, hgd]
  rw [if_pos hw]
  obtain ⟨i, z, ht, hi, hz, hs1, hb1, hz1⟩ := he
  rcases hr.2 with ⟨rfl, rfl⟩ | ⟨ad, c, rfl, _, hc⟩
  · have hrun := run_append_owned_none (P := Tryz.prog) (w := w) B t o.type e i 1 ht hi v n xs hown
    unfold Oper.wp
    simp [execOp, ho, resolve, invoke, builtin, hs, hx, hrun, Result.andThen]
    obtain ⟨va, vc, rfl⟩ := owns_shape hown
    exact h va vc w (by simpa using hown) ⟨rfl, rfl, rfl, Nat.le_refl _, fun _ _ _ => rfl⟩
  · refine wp_append_own _ s x t ho B e i z 1 bytes ht hi hz hs1 hb1 hz1 (by decide) v n xs hs hown ad us.length c us hx (by rw [Nat.mul_one]) ?_ h1 (by unfold maxLen; omega) hn hB ?_
    · intro j u hu
      have hj := (List.getElem?_eq_some_iff.1 hu).1
      rw [hc j hj]
      rw [List.getElem?_eq_getElem hj] at hu
      exact hu
    · intro v' w' h2 h3 _
      obtain ⟨va, vc, rfl⟩ := owns_shape h2
      exact h va vc w' h2 h3
def BlkT (W : World) (g : Nat) (cs : List Value) (t : TypeId) : Prop := W.heap[g]? = some (.cells cs.toArray t)
theorem BlkT.blk {W : World} {g : Nat} {cs : List Value} {t : TypeId} (h : BlkT W g cs t) : Blk W g cs := ⟨(Array.getElem?_eq_some_iff.1 h).1, t, h⟩
theorem BlkT.lt {W : World} {g : Nat} {cs : List Value} {t : TypeId} (h : BlkT W g cs t) : g < W.heap.size := (Array.getElem?_eq_some_iff.1 h).1
theorem BlkT.below {W W' : World} {g : Nat} {cs : List Value} {t : TypeId} (h : BlkT W g cs t) (hb : Below W.heap.size W W') : BlkT W' g cs t := by
  have e := hb.block g (BlkT.lt h)
  unfold BlkT at h ⊢
  rw [e]; exact h
theorem BlkT.apartO {W : World} {g lo k n : Nat} {cs : List Value} {t e : TypeId} {v : Value} {xs : List Value} (h : BlkT W g cs t) (h' : W.ownsRow lo e k v n xs) (hne : t ≠ e) : v.ownBlock ≠ some g := by
  intro hv
  rcases h'.2 with ⟨rfl, _⟩ | ⟨q, cap, cur, rfl, _, hg, _⟩
  · simp [Value.ownBlock] at hv
  · simp only [Value.ownBlock, Option.some.injEq] at hv
    subst hv
    unfold BlkT at h
    rw [h] at hg
    simp only [Option.some.injEq, Obj.cells.injEq] at hg
    exact hne hg.2.1
theorem wp_appRowG {ops : Array Oper} {rest : List Oper} {o : Oper} {a : Act} {Q : Exit → Act → World → Prop} {w : World} {t e : TypeId} {bytes : Nat} (he : Elem1 t e bytes) (hgd : Region.wanted o (yielded ops a.tmps) = true) (s x : Operand) (ho : o.op = .call { callee := .builtin .append, args := #[s, x], argTypes := #[t, t] })
    (B n : Nat) (v : Value) (xs : List Value) (hs : a.eval s = v) (hown : w.ownsRow B e 1 v n xs) (vx : Value) (us : List Value) (hx : a.eval x = vx) (hr : RowAt w vx us) (h1 : ∀ u ∈ us, u.oneCell' = true)
    (hn : (n + us.length) * bytes ≤ 140737488355328) (hm : n + us.length ≤ 140737488355328) (hB : B ≤ w.heap.size)
    (h : ∀ v' w', w'.ownsRow B e 1 v' (n + us.length) (xs ++ us) → w.grownBy w' v.ownBlock → wpList Tryz.prog ops Q rest (a.put o.dst v') w') : wpList Tryz.prog ops Q (o :: rest) a w := by
  obtain ⟨i, z, ht, hi, hz, hs1, hb1, hz1⟩ := he
  rcases hr.2 with ⟨rfl, rfl⟩ | ⟨ad, c, rfl, _, hc⟩
  · refine wpList_wanted hgd fun K hK => ?_
    have hrun := run_append_owned_none (P := Tryz.prog) (w := w) B t o.type e i 1 ht hi v n xs hown
    unfold Oper.wp
    simp [execOp, ho, resolve, invoke, builtin, hs, hx, hrun, Result.andThen]
    exact hK _ _ (h v w (by simpa using hown) ⟨rfl, rfl, rfl, Nat.le_refl _, fun _ _ _ => rfl⟩)
  · refine wpList_wanted hgd fun K hK => ?_
    refine wp_append_own _ s x t ho B e i z 1 bytes ht hi hz hs1 hb1 hz1 (by decide) v n xs hs hown ad us.length c us hx (by rw [Nat.mul_one]) ?_ h1 (by unfold maxLen; omega) hn hB ?_
    · intro j u hu
      have hj := (List.getElem?_eq_some_iff.1 hu).1
      rw [hc j hj]
      rw [List.getElem?_eq_getElem hj] at hu
      exact hu
    · intro v' w' h2 h3 _
      exact hK _ _ (h v' w' h2 h3)
theorem BlkT.newW (w : World) (cs : List Value) (t : TypeId) : BlkT (w.alloc (.cells cs.toArray t)) w.heap.size cs t := by
  unfold BlkT
  show (w.heap.push _)[_]? = _
  rw [Array.getElem?_push, if_pos rfl]
theorem blk_grownW {W W' : World} {g : Nat} {cs : List Value} {t : TypeId} {r : Option Nat} (h : BlkT W g cs t) (hg : W.grownBy W' r) (hr : r ≠ some g) : BlkT W' g cs t := by
  have e := hg.block g (BlkT.lt h) (fun e => hr e.symm)
  unfold BlkT at h ⊢
  rw [e]; exact h
/-- what a round of Encode holds: the write's block, the bytes so far. -/
structure RE (w W : World) (g : Nat) (cs : List Value) (v : Value) (n : Nat) (l : List UInt8) : Prop where
  blk : BlkT W g cs 45
  own : W.ownsRow w.heap.size 5 1 v n (bytesV l)
  len : n = l.length
  bel : Below w.heap.size w W
theorem RE.below {w W W' : World} {g : Nat} {cs : List Value} {v : Value} {n : Nat} {l : List UInt8} (h : RE w W g cs v n l) (hb : Below W.heap.size W W') : RE w W' g cs v n l :=
  ⟨h.blk.below hb, own_belowE h.own hb, h.len, h.bel.trans (hb.mono h.bel.size)⟩
theorem RE.app {w W W' : World} {g : Nat} {cs : List Value} {v v' : Value} {n : Nat} {l x : List UInt8} (h : RE w W g cs v n l) (ho : W'.ownsRow w.heap.size 5 1 v' (n + (bytesV x).length) (bytesV l ++ bytesV x)) (hg : W.grownBy W' v.ownBlock) :
    ∃ va vc n', v' = .slice va n' vc ∧ RE w W' g cs (.slice va n' vc) n' (l ++ x) := by
  obtain ⟨va, vc, n', rfl, h1, h2⟩ := own_app2 ho h.len
  exact ⟨va, vc, n', rfl, blk_grownW h.blk hg (h.blk.apartO h.own (by decide)), h1, h2, h.bel.grown hg h.bel.size (fun q hq => (h.own.lt q hq).1)⟩
theorem okW2_m {x : WR} (h : okW2 x) : okWm x := by
  obtain ⟨h1, h2, h3, h4, h5, h6⟩ := h
  have hr : 70 + x.ed.t.length + (20 + strsRoom x.ss + sumR roomPr x.ps) ≤ 4398046511104 := h6
  refine ⟨fun s hs => ?_, fun p hp => ?_, by omega, h4⟩
  · have : 10 + s.length ≤ strsRoom x.ss := sumR_mem (fun s : List UInt8 => 10 + s.length) hs
    omega
  · have : 10 + p.key.length + (20 + p.v.t.length) ≤ sumR roomPr x.ps := sumR_mem roomPr hp
    omega
theorem kinds_of {nodes edges : Int} {x : WR} (h : writeB nodes edges x = true) (hg : x.g = false) (he : x.e = false) : ∀ p ∈ x.ps, 1 ≤ p.v.k ∧ p.v.k ≤ 4 := by
  unfold writeB at h
  rw [hg, he] at h
  simp only [Bool.and_eq_true, Bool.false_eq_true, if_false] at h
  have h2 := h.1.2
  unfold nodeB at h2
  simp only [Bool.and_eq_true, List.all_eq_true] at h2
  intro p hp
  have h3 := h2.1.1 p hp
  unfold isV at h3
  simp at h3
  omega
theorem may_all {nodes edges : Int} {xs : List WR} (h : mayB nodes edges xs = true) : ∀ x ∈ xs, writeB nodes edges x = true := by
  unfold mayB at h
  simp only [Bool.and_eq_true, List.all_eq_true] at h
  exact h.2.1
set_option maxRecDepth 100000 in
set_option maxHeartbeats 16000000 in
theorem REncode_c (nodes edges : Int) (ps : List WV) (v : Value) (w : World) (hr : RowK 9 w v (ps.map WV.cells)) (hrows : ∀ p ∈ ps, p.rows w) (hok : ∀ p ∈ ps, okW2 p.x) (hsum : sumR (fun p : WV => roomWr p.x) ps ≤ 1099511627776) (hn : i64R nodes) (he : i64R edges) :
    Calls Tryz.prog 6 #[.int .i64 nodes, .int .i64 edges, v] w (EncB w (mayB nodes edges (ps.map WV.x)) (lebAll nodes edges (ps.map WV.x))) := by
  have hlen : ps.length ≤ sumR (fun p : WV => roomWr p.x) ps := sumR_len _ (by intro x; unfold roomWr; omega) ps
  obtain ⟨a, c, rfl, hac⟩ := hr.shape
  rw [List.length_map] at *
  have HM := Lib.hid (RMay_c nodes edges ps _ w hr hrows (fun p hp => okW2_m (hok p hp)) (by omega))
  have HR := Lib.hid (fun W (hb : Below w.heap.size w W) => hr.below hb)
  have HW := Lib.hid (fun j (hj : j < ps.length) W (hb : Below w.heap.size w W) => (show RowAt W (.slice ps[j].sa ps[j].x.ss.length ps[j].sc) (ps[j].x.ss.map strV) ∧ RowK 6 W (.slice ps[j].pa ps[j].x.ps.length ps[j].pc) (ps[j].x.ps.map PR.cells) from ⟨(hrows ps[j] (List.getElem_mem hj)).1.below hb, (hrows ps[j] (List.getElem_mem hj)).2.below hb⟩))
  have HMA := Lib.hid (fun hm j (hj : j < ps.length) => may_all (nodes := nodes) (edges := edges) (xs := ps.map WV.x) hm ps[j].x (List.mem_map_of_mem (List.getElem_mem hj)))
  have HOK := Lib.hid hok
  have HSM := Lib.hid hsum
  obtain ⟨hd, hhd⟩ : ∃ hd, hd = lebInts [nodes, edges, (ps.length : Int)] := ⟨_, rfl⟩
  have HLL : Hid (lebAll nodes edges (ps.map WV.x) = hd ++ lebWrs (ps.map WV.x)) := Lib.hid (by rw [hhd, lebInts3]; unfold lebAll; rw [List.length_map])
  have hio : IntsOk [nodes, edges, (ps.length : Int)] := by
    intro n hn'
    simp only [List.mem_cons, List.not_mem_nil, or_false] at hn'
    rcases hn' with rfl | rfl | rfl
    · exact hn
    · exact he
    · omega
  have HLN : Hid (hd.length ≤ 30) := Lib.hid (by have := lebInts_len _ hio; rw [hhd]; simpa using this)
  have C0 := Lib.hid (fun B g W (h2 : Blk W g [.int .i64 nodes, .int .i64 edges, .int .i64 (ps.length : Int)]) (hB : B = g) => RInts_c (.slice (some ⟨B, 0, none⟩) 3 3) [nodes, edges, (ps.length : Int)] W (row_of_blk h2 hB rfl (by decide)) hio (by simp))
  rw [← hhd] at C0
  have hpl : ps.length ≤ 1099511627776 := by omega
  rw [HLL.out]
  clear hr hrows hok hsum hn he hio hhd HLL hlen hac
  generalize hmay : mayB nodes edges (ps.map WV.x) = ok at *
  cases ok
  · clear hmay
    go_enter Tryz.func6, Tryz.ntmps6
    go_wp2_with (first | (go_at_call 17; (with_reducible refine (HM.out).mono ?_); rintro e w1 ⟨rfl, hb1⟩; have HB1 := Lib.hid hb1; clear hb1) | fail)
    go_ret2
    exact ⟨_, rfl, RowAt.nil _, HB1.out⟩
  · have HMA2 := Lib.hid (HMA.out rfl)
    clear hmay HMA
    go_enter Tryz.func6, Tryz.ntmps6
    go_wp2_with (first | (go_at_call 17; (with_reducible refine (HM.out).mono ?_); rintro e w1 ⟨rfl, hb1⟩; have HB1 := Lib.hid hb1; clear hb1) | fail)
    with_reducible refine (C0.out _ _ _ (Blk.new _ _ _) rfl).mono ?_
    rintro e w2 ⟨v2, rfl, hown2, hb2⟩
    obtain ⟨a2, c2, n2, rfl, ho2, hn2⟩ := own_op hown2
    have HO2 := Lib.hid (ownsRow_mono ho2 (by have := HB1.out.size; simp; omega : w.heap.size ≤ _))
    have HN2 := Lib.hid hn2
    have HB2 := Lib.hid ((HB1.out.alloc HB1.out.size _).trans (hb2.mono (HB1.out.alloc HB1.out.size _).size))
    clear hown2 hb2 ho2 hn2 C0
    go_wp2_with fail
    go_loopw [8, 9] (fun b i wr => ∃ (j n : Nat) (va : Option Addr) (vc : Nat), i = .int .i64 (j : Int) ∧ j ≤ ps.length ∧ b = .slice va n vc ∧ n = (hd ++ lebWrs ((ps.take j).map WV.x)).length ∧ wr.ownsRow w.heap.size 5 1 b n (bytesV (hd ++ lebWrs ((ps.take j).map WV.x))) ∧ Below w.heap.size w wr) (fun _ i _ => ps.length - (intOf i).toNat)
    case atStart => exact ⟨0, n2, a2, c2, rfl, Nat.zero_le _, rfl, by rw [HN2.out]; simp [lebWrs], by simpa [lebWrs] using HO2.out, HB2.out⟩
    case round =>
      clear HO2 HN2 HB2 HB1
      obtain ⟨j, n0, va, vc, rfl, hj, rfl, hn0, ho, hbel⟩ := hrel
      have HS := Lib.hid ho
      have HN := Lib.hid hn0
      have HB := Lib.hid hbel
      by_cases hlt : j < ps.length
      · obtain ⟨B, o, hB', hBl, hx⟩ := (HR.out _ hbel).cells j (by simpa using hlt)
        obtain rfl : a = some ⟨B, o, none⟩ := hB'
        simp only [List.getElem_map] at hx
        have hoj := HOK.out _ (List.getElem_mem hlt)
        have HKD := Lib.hid (fun hg he => kinds_of (HMA2.out j hlt) hg he)
        have HRW := Lib.hid (HW.out j hlt)
        have HE : Hid (hd ++ lebWrs ((ps.take (j + 1)).map WV.x) = (hd ++ lebWrs ((ps.take j).map WV.x)) ++ lebWr ps[j].x) := Lib.hid (by unfold lebWrs; rw [List.take_succ_eq_append_getElem hlt, List.map_append, List.flatMap_append]; simp only [List.map_cons, List.map_nil, List.flatMap_cons, List.flatMap_nil, List.append_nil, List.append_assoc])
        have hpre : (lebWrs ((ps.take j).map WV.x)).length ≤ sumR (fun p : WV => roomWr p.x) (ps.take j) := by
          have := flatG_len (fun p : WV => lebWr p.x) (fun p : WV => roomWr p.x) (ps.take j) (fun p hp => lebWr_len (HOK.out p (List.mem_of_mem_take hp)))
          rwa [show lebWrs ((ps.take j).map WV.x) = (ps.take j).flatMap (fun p : WV => lebWr p.x) by unfold lebWrs; rw [List.flatMap_map]]
        have hrm := sumR_step (fun p : WV => roomWr p.x) ps j hlt
        have hbd : (hd ++ lebWrs ((ps.take j).map WV.x)).length + roomWr ps[j].x ≤ 1099511627806 := by
          have h1 := HLN.out
          have h2 := HSM.out
          rw [List.length_append]
          omega
        have hmi : (j : Int) < (ps.length : Int) := by omega
        clear hpre hrm ho hn0
        generalize hd ++ lebWrs ((ps.take j).map WV.x) = l1 at *
        generalize ps[j] = p at *
        obtain ⟨⟨e, id, g, ss, pr, ⟨ea, eb, et, ew⟩⟩, sa, sc, pa, pc⟩ := p
        have hk := facts9At hx
        obtain ⟨k1, k2, k3, k4, k5, k6⟩ := hoj
        unfold roomWr at hbd k6
        unfold lebWr lebEd at HE
        dsimp only at k1 k2 k3 k4 k5 k6 hbd HE hk HKD HRW
        have h3i : IntsOk [b2i e, id, b2i g] := by intro n hn'; simp only [List.mem_cons, List.not_mem_nil, or_false] at hn'; rcases hn' with rfl | rfl | rfl; exact b2i_r _; exact k1; exact b2i_r _
        obtain ⟨x3, hx3⟩ : ∃ x3, x3 = lebInts [b2i e, id, b2i g] := ⟨_, rfl⟩
        have C1 := Lib.hid (fun B gg W (h2 : Blk W gg [.int .i64 (b2i e), .int .i64 id, .int .i64 (b2i g)]) (hB : B = gg) => RInts_c (.slice (some ⟨B, 0, none⟩) 3 3) [b2i e, id, b2i g] W (row_of_blk h2 hB rfl (by decide)) h3i (by simp))
        rw [← hx3] at C1
        have HX3 : Hid (x3.length ≤ 30) := Lib.hid (by have := lebInts_len _ h3i; rw [hx3]; simpa using this)
        obtain ⟨l2, hl2⟩ : ∃ l2, l2 = l1 ++ x3 := ⟨_, rfl⟩
        replace HE : Hid (hd ++ lebWrs ((ps.take (j + 1)).map WV.x) = l2 ++ (if g = true then [] else if e = true then lebInt ea ++ lebInt eb ++ lebStr et ++ lebReal ew else lebNode ss pr)) := Lib.hid (by rw [HE.out, hl2, hx3, lebInts3]; simp only [List.append_assoc])
        have HL2 := Lib.hid hl2
        have HBD : Hid (l1.length ≤ 1099511627806) := Lib.hid (by omega)
        obtain ⟨W1, hW1⟩ : ∃ W1, W1 = wr.alloc (.cells #[.bool e, .int .i64 id, .bool g, .slice sa ss.length sc, .slice pa pr.length pc, .int .i64 ea, .int .i64 eb, .string ⟨et.toArray⟩, .float .f64 ew] 45) := ⟨_, rfl⟩
        have H0 : Hid (RE w W1 wr.heap.size (cells9 e id g (.slice sa ss.length sc) (.slice pa pr.length pc) ea eb et ew) (.slice va n0 vc) n0 l1) := Lib.hid (by
          have hBW : Below wr.heap.size wr W1 := by rw [hW1]; exact (Below.refl _ wr).alloc (Nat.le_refl _) _
          exact ⟨by rw [hW1]; exact BlkT.newW wr (cells9 e id g (.slice sa ss.length sc) (.slice pa pr.length pc) ea eb et ew) _, own_belowE HS.out hBW, HN.out, HB.out.trans (hBW.mono HB.out.size)⟩)
        clear hx hbel hx3 h3i
        obtain ⟨z0, z1, z2, _, _, _, _, _, _⟩ := facts9 (H0.out.below (Below.refl _ W1).drew).blk.blk
        have HA := Lib.hid (H0.out.below (((Below.refl W1.heap.size W1).drew).alloc (Nat.le_refl _) (.cells #[.int .i64 (b2i e), .int .i64 id, .int .i64 (b2i g)] 3)))
        have HAk : Hid (Blk (W1.drew.alloc (.cells #[.int .i64 (b2i e), .int .i64 id, .int .i64 (b2i g)] 3)) W1.heap.size [.int .i64 (b2i e), .int .i64 id, .int .i64 (b2i g)]) := Lib.hid (Blk.new W1.drew [.int .i64 (b2i e), .int .i64 id, .int .i64 (b2i g)] 3)
        go_wp2_with fail
        rw [← hW1]
        clear hW1
        refine wp_region_last (n := 12) (S := (fun W => W.cell? ⟨wr.heap.size, 0, none⟩ = some (.bool e) ∧ W.cell? ⟨wr.heap.size, 1, none⟩ = some (.int .i64 id) ∧ W.cell? ⟨wr.heap.size, 2, none⟩ = some (.bool g))) (by kernel_rfl) (by kernel_rfl) (by kernel_rfl) ?_ (fun hHeld => ?_)
        · (first | exact ⟨z0, z1, z2⟩ | exact ⟨y0, y1, y2⟩)
        (refine wpAnyH_take (i := 0) (oi := R_RE8_0) (v := ?_) rfl (by kernel_rfl) (by kernel_rfl) (by kernel_rfl) (fun _ _ _ h => h) (Or.inl ⟨by rfl, ?_⟩) (by assumption) ?_; rotate_left; next => (intro w hSw; (try dsimp only at hSw); (try delta R_RE8_0); go_simp; try with_reducible rfl))
        (try simp only [Act.put, List.setIfInBounds_toArray, List.set_cons_zero, List.set_cons_succ])
        (refine wpAnyH_take (i := 1) (oi := R_RE8_1) (v := ?_) rfl (by kernel_rfl) (by kernel_rfl) (by kernel_rfl) (fun _ _ _ h => h) (Or.inl ⟨by rfl, ?_⟩) (by assumption) ?_; rotate_left; next => (intro w hSw; (try dsimp only at hSw); (try delta R_RE8_1); go_simp; try with_reducible rfl))
        (try simp only [Act.put, List.setIfInBounds_toArray, List.set_cons_zero, List.set_cons_succ])
        (refine wpAnyH_take (i := 2) (oi := R_RE8_2) (v := ?_) rfl (by kernel_rfl) (by kernel_rfl) (by kernel_rfl) (fun _ _ _ h => h) (Or.inl ⟨by rfl, ?_⟩) (by assumption) ?_; rotate_left; next => (intro w hSw; (try dsimp only at hSw); (try delta R_RE8_2); go_simp; try with_reducible rfl))
        (try simp only [Act.put, List.setIfInBounds_toArray, List.set_cons_zero, List.set_cons_succ])
        (refine wpAnyH_take (i := 4) (oi := R_RE8_4) (v := ?_) rfl (by kernel_rfl) (by kernel_rfl) (by kernel_rfl) (fun _ _ _ h => h) (Or.inl ⟨by rfl, ?_⟩) (by assumption) ?_; rotate_left; next => (intro w hSw; (try dsimp only at hSw); (try delta R_RE8_4); go_simp; try with_reducible rfl))
        (try simp only [Act.put, List.setIfInBounds_toArray, List.set_cons_zero, List.set_cons_succ])
        (refine wpAnyH_take (i := 5) (oi := R_RE8_5) (v := ?_) rfl (by kernel_rfl) (by kernel_rfl) (by kernel_rfl) (fun _ _ _ h => h) (Or.inl ⟨by rfl, ?_⟩) (by assumption) ?_; rotate_left; next => (intro w hSw; (try dsimp only at hSw); (try delta R_RE8_5); go_simp; try with_reducible rfl))
        (try simp only [Act.put, List.setIfInBounds_toArray, List.set_cons_zero, List.set_cons_succ])
        (refine wpAnyH_take (i := 6) (oi := R_RE8_6) (v := ?_) rfl (by kernel_rfl) (by kernel_rfl) (by kernel_rfl) (fun _ _ _ h => h) (Or.inl ⟨by rfl, ?_⟩) (by assumption) ?_; rotate_left; next => (intro w hSw; (try dsimp only at hSw); (try delta R_RE8_6); go_simp; try with_reducible rfl))
        (try simp only [Act.put, List.setIfInBounds_toArray, List.set_cons_zero, List.set_cons_succ])
        (refine wpAnyH_take (i := 7) (oi := R_RE8_7) (v := ?_) rfl (by kernel_rfl) (by kernel_rfl) (by kernel_rfl) (fun _ _ _ h => h) (Or.inl ⟨by rfl, ?_⟩) (by assumption) ?_; rotate_left; next => (intro w hSw; (try dsimp only at hSw); (try delta R_RE8_7); go_simp; try with_reducible rfl))
        (try simp only [Act.put, List.setIfInBounds_toArray, List.set_cons_zero, List.set_cons_succ])
        refine wpAnyH_ready (rs := [3]) (by kernel_rfl) (by simp) ?_
        refine AllReadyH.cons (o := R_RE8_3) rfl (fun K hK => ?_) AllReadyH.nil
        (try delta R_RE8_3)
        (go_simp; (with_reducible refine (RBool_c e _).mono ?_); rintro e' wq ⟨rfl, rfl⟩; (try go_wp2_with fail))
        refine hK.out _ _ ?_ (fun hHeld => ?_)
        · (first | exact ⟨z0, z1, z2⟩ | exact ⟨y0, y1, y2⟩)
        clear hK K
        (try simp only [Act.put, List.setIfInBounds_toArray, List.set_cons_zero, List.set_cons_succ])
        refine wpAnyH_ready (rs := [8]) (by kernel_rfl) (by simp) ?_
        refine AllReadyH.cons (o := R_RE8_8) rfl (fun K hK => ?_) AllReadyH.nil
        (try delta R_RE8_8)
        (go_simp; (with_reducible refine (RBool_c g _).mono ?_); rintro e' wq ⟨rfl, rfl⟩; (try go_wp2_with fail))
        refine hK.out _ _ ?_ (fun hHeld => ?_)
        · (first | exact ⟨z0, z1, z2⟩ | exact ⟨y0, y1, y2⟩)
        clear hK K
        (try simp only [Act.put, List.setIfInBounds_toArray, List.set_cons_zero, List.set_cons_succ])
        refine wpAnyH_ready (rs := [9]) (by kernel_rfl) (by simp) ?_
        refine AllReadyH.cons (o := R_RE8_9) rfl (fun K hK => ?_) AllReadyH.nil
        (try delta R_RE8_9)
        go_simp
        (obtain ⟨y0, y1, y2, _, _, _, _, _, _⟩ := facts9 HA.out.blk.blk)
        refine hK.out _ _ ?_ (fun hHeld => ?_)
        · (first | exact ⟨z0, z1, z2⟩ | exact ⟨y0, y1, y2⟩)
        clear hK K
        (try simp only [Act.put, List.setIfInBounds_toArray, List.set_cons_zero, List.set_cons_succ])
        refine wpAnyH_ready (rs := [10]) (by kernel_rfl) (by simp) ?_
        refine AllReadyH.cons (o := R_RE8_10) rfl (fun K hK => ?_) AllReadyH.nil
        (try delta R_RE8_10)
        (go_simp; refine (C1.out _ _ _ HAk.out rfl).mono ?_; rintro e' w5 ⟨vr, rfl, hown5, hb5⟩; have HR5 := Lib.hid (RowAt.ofOwns hown5); obtain ⟨ra, rc, rfl⟩ := (RowAt.ofOwns hown5).shapeB; have H5 := Lib.hid (HA.out.below hb5); obtain ⟨y0, y1, y2, _, _, _, _, _, _⟩ := facts9 H5.out.blk.blk; clear hown5 hb5; (try go_wp2_with fail))
        refine hK.out _ _ ?_ (fun hHeld => ?_)
        · (first | exact ⟨z0, z1, z2⟩ | exact ⟨y0, y1, y2⟩)
        clear hK K
        (try simp only [Act.put, List.setIfInBounds_toArray, List.set_cons_zero, List.set_cons_succ])
        refine wpAnyH_ready (rs := [11]) (by kernel_rfl) (by simp) ?_
        refine AllReadyH.cons (o := R_RE8_11) rfl (fun K hK => ?_) AllReadyH.nil
        (try delta R_RE8_11)
        (refine step_appRow elemB rfl _ _ rfl w.heap.size n0 _ (bytesV l1) (by rfl) H5.out.own _ (bytesV x3) (by rfl) HR5.out (bytesV_one _) (by rw [bytesV_length]; have := H5.out.len; have := HBD.out; have := HX3.out; omega) (by rw [bytesV_length]; have := H5.out.len; have := HBD.out; have := HX3.out; omega) H5.out.bel.size ?_; intro va6 vc6 w7 hown7 hg7; obtain ⟨va2, vc2, n2, hv2, h7⟩ := H5.out.app hown7 hg7; rw [hv2]; rw [← HL2.out] at h7; have H7 := Lib.hid h7; obtain ⟨y0, y1, y2, y3, y4, y5, y6, y7, y8⟩ := facts9 h7.blk.blk; clear hown7 hg7 h7 hv2)
        refine hK.out _ _ ?_ (fun hHeld => ?_)
        · (first | exact ⟨z0, z1, z2⟩ | exact ⟨y0, y1, y2⟩)
        clear hK K
        (try simp only [Act.put, List.setIfInBounds_toArray, List.set_cons_zero, List.set_cons_succ])
        refine wpAnyH_done (by kernel_rfl) ?_ _
        (refine last_do (o := { dst := some 8, op := Op.assign (Operand.tmp 43), type := 23, pos := "record.go:158", after := #[{ on := 11, ground := Ground.data }, { on := 11, ground := Ground.chain }, { on := 0, ground := Ground.phase }, { on := 1, ground := Ground.phase }, { on := 2, ground := Ground.phase }, { on := 3, ground := Ground.phase }, { on := 4, ground := Ground.phase }, { on := 5, ground := Ground.phase }, { on := 6, ground := Ground.phase }, { on := 7, ground := Ground.phase }, { on := 8, ground := Ground.phase }, { on := 9, ground := Ground.phase }, { on := 10, ground := Ground.phase }, { on := 11, ground := Ground.phase }], guard := none }) rfl (fun K hK => ?_); go_simp; refine hK.out _ _ ?_; clear hK K)
        have HB2 : Hid (l2.length ≤ 1099511627900) := Lib.hid (by have h1 := HBD.out; have h2 := HX3.out; rw [HL2.out, List.length_append]; omega)
        clear H0 HA HAk C1
        cases g
        case true =>
          replace HE : Hid (hd ++ lebWrs ((ps.take (j + 1)).map WV.x) = l2) := Lib.hid (by rw [HE.out]; simp)
          go_wp2_with fail
          exact ⟨⟨j + 1, n2, va2, vc2, rfl, hlt, rfl, by rw [HE.out]; exact H7.out.len, by rw [HE.out]; exact H7.out.own, H7.out.bel⟩, by simp [intOf]; omega⟩
        case false =>
          cases e
          case true =>
            have hab : IntsOk [ea, eb] := by intro n hn'; simp only [List.mem_cons, List.not_mem_nil, or_false] at hn'; rcases hn' with rfl | rfl; exact k2; exact k3
            obtain ⟨x2, hx2⟩ : ∃ x2, x2 = lebInts [ea, eb] := ⟨_, rfl⟩
            have hx2l : x2.length ≤ 20 := by have := lebInts_len [ea, eb] hab; rw [hx2]; simpa using this
            have hst := lebStr_len et (by omega)
            have C2 := Lib.hid (fun B gg W (h2 : Blk W gg [.int .i64 ea, .int .i64 eb]) (hB : B = gg) => RInts_c (.slice (some ⟨B, 0, none⟩) 2 2) [ea, eb] W (row_of_blk h2 hB rfl (by decide)) hab (by simp))
            rw [← hx2] at C2
            have C3 := Lib.hid (fun W => RStr_c et W (by omega))
            have C4 := Lib.hid (fun W => RReal_c ew W k4)
            replace HE : Hid (hd ++ lebWrs ((ps.take (j + 1)).map WV.x) = ((l2 ++ x2) ++ lebStr et) ++ lebReal ew) := Lib.hid (by rw [HE.out, hx2, lebInts2]; simp only [Bool.false_eq_true, if_false, if_true, List.append_assoc])
            have HD1 : Hid (l2.length + x2.length ≤ 2099511627900) := Lib.hid (by have := HB2.out; omega)
            have HD2 : Hid ((l2 ++ x2).length + (lebStr et).length ≤ 12099511627900) := Lib.hid (by have := HB2.out; rw [List.length_append]; omega)
            have HD3 : Hid (((l2 ++ x2) ++ lebStr et).length + (lebReal ew).length ≤ 13099511627900) := Lib.hid (by have := HD2.out; rw [lebReal_len, List.length_append]; omega)
            clear hab hx2 hx2l hst hbd k1 k2 k3 k4 k5 k6
            go_wp2_with (first | (go_at_call 18; (with_reducible refine (C2.out _ _ _ (Blk.new _ _ _) rfl).mono ?_); rintro e' w5 ⟨vr, rfl, hown5, hb5⟩; have HR5 := Lib.hid (RowAt.ofOwns hown5); obtain ⟨ra, rc, rfl⟩ := (RowAt.ofOwns hown5).shapeB; have H8 := Lib.hid ((H7.out.below ((Below.refl _ _).alloc (Nat.le_refl _) _)).below hb5); clear hown5 hb5) | (at_builtin; refine wp_appRowG elemB rfl _ _ rfl w.heap.size n2 _ (bytesV l2) rfl H8.out.own _ (bytesV (x2)) rfl HR5.out (bytesV_one _) (by rw [bytesV_length]; have := H8.out.len; have := HD1.out; omega) (by rw [bytesV_length]; have := H8.out.len; have := HD1.out; omega) H8.out.bel.size ?_; intro v7 w7 hown7 hg7; obtain ⟨va3, vc3, n3, rfl, h7⟩ := H8.out.app hown7 hg7; have H9 := Lib.hid h7; obtain ⟨y0, y1, y2, y3, y4, y5, y6, y7, y8⟩ := facts9 h7.blk.blk; clear hown7 hg7 h7) | (go_at_call 20; (with_reducible refine (C3.out _).mono ?_); rintro e' w5 ⟨vr, rfl, hown5, hb5⟩; have HR5 := Lib.hid (RowAt.ofOwns hown5); obtain ⟨ra, rc, rfl⟩ := (RowAt.ofOwns hown5).shapeB; have H10 := Lib.hid ((H9.out).below hb5); clear hown5 hb5) | (at_builtin; refine wp_appRowG elemB rfl _ _ rfl w.heap.size n3 _ (bytesV (l2 ++ x2)) rfl H10.out.own _ (bytesV (lebStr et)) rfl HR5.out (bytesV_one _) (by rw [bytesV_length]; have := H10.out.len; have := HD2.out; omega) (by rw [bytesV_length]; have := H10.out.len; have := HD2.out; omega) H10.out.bel.size ?_; intro v7 w7 hown7 hg7; obtain ⟨va4, vc4, n4, rfl, h7⟩ := H10.out.app hown7 hg7; have H11 := Lib.hid h7; obtain ⟨y0, y1, y2, y3, y4, y5, y6, y7, y8⟩ := facts9 h7.blk.blk; clear hown7 hg7 h7) | (go_at_call 21; (with_reducible refine (C4.out _).mono ?_); rintro e' w5 ⟨vr, rfl, hown5, hb5⟩; have HR5 := Lib.hid (RowAt.ofOwns hown5); obtain ⟨ra, rc, rfl⟩ := (RowAt.ofOwns hown5).shapeB; have H12 := Lib.hid ((H11.out).below hb5); clear hown5 hb5) | (at_builtin; refine wp_appRowG elemB rfl _ _ rfl w.heap.size n4 _ (bytesV ((l2 ++ x2) ++ lebStr et)) rfl H12.out.own _ (bytesV (lebReal ew)) rfl HR5.out (bytesV_one _) (by rw [bytesV_length]; have := H12.out.len; have := HD3.out; omega) (by rw [bytesV_length]; have := H12.out.len; have := HD3.out; omega) H12.out.bel.size ?_; intro v7 w7 hown7 hg7; obtain ⟨va5, vc5, n5, rfl, h7⟩ := H12.out.app hown7 hg7; have H13 := Lib.hid h7; obtain ⟨y0, y1, y2, y3, y4, y5, y6, y7, y8⟩ := facts9 h7.blk.blk; clear hown7 hg7 h7) | fail)
            exact ⟨⟨j + 1, n5, va5, vc5, rfl, hlt, rfl, by rw [HE.out]; exact H13.out.len, by rw [HE.out]; exact H13.out.own, H13.out.bel⟩, by simp [intOf]; omega⟩
          case false =>
            have hrn : roomNd ss pr ≤ 2199023255552 := by omega
            have C2 := Lib.hid (node_c ss pr sa pa sc pc w7 (HRW.out _ H7.out.bel).1 (HRW.out _ H7.out.bel).2 (fun q hq => ⟨k5 q hq, HKD.out rfl rfl q hq⟩) hrn)
            have hnl : (lebNode ss pr).length ≤ roomNd ss pr := lebNode_len (by omega) k5
            replace HE : Hid (hd ++ lebWrs ((ps.take (j + 1)).map WV.x) = l2 ++ lebNode ss pr) := Lib.hid (by rw [HE.out]; simp only [Bool.false_eq_true, if_false])
            have HD1 : Hid (l2.length + (lebNode ss pr).length ≤ 12099511627900) := Lib.hid (by have := HB2.out; omega)
            clear hrn hnl hbd k1 k2 k3 k4 k5 k6
            generalize lebNode ss pr = x2 at *
            go_wp2_with (first | (go_at_call 22; (with_reducible refine (C2.out).mono ?_); rintro e' w5 ⟨vr, rfl, hown5, hb5⟩; have HR5 := Lib.hid (RowAt.ofOwns hown5); obtain ⟨ra, rc, rfl⟩ := (RowAt.ofOwns hown5).shapeB; have H8 := Lib.hid ((H7.out).below hb5); clear hown5 hb5) | (at_builtin; refine wp_appRowG elemB rfl _ _ rfl w.heap.size n2 _ (bytesV l2) rfl H8.out.own _ (bytesV (x2)) rfl HR5.out (bytesV_one _) (by rw [bytesV_length]; have := H8.out.len; have := HD1.out; omega) (by rw [bytesV_length]; have := H8.out.len; have := HD1.out; omega) H8.out.bel.size ?_; intro v7 w7 hown7 hg7; obtain ⟨va3, vc3, n3, rfl, h7⟩ := H8.out.app hown7 hg7; have H9 := Lib.hid h7; obtain ⟨y0, y1, y2, y3, y4, y5, y6, y7, y8⟩ := facts9 h7.blk.blk; clear hown7 hg7 h7) | fail)
            exact ⟨⟨j + 1, n3, va3, vc3, rfl, hlt, rfl, by rw [HE.out]; exact H9.out.len, by rw [HE.out]; exact H9.out.own, H9.out.bel⟩, by simp [intOf]; omega⟩
      · obtain rfl : j = ps.length := by omega
        rw [List.take_of_length_le (Nat.le_refl _)] at HS HN
        clear ho hn0 hbel
        go_wp2_with fail
        go_ret2
        exact ⟨_, rfl, RowAt.ofOwns HS.out, HB.out⟩
end Go.Proofs.YtmbffncmogpkfaaGreatDoor

namespace Go.Proofs.YtmbffncmogpkfaaGreatDoor
open Go Go.Proofs Go.RowKit
set_option linter.unusedVariables false
set_option linter.unusedSimpArgs false

def rWr (s : RC) : WR × RC :=
  if (rTruth (rInt (rTruth s).2).2).1 = true then (⟨(rTruth s).1, (rInt (rTruth s).2).1, true, [], [], noED⟩, (rTruth (rInt (rTruth s).2).2).2)
  else if (rTruth s).1 = true then (⟨true, (rInt (rTruth s).2).1, false, [], [], ⟨(rInt (rTruth (rInt (rTruth s).2).2).2).1, (rInt (rInt (rTruth (rInt (rTruth s).2).2).2).2).1, (rStr (rInt (rInt (rTruth (rInt (rTruth s).2).2).2).2).2).1, (rReal (rStr (rInt (rInt (rTruth (rInt (rTruth s).2).2).2).2).2).2).1⟩⟩, (rReal (rStr (rInt (rInt (rTruth (rInt (rTruth s).2).2).2).2).2).2).2)
  else (⟨false, (rInt (rTruth s).2).1, false, (rNd (rTruth (rInt (rTruth s).2).2).2).1.1, (rNd (rTruth (rInt (rTruth s).2).2).2).1.2, noED⟩, (rNd (rTruth (rInt (rTruth s).2).2).2).2)
def rWs : Nat → RC → List WR × RC
  | 0, s => ([], s)
  | n + 1, s => if s.2 = true then ([], s) else ((rWr s).1 :: (rWs n (rWr s).2).1, (rWs n (rWr s).2).2)
def rAll (s : RC) : (Int × Int × List WR) × RC :=
  (((rInt s).1, (rInt (rInt s).2).1, (rWs (rMany 56 (rInt (rInt s).2).2).1.toNat (rMany 56 (rInt (rInt s).2).2).2).1), (rWs (rMany 56 (rInt (rInt s).2).2).1.toNat (rMany 56 (rInt (rInt s).2).2).2).2)
def decR (l : List UInt8) : Bool := !(rAll (l, false)).2.2 && mayB (rAll (l, false)).1.1 (rAll (l, false)).1.2.1 (rAll (l, false)).1.2.2 && decide (lebAll (rAll (l, false)).1.1 (rAll (l, false)).1.2.1 (rAll (l, false)).1.2.2 = l)
theorem rWs_snoc {n : Nat} {ys : List WR} {sj : RC} {rc : List WR × RC} (he : sj.2 = false) (h : rc = (ys ++ (rWs (n + 1) sj).1, (rWs (n + 1) sj).2)) : rc = ((ys ++ [(rWr sj).1]) ++ (rWs n (rWr sj).2).1, (rWs n (rWr sj).2).2) := by
  rw [h]
  simp [rWs, he]
/-- what Decode's loop holds. -/
structure DR (R : Option Nat) (w : World) (s : RC) (v : Value) (ys : List WV) (W : World) : Prop where
  cur : AnyAt R W w.heap.size s
  own : W.ownsRow (w.heap.size + 1) 45 9 v ys.length (ys.flatMap WV.cells)
  ext : ∀ y ∈ ys, extW (w.heap.size + 1) W y
  bel : Below w.heap.size w W
  far : ∀ r, R = some r → r < w.heap.size
  size : w.heap.size + 1 ≤ W.heap.size
/-- a write that is being filled. -/
structure TS (R : Option Nat) (B g : Nat) (w0 : World) (s : RC) (cs : List Value) (W : World) : Prop where
  cur : AnyAt R W B s
  loc : Blk W g cs
  grown : w0.grownBy W (some B)
  ne : g ≠ B ∧ R ≠ some g ∧ w0.heap.size ≤ g
section
variable {R : Option Nat} {B g : Nat} {w w0 W W' : World} {s s' : RC} {v : Value} {ys : List WV} {cs : List Value}
theorem DR.call (h : DR R w s v ys W) (hc : AnyAt R W' w.heap.size s') (hg : W.grownBy W' (some w.heap.size)) : DR R w s' v ys W' :=
  ⟨hc, own_call h.own hg (by omega), fun y hy => extW_ok.call _ _ _ _ y (by omega) hg (h.ext y hy), h.bel.grown hg h.bel.size (fun q hq => by cases hq; exact Nat.le_refl _), h.far, Nat.le_trans h.size hg.size⟩
theorem DR.push {y : WV} {v' : Value} {o : Obj} (h : DR R w s v ys W) (hown : W'.ownsRow (w.heap.size + 1) 45 9 v' (ys.length + 1) (ys.flatMap WV.cells ++ y.cells)) (hgr : (W.alloc o).grownBy W' v.ownBlock) (hy : extW (w.heap.size + 1) W y) : DR R w s v' (ys ++ [y]) W' := by
  have hs := hgr.size
  refine ⟨cur_push h.cur h.own (by omega) (fun r hr => by have := h.far r hr; omega) hgr, by simpa [List.flatMap_append] using hown, fun z hz => ?_, (h.bel.alloc h.bel.size o).grown hgr (h.bel.alloc h.bel.size o).size (fun q hq => by have := (h.own.lt q hq).1; omega), h.far, by have := h.size; simp at hs; omega⟩
  rcases List.mem_append.1 hz with hz | hz
  · exact extW_ok.app _ _ _ _ _ _ _ _ _ h.own hgr (h.ext z hz)
  · obtain rfl : z = y := by simpa using hz
    exact extW_ok.app _ _ _ _ _ _ _ _ _ h.own hgr hy
theorem TS.call (h : TS R B g w0 s cs W) (hc : AnyAt R W' B s') (hg : W.grownBy W' (some B)) : TS R B g w0 s' cs W' :=
  ⟨hc, h.loc.grown hg (by simp; exact fun e => h.ne.1 e.symm), grownBy_trans h.grown hg, h.ne⟩
theorem TS.set (h : TS R B g w0 s cs W) (j : Nat) (u : Value) : TS R B g w0 s (cs.set j u) (W.setCell ⟨g, j, none⟩ u) :=
  ⟨h.cur.grown (grownBy_set W g j u) (fun e => h.ne.1 e.symm) h.ne.2.1, h.loc.set j u, grownBy_high h.grown g j h.ne.2.2 u, h.ne⟩
end
set_option maxRecDepth 100000 in
set_option maxHeartbeats 16000000 in
theorem RDecode_c (v : Value) (l : List UInt8) (w : World) (h : RowAt w v (bytesV l)) (hok : ∀ x ∈ (rAll (l, false)).1.2.2, okW2 x) (hsum : sumR roomWr (rAll (l, false)).1.2.2 ≤ 1099511627776) (hn : i64R (rAll (l, false)).1.1) (he : i64R (rAll (l, false)).1.2.1) :
    Calls Tryz.prog 8 #[v] w (DecB w (decR l) (rAll (l, false)).1.1 (rAll (l, false)).1.2.1 (rAll (l, false)).1.2.2) := by
  obtain ⟨ba, bc, rfl⟩ := h.shapeB
  obtain ⟨R, hap, hRl⟩ := Apart.ofRow h (Nat.le_refl w.heap.size)
  have hcur : AnyAt R (w.alloc (.cells #[.slice ba l.length bc, .bool false] 70)) w.heap.size (l, false) := by
    have q := Blk.new w [.slice ba l.length bc, .bool false] 70
    exact ⟨_, q.cell 0 _ rfl, q.cell 1 _ rfl, q.thaw 0, q.thaw 1, h.below ((Below.refl _ w).alloc (Nat.le_refl _) _), hap⟩
  have H0 : Hid (DR R w (l, false) (.slice none 0 0) [] (w.alloc (.cells #[.slice ba l.length bc, .bool false] 70))) := Lib.hid ⟨hcur, World.ownsRow_nil _ _ _ _, by simp, (Below.refl _ w).alloc (Nat.le_refl _) _, fun r hr => (hRl r hr).1, by simp⟩
  have HRB := Lib.hid (fun W (hb : Below w.heap.size w W) => h.below hb)
  have HDR : Hid (decR l = (!(rAll (l, false)).2.2 && mayB (rAll (l, false)).1.1 (rAll (l, false)).1.2.1 (rAll (l, false)).1.2.2 && decide (lebAll (rAll (l, false)).1.1 (rAll (l, false)).1.2.1 (rAll (l, false)).1.2.2 = l))) := Lib.hid rfl
  have HA : Hid (rAll (l, false) = (((rInt (l, false)).1, (rInt (rInt (l, false)).2).1, (rWs (rMany 56 (rInt (rInt (l, false)).2).2).1.toNat (rMany 56 (rInt (rInt (l, false)).2).2).2).1), (rWs (rMany 56 (rInt (rInt (l, false)).2).2).1.toNat (rMany 56 (rInt (rInt (l, false)).2).2).2).2)) := Lib.hid rfl
  have C1 := Lib.hid (fun W B (h : AnyAt R W B (l, false)) => XIntA_c B (l, false) W h)
  generalize decR l = ok at *
  generalize rAll (l, false) = ra at *
  generalize rInt (l, false) = p1 at *
  obtain ⟨n1, s1⟩ := p1
  dsimp only at C1 HA
  have C2 := Lib.hid (fun W B (h : AnyAt R W B s1) => XIntA_c B s1 W h)
  generalize rInt s1 = p2 at *
  obtain ⟨n2, s2⟩ := p2
  dsimp only at C2 HA
  have C3 := Lib.hid (fun W B (h : AnyAt R W B s2) => many_c B s2 56 W h)
  have hb3 := rMany_bd 56 (by decide) s2
  generalize rMany 56 s2 = p3 at *
  obtain ⟨m, s3⟩ := p3
  dsimp only at C3 HA hb3
  obtain ⟨k, rfl⟩ := Int.eq_ofNat_of_zero_le hb3.1
  rw [Int.toNat_natCast] at HA
  have hk56 : k ≤ 56 := by omega
  obtain ⟨rc, hrc⟩ : ∃ rc, rc = rWs k s3 := ⟨_, rfl⟩
  rw [← hrc] at HA
  have HRC0 := Lib.hid hrc
  clear hrc hb3
  obtain rfl := HA.out
  dsimp only at HDR hok hsum hn he ⊢
  have HEN : Hid (∀ (ys : List WV) v W, ys.map WV.x = rc.1 → RowK 9 W v (ys.map WV.cells) → (∀ p ∈ ys, p.rows W) → Calls Tryz.prog 6 #[.int .i64 n1, .int .i64 n2, v] W (EncB W (mayB n1 n2 rc.1) (lebAll n1 n2 rc.1))) := Lib.hid (fun ys v W hy hr hrows => by
    have := REncode_c n1 n2 ys v W hr hrows (fun p hp => hok _ (by rw [← hy]; exact List.mem_map_of_mem hp)) (by rw [← sumR_map roomWr WV.x ys, hy]; exact hsum) hn he
    rw [hy] at this
    exact this)
  clear h hap hRl hcur hok hsum hn he HA
  go_enter Tryz.func8, Tryz.ntmps8
  go_wp2_with fail
  with_reducible refine (C1.out _ _ H0.out.cur).mono ?_
  rintro e w1 ⟨rfl, hc, hg⟩
  have H1 := Lib.hid (H0.out.call hc hg)
  clear hc hg H0 C1
  go_wp2_with fail
  with_reducible refine (C2.out _ _ H1.out.cur).mono ?_
  rintro e w2 ⟨rfl, hc, hg⟩
  have H2 := Lib.hid (H1.out.call hc hg)
  clear hc hg H1 C2
  go_wp2_with fail
  with_reducible refine (C3.out _ _ H2.out.cur).mono ?_
  rintro e w3 ⟨rfl, hc, hg⟩
  have H3 := Lib.hid (H2.out.call hc hg)
  clear hc hg H2 C3
  go_wp2_with fail
  go_loopw [10, 11] (fun b i wr => ∃ (ys : List WV) (sj : RC) (va : Option Addr) (vc : Nat), i = .int .i64 (ys.length : Int) ∧ ys.length ≤ k ∧ b = .slice va ys.length vc ∧ DR R w sj (.slice va ys.length vc) ys wr ∧ rc = (ys.map WV.x ++ (rWs (k - ys.length) sj).1, (rWs (k - ys.length) sj).2)) (fun _ i _ => k - (intOf i).toNat)
  case atStart => exact ⟨[], s3, none, 0, rfl, Nat.zero_le _, rfl, H3.out, by rw [HRC0.out]; simp⟩
  case round =>
    clear H3 HRC0
    obtain ⟨ys, sj, va, vc, rfl, hle, rfl, hds, hrc⟩ := hrel
    have H := Lib.hid hds
    have HRC := Lib.hid hrc
    clear hds hrc
    obtain ⟨lj, ej⟩ := sj
    obtain ⟨_, _, g1, _, _, _, _⟩ := H.out.cur
    simp only at g1
    by_cases hgo : ys.length < k ∧ ej = false
    · obtain ⟨hltk, rfl⟩ := hgo
      have hi1 : (ys.length : Int) < (k : Int) := by omega
      obtain ⟨mm, hmm⟩ : ∃ mm, k - ys.length = mm + 1 := ⟨k - ys.length - 1, by omega⟩
      have HRS : Hid (rc = ((ys.map WV.x ++ [(rWr (lj, false)).1]) ++ (rWs mm (rWr (lj, false)).2).1, (rWs mm (rWr (lj, false)).2).2)) := Lib.hid (rWs_snoc rfl (by rw [← hmm]; exact HRC.out))
      have HMM := Lib.hid hmm
      have HWR : Hid (rWr (lj, false) = if (rTruth (rInt (rTruth (lj, false)).2).2).1 = true then (⟨(rTruth (lj, false)).1, (rInt (rTruth (lj, false)).2).1, true, [], [], noED⟩, (rTruth (rInt (rTruth (lj, false)).2).2).2)
        else if (rTruth (lj, false)).1 = true then (⟨true, (rInt (rTruth (lj, false)).2).1, false, [], [], ⟨(rInt (rTruth (rInt (rTruth (lj, false)).2).2).2).1, (rInt (rInt (rTruth (rInt (rTruth (lj, false)).2).2).2).2).1, (rStr (rInt (rInt (rTruth (rInt (rTruth (lj, false)).2).2).2).2).2).1, (rReal (rStr (rInt (rInt (rTruth (rInt (rTruth (lj, false)).2).2).2).2).2).2).1⟩⟩, (rReal (rStr (rInt (rInt (rTruth (rInt (rTruth (lj, false)).2).2).2).2).2).2).2)
        else (⟨false, (rInt (rTruth (lj, false)).2).1, false, (rNd (rTruth (rInt (rTruth (lj, false)).2).2).2).1.1, (rNd (rTruth (rInt (rTruth (lj, false)).2).2).2).1.2, noED⟩, (rNd (rTruth (rInt (rTruth (lj, false)).2).2).2).2)) := Lib.hid rfl
      clear hmm HRC
      have T1 := Lib.hid (truth_c w.heap.size (lj, false) wr H.out.cur)
      generalize rWr (lj, false) = rw1 at *
      generalize rTruth (lj, false) = q1 at *
      obtain ⟨t1, u1⟩ := q1
      dsimp only at T1 HWR
      have T2 := Lib.hid (fun W (h : AnyAt R W w.heap.size u1) => XIntA_c w.heap.size u1 W h)
      generalize rInt u1 = q2 at *
      obtain ⟨id, u2⟩ := q2
      dsimp only at T2 HWR
      have T3 := Lib.hid (fun W (h : AnyAt R W w.heap.size u2) => truth_c w.heap.size u2 W h)
      generalize rTruth u2 = q3 at *
      obtain ⟨gg, u3⟩ := q3
      dsimp only at T3 HWR
      go_wp2_with fail
      with_reducible refine (T1.out).mono ?_
      rintro e w4 ⟨rfl, hc, hg⟩
      have HX1 : Hid (TS R w.heap.size w4.heap.size wr u1 [.bool t1, .int .i64 0, .bool false, .slice none 0 0, .slice none 0 0, .int .i64 0, .int .i64 0, .string ⟨#[]⟩, .float .f64 0] (w4.alloc (.cells #[.bool t1, .int .i64 0, .bool false, .slice none 0 0, .slice none 0 0, .int .i64 0, .int .i64 0, .string ⟨#[]⟩, .float .f64 0] 45))) := Lib.hid ⟨hc.below ((Below.refl _ _).alloc (Nat.le_refl _) _), Blk.new w4 [.bool t1, .int .i64 0, .bool false, .slice none 0 0, .slice none 0 0, .int .i64 0, .int .i64 0, .string ⟨#[]⟩, .float .f64 0] _, grownBy_trans hg (World.grownBy_alloc _ _ _), by have := H.out.size; have := hg.size; omega, fun e => by have := H.out.far _ e; have := H.out.size; have := hg.size; omega, hg.size⟩
      have HZ : Hid (w.heap.size + 1 ≤ w4.heap.size) := Lib.hid (Nat.le_trans H.out.size hg.size)
      clear hc hg T1 g1
      go_wp2_with fail
      generalize hg4 : w4.heap.size = g4 at *
      clear hg4
      generalize (w4.alloc (.cells #[.bool t1, .int .i64 0, .bool false, .slice none 0 0, .slice none 0 0, .int .i64 0, .int .i64 0, .string ⟨#[]⟩, .float .f64 0] 45)) = w5 at *
      cases gg
      case true =>
        rw [if_pos rfl] at HWR
        obtain rfl := HWR.out
        with_reducible refine (T2.out _ HX1.out.cur).mono ?_
        rintro e' wq ⟨rfl, hc, hg⟩
        have HX2 := Lib.hid (HX1.out.call hc hg)
        obtain ⟨⟨x0, x1, x2, x3, x4, x5, x6, x7, x8⟩, y0, y1, y2, y3, y4, y5, y6, y7, y8⟩ := cellsN HX2.out.loc
        clear hc hg HX1
        go_wp2_with fail
        with_reducible refine (T3.out _ (HX2.out.set 1 (.int .i64 id)).cur).mono ?_
        rintro e' wq2 ⟨rfl, hc, hg⟩
        have HX3 := Lib.hid ((HX2.out.set 1 (.int .i64 id)).call hc hg)
        clear x0 x1 x2 x3 x4 x5 x6 x7 x8 y0 y1 y2 y3 y4 y5 y6 y7 y8
        obtain ⟨⟨x0, x1, x2, x3, x4, x5, x6, x7, x8⟩, y0, y1, y2, y3, y4, y5, y6, y7, y8⟩ := cellsN HX3.out.loc
        clear hc hg HX2
        go_upto_region 19 with fail
        have H8 := Lib.hid (HX3.out.set 2 (.bool true))
        clear x0 x1 x2 x3 x4 x5 x6 x7 x8 y0 y1 y2 y3 y4 y5 y6 y7 y8
        generalize (wq2.setCell ⟨g4, 2, none⟩ (.bool true)) = w8 at *
        simp only [List.set_cons_zero, List.set_cons_succ] at H8
        obtain ⟨⟨x0, x1, x2, x3, x4, x5, x6, x7, x8⟩, y0, y1, y2, y3, y4, y5, y6, y7, y8⟩ := cellsN H8.out.loc
        have D8 := Lib.hid (H.out.call H8.out.cur H8.out.grown)
        have HEX : Hid (extW (w.heap.size + 1) w8 ⟨⟨t1, id, true, [], [], noED⟩, none, 0, none, 0⟩) := Lib.hid (extW_nil _ _ _ _ _ _)
        go_wp2_with (first | (at_builtin; refine wp_appK1 elemWr (by decide) rfl _ _ rfl (w.heap.size + 1) ys.length _ _ rfl D8.out.own (WV.cells ⟨⟨t1, id, true, [], [], noED⟩, none, 0, none, 0⟩) rfl rfl (by simp [WV.cells, cells9, Value.oneCell']) ?_ ?_ ?_ ?_))
        · omega
        · omega
        · exact D8.out.size
        · intro v' w9 hown hgr _
          obtain ⟨va', vc', rfl⟩ := owns_shape hown
          have H9 := Lib.hid (D8.out.push hown hgr HEX.out)
          clear hown hgr
          go_wp2_with fail
          have hmm := HMM.out
          refine ⟨⟨ys ++ [⟨⟨t1, id, true, [], [], noED⟩, none, 0, none, 0⟩], u3, va', vc', ?_, by rw [List.length_append]; simp; omega, ?_, ?_, ?_⟩, ?_⟩
          · rw [List.length_append]; go_num
          · rw [List.length_append]; rfl
          · rw [List.length_append]; exact H9.out
          · rw [HRS.out, show k - (ys ++ [(⟨⟨t1, id, true, [], [], noED⟩, none, 0, none, 0⟩ : WV)]).length = mm from by rw [List.length_append]; simp; omega, List.map_append]; rfl
          · simp [intOf]; omega
      case false =>
        rw [if_neg (by decide)] at HWR
        cases t1
        case true =>
          rw [if_pos rfl] at HWR
          have T4 := Lib.hid (fun W (h : AnyAt R W w.heap.size u3) => XIntA_c w.heap.size u3 W h)
          generalize rInt u3 = q4 at *
          obtain ⟨na, u4⟩ := q4
          dsimp only at T4 HWR
          have T5 := Lib.hid (fun W (h : AnyAt R W w.heap.size u4) => XIntA_c w.heap.size u4 W h)
          generalize rInt u4 = q5 at *
          obtain ⟨nb, u5⟩ := q5
          dsimp only at T5 HWR
          have T6 := Lib.hid (fun W (h : AnyAt R W w.heap.size u5) => XStrA_c w.heap.size u5 W h)
          generalize rStr u5 = q6 at *
          obtain ⟨tt, u6⟩ := q6
          dsimp only at T6 HWR
          have T7 := Lib.hid (fun W (h : AnyAt R W w.heap.size u6) => XRealA_c w.heap.size u6 W h)
          generalize rReal u6 = q7 at *
          obtain ⟨ff, u7⟩ := q7
          dsimp only at T7 HWR
          obtain rfl := HWR.out
          with_reducible refine (T2.out _ (HX1.out).cur).mono ?_
          rintro e' wq2 ⟨rfl, hc, hg⟩
          have HX2 := Lib.hid ((HX1.out).call hc hg)
          obtain ⟨⟨x0, x1, x2, x3, x4, x5, x6, x7, x8⟩, y0, y1, y2, y3, y4, y5, y6, y7, y8⟩ := cellsN HX2.out.loc
          clear hc hg HX1
          go_wp2_with fail
          with_reducible refine (T3.out _ (HX2.out.set 1 (.int .i64 id)).cur).mono ?_
          rintro e' wq3 ⟨rfl, hc, hg⟩
          have HX3 := Lib.hid ((HX2.out.set 1 (.int .i64 id)).call hc hg)
          clear x0 x1 x2 x3 x4 x5 x6 x7 x8 y0 y1 y2 y3 y4 y5 y6 y7 y8
          obtain ⟨⟨x0, x1, x2, x3, x4, x5, x6, x7, x8⟩, y0, y1, y2, y3, y4, y5, y6, y7, y8⟩ := cellsN HX3.out.loc
          clear hc hg HX2
          go_wp2_with fail
          with_reducible refine (T4.out _ (HX3.out.set 2 (.bool false)).cur).mono ?_
          rintro e' wq4 ⟨rfl, hc, hg⟩
          have HX4 := Lib.hid ((HX3.out.set 2 (.bool false)).call hc hg)
          clear x0 x1 x2 x3 x4 x5 x6 x7 x8 y0 y1 y2 y3 y4 y5 y6 y7 y8
          obtain ⟨⟨x0, x1, x2, x3, x4, x5, x6, x7, x8⟩, y0, y1, y2, y3, y4, y5, y6, y7, y8⟩ := cellsN HX4.out.loc
          clear hc hg HX3
          go_wp2_with fail
          with_reducible refine (T5.out _ (HX4.out.set 5 (.int .i64 na)).cur).mono ?_
          rintro e' wq5 ⟨rfl, hc, hg⟩
          have HX5 := Lib.hid ((HX4.out.set 5 (.int .i64 na)).call hc hg)
          clear x0 x1 x2 x3 x4 x5 x6 x7 x8 y0 y1 y2 y3 y4 y5 y6 y7 y8
          obtain ⟨⟨x0, x1, x2, x3, x4, x5, x6, x7, x8⟩, y0, y1, y2, y3, y4, y5, y6, y7, y8⟩ := cellsN HX5.out.loc
          clear hc hg HX4
          go_wp2_with fail
          with_reducible refine (T6.out _ (HX5.out.set 6 (.int .i64 nb)).cur).mono ?_
          rintro e' wq6 ⟨rfl, hc, hg⟩
          have HX6 := Lib.hid ((HX5.out.set 6 (.int .i64 nb)).call hc hg)
          clear x0 x1 x2 x3 x4 x5 x6 x7 x8 y0 y1 y2 y3 y4 y5 y6 y7 y8
          obtain ⟨⟨x0, x1, x2, x3, x4, x5, x6, x7, x8⟩, y0, y1, y2, y3, y4, y5, y6, y7, y8⟩ := cellsN HX6.out.loc
          clear hc hg HX5
          go_wp2_with fail
          with_reducible refine (T7.out _ (HX6.out.set 7 (.string ⟨tt.toArray⟩)).cur).mono ?_
          rintro e' wq7 ⟨rfl, hc, hg⟩
          have HX7 := Lib.hid ((HX6.out.set 7 (.string ⟨tt.toArray⟩)).call hc hg)
          clear x0 x1 x2 x3 x4 x5 x6 x7 x8 y0 y1 y2 y3 y4 y5 y6 y7 y8
          obtain ⟨⟨x0, x1, x2, x3, x4, x5, x6, x7, x8⟩, y0, y1, y2, y3, y4, y5, y6, y7, y8⟩ := cellsN HX7.out.loc
          clear hc hg HX6
          go_upto_region 19 with fail
          have HEX : Hid (extW (w.heap.size + 1) (wq7.setCell ⟨g4, 8, none⟩ (.float .f64 ff)) ⟨⟨true, id, false, [], [], ⟨na, nb, tt, ff⟩⟩, none, 0, none, 0⟩) := Lib.hid (extW_nil _ _ _ _ _ _)
          have H8 := Lib.hid (HX7.out.set 8 (.float .f64 ff))
          clear x0 x1 x2 x3 x4 x5 x6 x7 x8 y0 y1 y2 y3 y4 y5 y6 y7 y8
          generalize (wq7.setCell ⟨g4, 8, none⟩ (.float .f64 ff)) = w8 at *
          simp only [List.set_cons_zero, List.set_cons_succ] at H8
          obtain ⟨⟨x0, x1, x2, x3, x4, x5, x6, x7, x8⟩, y0, y1, y2, y3, y4, y5, y6, y7, y8⟩ := cellsN H8.out.loc
          have D8 := Lib.hid (H.out.call H8.out.cur H8.out.grown)
          go_wp2_with (first | (at_builtin; refine wp_appK1 elemWr (by decide) rfl _ _ rfl (w.heap.size + 1) ys.length _ _ rfl D8.out.own (WV.cells ⟨⟨true, id, false, [], [], ⟨na, nb, tt, ff⟩⟩, none, 0, none, 0⟩) rfl rfl (by simp [WV.cells, cells9, Value.oneCell']) ?_ ?_ ?_ ?_))
          · omega
          · omega
          · exact D8.out.size
          · intro v' w9 hown hgr _
            obtain ⟨va', vc', rfl⟩ := owns_shape hown
            have H9 := Lib.hid (D8.out.push hown hgr HEX.out)
            clear hown hgr
            go_wp2_with fail
            have hmm := HMM.out
            refine ⟨⟨ys ++ [⟨⟨true, id, false, [], [], ⟨na, nb, tt, ff⟩⟩, none, 0, none, 0⟩], u7, va', vc', ?_, by rw [List.length_append]; simp; omega, ?_, ?_, ?_⟩, ?_⟩
            · rw [List.length_append]; go_num
            · rw [List.length_append]; rfl
            · rw [List.length_append]; exact H9.out
            · rw [HRS.out, show k - (ys ++ [(⟨⟨true, id, false, [], [], ⟨na, nb, tt, ff⟩⟩, none, 0, none, 0⟩ : WV)]).length = mm from by rw [List.length_append]; simp; omega, List.map_append]; rfl
            · simp [intOf]; omega
        case false =>
          rw [if_neg (by decide)] at HWR
          have T4 := Lib.hid (fun W (h : AnyAt R W w.heap.size u3) (hs : w.heap.size ≤ W.heap.size) => toNode_c w.heap.size u3 W h (fun r hr => Nat.lt_of_lt_of_le (H.out.far r hr) hs))
          generalize rNd u3 = q4 at *
          obtain ⟨⟨ss, pp⟩, u4⟩ := q4
          dsimp only at T4 HWR
          obtain rfl := HWR.out
          with_reducible refine (T2.out _ (HX1.out).cur).mono ?_
          rintro e' wq2 ⟨rfl, hc, hg⟩
          have HX2 := Lib.hid ((HX1.out).call hc hg)
          obtain ⟨⟨x0, x1, x2, x3, x4, x5, x6, x7, x8⟩, y0, y1, y2, y3, y4, y5, y6, y7, y8⟩ := cellsN HX2.out.loc
          clear hc hg HX1
          go_wp2_with fail
          with_reducible refine (T3.out _ (HX2.out.set 1 (.int .i64 id)).cur).mono ?_
          rintro e' wq3 ⟨rfl, hc, hg⟩
          have HX3 := Lib.hid ((HX2.out.set 1 (.int .i64 id)).call hc hg)
          clear x0 x1 x2 x3 x4 x5 x6 x7 x8 y0 y1 y2 y3 y4 y5 y6 y7 y8
          obtain ⟨⟨x0, x1, x2, x3, x4, x5, x6, x7, x8⟩, y0, y1, y2, y3, y4, y5, y6, y7, y8⟩ := cellsN HX3.out.loc
          clear hc hg HX2
          go_wp2_with fail
          have hl3 := HX3.out.loc.lt
          with_reducible refine (T4.out _ (HX3.out.set 2 (.bool false)).cur (by simp; have := HZ.out; have := HX3.out.ne.2.2; omega)).mono ?_
          rintro e' wq4 ⟨sva, svc, pva, pvc, rfl, hc, hg, ho1, ho2⟩
          have HX4 := Lib.hid ((HX3.out.set 2 (.bool false)).call hc hg)
          clear x0 x1 x2 x3 x4 x5 x6 x7 x8 y0 y1 y2 y3 y4 y5 y6 y7 y8
          obtain ⟨⟨x0, x1, x2, x3, x4, x5, x6, x7, x8⟩, y0, y1, y2, y3, y4, y5, y6, y7, y8⟩ := cellsN HX4.out.loc
          have HO1 := Lib.hid ho1
          have HO2 := Lib.hid ho2
          have HL3 := Lib.hid hl3
          have HL4 : Hid (w.heap.size + 1 ≤ wq3.heap.size) := Lib.hid (by have h1 := HX3.out.ne.2.2; have h2 := H.out.size; omega)
          clear hc hg ho1 ho2 hl3 HX3
          dsimp only at HO1 HO2
          go_upto_region 19 with fail
          have HEX : Hid (extW (w.heap.size + 1) ((wq4.setCell ⟨g4, 3, none⟩ (.slice sva ss.length svc)).setCell ⟨g4, 4, none⟩ (.slice pva pp.length pvc)) ⟨⟨false, id, false, ss, pp, noED⟩, sva, svc, pva, pvc⟩) := Lib.hid ⟨ownsRow_mono (own_set (own_set HO1.out g4 3 (by have := HL3.out; simp; omega) _) g4 4 (by have := HL3.out; simp; omega) _) (by have := HL4.out; simp; omega), ownsRow_mono (own_set (own_set HO2.out g4 3 (by have := HL3.out; simp; omega) _) g4 4 (by have := HL3.out; simp; omega) _) (by have := HL4.out; simp; omega)⟩
          have H8 := Lib.hid ((HX4.out.set 3 (.slice sva ss.length svc)).set 4 (.slice pva pp.length pvc))
          clear x0 x1 x2 x3 x4 x5 x6 x7 x8 y0 y1 y2 y3 y4 y5 y6 y7 y8
          generalize ((wq4.setCell ⟨g4, 3, none⟩ (.slice sva ss.length svc)).setCell ⟨g4, 4, none⟩ (.slice pva pp.length pvc)) = w8 at *
          simp only [List.set_cons_zero, List.set_cons_succ] at H8
          obtain ⟨⟨x0, x1, x2, x3, x4, x5, x6, x7, x8⟩, y0, y1, y2, y3, y4, y5, y6, y7, y8⟩ := cellsN H8.out.loc
          have D8 := Lib.hid (H.out.call H8.out.cur H8.out.grown)
          go_wp2_with (first | (at_builtin; refine wp_appK1 elemWr (by decide) rfl _ _ rfl (w.heap.size + 1) ys.length _ _ rfl D8.out.own (WV.cells ⟨⟨false, id, false, ss, pp, noED⟩, sva, svc, pva, pvc⟩) rfl rfl (by simp [WV.cells, cells9, Value.oneCell']) ?_ ?_ ?_ ?_))
          · omega
          · omega
          · exact D8.out.size
          · intro v' w9 hown hgr _
            obtain ⟨va', vc', rfl⟩ := owns_shape hown
            have H9 := Lib.hid (D8.out.push hown hgr HEX.out)
            clear hown hgr
            go_wp2_with fail
            have hmm := HMM.out
            refine ⟨⟨ys ++ [⟨⟨false, id, false, ss, pp, noED⟩, sva, svc, pva, pvc⟩], u4, va', vc', ?_, by rw [List.length_append]; simp; omega, ?_, ?_, ?_⟩, ?_⟩
            · rw [List.length_append]; go_num
            · rw [List.length_append]; rfl
            · rw [List.length_append]; exact H9.out
            · rw [HRS.out, show k - (ys ++ [(⟨⟨false, id, false, ss, pp, noED⟩, sva, svc, pva, pvc⟩ : WV)]).length = mm from by rw [List.length_append]; simp; omega, List.map_append]; rfl
            · simp [intOf]; omega
    · have hfin : rc = (ys.map WV.x, (lj, ej)) := by
        rw [HRC.out]
        by_cases hlk : ys.length < k
        · cases ej
          · exact absurd ⟨hlk, rfl⟩ hgo
          · obtain ⟨mm, hmm⟩ : ∃ mm, k - ys.length = mm + 1 := ⟨k - ys.length - 1, by omega⟩
            rw [hmm]; simp [rWs]
        · rw [show k - ys.length = 0 from by omega]; simp [rWs]
      have HRK := Lib.hid (RowK.ofOwns (k := 9) (xs := ys.map WV.cells) (by decide) (by intro y hy; obtain ⟨q, _, rfl⟩ := List.mem_map.1 hy; rfl) (by rw [← List.flatMap_def]; exact H.out.own)).2
      have HXR := Lib.hid (fun p hp => extW_rows (H.out.ext p hp))
      have HE := Lib.hid (HEN.out ys (.slice va ys.length vc) wr (by rw [hfin]) HRK.out HXR.out)
      obtain rfl := hfin
      clear HEN HRC
      dsimp only at HDR HE ⊢
      unfold EncB at HE
      generalize lebAll n1 n2 (ys.map WV.x) = la at *
      generalize mayB n1 n2 (ys.map WV.x) = mb at *
      have hex : (ys.length < k ∧ ej = true) ∨ ys.length = k := by
        rcases Nat.lt_or_ge ys.length k with h | h
        · left; refine ⟨h, ?_⟩; cases ej; exact absurd ⟨h, rfl⟩ hgo; rfl
        · right; omega
      clear hgo
      rcases hex with ⟨hlk, rfl⟩ | hlk
      · have hi1 : (ys.length : Int) < (k : Int) := by omega
        obtain rfl := HDR.out
        cases mb <;> simp only [Bool.false_eq_true, if_false, if_true] at HE
        all_goals
          go_wp2_with (first | (go_at_call 6; (with_reducible refine (HE.out).mono ?_); rintro e' wq ⟨vp, rfl, hrp, hbp⟩; have HBP := Lib.hid hbp; have HRP := Lib.hid hrp; obtain ⟨pa9, pc9, rfl⟩ := hrp.shapeB; have hcv1 := (HRP.out).toStr 23 9 5 Tryz.underlying23 Tryz.underlying5 Tryz.underlying9; have hcv2 := (HRB.out _ (H.out.bel.trans (hbp.mono H.out.bel.size))).toStr 23 9 5 Tryz.underlying23 Tryz.underlying5 Tryz.underlying9; obtain ⟨_, _, g2, _, _, _, _⟩ := H.out.cur.below hbp; simp only at g2; clear hbp hrp) | fail)
          (try simp only [Exit.inBlock, Exit.then])
          refine bodyPost_ret (results_tmp4 rfl _ _ _) rfl ?_
          exact ⟨none, 0, [], rfl, rfl, RowK.nil 9 _, by simp, H.out.bel.trans (HBP.out.mono H.out.bel.size)⟩
      · obtain rfl : k = ys.length := hlk.symm
        have hi1 : ¬ (ys.length : Int) < (ys.length : Int) := by omega
        cases ej
        case true =>
          obtain rfl := HDR.out
          cases mb <;> simp only [Bool.false_eq_true, if_false, if_true] at HE
          all_goals
            go_wp2_with (first | (go_at_call 6; (with_reducible refine (HE.out).mono ?_); rintro e' wq ⟨vp, rfl, hrp, hbp⟩; have HBP := Lib.hid hbp; have HRP := Lib.hid hrp; obtain ⟨pa9, pc9, rfl⟩ := hrp.shapeB; have hcv1 := (HRP.out).toStr 23 9 5 Tryz.underlying23 Tryz.underlying5 Tryz.underlying9; have hcv2 := (HRB.out _ (H.out.bel.trans (hbp.mono H.out.bel.size))).toStr 23 9 5 Tryz.underlying23 Tryz.underlying5 Tryz.underlying9; obtain ⟨_, _, g2, _, _, _, _⟩ := H.out.cur.below hbp; simp only at g2; clear hbp hrp) | fail)
            (try simp only [Exit.inBlock, Exit.then])
            refine bodyPost_ret (results_tmp4 rfl _ _ _) rfl ?_
            exact ⟨none, 0, [], rfl, rfl, RowK.nil 9 _, by simp, H.out.bel.trans (HBP.out.mono H.out.bel.size)⟩
        case false =>
          cases mb
          case false =>
            obtain rfl := HDR.out
            simp only [Bool.false_eq_true, if_false, if_true] at HE
            go_wp2_with (first | (go_at_call 6; (with_reducible refine (HE.out).mono ?_); rintro e' wq ⟨vp, rfl, hrp, hbp⟩; have HBP := Lib.hid hbp; have HRP := Lib.hid hrp; obtain ⟨pa9, pc9, rfl⟩ := hrp.shapeB; have hcv1 := (HRP.out).toStr 23 9 5 Tryz.underlying23 Tryz.underlying5 Tryz.underlying9; have hcv2 := (HRB.out _ (H.out.bel.trans (hbp.mono H.out.bel.size))).toStr 23 9 5 Tryz.underlying23 Tryz.underlying5 Tryz.underlying9; obtain ⟨_, _, g2, _, _, _, _⟩ := H.out.cur.below hbp; simp only at g2; clear hbp hrp) | fail)
            (try simp only [Exit.inBlock, Exit.then])
            refine bodyPost_ret (results_tmp4 rfl _ _ _) rfl ?_
            exact ⟨none, 0, [], rfl, rfl, RowK.nil 9 _, by simp, H.out.bel.trans (HBP.out.mono H.out.bel.size)⟩
          case true =>
            simp only [Bool.false_eq_true, if_false, if_true] at HE
            by_cases heq : la = l
            · subst heq
              have hok1 : ok = true := by rw [HDR.out]; simp
              subst hok1
              go_wp2_with (first | (go_at_call 6; (with_reducible refine (HE.out).mono ?_); rintro e' wq ⟨vp, rfl, hrp, hbp⟩; have HBP := Lib.hid hbp; have HRP := Lib.hid hrp; obtain ⟨pa9, pc9, rfl⟩ := hrp.shapeB; have hcv1 := (HRP.out).toStr 23 9 5 Tryz.underlying23 Tryz.underlying5 Tryz.underlying9; have hcv2 := (HRB.out _ (H.out.bel.trans (hbp.mono H.out.bel.size))).toStr 23 9 5 Tryz.underlying23 Tryz.underlying5 Tryz.underlying9; obtain ⟨_, _, g2, _, _, _, _⟩ := H.out.cur.below hbp; simp only at g2; clear hbp hrp) | fail)
              (try simp only [Exit.inBlock, Exit.then])
              refine bodyPost_ret (results_tmp4 rfl _ _ _) rfl ?_
              exact ⟨va, vc, ys, rfl, rfl, HRK.out.below HBP.out, fun p hp => ⟨(HXR.out p hp).1.below HBP.out, (HXR.out p hp).2.below HBP.out⟩, H.out.bel.trans (HBP.out.mono H.out.bel.size)⟩
            · have hok1 : ok = false := by rw [HDR.out]; simp [heq]
              subst hok1
              have hne : (la == l) = false := by simpa using heq
              go_wp2_with (first | (go_at_call 6; (with_reducible refine (HE.out).mono ?_); rintro e' wq ⟨vp, rfl, hrp, hbp⟩; have HBP := Lib.hid hbp; have HRP := Lib.hid hrp; obtain ⟨pa9, pc9, rfl⟩ := hrp.shapeB; have hcv1 := (HRP.out).toStr 23 9 5 Tryz.underlying23 Tryz.underlying5 Tryz.underlying9; have hcv2 := (HRB.out _ (H.out.bel.trans (hbp.mono H.out.bel.size))).toStr 23 9 5 Tryz.underlying23 Tryz.underlying5 Tryz.underlying9; obtain ⟨_, _, g2, _, _, _, _⟩ := H.out.cur.below hbp; simp only at g2; clear hbp hrp) | fail)
              (try simp only [Exit.inBlock, Exit.then])
              refine bodyPost_ret (results_tmp4 rfl _ _ _) rfl ?_
              exact ⟨none, 0, [], rfl, rfl, RowK.nil 9 _, by simp, H.out.bel.trans (HBP.out.mono H.out.bel.size)⟩
end Go.Proofs.YtmbffncmogpkfaaGreatDoor

namespace Go.Proofs.YtmbffncmogpkfaaGreatDoor
open Go Go.Proofs Go.RowKit
set_option linter.unusedVariables false
set_option linter.unusedSimpArgs false

theorem rInt_back {n : Int} (h : i64R n) (r : List UInt8) : rInt (lebInt n ++ r, false) = (n, (r, false)) := by
  unfold rInt
  simp only [curInt_back h.1 h.2, toRS]
theorem rStr_back {s : List UInt8} (h : s.length ≤ 9223372036854775807) (r : List UInt8) : rStr (lebStr s ++ r, false) = (s, (r, false)) := by
  unfold rStr
  simp only [curStr_back h, toRS]
theorem rReal_back {f : Nat} (h : f < W64) (r : List UInt8) : rReal (lebReal f ++ r, false) = (normN f, (r, false)) := by
  unfold rReal
  simp only [curReal_back h, toRS]
theorem rTruth_back (b : Bool) (r : List UInt8) : rTruth (lebInt (b2i b) ++ r, false) = (b, (r, false)) := by
  unfold rTruth
  rw [rInt_back (b2i_r b)]
  cases b <;> rfl
theorem rMany_back {most : Int} {n : Nat} (h : (n : Int) ≤ most) (hm : most ≤ 9223372036854775807) (r : List UInt8) : rMany most (lebInt (n : Int) ++ r, false) = ((n : Int), (r, false)) := by
  unfold rMany
  rw [rInt_back ⟨by omega, by omega⟩]
  have : outOf most ((n : Int), (r, false)) = false := by
    unfold outOf
    simp only [Bool.false_or, Bool.or_eq_false_iff, decide_eq_false_iff_not]
    omega
  simp only [this]
  rfl
theorem rVal_back {v : V5} (h : isV v = true) (hk0 : (v.k == 0) = false) (hn : i64R v.n) (hf : v.f < W64) (ht : v.t.length ≤ 9223372036854775807) (r : List UInt8) : rVal (lebV v ++ r, false) = (v, (r, false)) := by
  obtain ⟨⟨h0, h4⟩, hb', hn', hf', ht'⟩ := isV_form h
  obtain ⟨k, b, n, f, t⟩ := v
  dsimp only at *
  have e : ∀ rest, rInt (lebInt k ++ rest, false) = (k, (rest, false)) := fun rest => rInt_back ⟨by omega, by omega⟩ rest
  have hk : k = 1 ∨ k = 2 ∨ k = 3 ∨ k = 4 := by
    have : k ≠ 0 := by simpa using hk0
    omega
  unfold lebV rVal
  dsimp only
  rw [List.append_assoc, e]
  rcases hk with rfl | rfl | rfl | rfl
  · simp at hn' hf' ht' ⊢
    subst hn' hf' ht'
    rw [rTruth_back]; simp
  · simp at hb' hf' ht' ⊢
    subst hb' hf' ht'
    rw [rInt_back hn]; simp
  · simp at hb' hn' ht' ⊢
    subst hb' hn' ht'
    rw [rReal_back hf]
    simp only [if_true] at hf'
    rw [← hf']; simp
  · simp at hb' hn' hf' ⊢
    subst hb' hn' hf'
    rw [rStr_back ht]; simp
theorem rPr_back {p : PR} (h : okPv p) (hk : (p.v.k == 0) = false) (r : List UInt8) : rPr (lebPr p ++ r, false) = (p, (r, false)) := by
  obtain ⟨h1, h2, h3, h4, h5⟩ := h
  unfold rPr lebPr
  rw [List.append_assoc, rStr_back h5]
  dsimp only
  rw [rVal_back h1 hk h2 h3 h4]
theorem rN_back {X : Type} (f : RC → X × RC) (g : X → List UInt8) : ∀ (xs : List X) (r : List UInt8), (∀ x ∈ xs, ∀ r, f (g x ++ r, false) = (x, (r, false))) → rN f xs.length (xs.flatMap g ++ r, false) = (xs, (r, false))
  | [], r, _ => rfl
  | x :: xs, r, h => by
    rw [List.flatMap_cons, List.append_assoc, List.length_cons]
    unfold rN
    rw [h x (by simp)]
    dsimp only
    rw [rN_back f g xs r (fun y hy => h y (by simp [hy]))]
theorem rNd_back {ss : List (List UInt8)} {ps : List PR} (hs : ∀ s ∈ ss, s.length ≤ 9223372036854775807) (hp : ∀ p ∈ ps, okPv p ∧ (p.v.k == 0) = false) (h1 : ss.length ≤ 3) (h2 : ps.length ≤ 3) (r : List UInt8) : rNd (lebNode ss ps ++ r, false) = ((ss, ps), (r, false)) := by
  have e0 := rMany_back (most := 3) (n := ss.length) (by omega) (by decide) (ss.flatMap lebStr ++ (lebInt ps.length ++ (ps.flatMap lebPr ++ r)))
  have e1 := rN_back rStr lebStr ss (lebInt ps.length ++ (ps.flatMap lebPr ++ r)) (fun s hs' r => rStr_back (hs s hs') r)
  have e2 := rMany_back (most := 3) (n := ps.length) (by omega) (by decide) (ps.flatMap lebPr ++ r)
  have e3 := rN_back rPr lebPr ps r (fun p hp' r => rPr_back (hp p hp').1 (hp p hp').2 r)
  unfold rNd lebNode lebPrs lebStrs
  simp only [List.append_assoc]
  rw [e0]
  simp only [Int.toNat_natCast]
  rw [e1]
  simp only
  rw [e2]
  simp only [Int.toNat_natCast]
  rw [e3]
theorem rWr_back {nodes edges : Int} {x : WR} (hn : nodes ≤ 9223372036854775807) (he : edges ≤ 9223372036854775807) (hok : okWv x) (h : writeB nodes edges x = true) (r : List UInt8) : rWr (lebWr x ++ r, false) = (x, (r, false)) := by
  obtain ⟨⟨hi1, hi2⟩, hf⟩ := writeB_form hok.2.2.2 h
  have hi : i64R x.id := ⟨by omega, by split at hi2 <;> omega⟩
  obtain ⟨e, id, g, ss, ps, ed⟩ := x
  obtain ⟨k1, k2, k3, k4⟩ := hok
  dsimp only at *
  unfold rWr lebWr
  simp only [List.append_assoc]
  rw [rTruth_back]
  dsimp only
  rw [rInt_back hi]
  dsimp only
  rw [rTruth_back]
  dsimp only
  rcases hf with ⟨rfl, rfl, rfl, rfl⟩ | ⟨rfl, rfl, rfl, rfl, h5⟩ | ⟨rfl, rfl, rfl, h4⟩
  · simp
  · obtain ⟨h6, h7, h8, h9⟩ := okED_form h5
    have hw := weight_norm h9
    obtain ⟨a, b, t, w⟩ := ed
    dsimp only at *
    simp only [Bool.false_eq_true, if_false, if_true]
    unfold lebEd
    simp only [List.append_assoc]
    rw [rInt_back ⟨by omega, by omega⟩]
    dsimp only
    rw [rInt_back ⟨by omega, by omega⟩]
    dsimp only
    rw [rStr_back k3]
    dsimp only
    rw [rReal_back k4, hw]
  · obtain ⟨h5, h6, h7, h8, h9⟩ := nodeB_form h4
    simp only [Bool.false_eq_true, if_false]
    rw [rNd_back k1 (fun p hp => ⟨⟨(h5 p hp).1, (k2 p hp).1, (k2 p hp).2.1, (k2 p hp).2.2.1, (k2 p hp).2.2.2⟩, (h5 p hp).2⟩) (by omega) (by omega)]
theorem rWs_back : ∀ (xs : List WR) (r : List UInt8), (∀ x ∈ xs, ∀ r, rWr (lebWr x ++ r, false) = (x, (r, false))) → rWs xs.length (xs.flatMap lebWr ++ r, false) = (xs, (r, false))
  | [], r, _ => rfl
  | x :: xs, r, h => by
    rw [List.flatMap_cons, List.append_assoc, List.length_cons]
    unfold rWs
    rw [h x (by simp)]
    dsimp only
    rw [rWs_back xs r (fun y hy => h y (by simp [hy]))]
    rfl
/-! ## so many writes and no more -/
theorem below_len : ∀ (n : Nat) (l : List Nat), l.Nodup → (∀ x ∈ l, x < n) → l.length ≤ n
  | 0, [], _, _ => Nat.le_refl _
  | 0, x :: l, _, h => by have := h x (by simp); omega
  | n + 1, l, hd, h => by
    by_cases hm : n ∈ l
    · have h1 := below_len n (l.erase n) (hd.erase n) (fun x hx => by
        have h2 := h x (List.mem_of_mem_erase hx)
        have h3 : x ≠ n := fun e => by
          subst e
          exact absurd hx (by rw [hd.mem_erase_iff]; simp)
        omega)
      rw [List.length_erase_of_mem hm] at h1
      omega
    · have := below_len n l hd (fun x hx => by
        have h2 := h x hx
        have h3 : x ≠ n := fun e => hm (e ▸ hx)
        omega)
      omega
def codeW (x : WR) : Nat := if x.e = true then x.id.toNat - 1 else 31 + x.id.toNat
theorem areW_len {nodes edges : Int} {xs : List WR} (h : areW nodes edges [] xs = true) : xs.length ≤ 56 := by
  obtain ⟨⟨⟨h1, h2⟩, h3, h4⟩, h5, _, h6⟩ := (areW_iff nodes edges xs []).1 h
  have hid : ∀ x ∈ xs, 1 ≤ x.id ∧ x.id ≤ (if x.e = true then edges else nodes) := fun x hx => by
    have := h5 x hx
    unfold writeB at this
    simp only [Bool.and_eq_true, decide_eq_true_eq] at this
    exact this.1.1
  have hc : (xs.map codeW).Nodup := by
    unfold List.Nodup at h6 ⊢
    rw [List.pairwise_map] at h6 ⊢
    refine List.Pairwise.imp_of_mem ?_ h6
    intro x y hx hy hne he
    have h7 := hid x hx
    have h8 := hid y hy
    apply hne
    unfold codeW at he
    cases ex : x.e <;> cases ey : y.e <;> rw [ex] at he h7 <;> rw [ey] at he h8 <;> simp only [Bool.false_eq_true, if_false, if_true] at he h7 h8
    · have : x.id = y.id := by omega
      rw [this]
    · omega
    · omega
    · have : x.id = y.id := by omega
      rw [this]
  have := below_len 56 (xs.map codeW) hc (fun c hcm => by
    obtain ⟨x, hx, rfl⟩ := List.mem_map.1 hcm
    have h7 := hid x hx
    unfold codeW
    cases ex : x.e <;> rw [ex] at h7 <;> simp only [Bool.false_eq_true, if_false, if_true] at h7 ⊢ <;> omega)
  simpa using this
theorem rAll_back {nodes edges : Int} {xs : List WR} (hok : ∀ x ∈ xs, okWv x) (h : areW nodes edges [] xs = true) : rAll (lebAll nodes edges xs, false) = ((nodes, edges, xs), ([], false)) := by
  have hl := areW_len h
  obtain ⟨h1, h2, h3⟩ := areW_form h
  have e3 := rWs_back xs [] (fun x hx r => rWr_back (by omega) (by omega) (hok x hx) (h1 x hx) r)
  rw [List.append_nil] at e3
  unfold rAll lebAll lebWrs
  simp only [List.append_assoc]
  rw [rInt_back ⟨by omega, by omega⟩]
  dsimp only
  rw [rInt_back ⟨by omega, by omega⟩]
  dsimp only
  rw [rMany_back (by omega) (by decide)]
  dsimp only
  rw [Int.toNat_natCast, e3]
/-! ## how great -/
theorem toRS_len (c : Cur) : (toRS c).1.length ≤ pot c := by cases c <;> simp [toRS, pot]
theorem rInt_p (s : RC) : i64R (rInt s).1 ∧ (rInt s).2.1.length ≤ s.1.length := by
  obtain ⟨l, e⟩ := s
  cases e
  · have h := curInt_pot (some l)
    refine ⟨h.1, ?_⟩
    show (toRS (curInt (some l)).2).1.length ≤ l.length
    rcases h.2 with ⟨h, _⟩ | ⟨l', r, h1, h2, h3⟩
    · rw [h]; simp [toRS]
    · rw [h2]; simp only [Option.some.injEq] at h1; subst h1; show r.length ≤ _; omega
  · exact ⟨by unfold i64R; show (-9223372036854775808 : Int) ≤ 0 ∧ (0 : Int) ≤ 9223372036854775807; decide, Nat.zero_le _⟩
theorem rStr_p (s : RC) : (rStr s).1.length ≤ s.1.length ∧ (rStr s).2.1.length ≤ s.1.length := by
  obtain ⟨l, e⟩ := s
  cases e
  · have hq : pot (some l) = l.length + 1 := rfl
    have h2 := toRS_len (curStr (some l)).2
    show (curStr (some l)).1.length ≤ l.length ∧ (toRS (curStr (some l)).2).1.length ≤ l.length
    rcases curStr_p (some l) with ⟨h, h'⟩ | h
    · rw [h', h]; simp [toRS]
    · omega
  · exact ⟨Nat.zero_le _, Nat.zero_le _⟩
theorem rReal_p (s : RC) : (rReal s).1 < W64 ∧ (rReal s).2.1.length ≤ s.1.length := by
  obtain ⟨l, e⟩ := s
  cases e
  · have hq : pot (some l) = l.length + 1 := rfl
    have h2 := toRS_len (curReal (some l)).2
    have h := curReal_p (some l)
    refine ⟨h.1, ?_⟩
    show (toRS (curReal (some l)).2).1.length ≤ l.length
    rcases h.2 with h | h
    · rw [h]; simp [toRS]
    · omega
  · exact ⟨by unfold W64; show (0 : Nat) < _; decide, Nat.zero_le _⟩
theorem rTruth_p (s : RC) : (rTruth s).2.1.length ≤ s.1.length := (rInt_p s).2
theorem rMany_p (most : Int) (s : RC) : (rMany most s).2.1.length ≤ s.1.length := (rInt_p s).2
theorem rVal_p (s : RC) : i64R (rVal s).1.k ∧ i64R (rVal s).1.n ∧ (rVal s).1.f < W64 ∧ (rVal s).1.t.length ≤ s.1.length ∧ (rVal s).2.1.length ≤ s.1.length := by
  have h1 := rInt_p s
  have hz : i64R 0 := by unfold i64R; decide
  have hw : (0 : Nat) < W64 := by unfold W64; decide
  unfold rVal
  split
  · have h2 := rTruth_p (rInt s).2
    exact ⟨by unfold i64R; simp only; decide, hz, hw, Nat.zero_le _, by simp only; omega⟩
  · split
    · have h2 := rInt_p (rInt s).2
      exact ⟨by unfold i64R; simp only; decide, h2.1, hw, Nat.zero_le _, by simp only; omega⟩
    · split
      · have h2 := rReal_p (rInt s).2
        exact ⟨by unfold i64R; simp only; decide, hz, h2.1, Nat.zero_le _, by simp only; omega⟩
      · split
        · have h2 := rStr_p (rInt s).2
          exact ⟨by unfold i64R; simp only; decide, hz, hw, by simp only; omega, by simp only; omega⟩
        · exact ⟨h1.1, hz, hw, Nat.zero_le _, h1.2⟩
theorem rN_p {X : Type} (f : RC → X × RC) (P : X → Prop) (L : Nat) (hf : ∀ s : RC, s.1.length ≤ L → P (f s).1 ∧ (f s).2.1.length ≤ L) : ∀ (n : Nat) (s : RC), s.1.length ≤ L → (rN f n s).1.length ≤ n ∧ (∀ x ∈ (rN f n s).1, P x) ∧ (rN f n s).2.1.length ≤ L
  | 0, s, h => ⟨Nat.le_refl _, by simp [rN], h⟩
  | n + 1, s, h => by
    obtain ⟨h1, h2⟩ := hf s h
    obtain ⟨h3, h4, h5⟩ := rN_p f P L hf n (f s).2 h2
    refine ⟨by simp only [rN, List.length_cons]; omega, fun x hx => ?_, h5⟩
    simp only [rN, List.mem_cons] at hx
    rcases hx with rfl | hx
    · exact h1
    · exact h4 x hx
theorem sumR_mul {X : Type} (f : X → Nat) (k : Nat) : ∀ (l : List X), (∀ x ∈ l, f x ≤ k) → sumR f l ≤ l.length * k
  | [], _ => by simp [sumR]
  | x :: l, h => by
    rw [sumR_cons, List.length_cons, Nat.add_mul, Nat.one_mul]
    have h1 := h x (by simp)
    have h2 := sumR_mul f k l (fun y hy => h y (by simp [hy]))
    omega
theorem rNd_p (s : RC) (L : Nat) (h : s.1.length ≤ L) (hL : L ≤ 100000) : (∀ p ∈ (rNd s).1.2, okP2 p) ∧ roomNd (rNd s).1.1 (rNd s).1.2 ≤ 20 + 3 * (10 + L) + 3 * (30 + 2 * L) ∧ (rNd s).2.1.length ≤ L := by
  have b1 := rMany_bd 3 (by decide) s
  obtain ⟨h1, h2, h3⟩ := rN_p rStr (fun t => t.length ≤ L) L (fun s hs => ⟨Nat.le_trans (rStr_p s).1 hs, Nat.le_trans (rStr_p s).2 hs⟩) (rMany 3 s).1.toNat (rMany 3 s).2 (Nat.le_trans (rMany_p 3 s) h)
  have b2 := rMany_bd 3 (by decide) (rN rStr (rMany 3 s).1.toNat (rMany 3 s).2).2
  obtain ⟨h4, h5, h6⟩ := rN_p rPr (fun p => okP2 p ∧ roomPr p ≤ 30 + 2 * L) L (fun s hs => by
    have q1 := rStr_p s
    have q2 := rVal_p (rStr s).2
    exact ⟨⟨⟨q2.1, q2.2.1, q2.2.2.1, by show (rVal (rStr s).2).1.t.length ≤ _; omega, by show (rStr s).1.length ≤ _; omega⟩, by show 10 + (rStr s).1.length + (20 + (rVal (rStr s).2).1.t.length) ≤ _; omega⟩, by show (rVal (rStr s).2).2.1.length ≤ _; omega⟩) (rMany 3 (rN rStr (rMany 3 s).1.toNat (rMany 3 s).2).2).1.toNat (rMany 3 (rN rStr (rMany 3 s).1.toNat (rMany 3 s).2).2).2 (Nat.le_trans (rMany_p 3 _) h3)
  refine ⟨fun p hp => (h5 p hp).1, ?_, h6⟩
  have e1 : strsRoom (rNd s).1.1 ≤ (rNd s).1.1.length * (10 + L) := sumR_mul (fun t : List UInt8 => 10 + t.length) (10 + L) _ (fun t ht => by have := h2 t ht; omega)
  have e2 : sumR roomPr (rNd s).1.2 ≤ (rNd s).1.2.length * (30 + 2 * L) := sumR_mul roomPr (30 + 2 * L) _ (fun p hp => (h5 p hp).2)
  have e3 : (rNd s).1.1.length * (10 + L) ≤ 3 * (10 + L) := Nat.mul_le_mul_right _ (by show (rN rStr (rMany 3 s).1.toNat (rMany 3 s).2).1.length ≤ 3; omega)
  have e4 : (rNd s).1.2.length * (30 + 2 * L) ≤ 3 * (30 + 2 * L) := Nat.mul_le_mul_right _ (by show (rN rPr _ _).1.length ≤ 3; omega)
  unfold roomNd
  omega
theorem rWr_p (s : RC) (L : Nat) (h : s.1.length ≤ L) (hL : L ≤ 100000) : (okW2 (rWr s).1 ∧ roomWr (rWr s).1 ≤ 10000000) ∧ (rWr s).2.1.length ≤ L := by
  have h1 := rTruth_p s
  have h2 := rInt_p (rTruth s).2
  have h3 := rTruth_p (rInt (rTruth s).2).2
  have hz : i64R 0 := by unfold i64R; decide
  have hw : (0 : Nat) < W64 := by unfold W64; decide
  have hn0 : roomNd [] [] = 20 := rfl
  unfold rWr
  split
  · refine ⟨⟨⟨h2.1, hz, hz, hw, by simp, ?_⟩, ?_⟩, by simp only; omega⟩
    · unfold roomWr; simp only [hn0, noED, List.length_nil]; omega
    · unfold roomWr; simp only [hn0, noED, List.length_nil]; omega
  · split
    · have h4 := rInt_p (rTruth (rInt (rTruth s).2).2).2
      have h5 := rInt_p (rInt (rTruth (rInt (rTruth s).2).2).2).2
      have h6 := rStr_p (rInt (rInt (rTruth (rInt (rTruth s).2).2).2).2).2
      have h7 := rReal_p (rStr (rInt (rInt (rTruth (rInt (rTruth s).2).2).2).2).2).2
      refine ⟨⟨⟨h2.1, h4.1, h5.1, h7.1, by simp, ?_⟩, ?_⟩, by simp only; omega⟩
      · unfold roomWr; simp only [hn0]; omega
      · unfold roomWr; simp only [hn0]; omega
    · obtain ⟨q1, q2, q3⟩ := rNd_p (rTruth (rInt (rTruth s).2).2).2 L (by omega) hL
      refine ⟨⟨⟨h2.1, hz, hz, hw, q1, ?_⟩, ?_⟩, q3⟩
      · unfold roomWr; simp only [noED, List.length_nil]; omega
      · unfold roomWr; simp only [noED, List.length_nil]; omega
theorem rWs_p (L : Nat) (hL : L ≤ 100000) : ∀ (n : Nat) (s : RC), s.1.length ≤ L → (rWs n s).1.length ≤ n ∧ ∀ x ∈ (rWs n s).1, okW2 x ∧ roomWr x ≤ 10000000
  | 0, s, h => ⟨Nat.le_refl _, by simp [rWs]⟩
  | n + 1, s, h => by
    obtain ⟨h1, h2⟩ := rWr_p s L h hL
    obtain ⟨h3, h4⟩ := rWs_p L hL n (rWr s).2 h2
    unfold rWs
    split
    · exact ⟨Nat.zero_le _, by simp⟩
    · refine ⟨by simp only [List.length_cons]; omega, fun x hx => ?_⟩
      simp only [List.mem_cons] at hx
      rcases hx with rfl | hx
      · exact h1
      · exact h4 x hx
theorem rAll_p (l : List UInt8) (hl : l.length ≤ 100000) : (∀ x ∈ (rAll (l, false)).1.2.2, okW2 x) ∧ sumR roomWr (rAll (l, false)).1.2.2 ≤ 1099511627776 ∧ i64R (rAll (l, false)).1.1 ∧ i64R (rAll (l, false)).1.2.1 := by
  have h1 := rInt_p (l, false)
  have h2 := rInt_p (rInt (l, false)).2
  have h3 := rMany_p 56 (rInt (rInt (l, false)).2).2
  have b := rMany_bd 56 (by decide) (rInt (rInt (l, false)).2).2
  simp only at h1
  obtain ⟨h4, h5⟩ := rWs_p 100000 (Nat.le_refl _) (rMany 56 (rInt (rInt (l, false)).2).2).1.toNat (rMany 56 (rInt (rInt (l, false)).2).2).2 (by omega)
  refine ⟨fun x hx => (h5 x hx).1, ?_, h1.1, h2.1⟩
  have e1 : sumR roomWr (rAll (l, false)).1.2.2 ≤ (rAll (l, false)).1.2.2.length * 10000000 := sumR_mul roomWr 10000000 _ (fun x hx => (h5 x hx).2)
  have e2 : (rAll (l, false)).1.2.2.length * 10000000 ≤ 56 * 10000000 := Nat.mul_le_mul_right _ (by show (rWs _ _).1.length ≤ 56; omega)
  omega
/-! ## both take the same -/
theorem dec_same (l : List UInt8) (hl : l.length ≤ 100000) : decR l = decB l ∧ (decB l = true → (rAll (l, false)).1 = (curAll (some l)).1) := by
  obtain ⟨a1, a2, a3, a4⟩ := rAll_p l hl
  obtain ⟨b1, b2, b3, b4⟩ := curAll_p l (by omega)
  have key1 : decR l = true → decB l = true ∧ (rAll (l, false)).1 = (curAll (some l)).1 := fun h => by
    unfold decR at h
    simp only [Bool.and_eq_true, Bool.not_eq_true', decide_eq_true_eq] at h
    obtain ⟨⟨h1, h2⟩, h3⟩ := h
    generalize (rAll (l, false)).1 = q at *
    obtain ⟨n, e, xs⟩ := q
    dsimp only at *
    rw [may_are] at h2
    have hb := curAll_back (r := []) (by have := areW_len h2; omega) (fun x hx => okW2_v (a1 x hx)) h2
    rw [List.append_nil, h3] at hb
    unfold decB
    rw [hb]
    simp [h2, h3]
  have key2 : decB l = true → decR l = true := fun h => by
    unfold decB at h
    simp only [Bool.and_eq_true, decide_eq_true_eq] at h
    obtain ⟨⟨h1, h2⟩, h3⟩ := h
    generalize (curAll (some l)).1 = q at *
    obtain ⟨n, e, xs⟩ := q
    dsimp only at *
    have hb := rAll_back (fun x hx => okW2_v (b2 x hx)) h1
    rw [h3] at hb
    unfold decR
    rw [hb]
    simp [may_are, h1, h3]
  refine ⟨?_, fun h => (key1 (key2 h)).2⟩
  cases h1 : decR l <;> cases h2 : decB l
  · rfl
  · rw [key2 h2] at h1; cases h1
  · rw [(key1 h1).1] at h2; cases h2
  · rfl
end Go.Proofs.YtmbffncmogpkfaaGreatDoor

namespace Go.Proofs.YtmbffncmogpkfaaGreatDoor
open Go Go.RowKit Go.ChangeShapes Go.WideShapes Go.Deep
set_option linter.unusedVariables false
set_option linter.unusedSimpArgs false

theorem rowAt_of_oneW {X : Type} {w : World} {v : Value} {xs : List X} (f : X → Value) (h : RowK 1 w v (xs.map (fun x => [f x]))) : RowAt w v (xs.map f) := by
  refine ⟨by simpa using h.1, ?_⟩
  rcases h.2.2 with ⟨hv, hn⟩ | ⟨a, c, rfl, hl, hc⟩
  · exact .inl ⟨hv, by simpa using hn⟩
  · refine .inr ⟨a, c, by simp, by simpa using hl, fun i hi => ?_⟩
    obtain ⟨B, o, rfl, hB, hx⟩ := hc i (by simpa using hi)
    have := hx 0 (by simp)
    rw [addr_add]
    simpa using this
def okPRw (p : PR) : Prop := p.key.length ≤ maxLen ∧ okV p.v
def okEdgeW (x : ED) : Prop := i64R x.a ∧ i64R x.b ∧ x.t.length ≤ maxLen ∧ x.w < W64
def Wt {H : Type} (P : Program) (t : TypeId) (d : DataW H) : Prop := (d.weights P t).all (· ≤ reachBytes) = true
theorem wt_at {H : Type} {P : Program} : ∀ (j : Nat) (ts : List TypeId) (ds : List (DataW H)) (t : TypeId) (d : DataW H), ts[j]? = some t → ds[j]? = some d → (DataW.weightsEach P ts ds).all (· ≤ reachBytes) = true → Wt P t d
  | 0, t' :: ts, d' :: ds, t, d, ht, hd, h => by
    simp at ht hd; subst ht hd
    simp only [DataW.weightsEach, List.all_append, Bool.and_eq_true] at h
    exact h.1
  | j + 1, t' :: ts, d' :: ds, t, d, ht, hd, h => by
    simp only [DataW.weightsEach, List.all_append, Bool.and_eq_true] at h
    exact wt_at j ts ds t d (by simpa using ht) (by simpa using hd) h.2
  | j, [], _, t, d, ht, _, _ => by simp at ht
  | j, _ :: _, [], t, d, _, hd, _ => by simp at hd
theorem wtAll_mem {H : Type} {P : Program} {e : TypeId} : ∀ {l : List (DataW H)}, (DataW.weightsAll P e l).all (· ≤ reachBytes) = true → ∀ d ∈ l, Wt P e d
  | [], _, d, hd => by simp at hd
  | x :: l, h, d, hd => by
    simp only [DataW.weightsAll, List.all_append, Bool.and_eq_true] at h
    rcases List.mem_cons.1 hd with rfl | hd
    · exact h.1
    · exact wtAll_mem h.2 d hd
theorem wt_slice {H : Type} {P : Program} {t e : TypeId} {elems spare : List (DataW H)} (ht : P.underlying t = some (.slice e)) (h : Wt P t (.slice elems spare)) : (elems.length + spare.length) * P.bytesOf e ≤ reachBytes ∧ ∀ d ∈ elems, Wt P e d := by
  unfold Wt DataW.weights at h
  rw [ht] at h
  simp only [List.all_cons, List.all_append, Bool.and_eq_true, decide_eq_true_eq] at h
  exact ⟨h.1, wtAll_mem h.2.1⟩
theorem wt_struct {H : Type} {P : Program} {t : TypeId} {fs : Array Field} {parts : List (DataW H)} (ht : P.underlying t = some (.struct fs)) (h : Wt P t (.agg parts)) (i : Nat) (f : Field) (d : DataW H) (hf : fs[i]? = some f) (hd : parts[i]? = some d) : Wt P f.type d := by
  unfold Wt DataW.weights at h
  rw [ht] at h
  exact wt_at i _ _ _ _ (by rw [List.getElem?_map, Array.getElem?_toList, hf]; rfl) hd h
theorem wt_string {H : Type} {P : Program} {t : TypeId} {l : List UInt8} (h : Wt P t (DataW.lit (H := H) (.string l))) : l.length ≤ 140737488355328 := by
  unfold Wt DataW.weights at h
  simp only [List.all_cons, List.all_nil, Bool.and_true, decide_eq_true_eq] at h
  have e : reachBytes ≤ 140737488355328 := by decide
  omega
section
variable {H : Type} {enc : TypeId × Value → H} {w : World} {base : Nat} {spare : Nat → Bool} {held : Bool} {fuel : Nat} {cs : List Value} {x : DataW H × List MemPlace}
set_option maxRecDepth 100000 in
theorem open_valW (h : DataW.trod enc Tryz.prog w base spare held fuel 47 cs = some x) (hw : Wt Tryz.prog 47 x.1) : ∃ y : V5, cs = y.cells ∧ okV y ∧ y.t.length ≤ 140737488355328 := by
  obtain ⟨xs, n, _, hx, hl, hlen, hf⟩ := DataW.trod_struct Tryz.underlying47 h
  have h5 : cs.length = 5 := hl.trans (by kernel_rfl)
  have kI : Tryz.prog.cellsOf 3 = 1 := by kernel_rfl
  have kB : Tryz.prog.cellsOf 4 = 1 := by kernel_rfl
  have kF : Tryz.prog.cellsOf 37 = 1 := by kernel_rfl
  have kS : Tryz.prog.cellsOf 9 = 1 := by kernel_rfl
  match cs, h5 with
  | [c0, c1, c2, c3, c4], _ =>
    match xs, hlen with
    | [y0, y1, y2, y3, y4], _ =>
      have hw4 := wt_struct Tryz.underlying47 (by rw [hx] at hw; exact hw) 4 _ y4.1 rfl rfl
      have g0 := hf 0 _ rfl
      have g1 := hf 1 _ rfl
      have g2 := hf 2 _ rfl
      have g3 := hf 3 _ rfl
      have g4 := hf 4 _ rfl
      simp [kI, kB, kF, kS] at g0 g1 g2 g3 g4
      obtain ⟨k, e0, _, w0⟩ := DataW.trod_int Tryz.underlying3 g0
      obtain ⟨b, e1, _⟩ := DataW.trod_bool Tryz.underlying4 g1
      obtain ⟨m, e2, _, w2⟩ := DataW.trod_int Tryz.underlying3 g2
      obtain ⟨f, e3, w3⟩ := trod_float64 Tryz.underlying37 g3
      obtain ⟨s, e4, hs, w4⟩ := DataW.trod_string Tryz.underlying9 g4
      simp at e0 e1 e2 e3 e4
      subst e0 e1 e2 e3 e4
      rw [hs] at hw4
      exact ⟨⟨k, b, m, f, s.data.toList⟩, by simp [V5.cells, bytes_of], ⟨i64_ok w0, i64_ok w2, w3, by rw [Array.length_toList]; exact w4⟩, wt_string hw4⟩
set_option maxRecDepth 100000 in
theorem open_edgeW (h : DataW.trod enc Tryz.prog w base spare held fuel 39 cs = some x) (hw : Wt Tryz.prog 39 x.1) : ∃ y : ED, cs = y.cells ∧ okEdgeW y ∧ y.t.length ≤ 140737488355328 := by
  obtain ⟨xs, n, _, hx, hl, hlen, hf⟩ := DataW.trod_struct Tryz.underlying39 h
  have h5 : cs.length = 4 := hl.trans (by kernel_rfl)
  have kI : Tryz.prog.cellsOf 3 = 1 := by kernel_rfl
  have kF : Tryz.prog.cellsOf 37 = 1 := by kernel_rfl
  have kS : Tryz.prog.cellsOf 9 = 1 := by kernel_rfl
  match cs, h5 with
  | [c0, c1, c2, c3], _ =>
    match xs, hlen with
    | [y0, y1, y2, y3], _ =>
      have hw2 := wt_struct Tryz.underlying39 (by rw [hx] at hw; exact hw) 2 _ y2.1 rfl rfl
      have g0 := hf 0 _ rfl
      have g1 := hf 1 _ rfl
      have g2 := hf 2 _ rfl
      have g3 := hf 3 _ rfl
      simp [kI, kF, kS] at g0 g1 g2 g3
      obtain ⟨k, e0, _, w0⟩ := DataW.trod_int Tryz.underlying3 g0
      obtain ⟨m, e1, _, w1⟩ := DataW.trod_int Tryz.underlying3 g1
      obtain ⟨s, e2, hs, w2⟩ := DataW.trod_string Tryz.underlying9 g2
      obtain ⟨f, e3, w3⟩ := trod_float64 Tryz.underlying37 g3
      simp at e0 e1 e2 e3
      subst e0 e1 e2 e3
      rw [hs] at hw2
      exact ⟨⟨k, m, s.data.toList, f⟩, by simp [ED.cells, bytes_of], ⟨i64_ok w0, i64_ok w1, by rw [Array.length_toList]; exact w2, w3⟩, wt_string hw2⟩
set_option maxRecDepth 100000 in
theorem open_prW (h : DataW.trod enc Tryz.prog w base spare held fuel 49 cs = some x) (hw : Wt Tryz.prog 49 x.1) : ∃ y : PR, cs = y.cells ∧ okPRw y ∧ y.key.length ≤ 140737488355328 ∧ y.v.t.length ≤ 140737488355328 := by
  obtain ⟨xs, n, _, hx, hl, hlen, hf⟩ := DataW.trod_struct Tryz.underlying49 h
  have h5 : cs.length = 6 := hl.trans (by kernel_rfl)
  have kS : Tryz.prog.cellsOf 9 = 1 := by kernel_rfl
  have kV : Tryz.prog.cellsOf 47 = 5 := by kernel_rfl
  match cs, h5 with
  | [c0, c1, c2, c3, c4, c5], _ =>
    match xs, hlen with
    | [y0, y1], _ =>
      have hw0 := wt_struct Tryz.underlying49 (by rw [hx] at hw; exact hw) 0 _ y0.1 rfl rfl
      have hw1 := wt_struct Tryz.underlying49 (by rw [hx] at hw; exact hw) 1 _ y1.1 rfl rfl
      have g0 := hf 0 _ rfl
      have g1 := hf 1 _ rfl
      simp [kS, kV] at g0 g1
      obtain ⟨s, e0, hs, w0⟩ := DataW.trod_string Tryz.underlying9 g0
      obtain ⟨v, e1, w1, w2⟩ := open_valW g1 hw1
      simp [V5.cells] at e0 e1
      obtain ⟨rfl, rfl, rfl, rfl, rfl⟩ := e1
      subst e0
      rw [hs] at hw0
      exact ⟨⟨s.data.toList, v⟩, by simp [PR.cells, bytes_of], ⟨by rw [Array.length_toList]; exact w0, w1⟩, wt_string hw0, w2⟩
end
section
variable {H : Type} {enc : TypeId × Value → H} {w : World} {spare : Nat → Bool} {held : Bool}
theorem open_rowW {X : Type} (k b : Nat) (cells : X → List Value) (ok : X → Prop) (hk0 : 0 < k) (hcl : ∀ x, (cells x).length = k) {t e : TypeId} (ht : Tryz.prog.underlying t = some (.slice e)) (hk : Tryz.prog.cellsOf e = k) (hby : Tryz.prog.bytesOf e = b)
    (hel : ∀ (n : Nat) (cs : List Value) y, DataW.trod enc Tryz.prog w 0 spare held n e cs = some y → Wt Tryz.prog e y.1 → ∃ x, cs = cells x ∧ ok x)
    {cs0 : List Value} {x0 : DataW H × List MemPlace} {fuel : Nat} (hf : DataW.trod enc Tryz.prog w 0 spare held fuel t cs0 = some x0) (hw : Wt Tryz.prog t x0.1) :
    ∃ (v : Value) (xs : List X), cs0 = [v] ∧ RowK k w v (xs.map cells) ∧ (∀ x ∈ xs, ok x) ∧ xs.length * b ≤ 140737488355328 := by
  rcases open_slice ht hf with ⟨hcs, _⟩ | ⟨a', len', cap', m, n, D, Pl, hcs, _, hl, hm, hmm, hx0, hi⟩
  · exact ⟨_, [], hcs, RowK.nil k w, by simp, by simp⟩
  · rw [hk] at hi
    rw [hx0] at hw
    obtain ⟨hw1, hw2⟩ := wt_slice ht hw
    have hlm : len' ≤ m := by rw [hmm]; split <;> omega
    obtain ⟨xs, hxl, hx⟩ := exists_list len' (fun i x => (∀ j (hj : j < (cells x).length), w.cell? ((a'.add (i * k)).add j) = some (cells x)[j]) ∧ ok x) (fun i hi' => by
      obtain ⟨cs', hc, ht'⟩ := hi i (by omega)
      obtain ⟨_, hcl', hat⟩ := World.cells?_some hc
      obtain ⟨x, rfl, hx⟩ := hel n cs' _ ht' (hw2 _ (List.mem_map_of_mem (List.mem_range.2 hi')))
      exact ⟨x, fun j hj => by rw [hat j (by omega)]; exact List.getElem?_eq_getElem hj, hx⟩)
    refine ⟨_, xs, hcs, ⟨by rw [List.length_map]; omega, by intro y hy; obtain ⟨x, _, rfl⟩ := List.mem_map.1 hy; exact hcl x, .inr ⟨a', cap', by rw [List.length_map, hxl], by rw [List.length_map, hxl]; exact hl, fun i hi' => ?_⟩⟩, fun x hx' => ?_, ?_⟩
    · rw [List.length_map] at hi'
      have h := (hx i hi').1
      have h0 := h 0 (by rw [hcl]; exact hk0)
      obtain ⟨b, o, sp⟩ := a'
      have hz := (hx 0 (by omega)).1 0 (by rw [hcl]; exact hk0)
      have hs : sp = none := by simpa [Addr.add] using World.cell?_spot hz
      clear hz
      subst hs
      simp only [addr_add] at h h0
      refine ⟨b, o, rfl, World.block_lt_of_cell? w _ h0, fun j hj => ?_⟩
      rw [List.getElem_map] at hj
      rw [h j hj]
      simp
    · obtain ⟨i, hi', rfl⟩ := List.getElem_of_mem hx'
      exact (hx i hi').2
    · rw [hby] at hw1
      simp only [List.length_map, List.length_range] at hw1
      have e : reachBytes ≤ 140737488355328 := by decide
      rw [hxl]
      have : len' * b ≤ (len' + (m - len')) * b := Nat.mul_le_mul_right _ (by omega)
      omega
/-- a write that comes in. -/
def okWi (p : WV) : Prop := i64R p.x.id ∧ okEdgeW p.x.ed ∧ (∀ q ∈ p.x.ps, okPRw q) ∧ okBig p.x ∧ p.x.ss.length ≤ 8796093022208 ∧ p.x.ps.length ≤ 2199023255552
set_option maxRecDepth 100000 in
set_option maxHeartbeats 1000000 in
theorem open_writeW {fuel : Nat} {cs : List Value} {x : DataW H × List MemPlace} (h : DataW.trod enc Tryz.prog w 0 spare held fuel 45 cs = some x) (hw : Wt Tryz.prog 45 x.1) : ∃ p : WV, cs = p.cells ∧ p.rows w ∧ okWi p := by
  obtain ⟨xs, n, _, hx, hl, hlen, hf⟩ := DataW.trod_struct Tryz.underlying45 h
  have h5 : cs.length = 9 := hl.trans (by kernel_rfl)
  have kI : Tryz.prog.cellsOf 3 = 1 := by kernel_rfl
  have kB : Tryz.prog.cellsOf 4 = 1 := by kernel_rfl
  have kN : Tryz.prog.cellsOf 43 = 2 := by kernel_rfl
  have kE : Tryz.prog.cellsOf 39 = 4 := by kernel_rfl
  have kS : Tryz.prog.cellsOf 40 = 1 := by kernel_rfl
  have kP : Tryz.prog.cellsOf 41 = 1 := by kernel_rfl
  match cs, h5 with
  | [c0, c1, c2, c3, c4, c5, c6, c7, c8], _ =>
    match xs, hlen with
    | [y0, y1, y2, y3, y4], _ =>
      have hw3 := wt_struct Tryz.underlying45 (by rw [hx] at hw; exact hw) 3 _ y3.1 rfl rfl
      have hw4 := wt_struct Tryz.underlying45 (by rw [hx] at hw; exact hw) 4 _ y4.1 rfl rfl
      have g0 := hf 0 _ rfl
      have g1 := hf 1 _ rfl
      have g2 := hf 2 _ rfl
      have g3 := hf 3 _ rfl
      have g4 := hf 4 _ rfl
      simp [kI, kB, kN, kE] at g0 g1 g2 g3 g4
      obtain ⟨b0, e0, _⟩ := DataW.trod_bool Tryz.underlying4 g0
      obtain ⟨k, e1, _, w1⟩ := DataW.trod_int Tryz.underlying3 g1
      obtain ⟨b2, e2, _⟩ := DataW.trod_bool Tryz.underlying4 g2
      obtain ⟨ed, e4, w4, w5⟩ := open_edgeW g4 hw4
      obtain ⟨xs', n', _, hx', hl', hlen', hf'⟩ := DataW.trod_struct Tryz.underlying43 g3
      match xs', hlen' with
      | [z0, z1], _ =>
        have hv0 := wt_struct Tryz.underlying43 (by rw [hx'] at hw3; exact hw3) 0 _ z0.1 rfl rfl
        have hv1 := wt_struct Tryz.underlying43 (by rw [hx'] at hw3; exact hw3) 1 _ z1.1 rfl rfl
        have q0 := hf' 0 _ rfl
        have q1 := hf' 1 _ rfl
        simp [kS, kP] at q0 q1
        obtain ⟨v1, ss, e5, r1, o1, l1⟩ := open_rowW 1 16 (fun s : List UInt8 => [strV s]) (fun s => s.length ≤ 140737488355328) (by decide) (fun _ => rfl) Tryz.underlying40 (by kernel_rfl) (by kernel_rfl) (fun n cs y hy hwy => by
          obtain ⟨s, rfl, hs, hw'⟩ := DataW.trod_string Tryz.underlying9 hy
          rw [hs] at hwy
          exact ⟨s.data.toList, by simp [strV, bytes_of], wt_string hwy⟩) q0 hv0
        obtain ⟨v2, qs, e6, r2, o2, l2⟩ := open_rowW 6 64 PR.cells (fun q => okPRw q ∧ q.key.length ≤ 140737488355328 ∧ q.v.t.length ≤ 140737488355328) (by decide) (fun _ => rfl) Tryz.underlying41 (by kernel_rfl) (by kernel_rfl) (fun n cs y hy hwy => open_prW hy hwy) q1 hv1
        simp [ED.cells] at e0 e1 e2 e4 e5 e6
        obtain ⟨rfl, rfl, rfl, rfl⟩ := e4
        subst e0 e1 e2 e5 e6
        have r1' := rowAt_of_oneW strV r1
        obtain ⟨a1, n1, c1', rfl⟩ := r1'.sh
        have hn1 := r1'.len
        obtain ⟨a2, c2', e7, _⟩ := r2.shape
        rw [List.length_map] at e7 hn1
        subst e7 hn1
        refine ⟨⟨⟨b0, k, b2, ss, qs, ed⟩, a1, c1', a2, c2'⟩, rfl, ⟨r1', r2⟩, i64_ok w1, w4, fun q hq => (o2 q hq).1, ⟨w5, ?_, ?_, o1, fun q hq => (o2 q hq).2⟩, ?_, ?_⟩
        · show ss.length ≤ _; omega
        · show qs.length ≤ _; omega
        · show ss.length ≤ _; omega
        · show qs.length ≤ _; omega
theorem open_writes {a : Option Addr} {len cap : Nat} {d : DataW H} {ps : List MemPlace} (h : DataW.Trod enc Tryz.prog w 0 spare held 22 (.slice a len cap) d ps) (hw : Wt Tryz.prog 22 d) :
    ∃ xs : List WV, RowK 9 w (.slice a len cap) (xs.map WV.cells) ∧ (∀ p ∈ xs, p.rows w ∧ okWi p) ∧ xs.length ≤ 1256584717458 := by
  obtain ⟨fuel, hf⟩ := h
  obtain ⟨v, xs, hv, hr, ho, hl⟩ := open_rowW 9 112 WV.cells (fun p => p.rows w ∧ okWi p) (by decide) (fun _ => rfl) Tryz.underlying22 (by kernel_rfl) (by kernel_rfl) (fun n cs y hy hwy => open_writeW hy hwy) hf hw
  simp [Value.cells] at hv
  subst hv
  exact ⟨xs, hr, ho, by omega⟩
end
end Go.Proofs.YtmbffncmogpkfaaGreatDoor

namespace Go.Proofs.YtmbffncmogpkfaaGreatDoor
open Go Go.Proofs Go.RowKit
set_option linter.unusedVariables false
set_option linter.unusedSimpArgs false

set_option maxRecDepth 100000 in
set_option maxHeartbeats 8000000 in
theorem RSameWrites_s (ps qs : List WV) (hxq : ps.map WV.x = qs.map WV.x) (v u : Value) (w : World) (hr : RowK 9 w v (ps.map WV.cells)) (hr' : RowK 9 w u (qs.map WV.cells)) (hrows : ∀ p ∈ ps, p.rows w) (hrows' : ∀ p ∈ qs, p.rows w)
    (hok : ∀ p ∈ ps, (∀ q ∈ p.x.ps, q.v.f < W64) ∧ p.x.ed.w < W64 ∧ p.x.ss.length ≤ 9223372036854775807 ∧ p.x.ps.length ≤ 9223372036854775807) (hlen : ps.length ≤ 9223372036854775807) :
    Calls Tryz.prog 9 #[v, u] w (Gives w (.bool true)) := by
  have hl : qs.length = ps.length := by have := congrArg List.length hxq; simpa using this.symm
  obtain ⟨a, c, rfl, _⟩ := hr.shape
  obtain ⟨b, d, rfl, _⟩ := hr'.shape
  rw [List.length_map] at hr hr' ⊢
  rw [List.length_map, hl] 
  rw [hl] at hr'
  have HT : Hid (Keep w (fun W => (((True ∧ RowK 9 W (.slice a ps.length c) (ps.map WV.cells)) ∧ RowK 9 W (.slice b ps.length d) (qs.map WV.cells)) ∧ ∀ p ∈ ps, p.rows W) ∧ ∀ p ∈ qs, p.rows W) w) :=
    Lib.hid ⟨⟨⟨⟨⟨trivial, hr⟩, hr'⟩, hrows⟩, hrows'⟩, Below.refl _ w, fun W hW => ⟨⟨⟨⟨trivial, hr.below hW⟩, hr'.below hW⟩, fun p hp => ⟨(hrows p hp).1.below hW, (hrows p hp).2.below hW⟩⟩, fun p hp => ⟨(hrows' p hp).1.below hW, (hrows' p hp).2.below hW⟩⟩⟩
  have HX : Hid (∀ j (h1 : j < ps.length) (h2 : j < qs.length), ps[j].x = qs[j].x) := Lib.hid (fun j h1 h2 => by
    have : (ps.map WV.x)[j]'(by simpa using h1) = (qs.map WV.x)[j]'(by simpa using h2) := by simp only [hxq]
    simpa using this)
  have HOK := Lib.hid hok
  have HL := Lib.hid hl
  have q1 : ((ps.length : Int) != (ps.length : Int)) = false := by simp
  clear hr hr' hrows hrows' hok hxq hl
  go_enter Tryz.func9, Tryz.ntmps9
  go_wp2_with fail
  go_loopw [5] (fun i wr => ∃ j : Nat, j ≤ ps.length ∧ i = .int .i64 (j : Int) ∧ Keep w (fun W => (((True ∧ RowK 9 W (.slice a ps.length c) (ps.map WV.cells)) ∧ RowK 9 W (.slice b ps.length d) (qs.map WV.cells)) ∧ ∀ p ∈ ps, p.rows W) ∧ ∀ p ∈ qs, p.rows W) wr) (fun i _ => ps.length - (intOf i).toNat)
  case atStart => exact ⟨0, by omega, rfl, HT.out⟩
  case round =>
    clear HT
    obtain ⟨j, hj, rfl, hT⟩ := hrel
    have HT := Lib.hid hT
    by_cases hlt : j < ps.length
    · have hltq : j < qs.length := by rw [HL.out]; exact hlt
      obtain ⟨B, o, hB1, hBl, hx⟩ := hT.facts.1.1.1.2.cells j (by simpa using hlt)
      obtain rfl : a = some ⟨B, o, none⟩ := hB1
      obtain ⟨B', o', hB1', hBl', hx'⟩ := hT.facts.1.1.2.cells j (by simpa using hltq)
      obtain rfl : b = some ⟨B', o', none⟩ := hB1'
      simp only [List.getElem_map] at hx hx'
      have hp := hT.facts.1.2 _ (List.getElem_mem hlt)
      have hq := hT.facts.2 _ (List.getElem_mem hltq)
      have hpq := HX.out j hlt hltq
      have hoj := HOK.out _ (List.getElem_mem hlt)
      generalize ps[j] = p at *
      generalize qs[j] = q at *
      obtain ⟨⟨e, id, g, ss, pr, ⟨ea, eb, et, ew⟩⟩, sa, sc, pa, pc⟩ := p
      obtain ⟨x', sa', sc', pa', pc'⟩ := q
      dsimp only at hpq
      subst hpq
      obtain ⟨k1, k2, k3, k4⟩ := hoj
      dsimp only at k1 k2 k3 k4
      have C1 := Lib.hid (fun W (h1 : RowAt W (.slice sa ss.length sc) (ss.map strV)) (h2 : RowK 6 W (.slice pa pr.length pc) (pr.map PR.cells)) (h3 : RowAt W (.slice sa' ss.length sc') (ss.map strV)) (h4 : RowK 6 W (.slice pa' pr.length pc') (pr.map PR.cells)) => RSame_s ss pr sa pa sa' pa' sc pc sc' pc' W h1 h2 h3 h4 k1 k3 k4)
      have C2 := Lib.hid (fun W => RSameEdge_s ⟨ea, eb, et, ew⟩ W k2)
      unfold ED.v at C2
      dsimp only at C2
      have HR : Hid (∀ W, Below wr.heap.size wr W → RowAt W (.slice sa ss.length sc) (ss.map strV) ∧ RowK 6 W (.slice pa pr.length pc) (pr.map PR.cells) ∧ RowAt W (.slice sa' ss.length sc') (ss.map strV) ∧ RowK 6 W (.slice pa' pr.length pc') (pr.map PR.cells)) := Lib.hid (fun W hW => ⟨hp.1.below hW, hp.2.below hW, hq.1.below hW, hq.2.below hW⟩)
      have HZ : Hid (∀ W, Below wr.heap.size wr W → _ ∧ _) := Lib.hid (fun W hW => ⟨facts9At (hx.below hW hBl), facts9At (hx'.below hW hBl')⟩)
      dsimp only at HZ
      have hz := HZ.out wr (Below.refl _ wr)
      have hj1 : (j : Int) < (ps.length : Int) := by omega
      have r1 : (e != e) = false := by cases e <;> rfl
      have r2 : (id != id) = false := by simp
      have r3 : (g != g) = false := by cases g <;> rfl
      have HB : Hid (Below wr.heap.size wr wr) := Lib.hid (Below.refl _ wr)
      clear hT hx hx' hp hq k1 k2 k3 k4
      replace HB : Hid (Below wr.heap.size wr wr.drew) := Lib.hid (below_drewN' wr 1)
      go_wp2_with fail
      dsimp only [List.append]
      go_region_held3 (fun W => (W.cell? ⟨B, o + j * 9, none⟩ = some (.bool e) ∧ W.cell? ⟨B, o + j * 9 + 1, none⟩ = some (.int .i64 id) ∧ W.cell? ⟨B, o + j * 9 + 2, none⟩ = some (.bool g) ∧ W.cell? ⟨B, o + j * 9 + 3, none⟩ = some (.slice sa ss.length sc) ∧ W.cell? ⟨B, o + j * 9 + 4, none⟩ = some (.slice pa pr.length pc) ∧ W.cell? ⟨B, o + j * 9 + 5, none⟩ = some (.int .i64 ea) ∧ W.cell? ⟨B, o + j * 9 + 6, none⟩ = some (.int .i64 eb) ∧ W.cell? ⟨B, o + j * 9 + 7, none⟩ = some (.string ⟨et.toArray⟩) ∧ W.cell? ⟨B, o + j * 9 + 8, none⟩ = some (.float .f64 ew)) ∧ (W.cell? ⟨B', o' + j * 9, none⟩ = some (.bool e) ∧ W.cell? ⟨B', o' + j * 9 + 1, none⟩ = some (.int .i64 id) ∧ W.cell? ⟨B', o' + j * 9 + 2, none⟩ = some (.bool g) ∧ W.cell? ⟨B', o' + j * 9 + 3, none⟩ = some (.slice sa' ss.length sc') ∧ W.cell? ⟨B', o' + j * 9 + 4, none⟩ = some (.slice pa' pr.length pc') ∧ W.cell? ⟨B', o' + j * 9 + 5, none⟩ = some (.int .i64 ea) ∧ W.cell? ⟨B', o' + j * 9 + 6, none⟩ = some (.int .i64 eb) ∧ W.cell? ⟨B', o' + j * 9 + 7, none⟩ = some (.string ⟨et.toArray⟩) ∧ W.cell? ⟨B', o' + j * 9 + 8, none⟩ = some (.float .f64 ew)))
        ((exact HZ.out _ HB.out))
        (first
          | (go_at_call 35; (with_reducible refine (C1.out _ (HR.out _ HB.out).1 (HR.out _ HB.out).2.1 (HR.out _ HB.out).2.2.1 (HR.out _ HB.out).2.2.2).mono ?_); rintro e' wq ⟨rfl, hq⟩; replace HB := Lib.hid (HB.out.trans (hq.mono HB.out.size)); clear hq)
          | (go_at_call 36; (with_reducible refine (C2.out _).mono ?_); rintro e' wq ⟨rfl, hq⟩; replace HB := Lib.hid (HB.out.trans (hq.mono HB.out.size)); clear hq))
      replace HT := Lib.hid (HT.out.on HB.out)
      clear HB HZ HR C1 C2 hz
      go_wp2_with fail
      go_roundw
      case rel => exact ⟨j + 1, by omega, by go_num, HT.out⟩
      case measure => simp [intOf]; omega
    · have hj1 : ¬ (j : Int) < (ps.length : Int) := by omega
      clear hT
      go_wp2_with fail
      go_ret
      exact ⟨rfl, HT.out.below⟩
end Go.Proofs.YtmbffncmogpkfaaGreatDoor

namespace Go.Proofs.YtmbffncmogpkfaaGreatDoor
open Go Go.Proofs Go.RowKit
set_option linter.unusedVariables false
set_option linter.unusedSimpArgs false

theorem strsRoom_eq : ∀ ss : List (List UInt8), strsRoom ss = 10 * ss.length + szS ss
  | [] => rfl
  | s :: ss => by
    have h := strsRoom_eq ss
    have e1 : strsRoom (s :: ss) = 10 + s.length + strsRoom ss := by simp [strsRoom]
    have e2 : szS (s :: ss) = s.length + szS ss := sumR_cons _ _ _
    rw [e1, e2, h, List.length_cons]; omega
theorem roomPrs_eq : ∀ ps : List PR, sumR roomPr ps = 30 * ps.length + szP ps
  | [] => rfl
  | p :: ps => by
    have h := roomPrs_eq ps
    have e2 : szP (p :: ps) = p.key.length + p.v.t.length + szP ps := sumR_cons _ _ _
    rw [sumR_cons, e2, h, List.length_cons]; unfold roomPr roomV; omega
theorem roomWr_le (x : WR) : roomWr x ≤ 90 * szW x := by
  unfold roomWr roomNd szW
  rw [strsRoom_eq, roomPrs_eq]; omega
theorem sum_le {X : Type} (f g : X → Nat) (k : Nat) (h : ∀ x, f x ≤ k * g x) : ∀ l : List X, sumR f l ≤ k * sumR g l
  | [] => by simp [sumR]
  | x :: l => by rw [sumR_cons, sumR_cons, Nat.mul_add]; have := h x; have := sum_le f g k h l; omega
/-- what is small enough. -/
theorem small_ok {ps : List WV} (hs : sumR (fun p : WV => szW p.x) ps < 5000) (hw : ∀ p ∈ ps, okWi p) : (∀ p ∈ ps, okW2 p.x) ∧ sumR (fun p : WV => roomWr p.x) ps ≤ 450000 ∧ ps.length ≤ 5000 := by
  have h1 := sum_le (fun p : WV => roomWr p.x) (fun p : WV => szW p.x) 90 (fun p => roomWr_le p.x) ps
  have h2 := sumR_len (fun p : WV => szW p.x) (by intro p; unfold szW; omega) ps
  refine ⟨fun p hp => ?_, by omega, by omega⟩
  obtain ⟨k1, k2, k3, k4, k5, k6⟩ := hw p hp
  have hz := sumR_mem (fun p : WV => szW p.x) hp
  have hr := roomWr_le p.x
  refine ⟨k1, k2.1, k2.2.1, k2.2.2.2, fun q hq => ?_, by omega⟩
  have hq2 := sumR_mem (fun p : PR => p.key.length + p.v.t.length) hq
  have hq3 : szP p.x.ps ≤ szW p.x := by unfold szW; omega
  unfold szP at hq3
  obtain ⟨j1, j2, j3, j4, j5⟩ := k3 q hq
  exact ⟨j2, j3, j4, by omega, by omega⟩
theorem lebAll_len {nodes edges : Int} {xs : List WR} (hn : i64R nodes) (he : i64R edges) (hl : xs.length ≤ 5000) (hok : ∀ x ∈ xs, okW2 x) (hs : sumR roomWr xs ≤ 450000) : (lebAll nodes edges xs).length ≤ 500000 := by
  have h := flatG_len lebWr roomWr xs (fun x hx => lebWr_len (hok x hx))
  have e1 := lebInt_len nodes hn.1 hn.2
  have e2 := lebInt_len edges he.1 he.2
  have e3 := lebInt_len (xs.length : Int) (by omega) (by omega)
  unfold lebAll lebWrs
  simp only [List.length_append]
  omega
theorem lebAll_pos (nodes edges : Int) (xs : List WR) : 1 ≤ (lebAll nodes edges xs).length := by
  have := lebInt_pos nodes
  unfold lebAll
  simp only [List.length_append]
  omega
/-- what was laid, is read; what is cut short, or has more behind, is not. -/
theorem back_facts {nodes edges : Int} {xs : List WR} (hl : xs.length ≤ 5000) (hok : ∀ x ∈ xs, okW2 x) (h : areW nodes edges [] xs = true) (hL : (lebAll nodes edges xs).length ≤ 500000) :
    (curAll (some (lebAll nodes edges xs)) = ((nodes, edges, xs), some []) ∧ decB (lebAll nodes edges xs) = true) ∧
    (∀ m, m < (lebAll nodes edges xs).length → decB ((lebAll nodes edges xs).take m) = false) ∧ ∀ more : List UInt8, 1 ≤ more.length → decB (lebAll nodes edges xs ++ more) = false := by
  have hb := curAll_back (nodes := nodes) (edges := edges) (xs := xs) (by omega) (fun x hx => okW2_v (hok x hx)) h
  have h0 := hb []
  rw [List.append_nil] at h0
  refine ⟨⟨h0, ?_⟩, fun m hm => ?_, fun more hmore => ?_⟩
  · unfold decB; rw [h0]; simp [h]
  · cases hd : decB ((lebAll nodes edges xs).take m) with
    | false => rfl
    | true =>
      exfalso
      unfold decB at hd
      simp only [Bool.and_eq_true, decide_eq_true_eq] at hd
      obtain ⟨⟨d1, d2⟩, d3⟩ := hd
      obtain ⟨p1, p2, p3, p4⟩ := curAll_p ((lebAll nodes edges xs).take m) (by rw [List.length_take]; omega)
      have hlen := sumR_len roomWr (by intro x; unfold roomWr; omega) (curAll (some ((lebAll nodes edges xs).take m))).1.2.2
      have hb2 := curAll_back (by omega) (fun x hx => okW2_v (p2 x hx)) d1 ((lebAll nodes edges xs).drop m)
      rw [d3, List.take_append_drop, h0] at hb2
      have : (lebAll nodes edges xs).drop m = [] := by
        have := congrArg (fun z => z.2) hb2
        simpa using this.symm
      have := congrArg List.length this
      simp at this
      omega
  · unfold decB
    rw [hb more]
    have : ¬ (some more = some ([] : List UInt8)) := by intro e; simp at e; subst e; simp at hmore
    simp [this]
theorem and65535 (x : Int) : bits .and .i64 x 65535 = x % 65536 := by
  show IntKind.i64.wrap ((BitVec.ofInt 64 x &&& BitVec.ofInt 64 65535).toNat : Int) = _
  rw [BitVec.toNat_and, BitVec.toNat_ofInt, show (BitVec.ofInt 64 65535).toNat = 2 ^ 16 - 1 by decide, Nat.and_two_pow_sub_one_eq_mod, IntKind.wrap_i64]
  omega
theorem RowAt.pre {w : World} {a : Option Addr} {n c : Nat} {vs : List Value} (h : RowAt w (.slice a n c) vs) (m : Nat) (hm : m ≤ vs.length) (hp : 0 < vs.length) : RowAt w (.slice a m c) (vs.take m) := by
  refine ⟨by have := h.1; rw [List.length_take]; omega, ?_⟩
  rcases h.2 with ⟨_, rfl⟩ | ⟨x, c', hv, hl, hc⟩
  · simp at hp
  · simp only [Value.slice.injEq] at hv
    obtain ⟨rfl, _, rfl⟩ := hv
    refine .inr ⟨x, c, by rw [List.length_take, Nat.min_eq_left hm], by rw [List.length_take]; omega, fun i hi => ?_⟩
    rw [List.length_take] at hi
    rw [hc i (by omega), List.getElem_take]
theorem RowAt.cap {w : World} {a : Option Addr} {n c : Nat} {vs : List Value} (h : RowAt w (.slice a n c) vs) : vs.length ≤ c := by
  rcases h.2 with ⟨hv, rfl⟩ | ⟨x, c', hv, hl, hc⟩
  · simp
  · simp only [Value.slice.injEq] at hv; omega
theorem small_may {ps : List WV} (hw : ∀ p ∈ ps, okWi p) : ∀ p ∈ ps, okWm p.x := fun p hp => by
  obtain ⟨k1, k2, k3, ⟨b1, b2, b3, b4, b5⟩, k5, k6⟩ := hw p hp
  exact ⟨fun s hs => by have := b4 s hs; omega, fun q hq => ⟨by have := (b5 q hq).1; omega, by have := (b5 q hq).2; omega⟩, by omega, k2.2.2.2⟩
end Go.Proofs.YtmbffncmogpkfaaGreatDoor

namespace Go.Proofs.YtmbffncmogpkfaaGreatDoor
open Go Go.Proofs Go.RowKit
set_option linter.unusedVariables false
set_option linter.unusedSimpArgs false

theorem okW2_same {x : WR} (h : okW2 x) : (∀ q ∈ x.ps, q.v.f < W64) ∧ x.ed.w < W64 ∧ x.ss.length ≤ 9223372036854775807 ∧ x.ps.length ≤ 9223372036854775807 := by
  obtain ⟨_, _, k3, k4, _⟩ := okW2_R h
  obtain ⟨h1, h2, h3, h4, h5, h6⟩ := h
  exact ⟨fun q hq => (h5 q hq).2.2.1, h4, by omega, by omega⟩
theorem DecB_congr {w w' : World} {ok : Bool} {n n' k k' : Int} {xs xs' : List WR} {e : Ending} (h : DecB w ok n k xs e w') (hq : ok = true → (n, k, xs) = (n', k', xs')) : DecB w ok n' k' xs' e w' := by
  cases ok with
  | false => exact h
  | true =>
    have := hq rfl
    simp only [Prod.mk.injEq] at this
    obtain ⟨rfl, rfl, rfl⟩ := this
    exact h
set_option maxRecDepth 100000 in
set_option maxHeartbeats 16000000 in
theorem RecordCodes_core (a0 : Int) (a1 : Int) (v2 : Value) (x2 : List WV) (v3 : Value) (x3 : List UInt8) (w : World) (w0 : (Lit.int .i64 a0).wf = true) (w1 : (Lit.int .i64 a1).wf = true) (w2 : RowK 9 w v2 (x2.map WV.cells)) (y2 : ∀ p ∈ x2, p.rows w ∧ okWi p) (z2 : x2.length ≤ 1256584717458) (w3 : RowAt w v3 (bytesV x3)) :
    Calls Tryz.prog 3 #[.int .i64 a0, .int .i64 a1, v2, v3] w fun e w' => e = .returned (.bool true) ∧ Below w.heap.size w w' := by
  have hn : i64R a0 := i64_ok w0
  have he : i64R a1 := i64_ok w1
  obtain ⟨a, c, rfl, _⟩ := w2.shape
  obtain ⟨b, d, rfl⟩ := w3.shapeB
  rw [List.length_map] at w2 ⊢
  have hml := w3.1
  have m9 : maxLen = 9223372036854775807 := by decide
  rw [m9, bytesV_length] at hml
  have CW := Lib.hid (wide_c x2 _ w w2 (fun p hp => (y2 p hp).1) (fun p hp => (y2 p hp).2.2.2.2.1) (by omega))
  have HK2 := Lib.hid (fun W (hb : Below w.heap.size w W) => w2.below hb)
  have HS2 := Lib.hid (fun W (hb : Below w.heap.size w W) p hp => (⟨(y2 p hp).1.1.below hb, (y2 p hp).1.2.below hb⟩ : WV.rows W p))
  have HR3 := Lib.hid (fun W (hb : Below w.heap.size w W) => w3.below hb)
  have HWI := Lib.hid (fun p hp => (y2 p hp).2)
  clear w0 w1 w2 w3 y2 m9
  unfold WideB at CW
  go_enter Tryz.func3, Tryz.ntmps3
  go_wp2_with fail
  with_reducible refine CW.out.mono ?_
  rintro e wq ⟨r, rfl, hr, hq⟩
  have HB := Lib.hid hq
  clear hq CW
  cases r
  case true =>
    clear hr HWI
    go_wp2_with fail
    go_ret
    exact ⟨rfl, HB.out⟩
  case false =>
  obtain ⟨s1, s2, s3⟩ := small_ok (hr rfl) HWI.out
  clear hr
  by_cases l2 : 4000 < x3.length
  · have l2' : (4000 : Int) < (x3.length : Int) := by omega
    go_wp2_with fail
    go_ret
    exact ⟨rfl, HB.out⟩
  have l2' : ¬ (4000 : Int) < (x3.length : Int) := by omega
  have CE := Lib.hid (fun W (hb : Below w.heap.size w W) => Encode_c a0 a1 x2 _ W (HK2.out W hb) (HS2.out W hb) s1 (by omega) hn he)
  have CR := Lib.hid (fun W (hb : Below w.heap.size w W) => REncode_c a0 a1 x2 _ W (HK2.out W hb) (HS2.out W hb) s1 (by omega) hn he)
  rw [may_are] at CR
  obtain ⟨p1, p2, p3, p4⟩ := curAll_p x3 (by omega)
  obtain ⟨q1, q2, q3, q4⟩ := rAll_p x3 (by omega)
  obtain ⟨e1, e2⟩ := dec_same x3 (by omega)
  have CD := Lib.hid (fun v W (h : RowAt W v (bytesV x3)) => Decode_c v x3 W h (by omega))
  have CX := Lib.hid (fun W (hb : Below w.heap.size w W) => (RDecode_c (.slice b x3.length d) x3 W (HR3.out W hb) q1 q2 q3 q4).mono (fun e w' h => by
    rw [e1] at h
    exact DecB_congr (n' := (curAll (some x3)).1.1) (k' := (curAll (some x3)).1.2.1) (xs' := (curAll (some x3)).1.2.2) h (fun ho => by rw [e2 ho])))
  have HXS : Hid (∀ x ∈ (if decB x3 = true then (curAll (some x3)).1.2.2 else []), (∀ q ∈ x.ps, q.v.f < W64) ∧ x.ed.w < W64 ∧ x.ss.length ≤ 9223372036854775807 ∧ x.ps.length ≤ 9223372036854775807) := Lib.hid (fun x hx => by
    split at hx
    · exact okW2_same (p2 x hx)
    · simp at hx)
  have HXN : Hid ((if decB x3 = true then (curAll (some x3)).1.2.2 else []).length ≤ 9223372036854775807) := Lib.hid (by
    have hlen := sumR_len roomWr (by intro x; unfold roomWr; omega) (curAll (some x3)).1.2.2
    split
    · omega
    · simp)
  unfold EncB at CE CR
  unfold DecB at CD CX
  generalize (if decB x3 = true then (curAll (some x3)).1.2.2 else []) = XS at *
  generalize (if decB x3 = true then (curAll (some x3)).1.1 else 0) = N1 at *
  generalize (if decB x3 = true then (curAll (some x3)).1.2.1 else 0) = K1 at *
  generalize (if decB x3 = true then (0 : Int) else 2) = E1 at *
  generalize (if areW a0 a1 [] (x2.map WV.x) = true then lebAll a0 a1 (x2.map WV.x) else []) = PB at *
  generalize (if areW a0 a1 [] (x2.map WV.x) = true then (0 : Int) else 1) = E0 at *
  clear s1 s2 s3 HWI p1 p2 p3 p4 q1 q2 q3 q4 e1 e2 HK2 HS2
  go_wp2_with (first
    | (go_at_call 5; (with_reducible refine (CE.out _ HB.out).mono ?_); rintro e w3 ⟨vp, rfl, hrp, hq⟩; obtain ⟨ap, cp, rfl⟩ := hrp.shapeB; have HP := Lib.hid hrp; have HB3 := Lib.hid (HB.out.trans (hq.mono HB.out.size)); clear hrp hq)
    | (go_at_call 6; (with_reducible refine (CR.out _ HB3.out).mono ?_); rintro e w4 ⟨vq, rfl, hrq, hq⟩; obtain ⟨aq, cq, rfl⟩ := hrq.shapeB; have HPQ := Lib.hid (fun W (hb : Below w4.heap.size w4 W) => (⟨(HP.out.below hq).below hb, hrq.below hb⟩ : RowAt W (.slice ap PB.length cp) (bytesV PB) ∧ RowAt W (.slice aq PB.length cq) (bytesV PB))); have HB4 := Lib.hid (HB3.out.trans (hq.mono HB3.out.size)); clear hrq hq)
    | (at_builtin; refine wp_appRow elemB rfl _ _ rfl w4.heap.size 0 _ [] rfl (owns_empty w4 _) _ (bytesV x3) rfl ((HR3.out w4 HB4.out).alloc _) (bytesV_one x3) (by rw [bytesV_length]; omega) (by rw [bytesV_length]; omega) (by simp) ?_; intro v5 w5 hown5 hb5; have HC5 := Lib.hid (((Below.refl _ w4).alloc (Nat.le_refl _) _).trans hb5); have hr5 := RowAt.ofOwns hown5; rw [List.nil_append] at hr5; have HR5 := Lib.hid hr5; clear hb5 hown5 hr5)
    | (go_at_call 7; (with_reducible refine (CD.out _ _ HR5.out).mono ?_); rintro e w6 ⟨va, vc, ps, rfl, hmp, hrw, hrs, hq⟩; have HM6 := Lib.hid hmp; have HK6 := Lib.hid hrw; have HS6 := Lib.hid hrs; have HC6 := Lib.hid (HC5.out.trans (hq.mono HC5.out.size)); have HB6 := Lib.hid (HB4.out.trans (HC6.out.mono HB4.out.size)); clear hq hmp hrw hrs)
    | (go_at_call 8; (with_reducible refine (CX.out _ HB6.out).mono ?_); rintro e w7 ⟨va7, vc7, ps7, rfl, hmp, hrw, hrs, hq⟩; have HM7 := Lib.hid hmp; have HK7 := Lib.hid hrw; have HS7 := Lib.hid hrs; have HK6b := Lib.hid (HK6.out.below hq); have HS6b := Lib.hid (fun p hp => (⟨(HS6.out p hp).1.below hq, (HS6.out p hp).2.below hq⟩ : WV.rows w7 p)); have HC7 := Lib.hid (HC6.out.trans (hq.mono HC6.out.size)); have HB7 := Lib.hid (HB6.out.trans (hq.mono HB6.out.size)); have hcv1 := (HPQ.out w7 HC7.out).1.toStr 23 9 5 Tryz.underlying23 Tryz.underlying5 Tryz.underlying9; have hcv2 := (HPQ.out w7 HC7.out).2.toStr 23 9 5 Tryz.underlying23 Tryz.underlying5 Tryz.underlying9; clear hq hmp hrw hrs)
    | (go_at_call 10; (with_reducible refine (known10_c _).mono ?_); rintro e w9 ⟨rfl, hq⟩; have HB9 := Lib.hid (HB8.out.trans (hq.mono HB8.out.size)); clear hq)
    | fail)
  have hsw := RSameWrites_s ps ps7 (HM6.out.trans HM7.out.symm) (.slice va ps.length vc) (.slice va7 ps7.length vc7) w7 HK6b.out HK7.out HS6b.out HS7.out (fun p hp => HXS.out p.x (by rw [← HM6.out]; exact List.mem_map_of_mem hp)) (by have h9 := HXN.out; rw [← HM6.out, List.length_map] at h9; omega)
  with_reducible refine hsw.mono ?_
  rintro e w8 ⟨rfl, hq⟩
  have HB8 := Lib.hid (HB7.out.trans (hq.mono HB7.out.size))
  clear hq hsw
  go_wp2_with (first
    | (go_at_call 10; (with_reducible refine (known10_c _).mono ?_); rintro e w9 ⟨rfl, hq⟩; have HB9 := Lib.hid (HB8.out.trans (hq.mono HB8.out.size)); clear hq)
    | fail)
  go_ret
  exact ⟨rfl, HB9.out⟩
end Go.Proofs.YtmbffncmogpkfaaGreatDoor
