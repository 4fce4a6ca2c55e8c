/- Contracts: Has and Get of package record and of the reference. -/
import Derived.Test.YtlgglkkafcbikaaDoorRPat
namespace Go.Proofs.YtlgglkkafcbikaaDoor
open Go Go.Proofs Go.RowKit
set_option linter.unusedVariables false
set_option linter.unusedSimpArgs false

/-- a property. -/
structure PR where
  key : List UInt8
  v : V5
def PR.cells (p : PR) : List Value := [.string ⟨p.key.toArray⟩, .int .i64 p.v.k, .bool p.v.b, .int .i64 p.v.n, .float .f64 p.v.f, .string ⟨p.v.t.toArray⟩]
def strV (s : List UInt8) : Value := .string ⟨s.toArray⟩
/-- the first property of a key. -/
def getP (ps : List PR) (key : List UInt8) : Option V5 := (ps.find? (fun p => p.key == key)).map (·.v)
theorem row_pr {w : World} {a : Option Addr} {n c : Nat} {ps : List PR} (h : RowK 6 w (.slice a n c) (ps.map PR.cells)) (j : Nat) (hj : j < ps.length) :
    ∃ B o, a = some ⟨B, o, none⟩ ∧ B < w.heap.size ∧ CellsAt w B (o + j * 6) ps[j].cells := by
  obtain ⟨B, o, h1, h2, h3⟩ := h.cells j (by simpa using hj)
  exact ⟨B, o, h1, h2, by simpa using h3⟩
theorem PR.factsAt {w : World} {g o : Nat} {key : List UInt8} {k : Int} {b : Bool} {n : Int} {f : Nat} {t : List UInt8} (h : CellsAt w g o (⟨key, ⟨k, b, n, f, t⟩⟩ : PR).cells) :
    w.cell? ⟨g, o, none⟩ = some (.string ⟨key.toArray⟩) ∧ w.cell? ⟨g, o + 1, none⟩ = some (.int .i64 k) ∧ w.cell? ⟨g, o + 2, none⟩ = some (.bool b) ∧ w.cell? ⟨g, o + 3, none⟩ = some (.int .i64 n) ∧ w.cell? ⟨g, o + 4, none⟩ = some (.float .f64 f) ∧ w.cell? ⟨g, o + 5, none⟩ = some (.string ⟨t.toArray⟩) :=
  ⟨h.at 0 _ rfl, h.at 1 _ rfl, h.at 2 _ rfl, h.at 3 _ rfl, h.at 4 _ rfl, h.at 5 _ rfl⟩
set_option maxHeartbeats 1000000 in
theorem Index_c (ss : List (List UInt8)) (sv : Value) (x : List UInt8) (w : World) (hr : RowAt w sv (ss.map strV)) :
    Calls Tryd.prog 53 #[sv, .string ⟨x.toArray⟩] w fun e w' => (∃ i : Int, e = .returned (.int .i64 i) ∧ decide (0 ≤ i) = ss.any (fun s => s == x)) ∧ w = w' := by
  obtain ⟨a, c, rfl⟩ := hr.shape
  have hml := hr.1
  have m9 : maxLen = 9223372036854775807 := by decide
  rw [m9] at hml
  rw [List.length_map] at hml hr ⊢
  have HR := Lib.hid hr
  clear hr m9
  go_enter Tryd.func53, Tryd.ntmps53
  go_wp2_with fail
  go_loopw [8] (fun i wr => ∃ j : Nat, j ≤ ss.length ∧ i = .int .i64 (j : Int) ∧ (ss.take j).any (fun s => s == x) = false ∧ wr = w) (fun i _ => ss.length - (intOf i).toNat)
  case atStart => exact ⟨0, by omega, rfl, rfl, rfl⟩
  case round =>
    obtain ⟨j, hj, rfl, ht, rfl⟩ := hrel
    by_cases hlt : j < ss.length
    · obtain ⟨B, o, rfl, hB, hx⟩ := HR.out.cellAt j (by simpa using hlt)
      rw [List.getElem_map] at hx
      have HT : Hid ((ss.take (j + 1)).any (fun s => s == x) = (ss[j] == x)) := Lib.hid (by rw [any_take _ ss j hlt, ht, Bool.false_or])
      have HA := Lib.hid (any_at (fun s => s == x) ss j hlt)
      clear ht
      generalize ss[j] = y at *
      unfold strV at hx
      cases hxy : (y == x)
      · have hyx : (x == y) = false := by rw [Bool.eq_false_iff] at *; intro h; exact hxy (by simpa [beq_iff_eq] using (beq_iff_eq.1 h).symm)
        go_wp2_with fail
        go_roundw
        case rel => exact ⟨j + 1, by omega, by go_num, by rw [HT.out]; exact hxy, by first | rfl | trivial⟩
        case measure => simp [intOf]; omega
      · have hyx : (x == y) = true := by rw [beq_iff_eq] at *; exact hxy.symm
        go_wp2_with fail
        go_ret
        exact ⟨⟨_, rfl, by rw [HA.out (by simpa using hxy)]; simp⟩, by first | rfl | trivial⟩
    · rw [List.take_of_length_le (by omega)] at ht
      have HT := Lib.hid ht
      clear ht
      go_wp2_with fail
      go_ret
      exact ⟨⟨_, rfl, by rw [HT.out]; rfl⟩, by first | rfl | trivial⟩
theorem Contains_c (ss : List (List UInt8)) (sv : Value) (x : List UInt8) (w : World) (hr : RowAt w sv (ss.map strV)) :
    Calls Tryd.prog 44 #[sv, .string ⟨x.toArray⟩] w fun e w' => e = .returned (.bool (ss.any (fun s => s == x))) ∧ w = w' := by
  obtain ⟨a, c, rfl⟩ := hr.shape
  have HI := Lib.hid (Index_c ss _ x w hr)
  clear hr
  generalize ss.any (fun s => s == x) = r at *
  generalize (ss.map strV).length = n at *
  go_enter Tryd.func44, Tryd.ntmps44
  go_wp2_with fail
  refine HI.out.mono ?_
  rintro e wq ⟨⟨i, rfl, hi⟩, rfl⟩
  go_wp2_with fail
  go_ret
  exact ⟨by first | rfl | (rw [← hi]; rfl), by first | rfl | trivial⟩
theorem Has_c (ss : List (List UInt8)) (sv pv : Value) (x : List UInt8) (w : World) (hr : RowAt w sv (ss.map strV)) (hp : ∃ a n c, pv = .slice a n c) :
    Calls Tryd.prog 32 #[.agg #[sv, pv], .string ⟨x.toArray⟩] w (Gives w (.bool (ss.any (fun s => s == x)))) := by
  obtain ⟨a2, n2, c2, rfl⟩ := hp
  have HC := Lib.hid (Contains_c ss sv x (w.alloc (.cells #[sv, .slice a2 n2 c2] 42)) (hr.alloc _))
  obtain ⟨a, c, rfl⟩ := hr.shape
  clear hr
  generalize ss.any (fun s => s == x) = r at *
  generalize (ss.map strV).length = n at *
  go_enter Tryd.func32, Tryd.ntmps32
  go_wp2_with (first | (go_at_call 44; (with_reducible refine HC.out.mono ?_); rintro e wq ⟨rfl, rfl⟩))
  go_ret
  exact ⟨rfl, (Below.refl _ w).alloc (Nat.le_refl _) _⟩
set_option maxHeartbeats 1000000 in
theorem RHas_c (ss : List (List UInt8)) (sv pv : Value) (x : List UInt8) (w : World) (hr : RowAt w sv (ss.map strV)) (hp : ∃ a n c, pv = .slice a n c) :
    Calls Tryd.prog 35 #[.agg #[sv, pv], .string ⟨x.toArray⟩] w (Gives w (.bool (ss.any (fun s => s == x)))) := by
  obtain ⟨a2, n2, c2, rfl⟩ := hp
  obtain ⟨a, c, rfl⟩ := hr.shape
  have hml := hr.1
  have m9 : maxLen = 9223372036854775807 := by decide
  rw [m9] at hml
  rw [List.length_map] at hml hr ⊢
  have HB := Lib.hid (Keep.one w [.slice a ss.length c, .slice a2 n2 c2] 42)
  have HR := Lib.hid (hr.alloc (.cells #[.slice a ss.length c, .slice a2 n2 c2] 42))
  have hc0 := HB.out.facts.cell 0 _ rfl
  clear hr m9
  go_enter Tryd.func35, Tryd.ntmps35
  go_wp2_with fail
  generalize w.alloc (.cells #[.slice a ss.length c, .slice a2 n2 c2] 42) = W0 at *
  go_loopw [5] (fun i wr => ∃ j : Nat, j ≤ ss.length ∧ i = .int .i64 (j : Int) ∧ (ss.take j).any (fun s => s == x) = false ∧ wr = W0) (fun i _ => ss.length - (intOf i).toNat)
  case atStart => exact ⟨0, by omega, rfl, rfl, rfl⟩
  case round =>
    obtain ⟨j, hj, rfl, ht, rfl⟩ := hrel
    by_cases hlt : j < ss.length
    · obtain ⟨B, o, rfl, hB, hx⟩ := HR.out.cellAt j (by simpa using hlt)
      rw [List.getElem_map] at hx
      have HT : Hid ((ss.take (j + 1)).any (fun s => s == x) = (ss[j] == x)) := Lib.hid (by rw [any_take _ ss j hlt, ht, Bool.false_or])
      have HA := Lib.hid (any_at (fun s => s == x) ss j hlt)
      clear ht
      generalize ss[j] = y at *
      unfold strV at hx
      cases hxy : (y == x)
      · go_wp2_with fail
        go_roundw
        case rel => exact ⟨j + 1, by omega, by go_num, by rw [HT.out]; exact hxy, by first | rfl | trivial⟩
        case measure => simp [intOf]; omega
      · have HV := Lib.hid (HA.out (by simpa using hxy))
        go_wp2_with fail
        go_ret
        exact ⟨by rw [HV.out]; rfl, HB.out.below⟩
    · rw [List.take_of_length_le (by omega)] at ht
      have HT := Lib.hid ht
      clear ht
      go_wp2_with fail
      go_ret
      exact ⟨by rw [HT.out]; rfl, HB.out.below⟩
theorem find_miss {α : Type} (q : α → Bool) (l : List α) (j : Nat) (h : j < l.length) (h1 : (l.take j).find? q = none) (h2 : q l[j] = false) : (l.take (j + 1)).find? q = none := by
  rw [List.take_succ_eq_append_getElem h, List.find?_append, h1]; simp [h2]
theorem find_hit {α : Type} (q : α → Bool) (l : List α) (j : Nat) (h : j < l.length) (h1 : (l.take j).find? q = none) (h2 : q l[j] = true) : l.find? q = some l[j] := by
  have e : l.find? q = (l.take j ++ l.drop j).find? q := by rw [List.take_append_drop]
  rw [e, List.find?_append, h1, List.drop_eq_getElem_cons h, Option.none_or, List.find?_cons_of_pos h2]
theorem Blk.set {w : World} {g : Nat} {cs : List Value} (h : Blk w g cs) (j : Nat) (v : Value) : Blk (w.setCell ⟨g, j, none⟩ v) g (cs.set j v) := by
  obtain ⟨h1, t, h2⟩ := h
  refine ⟨by simpa [World.setCell] using h1, t, ?_⟩
  simp only [World.setCell, Array.getElem?_modify, h2]
  simp
theorem Blk.thaw {w : World} {g : Nat} {cs : List Value} (h : Blk w g cs) (j : Nat) : w.frozen? ⟨g, j, none⟩ = false := by
  obtain ⟨h1, t, h2⟩ := h
  unfold World.frozen?
  simp only [h2]
  simp
theorem results_row_tmp {P : Program} {fn : Func} {p u : Tmp} {ty : TypeId} (h : fn.results = #[.cell p ty, .tmp u]) (tmps : Array Value) (w : World) (g : Nat) (t : TypeId) (cs : Array Value) (fr : Nat × Nat) (d : TypeDesc)
    (hp : tmps.getD p undef = .pointer (some ⟨g, 0, none⟩)) (hg : w.heap[g]? = some (.cells cs t fr))
    (hu : P.underlying ty = some d) (hd : (match d with | .struct _ | .array _ _ => true | _ => false) = true) (hi : (P.info? ty).map (·.size) = some cs.size) :
    (results fn tmps).run P w = .ok (.tuple #[.agg cs, tmps.getD u undef]) w := by
  rw [results_cell_tmp h, hp]
  simp [asAddr, run_loadVar_row w g t ty cs fr d hg hu hd hi, Result.andThen]
def zV : V5 := ⟨0, false, 0, 0, []⟩
def getV (ps : List PR) (key : List UInt8) : Value := match getP ps key with | some v => .tuple #[v.v, .bool true] | none => .tuple #[zV.v, .bool false]
set_option maxHeartbeats 4000000 in
theorem Get_c (ps : List PR) (sv pv : Value) (x : List UInt8) (w : World) (hr : RowK 6 w pv (ps.map PR.cells)) (hp : ∃ a n c, sv = .slice a n c) :
    Calls Tryd.prog 33 #[.agg #[sv, pv], .string ⟨x.toArray⟩] w (Gives w (getV ps x)) := by
  obtain ⟨a2, n2, c2, rfl⟩ := hp
  obtain ⟨a, c, rfl, _⟩ := hr.shape
  have hml := hr.1
  have m9 : maxLen = 9223372036854775807 := by decide
  rw [m9] at hml
  rw [List.length_map] at hml hr ⊢
  have hst0 : Keep w (fun W => RowK 6 W (.slice a ps.length c) (ps.map PR.cells)) (w.alloc (.cells #[.slice a2 n2 c2, .slice a ps.length c] 42)) :=
    ⟨hr.alloc _, (Below.refl _ w).alloc (Nat.le_refl _) _, fun w' hb => (hr.alloc _).below hb⟩
  have hs1 := hst0.more [.int .i64 0, .bool false, .int .i64 0, .float .f64 0, .string ⟨#[]⟩] 46
  rw [show (w.alloc (.cells #[.slice a2 n2 c2, .slice a ps.length c] 42)).heap.size = w.heap.size + 1 by simp] at hs1
  have HST := Lib.hid hs1
  clear hr m9 hst0 hs1
  go_enter Tryd.func33, Tryd.ntmps33
  go_wp2_with fail
  go_loopw [11] (fun i wr => ∃ j : Nat, j ≤ ps.length ∧ i = .int .i64 (j : Int) ∧ (ps.take j).find? (fun p => p.key == x) = none ∧ Keep w (fun W => RowK 6 W (.slice a ps.length c) (ps.map PR.cells) ∧ Blk W (w.heap.size + 1) [.int .i64 0, .bool false, .int .i64 0, .float .f64 0, .string ⟨#[]⟩]) wr) (fun i _ => ps.length - (intOf i).toNat)
  case atStart => exact ⟨0, by omega, rfl, rfl, HST.out⟩
  case round =>
    obtain ⟨j, hj, rfl, ht, hkp⟩ := hrel
    have HK := Lib.hid hkp
    have hz0 := fun o => (hkp.facts.2.alloc o).cell 0 _ rfl
    have hz1 := fun o => (hkp.facts.2.alloc o).cell 1 _ rfl
    have hz2 := fun o => (hkp.facts.2.alloc o).cell 2 _ rfl
    have hz3 := fun o => (hkp.facts.2.alloc o).cell 3 _ rfl
    have hz4 := fun o => (hkp.facts.2.alloc o).cell 4 _ rfl
    have hf0 := fun o => (hkp.facts.2.alloc o).thaw 0
    have hf1 := fun o => (hkp.facts.2.alloc o).thaw 1
    have hf2 := fun o => (hkp.facts.2.alloc o).thaw 2
    have hf3 := fun o => (hkp.facts.2.alloc o).thaw 3
    have hf4 := fun o => (hkp.facts.2.alloc o).thaw 4
    by_cases hlt : j < ps.length
    · obtain ⟨B, o, rfl, hB, hx⟩ := row_pr hkp.facts.1 j hlt
      have HM := Lib.hid (find_miss (fun p : PR => p.key == x) ps j hlt ht)
      have HH := Lib.hid (find_hit (fun p : PR => p.key == x) ps j hlt ht)
      generalize ps[j] = y at *
      obtain ⟨key, ⟨k, b, n, f, t⟩⟩ := y
      have hk := PR.factsAt hx
      clear hx hkp ht
      cases hq : (key == x)
      · go_wp2_with fail
        exact ⟨⟨j + 1, by omega, by go_num, HM.out (by simpa using hq), HK.out.alloc _⟩, by simp [intOf]; omega⟩
      · have HG : Hid (getV ps x = .tuple #[(⟨k, b, n, f, t⟩ : V5).v, .bool true]) := Lib.hid (by unfold getV getP; rw [HH.out (by simpa using hq)]; rfl)
        have hb5 := ((((((HK.out.facts.2.alloc (.cells (⟨key, ⟨k, b, n, f, t⟩⟩ : PR).cells.toArray 52)).set 0 (.int .i64 k)).set 1 (.bool b)).set 2 (.int .i64 n)).set 3 (.float .f64 f)).set 4 (.string ⟨t.toArray⟩))
        obtain ⟨hlt5, ty, hh5⟩ := hb5
        have HB5 := Lib.hid hh5
        clear hh5 hlt5
        go_wp2_with fail
        (try simp only [Exit.inBlock, Exit.then])
        refine bodyPost_ret (results_row_tmp rfl _ _ (w.heap.size + 1) ty #[_, _, _, _, _] (0, 0) _ rfl HB5.out Tryd.underlying46 rfl infoVal) rfl ?_
        refine ⟨by rw [HG.out]; rfl, ?_⟩
        exact (((((HK.out.below.alloc HK.out.below.size _).setCell (p := ⟨w.heap.size + 1, 0, none⟩) (by simp) _).setCell (p := ⟨w.heap.size + 1, 1, none⟩) (by simp) _).setCell (p := ⟨w.heap.size + 1, 2, none⟩) (by simp) _).setCell (p := ⟨w.heap.size + 1, 3, none⟩) (by simp) _).setCell (p := ⟨w.heap.size + 1, 4, none⟩) (by simp) _
    · rw [List.take_of_length_le (by omega)] at ht
      have HG : Hid (getV ps x = .tuple #[zV.v, .bool false]) := Lib.hid (by unfold getV getP; rw [ht]; rfl)
      have hy0 := hkp.facts.2.cell 0 _ rfl
      have hy1 := hkp.facts.2.cell 1 _ rfl
      have hy2 := hkp.facts.2.cell 2 _ rfl
      have hy3 := hkp.facts.2.cell 3 _ rfl
      have hy4 := hkp.facts.2.cell 4 _ rfl
      have hg0 := hkp.facts.2.thaw 0
      have hg1 := hkp.facts.2.thaw 1
      have hg2 := hkp.facts.2.thaw 2
      have hg3 := hkp.facts.2.thaw 3
      have hg4 := hkp.facts.2.thaw 4
      have hb5 := ((((hkp.facts.2.set 0 (.int .i64 0)).set 1 (.bool false)).set 2 (.int .i64 0)).set 3 (.float .f64 0)).set 4 (.string ⟨#[]⟩)
      obtain ⟨hlt5, ty, hh5⟩ := hb5
      have HB5 := Lib.hid hh5
      clear ht hkp hh5 hlt5
      go_wp2_with fail
      (try simp only [Exit.inBlock, Exit.then])
      refine bodyPost_ret (results_row_tmp rfl _ _ (w.heap.size + 1) ty #[_, _, _, _, _] (0, 0) _ rfl HB5.out Tryd.underlying46 rfl infoVal) rfl ?_
      refine ⟨by rw [HG.out]; rfl, ?_⟩
      exact ((((HK.out.below.setCell (p := ⟨w.heap.size + 1, 0, none⟩) (by simp) _).setCell (p := ⟨w.heap.size + 1, 1, none⟩) (by simp) _).setCell (p := ⟨w.heap.size + 1, 2, none⟩) (by simp) _).setCell (p := ⟨w.heap.size + 1, 3, none⟩) (by simp) _).setCell (p := ⟨w.heap.size + 1, 4, none⟩) (by simp) _
set_option maxHeartbeats 4000000 in
theorem RGet_c (ps : List PR) (sv pv : Value) (x : List UInt8) (w : World) (hr : RowK 6 w pv (ps.map PR.cells)) (hp : ∃ a n c, sv = .slice a n c) :
    Calls Tryd.prog 36 #[.agg #[sv, pv], .string ⟨x.toArray⟩] w (Gives w (getV ps x)) := by
  obtain ⟨a2, n2, c2, rfl⟩ := hp
  obtain ⟨a, c, rfl, _⟩ := hr.shape
  have hml := hr.1
  have m9 : maxLen = 9223372036854775807 := by decide
  rw [m9] at hml
  rw [List.length_map] at hml hr ⊢
  have hst0 : Keep w (fun W => RowK 6 W (.slice a ps.length c) (ps.map PR.cells) ∧ Blk W w.heap.size [.slice a2 n2 c2, .slice a ps.length c]) (w.alloc (.cells #[.slice a2 n2 c2, .slice a ps.length c] 42)) :=
    ⟨⟨hr.alloc _, Blk.new w [.slice a2 n2 c2, .slice a ps.length c] _⟩, (Below.refl _ w).alloc (Nat.le_refl _) _, fun w' hb => ⟨(hr.alloc _).below hb, (Blk.new w [.slice a2 n2 c2, .slice a ps.length c] _).below hb⟩⟩
  have hs1 := hst0.more [.int .i64 0, .bool false, .int .i64 0, .float .f64 0, .string ⟨#[]⟩] 46
  rw [show (w.alloc (.cells #[.slice a2 n2 c2, .slice a ps.length c] 42)).heap.size = w.heap.size + 1 by simp] at hs1
  have HST := Lib.hid hs1
  clear hr m9 hst0 hs1
  go_enter Tryd.func36, Tryd.ntmps36
  go_wp2_with fail
  go_loopw [6] (fun i wr => ∃ j : Nat, j ≤ ps.length ∧ i = .int .i64 (j : Int) ∧ (ps.take j).find? (fun p => p.key == x) = none ∧ Keep w (fun W => (RowK 6 W (.slice a ps.length c) (ps.map PR.cells) ∧ Blk W w.heap.size [.slice a2 n2 c2, .slice a ps.length c]) ∧ Blk W (w.heap.size + 1) [.int .i64 0, .bool false, .int .i64 0, .float .f64 0, .string ⟨#[]⟩]) wr) (fun i _ => ps.length - (intOf i).toNat)
  case atStart => exact ⟨0, by omega, rfl, rfl, HST.out⟩
  case round =>
    obtain ⟨j, hj, rfl, ht, hkp⟩ := hrel
    have HK := Lib.hid hkp
    have hn1 := hkp.facts.1.2.cell 1 _ rfl
    have hy0 := hkp.facts.2.cell 0 _ rfl
    have hy1 := hkp.facts.2.cell 1 _ rfl
    have hy2 := hkp.facts.2.cell 2 _ rfl
    have hy3 := hkp.facts.2.cell 3 _ rfl
    have hy4 := hkp.facts.2.cell 4 _ rfl
    have hg0 := hkp.facts.2.thaw 0
    have hg1 := hkp.facts.2.thaw 1
    have hg2 := hkp.facts.2.thaw 2
    have hg3 := hkp.facts.2.thaw 3
    have hg4 := hkp.facts.2.thaw 4
    by_cases hlt : j < ps.length
    · obtain ⟨B, o, rfl, hB, hx⟩ := row_pr hkp.facts.1.1 j hlt
      have HM := Lib.hid (find_miss (fun p : PR => p.key == x) ps j hlt ht)
      have HH := Lib.hid (find_hit (fun p : PR => p.key == x) ps j hlt ht)
      generalize ps[j] = y at *
      obtain ⟨key, ⟨k, b, n, f, t⟩⟩ := y
      have hk := PR.factsAt hx
      clear hx hkp ht
      cases hq : (key == x)
      · go_wp2_with fail
        exact ⟨⟨j + 1, by omega, by go_num, HM.out (by simpa using hq), HK.out⟩, by simp [intOf]; omega⟩
      · have HG : Hid (getV ps x = .tuple #[(⟨k, b, n, f, t⟩ : V5).v, .bool true]) := Lib.hid (by unfold getV getP; rw [HH.out (by simpa using hq)]; rfl)
        have hb5 := (((((HK.out.facts.2.set 0 (.int .i64 k)).set 1 (.bool b)).set 2 (.int .i64 n)).set 3 (.float .f64 f)).set 4 (.string ⟨t.toArray⟩))
        obtain ⟨hlt5, ty, hh5⟩ := hb5
        have HB5 := Lib.hid hh5
        clear hh5 hlt5
        go_wp2_with fail
        (try simp only [Exit.inBlock, Exit.then])
        refine bodyPost_ret (results_row_tmp rfl _ _ (w.heap.size + 1) ty #[_, _, _, _, _] (0, 0) _ rfl HB5.out Tryd.underlying46 rfl infoVal) rfl ?_
        refine ⟨by rw [HG.out]; rfl, ?_⟩
        exact ((((HK.out.below.setCell (p := ⟨w.heap.size + 1, 0, none⟩) (by simp) _).setCell (p := ⟨w.heap.size + 1, 1, none⟩) (by simp) _).setCell (p := ⟨w.heap.size + 1, 2, none⟩) (by simp) _).setCell (p := ⟨w.heap.size + 1, 3, none⟩) (by simp) _).setCell (p := ⟨w.heap.size + 1, 4, none⟩) (by simp) _
    · rw [List.take_of_length_le (by omega)] at ht
      have HG : Hid (getV ps x = .tuple #[zV.v, .bool false]) := Lib.hid (by unfold getV getP; rw [ht]; rfl)
      have hb5 := ((((hkp.facts.2.set 0 (.int .i64 0)).set 1 (.bool false)).set 2 (.int .i64 0)).set 3 (.float .f64 0)).set 4 (.string ⟨#[]⟩)
      obtain ⟨hlt5, ty, hh5⟩ := hb5
      have HB5 := Lib.hid hh5
      clear ht hkp hh5 hlt5
      go_wp2_with fail
      (try simp only [Exit.inBlock, Exit.then])
      refine bodyPost_ret (results_row_tmp rfl _ _ (w.heap.size + 1) ty #[_, _, _, _, _] (0, 0) _ rfl HB5.out Tryd.underlying46 rfl infoVal) rfl ?_
      refine ⟨by rw [HG.out]; rfl, ?_⟩
      exact ((((HK.out.below.setCell (p := ⟨w.heap.size + 1, 0, none⟩) (by simp) _).setCell (p := ⟨w.heap.size + 1, 1, none⟩) (by simp) _).setCell (p := ⟨w.heap.size + 1, 2, none⟩) (by simp) _).setCell (p := ⟨w.heap.size + 1, 3, none⟩) (by simp) _).setCell (p := ⟨w.heap.size + 1, 4, none⟩) (by simp) _
end Go.Proofs.YtlgglkkafcbikaaDoor
