
/- The laws on package record: RecordRises. -/
import Derived.Test.YthfckbiciddfdaaDoorRec2
import Derived.Test.YthfckbiciddfdaaDoorRowN
import Derived.Test.YthfckbiciddfdaaDoorLaw2
import Derived.Deep.RegionLaw
import Derived.BigQuiet
import Derived.Deep.AppendLies
namespace Go.Proofs.YthfckbiciddfdaaDoor
open Go Go.Proofs Go.RowKit
set_option linter.unusedVariables false
set_option linter.unusedSimpArgs false

def zV0 : V5 := ⟨0, false, 0, 0, []⟩
theorem elemPR : ElemK 23 45 6 64 (⟨[], zV0⟩ : PR).cells := elemK_of (z := .agg #[.string ⟨#[]⟩, .int .i64 0, .bool false, .int .i64 0, .float .f64 0, .string ⟨#[]⟩]) Tryd.underlying23 (by kernel_rfl) rfl rfl
def propOf (x : Int) : PR := ⟨lab x, ⟨2, false, x, 0, []⟩⟩
def labsV (x0 : List Int) (j : Nat) : List Value := (x0.take j).map (fun x => strV (lab x))
def propsV (x0 : List Int) (j : Nat) : List Value := ((x0.take j).map (fun x => (propOf x).cells)).flatten
theorem labsV_snoc (x0 : List Int) (j : Nat) (h : j < x0.length) : labsV x0 (j + 1) = labsV x0 j ++ [strV (lab x0[j])] := by
  unfold labsV; rw [List.take_succ_eq_append_getElem h, List.map_append]; rfl
theorem propsV_snoc (x0 : List Int) (j : Nat) (h : j < x0.length) : propsV x0 (j + 1) = propsV x0 j ++ (propOf x0[j]).cells := by
  unfold propsV; rw [List.take_succ_eq_append_getElem h, List.map_append, List.flatten_append]; simp
/-- i labels and j properties laid. -/
structure FR (w : World) (x0 : List Int) (i j : Nat) (va vb : Option Addr) (vc vd : Nat) (wr : World) : Prop where
  b0 : Blk wr w.heap.size [.slice va i vc, .slice none 0 0]
  b1 : Blk wr (w.heap.size + 1) [.slice none 0 0, .slice vb j vd]
  o0 : wr.ownsRow (w.heap.size + 2) 9 1 (.slice va i vc) i (labsV x0 i)
  o1 : wr.ownsRow (w.heap.size + 2) 45 6 (.slice vb j vd) j (propsV x0 j)
  bel : Below w.heap.size w wr
  sz : w.heap.size + 2 ≤ wr.heap.size
theorem FR.below {w : World} {x0 : List Int} {i j : Nat} {va vb : Option Addr} {vc vd : Nat} {X Y : World} (h : FR w x0 i j va vb vc vd X) (hb : Below X.heap.size X Y) : FR w x0 i j va vb vc vd Y :=
  ⟨h.b0.below hb, h.b1.below hb, owns_below h.o0 hb, owns_below h.o1 hb, h.bel.trans (hb.mono h.bel.size), Nat.le_trans h.sz hb.size⟩
theorem FR.grown {w : World} {x0 : List Int} {i j : Nat} {va vb : Option Addr} {vc vd : Nat} {X w6 : World} {row : Option Nat} (h : FR w x0 i j va vb vc vd X) (hgr : X.grownBy w6 row) (hrow : ∀ q, row = some q → w.heap.size + 2 ≤ q) :
    Blk w6 w.heap.size [.slice va i vc, .slice none 0 0] ∧ Blk w6 (w.heap.size + 1) [.slice none 0 0, .slice vb j vd] ∧ Below w.heap.size w w6 ∧ w.heap.size + 2 ≤ w6.heap.size :=
  ⟨h.b0.grown hgr (fun e => by have := hrow _ e; omega), h.b1.grown hgr (fun e => by have := hrow _ e; omega), h.bel.grown hgr (by have := h.sz; omega) (fun q hq => by have := hrow q hq; omega), Nat.le_trans h.sz hgr.size⟩
/-- a label laid. -/
theorem FR.nextLab {w : World} {x0 : List Int} {i j : Nat} {va vb va' : Option Addr} {vc vd vc' : Nat} {X w6 : World} (hi : i < x0.length) (h : FR w x0 i j va vb vc vd X)
    (hown : w6.ownsRow (w.heap.size + 2) 9 1 (.slice va' (i + 1) vc') (i + 1) (labsV x0 i ++ [strV (lab x0[i])])) (hgr : X.grownBy w6 (Value.slice va i vc).ownBlock) :
    w6.cell? ⟨w.heap.size, 0, none⟩ = some (.slice va i vc) ∧ w6.frozen? ⟨w.heap.size, 0, none⟩ = false ∧ FR w x0 (i + 1) j va' vb vc' vd (w6.setCell ⟨w.heap.size, 0, none⟩ (.slice va' (i + 1) vc')) := by
  obtain ⟨g0, g1, g2, g3⟩ := h.grown hgr (fun q hq => (h.o0.lt q hq).1)
  have o1 := h.o1.kept hgr (by
    rcases owns_apart h.o1 h.o0 (by decide) with hn | hn
    · exact .inl hn
    · exact .inr hn)
  refine ⟨g0.cell 0 _ rfl, g0.thaw 0, g0.set 0 _, g1.other (by omega) 0 _, ?_, ownsRow_setCell_below o1 (by show w.heap.size < w.heap.size + 2; omega) _, g2.setCell (by show w.heap.size ≤ w.heap.size; omega) _, by simpa [World.setCell] using g3⟩
  rw [labsV_snoc x0 i hi]
  exact ownsRow_setCell_below hown (by show w.heap.size < w.heap.size + 2; omega) _
/-- a property laid. -/
theorem FR.prop {w : World} {x0 : List Int} {i j : Nat} {va vb vb' : Option Addr} {vc vd vd' : Nat} {X w6 : World} (hj : j < x0.length) (h : FR w x0 i j va vb vc vd X)
    (hown : w6.ownsRow (w.heap.size + 2) 45 6 (.slice vb' (j + 1) vd') (j + 1) (propsV x0 j ++ (propOf x0[j]).cells)) (hgr : X.grownBy w6 (Value.slice vb j vd).ownBlock) :
    w6.cell? ⟨w.heap.size + 1, 1, none⟩ = some (.slice vb j vd) ∧ w6.frozen? ⟨w.heap.size + 1, 1, none⟩ = false ∧ FR w x0 i (j + 1) va vb' vc vd' (w6.setCell ⟨w.heap.size + 1, 1, none⟩ (.slice vb' (j + 1) vd')) := by
  obtain ⟨g0, g1, g2, g3⟩ := h.grown hgr (fun q hq => (h.o1.lt q hq).1)
  have o0 := h.o0.kept hgr (by
    rcases owns_apart h.o0 h.o1 (by decide) with hn | hn
    · exact .inl hn
    · exact .inr hn)
  refine ⟨g1.cell 1 _ rfl, g1.thaw 1, g0.other (by omega) 1 _, g1.set 1 _, ownsRow_setCell_below o0 (by show w.heap.size + 1 < w.heap.size + 2; omega) _, ?_, g2.setCell (by show w.heap.size ≤ w.heap.size + 1; omega) _, by simpa [World.setCell] using g3⟩
  rw [propsV_snoc x0 j hj]
  exact ownsRow_setCell_below hown (by show w.heap.size + 1 < w.heap.size + 2; omega) _
/-- do they rise? -/
def risB (x0 : List Int) (j : Nat) : Bool := j == 0 || decide (x0.getD (j - 1) 0 % 8 < x0.getD j 0 % 8)
theorem lab_name (x : Int) : nameB (lab x) = true := by
  have h8 : 0 ≤ x % 8 ∧ x % 8 < 8 := by omega
  have : (UInt8.ofNat (97 + (x % 8).toNat)).toNat = 97 + (x % 8).toNat := by rw [UInt8.toNat_ofNat']; omega
  simp only [lab, nameB, List.all_cons, List.all_nil, letterB, this, List.length_singleton]
  simp; omega
theorem lab_less (x y : Int) : Op.bytesLess (lab x) (lab y) = decide (x % 8 < y % 8) := by
  have hx : (UInt8.ofNat (97 + (x % 8).toNat)).toNat = 97 + (x % 8).toNat := by rw [UInt8.toNat_ofNat']; omega
  have hy : (UInt8.ofNat (97 + (y % 8).toNat)).toNat = 97 + (y % 8).toNat := by rw [UInt8.toNat_ofNat']; omega
  simp only [lab, Op.bytesLess, Bool.and_false, Bool.or_false]
  rw [Bool.eq_iff_iff, decide_eq_true_iff, decide_eq_true_iff, UInt8.lt_iff_toNat_lt, hx, hy]
  omega
theorem stepB_lab (x0 : List Int) (j : Nat) (h : j < x0.length) : stepB (x0.map lab) j = risB x0 j := by
  rw [stepB_at _ _ (by simpa using h)]
  simp only [List.getElem_map, lab_name, Bool.true_and, risB]
  cases j with
  | zero => rfl
  | succ m =>
    simp only [Nat.add_sub_cancel]
    rw [List.getD_eq_getElem?_getD, List.getElem?_map, List.getElem?_eq_getElem (show m < x0.length by omega)]
    simp only [Option.map_some, Option.getD_some, lab_less]
    rw [List.getD_eq_getElem?_getD, List.getD_eq_getElem?_getD, List.getElem?_eq_getElem (show m < x0.length by omega), List.getElem?_eq_getElem h]
    rfl
theorem names_labs (x0 : List Int) : namesB (x0.map lab) = (List.range x0.length).all (risB x0) := by
  unfold namesB
  rw [List.length_map, Bool.eq_iff_iff, List.all_eq_true, List.all_eq_true]
  constructor <;> intro h j hj <;> have := h j hj <;> have := stepB_lab x0 j (List.mem_range.1 hj) <;> simp_all
theorem node_labs (x0 : List Int) : nodeB (x0.map lab) [] = ((List.range x0.length).all (risB x0) && decide ((x0.length : Int) ≤ 3)) := by
  rw [nodeB_eq, names_labs]; simp [namesB]
theorem isV_intR (a : Int) : isV ⟨2, false, a, 0, []⟩ = true := by simp [isV, sameV, namedV, isT]
theorem node_props (x0 : List Int) : nodeB [] (x0.map propOf) = ((List.range x0.length).all (risB x0) && decide ((x0.length : Int) ≤ 3)) := by
  rw [nodeB_eq, show (x0.map propOf).map PR.key = x0.map lab by rw [List.map_map]; rfl, names_labs]
  rw [show (x0.map propOf).all (fun p => isV p.v && !(p.v.k == 0)) = true by rw [List.all_eq_true]; intro p hp; obtain ⟨x, _, rfl⟩ := List.mem_map.1 hp; simp [propOf, isV_intR]]
  simp [namesB]
theorem node_null (p : PR) (ps : List PR) (h : p.v.k = 0) : nodeB [] (p :: ps) = false := by
  rw [nodeB_eq]; simp [h]
theorem risB_at (x0 : List Int) (j : Nat) (h0 : 0 < j) (h : j < x0.length) : risB x0 j = decide (x0[j - 1]'(by omega) % 8 < x0[j] % 8) := by
  cases j with
  | zero => omega
  | succ m =>
    simp only [risB, Nat.add_sub_cancel]
    rw [List.getD_eq_getElem?_getD, List.getD_eq_getElem?_getD, List.getElem?_eq_getElem (show m < x0.length by omega), List.getElem?_eq_getElem h]
    rfl
def W5 (X : World) (g : Nat) : World := ((((X.setCell ⟨g, 1, none⟩ (.int .i64 0)).setCell ⟨g, 2, none⟩ (.bool false)).setCell ⟨g, 3, none⟩ (.int .i64 0)).setCell ⟨g, 4, none⟩ (.float .f64 0)).setCell ⟨g, 5, none⟩ (.string ⟨#[]⟩)
theorem FR.first {w X : World} {x0 : List Int} {va : Option Addr} {bb vc vd : Nat} (h : FR w x0 x0.length x0.length va (some ⟨bb, 0, none⟩) vc vd X) (h0 : 0 < x0.length) :
    (X.cell? ⟨bb, 1, none⟩ = some (.int .i64 2) ∧ X.cell? ⟨bb, 2, none⟩ = some (.bool false) ∧ X.cell? ⟨bb, 3, none⟩ = some (.int .i64 x0[0]) ∧ X.cell? ⟨bb, 4, none⟩ = some (.float .f64 0) ∧ X.cell? ⟨bb, 5, none⟩ = some (.string ⟨#[]⟩)) ∧
    (X.frozen? ⟨bb, 1, none⟩ = false ∧ X.frozen? ⟨bb, 2, none⟩ = false ∧ X.frozen? ⟨bb, 3, none⟩ = false ∧ X.frozen? ⟨bb, 4, none⟩ = false ∧ X.frozen? ⟨bb, 5, none⟩ = false) := by
  have hc := h.o1.cells (g := bb) rfl
  have hg : ∃ cs, Blk X bb cs := by
    rcases h.o1.2 with ⟨hv, _⟩ | ⟨g, cap, cur, hv, _, hg, _⟩
    · simp at hv
    · simp only [Value.slice.injEq, Option.some.injEq, Addr.mk.injEq, and_true, true_and] at hv
      obtain ⟨rfl, _⟩ := hv
      exact ⟨cur.toList, (Array.getElem?_eq_some_iff.1 hg).1, _, by simpa using hg⟩
  obtain ⟨cs, hg⟩ := hg
  refine ⟨?_, hg.thaw 1, hg.thaw 2, hg.thaw 3, hg.thaw 4, hg.thaw 5⟩
  cases x0 with
  | nil => simp at h0
  | cons x t =>
    have hp : propsV (x :: t) (x :: t).length = (propOf x).cells ++ (t.map (fun x => (propOf x).cells)).flatten := by
      unfold propsV; rw [List.take_of_length_le (Nat.le_refl _)]; simp
    rw [hp] at hc
    simp only [addr_add, Nat.zero_add] at hc
    exact ⟨hc 1 _ rfl, hc 2 _ rfl, hc 3 _ rfl, hc 4 _ rfl, hc 5 _ rfl⟩
theorem FR.zero {w X : World} {x0 : List Int} {va : Option Addr} {bb vc vd : Nat} (h : FR w x0 x0.length x0.length va (some ⟨bb, 0, none⟩) vc vd X) (h0 : 0 < x0.length)
    (hr : RowK 6 X (.slice (some ⟨bb, 0, none⟩) x0.length vd) ((x0.map propOf).map PR.cells)) :
    (∃ p t, p.v.k = 0 ∧ p.key.length ≤ 1 ∧ (∀ q ∈ t, q.key.length ≤ 1) ∧ t.length ≤ x0.length ∧ RowK 6 (W5 X bb) (.slice (some ⟨bb, 0, none⟩) x0.length vd) ((p :: t).map PR.cells)) ∧ Below w.heap.size w (W5 X bb) ∧
    (W5 X bb).cell? ⟨w.heap.size + 1, 0, none⟩ = some (.slice none 0 0) ∧ (W5 X bb).cell? ⟨w.heap.size + 1, 1, none⟩ = some (.slice (some ⟨bb, 0, none⟩) x0.length vd) := by
  have hb := (h.o1.lt bb rfl).1
  have h1 := ((((h.b1.other (g := bb) (by omega) 1 (.int .i64 0)).other (g := bb) (by omega) 2 (.bool false)).other (g := bb) (by omega) 3 (.int .i64 0)).other (g := bb) (by omega) 4 (.float .f64 0)).other (g := bb) (by omega) 5 (.string ⟨#[]⟩)
  refine ⟨?_, ?_, h1.cell 0 _ rfl, h1.cell 1 _ rfl⟩
  · cases x0 with
    | nil => simp at h0
    | cons x t =>
      refine ⟨⟨lab x, zV0⟩, t.map propOf, rfl, by simp [lab], by intro q hq; obtain ⟨z, _, rfl⟩ := List.mem_map.1 hq; simp [propOf, lab], by simp, ?_⟩
      have s1 := ((((hr.setCell 0 (by simp) 1 (by decide) (.int .i64 0)).setCell 0 (by simp) 2 (by decide) (.bool false)).setCell 0 (by simp) 3 (by decide) (.int .i64 0)).setCell 0 (by simp) 4 (by decide) (.float .f64 0)).setCell 0 (by simp) 5 (by decide) (.string ⟨#[]⟩)
      simpa [W5, propOf, PR.cells, zV0] using s1
  · exact ((((h.bel.setCell (p := ⟨bb, 1, none⟩) (by show w.heap.size ≤ bb; omega) _).setCell (p := ⟨bb, 2, none⟩) (by show w.heap.size ≤ bb; omega) _).setCell (p := ⟨bb, 3, none⟩) (by show w.heap.size ≤ bb; omega) _).setCell (p := ⟨bb, 4, none⟩) (by show w.heap.size ≤ bb; omega) _).setCell (p := ⟨bb, 5, none⟩) (by show w.heap.size ≤ bb; omega) _
set_option maxRecDepth 100000 in
set_option maxHeartbeats 8000000 in
theorem RecordRises_core (v0 : Value) (x0 : List Int) (w : World) (w0 : RowAt w v0 (x0.map (Value.int .i64))) (y0 : ∀ n ∈ x0, -9223372036854775808 ≤ n ∧ n ≤ 9223372036854775807) :
    Calls Tryd.prog 5 #[v0] w fun e w' => e = .returned (.bool true) ∧ Below w.heap.size w w' := by
  obtain ⟨a, c, rfl⟩ := w0.shape
  rw [List.length_map] at w0 ⊢
  have HR := Lib.hid w0
  clear w0 y0
  have m9 : maxLen = 9223372036854775807 := by decide
  have hml := HR.out.1
  rw [m9, List.length_map] at hml
  clear m9
  by_cases hg : x0.length ≤ 6
  · go_enter Tryd.func5, Tryd.ntmps5
    go_wp2_with fail
    have HSt : Hid (FR w x0 0 0 none none 0 0 ((w.alloc (.cells #[.slice none 0 0, .slice none 0 0] 25)).alloc (.cells #[.slice none 0 0, .slice none 0 0] 25))) :=
      Lib.hid ⟨(Blk.new w [.slice none 0 0, .slice none 0 0] _).alloc _, Blk.newAt (w.alloc (.cells #[.slice none 0 0, .slice none 0 0] 25)) [.slice none 0 0, .slice none 0 0] _ _ (by simp), ⟨by simp [labsV], .inl ⟨rfl, rfl⟩⟩, ⟨by simp [propsV], .inl ⟨rfl, rfl⟩⟩, ((Below.refl _ w).alloc (Nat.le_refl _) _).alloc (by simp) _, by simp⟩
    go_loopw [5, 6] (fun u i wr => ∃ j : Nat, j ≤ x0.length ∧ i = .int .i64 (j : Int) ∧ (∃ b, u = .bool b ∧ b = (List.range j).all (risB x0)) ∧ ∃ va vb vc vd, FR w x0 j j va vb vc vd wr) (fun _ i _ => x0.length - (intOf i).toNat)
    case atStart => exact ⟨0, by omega, rfl, ⟨_, rfl, rfl⟩, none, none, 0, 0, HSt.out⟩
    case round =>
      clear HSt
      obtain ⟨j, hj, rfl, ⟨b, rfl, hb⟩, va, vb, vc, vd, hF⟩ := hrel
      have HB := Lib.hid hb
      have HF := Lib.hid hF
      clear hb
      by_cases hlt : j < x0.length
      · obtain ⟨B, o, rfl, hB, hxw⟩ := HR.out.cellAt j (by simpa using hlt)
        have hx := (hF.bel.cell (p := ⟨B, o + j, none⟩) hB).trans hxw
        rw [List.getElem_map] at hx hxw
        have hi1 : (j : Int) < (x0.length : Int) := by omega
        obtain ⟨q, y, hq1, hq2, hq3, hy1, hy2, hy4, hy3⟩ := and7N x0[j]
        have HRA := Lib.hid (range_all (risB x0) j)
        have HLX := Lib.hid (fun va vb vc vd va' vc' X w6 h (h1 : w6.ownsRow _ _ _ _ _ (labsV x0 j ++ [strV [y]])) h2 => FR.nextLab (w := w) (j := j) (va := va) (vb := vb) (vc := vc) (vd := vd) (va' := va') (vc' := vc') (X := X) (w6 := w6) hlt h (by rw [hy3]; exact h1) h2)
        have HPX := Lib.hid (fun va vb vc vd vb' vd' X w6 h (h1 : w6.ownsRow _ _ _ _ _ (propsV x0 j ++ (⟨[y], ⟨2, false, x0[j], 0, []⟩⟩ : PR).cells)) h2 => FR.prop (w := w) (i := j + 1) (va := va) (vb := vb) (vc := vc) (vd := vd) (vb' := vb') (vd' := vd') (X := X) (w6 := w6) hlt h (by rw [show propOf x0[j] = ⟨[y], ⟨2, false, x0[j], 0, []⟩⟩ by unfold propOf; rw [hy3]]; exact h1) h2)
        have HX := Lib.hid hxw
        have hcv := conv_one y wr wr.heap.size rfl
        have hx1 := fun o1 => (cell_below' (o := o + j) ((Below.refl _ wr).alloc (Nat.le_refl _) o1) (show B < wr.heap.size by have := hF.bel.size; omega)).trans hx
        have HRZ : Hid (¬ 0 < j → risB x0 j = true) := Lib.hid (fun h => by rw [show j = 0 by omega]; rfl)
        have HRS0 := Lib.hid (risB_at x0 j)
        by_cases hj0 : 0 < j
        case' pos =>
          obtain ⟨B', o', e', hB', hx'⟩ := HR.out.cellAt (j - 1) (by simp; omega)
          simp only [Option.some.injEq, Addr.mk.injEq, and_true] at e'
          obtain ⟨rfl, rfl⟩ := e'
          have hx' := (hF.bel.cell (p := ⟨B, o + (j - 1), none⟩) hB).trans hx'
          rw [List.getElem_map] at hx'
          have hx1' := fun o1 => (cell_below' (o := o + (j - 1)) ((Below.refl _ wr).alloc (Nat.le_refl _) o1) (show B < wr.heap.size by have := hF.bel.size; omega)).trans hx'
          obtain ⟨q', y', hq1', hq2', hq3', hrest⟩ := and7N (x0[j - 1]'(by omega))
          have HRS : Hid (risB x0 j = decide ((q' : Int) < (q : Int))) := Lib.hid (by rw [HRS0.out hj0 hlt, hq3, hq3'])
          clear hrest hq3' HRS0 HRZ
          generalize x0[j]'(by omega) = xj at *
          generalize x0[j - 1]'(by omega) = xj' at *
          clear hq3 hy3 hxw hB'
          have hp0 : ((j : Int) == 0) = false := by simp; omega
          have hi0 : (0 : Int) < (j : Int) := by omega
          cases b <;> cases hqq : decide ((q' : Int) < (q : Int))
        case' neg =>
          have HRS : Hid (risB x0 j = true) := Lib.hid (HRZ.out hj0)
          clear HRS0 HRZ
          generalize x0[j]'(by omega) = xj at *
          clear hq3 hy3 hxw
          have hp0 : ((j : Int) == 0) = true := by simp; omega
          cases b
        all_goals
          clear hF
          go_wp2_with fail
          go_quiet (fail)
          (try clear hx' hx1' hq1')
          obtain ⟨X, hX⟩ : ∃ X, X = (wr.alloc (.cells #[.int .u8 ((y.toNat : Nat) : Int)] 5)).drewN nq := ⟨_, rfl⟩
          rw [← hX]
          have hF : FR w x0 j j va vb vc vd X := by rw [hX]; exact HF.out.below (below_drewN ((Below.refl _ wr).alloc (Nat.le_refl _) _) nq)
          have hxX : X.cell? ⟨B, o + j, none⟩ = some (.int .i64 xj) := by rw [hF.bel.cell hB]; exact HX.out
          clear hX hx hx1 hcv HF
          have d0 := hF.b0.cell 0 _ rfl
          have HF := Lib.hid hF
          clear hF
          go_wp2_with (at_builtin; refine wp_appK1 elemS (by decide) rfl _ _ rfl (w.heap.size + 2) j _ _ rfl HF.out.o0 [.string ⟨#[y]⟩] rfl rfl ?_ ?_ ?_ ?_ ?_)
          · simp [Value.oneCell']
          · omega
          · omega
          · exact HF.out.sz
          intro v' w6 hown6 hgr hb6
          obtain ⟨va', vc', rfl⟩ := owns_shape hown6
          obtain ⟨e0, e1, hN⟩ := HLX.out va vb vc vd va' vc' _ w6 (HF.out.below ((Below.refl _ X).alloc (Nat.le_refl _) (.cells #[.string ⟨#[y]⟩] 9))) hown6 hgr
          have HN := Lib.hid hN
          clear hN hown6 hgr hb6 d0 hxX
          go_wp2_with fail
          clear e0 e1
          generalize w6.setCell ⟨w.heap.size, 0, none⟩ (.slice va' (j + 1) vc') = Y at *
          have hxY : Y.cell? ⟨B, o + j, none⟩ = some (.int .i64 xj) := by rw [HN.out.bel.cell hB]; exact HX.out
          have d0 := HN.out.b1.cell 1 _ rfl
          have d1 := fun o1 => (HN.out.b1.alloc o1).cell 1 _ rfl
          have hsz := HN.out.sz
          have HO := Lib.hid (show (Y.alloc (.cells #[.string ⟨#[y]⟩, .int .i64 2, .bool false, .int .i64 xj, .float .f64 0, .string ⟨#[]⟩] 45)).drew.ownsRow (w.heap.size + 2) 45 6 (.slice vb j vd) j (propsV x0 j) from HN.out.o1.alloc _)
          have HNW := Lib.hid (news_blk (show Blk (Y.alloc (.cells #[.string ⟨#[y]⟩, .int .i64 2, .bool false, .int .i64 xj, .float .f64 0, .string ⟨#[]⟩] 45)).drew Y.heap.size [.string ⟨#[y]⟩, .int .i64 2, .bool false, .int .i64 xj, .float .f64 0, .string ⟨#[]⟩] from Blk.new Y _ _))
          have HPY := Lib.hid (fun vb' vd' w6 h1 h2 => HPX.out va' vb vc' vd vb' vd' _ w6 (HN.out.below (((Below.refl _ Y).alloc (Nat.le_refl _) (.cells #[.string ⟨#[y]⟩, .int .i64 2, .bool false, .int .i64 xj, .float .f64 0, .string ⟨#[]⟩] 45)).drew)) h1 h2)
          clear HPX HLX
          go_region_law (refine step_appK elemPR (by decide) rfl _ _ rfl (w.heap.size + 2) j _ _ rfl HO.out ⟨Y.heap.size, 0, none⟩ 1 [.string ⟨#[y]⟩, .int .i64 2, .bool false, .int .i64 xj, .float .f64 0, .string ⟨#[]⟩] rfl rfl HNW.out (by simp [Value.oneCell']) (by omega) (by omega) (by simp; omega) ?_; intro vb' vd' w8 hown8 hgr8; obtain ⟨e0, e1, hN8⟩ := HPY.out vb' vd' w8 hown8 hgr8; have HN8 := Lib.hid hN8; clear hN8 hown8 hgr8)
        all_goals
          go_wp2_with fail
          exact ⟨⟨j + 1, by omega, by go_num, ⟨_, rfl, by rw [HRA.out, ← HB.out, HRS.out]; first | rfl | simp [*]⟩, _, _, _, _, HN8.out⟩, by simp [intOf]; omega⟩
      · obtain rfl : j = x0.length := by omega
        have hn1 : ∀ X, FR w x0 x0.length x0.length va vb vc vd X → RowAt X (.slice va x0.length vc) ((x0.map lab).map strV) := fun X h => by
          have := RowAt.ofOwns h.o0
          simpa [labsV, Function.comp_def] using this
        have hn2 : ∀ X, FR w x0 x0.length x0.length va vb vc vd X → RowK 6 X (.slice vb x0.length vd) ((x0.map propOf).map PR.cells) := fun X h => by
          have := (RowK.ofOwns (xs := (x0.take x0.length).map (fun x => (propOf x).cells)) (by decide) (by intro y hy; obtain ⟨x, _, rfl⟩ := List.mem_map.1 hy; rfl) h.o1).2
          simpa [Function.comp_def] using this
        have HI1 := Lib.hid (fun X (h : FR w x0 x0.length x0.length va vb vc vd X) => IsNode_c (x0.map lab) [] _ (.slice none 0 0) X (hn1 X h) (RowK.nil 6 X) (by intro s hs; obtain ⟨x, _, rfl⟩ := List.mem_map.1 hs; simp [lab]) (by simp) (by simp))
        have HI2 := Lib.hid (fun X (h : FR w x0 x0.length x0.length va vb vc vd X) => IsNode_c [] (x0.map propOf) (.slice none 0 0) _ X (RowAt.nil X) (hn2 X h) (by simp) (by intro s hs; obtain ⟨x, _, rfl⟩ := List.mem_map.1 hs; simp [propOf, lab]) (by simp; omega))
        rw [node_labs, ← HB.out] at HI1
        rw [node_props, ← HB.out] at HI2
        have H0 : Hid (Keep w (FR w x0 x0.length x0.length va vb vc vd) wr) := Lib.hid ⟨hF, hF.bel, fun X hb => hF.below hb⟩
        have HFF : Hid (∀ X, FR w x0 x0.length x0.length va vb vc vd X → X.cell? ⟨w.heap.size, 0, none⟩ = some (.slice va x0.length vc) ∧ X.cell? ⟨w.heap.size, 1, none⟩ = some (.slice none 0 0) ∧ X.cell? ⟨w.heap.size + 1, 0, none⟩ = some (.slice none 0 0) ∧ X.cell? ⟨w.heap.size + 1, 1, none⟩ = some (.slice vb x0.length vd)) := Lib.hid (fun X h => ⟨h.b0.cell 0 _ rfl, h.b0.cell 1 _ rfl, h.b1.cell 0 _ rfl, h.b1.cell 1 _ rfl⟩)
        have HN2 := Lib.hid hn2
        have hk := HFF.out _ H0.out.facts
        clear hn1 hn2 hF HF HB
        cases b <;> cases h3 : decide ((x0.length : Int) ≤ 3)
        case' true.true =>
          by_cases h0 : (0 : Int) < (x0.length : Int)
          case' pos =>
            obtain ⟨bb, cap, hbb, _⟩ := H0.out.facts.o1.form (by omega)
            simp only [Value.slice.injEq, true_and] at hbb
            obtain ⟨rfl, rfl⟩ := hbb
            have HCC := Lib.hid (fun X (h : FR w x0 x0.length x0.length va (some ⟨bb, 0, none⟩) vc vd X) => FR.first h (by omega))
            have HZZ := Lib.hid (fun X (h : FR w x0 x0.length x0.length va (some ⟨bb, 0, none⟩) vc vd X) => FR.zero h (by omega) (HN2.out X h))
        all_goals
          rw [h3] at HI1 HI2
          simp only [Bool.and_true, Bool.and_false] at HI1 HI2
          go_wp2_with (first | (go_at_call 12; (with_reducible refine (HI1.out _ H0.out.facts).mono ?_); rintro e wq ⟨rfl, hq⟩; have HT := Lib.hid (Keep.on H0.out hq); clear hq; have hk := HFF.out _ HT.out.facts) | (go_at_call 12; (with_reducible refine (HI2.out _ HT.out.facts).mono ?_); rintro e wz ⟨rfl, hq⟩; have HT := Lib.hid (Keep.on HT.out hq); clear hq; have hk := HFF.out _ HT.out.facts; (try have hz1 := (HCC.out _ HT.out.facts).1); (try have hz2 := (HCC.out _ HT.out.facts).2)) | (go_at_call 10; (with_reducible refine (known10_c _).mono ?_); rintro e wy ⟨rfl, hq⟩; have HT := Lib.hid (Keep.on HT.out hq); clear hq))
        all_goals first | (go_ret; exact ⟨rfl, HT.out.below⟩) | skip
        obtain ⟨⟨p, t, hp1, hp2, hp3, hp4, hrz⟩, hbz, hbz0, hbz1⟩ := HZZ.out _ HT.out.facts
        have HI3 := Lib.hid (IsNode_c [] (p :: t) (.slice none 0 0) _ _ (RowAt.nil _) hrz (by simp) (by intro q hq; rcases List.mem_cons.1 hq with rfl | hq; exact Nat.le_trans hp2 (by decide); exact Nat.le_trans (hp3 q hq) (by decide)) (by simp; omega))
        rw [node_null p t hp1] at HI3
        have HBZ := Lib.hid hbz
        unfold W5 at HI3 hbz0 hbz1 HBZ
        clear hp1 hp2 hp3 hp4 hrz hbz
        go_wp2_with (first | (go_at_call 12; (with_reducible refine HI3.out.mono ?_); rintro e wy ⟨rfl, hq⟩; have HY := Lib.hid (HBZ.out.trans (hq.mono HBZ.out.size)); clear hq) | (go_at_call 10; (with_reducible refine (known10_c _).mono ?_); rintro e wx ⟨rfl, hq⟩; have HY := Lib.hid (HY.out.trans (hq.mono HY.out.size)); clear hq))
        go_ret
        exact ⟨rfl, HY.out⟩
  · go_enter Tryd.func5, Tryd.ntmps5
    go_wp2_with fail
    go_ret
    exact ⟨rfl, Below.refl _ w⟩
end Go.Proofs.YthfckbiciddfdaaDoor
