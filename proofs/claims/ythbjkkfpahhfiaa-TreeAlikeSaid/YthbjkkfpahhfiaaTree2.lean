
/- Contracts: slices.Insert, Delete, Clone at rows of entries. -/
import Derived.Test.YthbjkkfpahhfiaaTree1
import Derived.Maps.AppendAt
import Derived.Deep.RegionLaw
import Derived.Shelf.RegionOpenPlain
namespace Go.Proofs.Ythbjkkfpahhfiaa
open Go Go.Proofs Go.RowKit
set_option linter.unusedVariables false
set_option linter.unusedSimpArgs false

section
variable {P : Program}
/-- copy, for the walk, where its run is known. -/
theorem wp_copyR (w : World) {o : Oper} {a : Act} {K : Act → World → Prop} {Q : Exit → Act → World → Prop} (d s : Operand) (t t' : TypeId)
    (ho : o.op = .call { callee := .builtin .copy, args := #[d, s], argTypes := #[t, t'] }) (v u : Value) (hd : a.eval d = v) (hs : a.eval s = u) {v' : Value} {w' : World}
    (hr : (Builtin.copy_ #[t, t'] o.type #[v, u]).run P w = .ok v' w') (h : K (a.put o.dst v') w') : o.wp P a w K Q := by
  unfold Oper.wp execOp
  simp only [ho, resolve, invoke, builtin, Sem.run_bind, Sem.run_pure, Result.andThen_ok, List.map_toArray, List.map_cons, List.map_nil, hd, hs, hr]
  exact h
theorem wpList_copyR (w : World) {ops : Array Oper} {rest : List Oper} {o : Oper} {a : Act} {Q : Exit → Act → World → Prop} (hgd : o.guard = none) (d s : Operand) (t t' : TypeId)
    (ho : o.op = .call { callee := .builtin .copy, args := #[d, s], argTypes := #[t, t'] }) (v u : Value) (hd : a.eval d = v) (hs : a.eval s = u) {v' : Value} {w' : World}
    (hr : (Builtin.copy_ #[t, t'] o.type #[v, u]).run P w = .ok v' w') (h : wpList P ops Q rest (a.put o.dst v') w') : wpList P ops Q (o :: rest) a w :=
  wpList_plain hgd fun _ hK => wp_copyR w d s t t' ho v u hd hs hr (hK _ _ h)
theorem step_copyR {ops : Array Oper} {o : Oper} {a : Act} {w : World} {K : Act → World → Prop} {Q : Exit → Act → World → Prop} {E : Prop}
    (hg : o.guard = none) (d x : Operand) (dT sT : TypeId) (hop : o.op = Op.call { callee := Callee.builtin Builtin.copy, args := #[d, x], argTypes := #[dT, sT] })
    (v u : Value) (hd : a.eval d = v) (hx : a.eval x = u) {v' : Value} {w' : World} (hr : (Builtin.copy_ #[dT, sT] o.type #[v, u]).run P w = .ok v' w') (hK : K (a.put o.dst v') w') :
    if Region.wanted o (yielded ops a.tmps) = true then Oper.wp P o a w K Q else E := by
  have hw : Region.wanted o (yielded ops a.tmps) = true := by simp [Region.wanted, hg]
  rw [if_pos hw]
  exact wp_copyR w d x dT sT hop v u hd hx hr hK
end
/-- append, at a step of a region that draws, where its run is known. -/
theorem step_appR {P : Program} {ops : Array Oper} {o : Oper} {a : Act} {w : World} {K : Act → World → Prop} {Q : Exit → Act → World → Prop} {E : Prop}
    (hg : o.guard = none) (d x : Operand) (dT sT : TypeId) (hop : o.op = Op.call { callee := Callee.builtin Builtin.append, args := #[d, x], argTypes := #[dT, sT] })
    (v u : Value) (hd : a.eval d = v) (hx : a.eval x = u) {v' : Value} {w' : World} (hr : (Builtin.append_ #[dT, sT] o.type #[v, u]).run P w = .ok v' w') (hK : K (a.put o.dst v') w') :
    if Region.wanted o (yielded ops a.tmps) = true then Oper.wp P o a w K Q else E := by
  have hw : Region.wanted o (yielded ops a.tmps) = true := by simp [Region.wanted, hg]
  rw [if_pos hw]
  exact Lib.wp_append_run w d x dT sT hop v u hd hx v' w' hr hK
def flatE (es : List E6) : List Value := (es.map E6.cells).flatten
theorem E6.len (x : E6) : x.cells.length = 6 := rfl
theorem flatE_len (es : List E6) : (flatE es).length = es.length * 6 := by
  unfold flatE; rw [flat_len (k := 6) (by intro y hy; obtain ⟨x, _, rfl⟩ := List.mem_map.1 hy; rfl), List.length_map]
theorem flatE_append (a b : List E6) : flatE (a ++ b) = flatE a ++ flatE b := by simp [flatE]
theorem flatE_cons (x : E6) (b : List E6) : flatE (x :: b) = x.cells ++ flatE b := by simp [flatE]
theorem flatE_take (es : List E6) (i : Nat) (h : i ≤ es.length) : (flatE es).take (i * 6) = flatE (es.take i) := by
  have : flatE es = flatE (es.take i) ++ flatE (es.drop i) := by rw [← flatE_append, List.take_append_drop]
  rw [this, List.take_left' (by rw [flatE_len, List.length_take, Nat.min_eq_left h])]
theorem flatE_drop (es : List E6) (i : Nat) (h : i ≤ es.length) : (flatE es).drop (i * 6) = flatE (es.drop i) := by
  have : flatE es = flatE (es.take i) ++ flatE (es.drop i) := by rw [← flatE_append, List.take_append_drop]
  rw [this, List.drop_left' (by rw [flatE_len, List.length_take, Nat.min_eq_left h])]
theorem flatE_one (es : List E6) : ∀ v ∈ flatE es, v.oneCell' = true := by
  intro v hv
  obtain ⟨l, hl, hv⟩ := List.mem_flatten.1 hv
  obtain ⟨x, _, rfl⟩ := List.mem_map.1 hl
  simp [E6.cells] at hv
  rcases hv with rfl | rfl | rfl | rfl | rfl | rfl <;> rfl
theorem E6.one (x : E6) : ∀ v ∈ x.cells, v.oneCell' = true := by
  intro v hv
  simp [E6.cells] at hv
  rcases hv with rfl | rfl | rfl | rfl | rfl | rfl <;> rfl
def zE : E6 := ⟨⟨0, false, 0, 0, []⟩, 0⟩
theorem elemE : ElemK 27 37 6 56 zE.cells := elemK_of (z := zE.val) Try.underlying27 (by kernel_rfl) rfl rfl
theorem sizeE (w : World) : (sizeOf (Try.prog.elem 27)).run Try.prog w = .ok 6 w := by kernel_rfl
theorem infoE : (Try.prog.info? 37).map (·.size) = some 6 := by kernel_rfl
/-- v is the slice of the entries es, in a row of the call's own from block B on. -/
def OwnE (B : Nat) (w : World) (v : Value) (es : List E6) : Prop := w.ownsRow B 37 6 v es.length (flatE es)
theorem OwnE.row {B : Nat} {w : World} {v : Value} {es : List E6} (h : OwnE B w v es) : RowK 6 w v (es.map E6.cells) :=
  (RowK.ofOwns (xs := es.map E6.cells) (by decide) (by intro y hy; obtain ⟨x, _, rfl⟩ := List.mem_map.1 hy; rfl) h).2
/-- the block of a row, laid open. -/
theorem OwnE.open {B : Nat} {w : World} {v : Value} {es : List E6} (h : OwnE B w v es) (h0 : 0 < es.length) :
    ∃ g cap cur, v = .slice (some ⟨g, 0, none⟩) es.length cap ∧ B ≤ g ∧ w.heap[g]? = some (.cells cur 37 (0, 0)) ∧ es.length ≤ cap ∧ cap ≤ maxLen ∧ cur.size = cap * 6 ∧ cur.toList.take (es.length * 6) = flatE es := by
  rcases h.2 with ⟨_, hn⟩ | h'
  · omega
  · exact h'
theorem overlaps_f (w : World) (gx g off la ca lb cb : Nat) (hne : gx ≠ g) (cx : List Value) (hx : Blk w gx cx) (cur : Array Value) (t : TypeId) (hg : w.heap[g]? = some (.cells cur t (0, 0))) (hc : cur.size ≠ 0) :
    (callFunc 43 #[.slice (some ⟨gx, 0, none⟩) la ca, .slice (some ⟨g, off, none⟩) lb cb]).run Try.prog w = .ok (.value (.bool false)) w := by
  obtain ⟨hlx, tx, hx⟩ := hx
  rw [run_callFunc_extern Try.func43 (by kernel_rfl) (by kernel_rfl) (by kernel_rfl) (e := Extern.SlicesOverlaps.overlaps #[27, 27] #[4]) (by kernel_rfl),
    Lib.run_overlaps_apart w 27 4 37 Try.underlying27 6 (fun w => by kernel_rfl) ⟨gx, 0, none⟩ ⟨g, off, none⟩ la ca lb cb hne tx t cx.length cur.size
      (by unfold World.shape?; simp only [hx]; simp) (by unfold World.shape?; simp only [hg]) hc (by unfold World.frozen?; simp only [hx]; simp) (by unfold World.frozen?; simp only [hx]; simp)]
  rfl
/-- what lies in the row behind the insertion. -/
theorem shift_cells (es : List E6) (x : E6) (i cap : Nat) (cur : List Value) (hi : i < es.length) (hcap : es.length + 1 ≤ cap) (hs : cur.length = cap * 6) (ht : cur.take (es.length * 6) = flatE es) :
    let c1 := cur.take ((i + 1) * 6) ++ flatE (es.drop i) ++ cur.drop ((i + 1) * 6 + (flatE (es.drop i)).length)
    let c2 := c1.take (i * 6) ++ x.cells ++ c1.drop (i * 6 + x.cells.length)
    c2.length = cap * 6 ∧ c2.take ((es.length + 1) * 6) = flatE (es.take i ++ x :: es.drop i) := by
  have hd : (flatE (es.drop i)).length = (es.length - i) * 6 := by rw [flatE_len, List.length_drop]
  have hti : cur.take (i * 6) = flatE (es.take i) := by
    rw [← flatE_take es i (by omega), ← ht, List.take_take, Nat.min_eq_left (by omega)]
  have htl : (flatE (es.take i)).length = i * 6 := by rw [flatE_len, List.length_take, Nat.min_eq_left (by omega)]
  have hx : x.cells.length = 6 := rfl
  simp only [hd, hx]
  generalize hD : flatE (es.drop i) = D at *
  have e1 : (List.take ((i + 1) * 6) cur ++ D ++ List.drop ((i + 1) * 6 + (es.length - i) * 6) cur).take (i * 6) = flatE (es.take i) := by
    rw [List.append_assoc, List.take_append_of_le_length (by rw [List.length_take]; omega), List.take_take, Nat.min_eq_left (by omega), hti]
  have e2 : (List.take ((i + 1) * 6) cur ++ D ++ List.drop ((i + 1) * 6 + (es.length - i) * 6) cur).drop (i * 6 + 6) = D ++ List.drop ((i + 1) * 6 + (es.length - i) * 6) cur := by
    rw [List.append_assoc, List.drop_left' (by rw [List.length_take]; omega)]
  rw [e1, e2]
  constructor
  · simp only [List.length_append, htl, hx, hd, List.length_drop]; omega
  · rw [flatE_append, flatE_cons, hD, ← List.append_assoc, ← List.append_assoc]
    exact List.take_left' (by simp only [List.length_append, htl, hx, hd]; omega)
/-- what an insertion leaves. -/
def InsPost (B : Nat) (w : World) (v : Value) (es : List E6) (e : Ending) (w' : World) : Prop :=
  ∃ va vc, e = .returned (.slice va es.length vc) ∧ OwnE B w' (.slice va es.length vc) es ∧ w.grownBy w' v.ownBlock ∧ ((Value.slice va es.length vc).ownBlock = v.ownBlock ∨ ∃ q, (Value.slice va es.length vc).ownBlock = some q ∧ w.heap.size ≤ q)
theorem ins_len (es : List E6) (x : E6) (i : Nat) (h : i ≤ es.length) : (es.take i ++ x :: es.drop i).length = es.length + 1 := by simp; omega
set_option maxRecDepth 100000 in
set_option maxHeartbeats 4000000 in
theorem Insert_shift (B g cap gx i : Nat) (es : List E6) (x : E6) (cur : Array Value) (w : World) (hlen : es.length ≤ 1099511627776) (hi : i < es.length) (hB : B ≤ g) (hg : w.heap[g]? = some (.cells cur 37 (0, 0))) (hcap : es.length + 1 ≤ cap) (hm : cap ≤ maxLen)
    (hs : cur.size = cap * 6) (ht : cur.toList.take (es.length * 6) = flatE es) (hx : Blk w gx x.cells) (hne : gx ≠ g) :
    Calls Try.prog 31 #[.slice (some ⟨g, 0, none⟩) es.length cap, .int .i64 i, .slice (some ⟨gx, 0, none⟩) 1 1] w (InsPost B w (.slice (some ⟨g, 0, none⟩) es.length cap) (es.take i ++ x :: es.drop i)) := by
  obtain ⟨c1, hc1⟩ : ∃ c1, c1 = cur.toList.take ((i + 1) * 6) ++ flatE (es.drop i) ++ cur.toList.drop ((i + 1) * 6 + (flatE (es.drop i)).length) := ⟨_, rfl⟩
  have hcl := shift_cells es x i cap cur.toList hi hcap (by simpa using hs) ht
  simp only [← hc1] at hcl
  have hd : (flatE (es.drop i)).length = (es.length - i) * 6 := by rw [flatE_len, List.length_drop]
  have hov := fun lb cb => overlaps_f w gx g ((i + 1) * 6) 1 1 lb cb hne x.cells hx cur _ hg (by omega)
  have hgd : w.drew.heap[g]? = some (.cells cur 37 (0, 0)) := hg
  have hcp1 : ∀ ty dc sc, (Builtin.copy_ #[27, 27] ty #[.slice (some ⟨g, (i + 1) * 6, none⟩) (es.length - i) dc, .slice (some ⟨g, i * 6, none⟩) (es.length + 1 - i) sc]).run Try.prog w.drew = .ok (goInt (Nat.min (es.length + 1 - i) (es.length - i))) (w.drew.setRow g c1.toArray) := fun ty dc sc => by
    rw [hc1]
    exact run_copyK w.drew _ ty 37 6 g ((i + 1) * 6) _ dc ⟨g, i * 6, none⟩ _ sc cur _ (flatE (es.drop i)) Try.underlying27 infoE hgd (by rw [hd]; congr 1; show _ = min _ _; omega)
      (fun j v hj => by
        rw [addr_add, ← flatE_drop es i (by omega), List.getElem?_drop, ← ht] at *
        have hjl : i * 6 + j < es.length * 6 := by
          have := (List.getElem?_eq_some_iff.1 hj).1
          rw [List.length_take] at this; omega
        rw [List.getElem?_take_of_lt hjl] at hj
        unfold World.cell?
        simp only [hgd]
        simpa using hj) (by rw [hd, hs]; omega) (flatE_one _)
  have hgx : (w.drew.setRow g c1.toArray).heap[g]? = some (.cells c1.toArray 37 (0, 0)) := setRow_heap _ g cur _ _ _ hgd
  have hbx : Blk (w.drew.setRow g c1.toArray) gx x.cells := by
    obtain ⟨h1, tx, h2⟩ := hx
    exact ⟨by simpa [World.setRow] using h1, tx, (setRow_other w.drew g gx _ hne).trans h2⟩
  have hcp2 : ∀ ty dc, (Builtin.copy_ #[27, 27] ty #[.slice (some ⟨g, i * 6, none⟩) (es.length + 1 - i) dc, .slice (some ⟨gx, 0, none⟩) 1 1]).run Try.prog (w.drew.setRow g c1.toArray) = .ok (goInt (Nat.min 1 (es.length + 1 - i))) ((w.drew.setRow g c1.toArray).setRow g (c1.take (i * 6) ++ x.cells ++ c1.drop (i * 6 + x.cells.length)).toArray) := fun ty dc => by
    have h := run_copyK (P := Try.prog) (w.drew.setRow g c1.toArray) 27 ty 37 6 g (i * 6) (es.length + 1 - i) dc ⟨gx, 0, none⟩ 1 1 c1.toArray _ x.cells Try.underlying27 infoE hgx (by show 6 = min _ _ * 6; omega) (news_blk hbx) (by
      have := hcl.1
      have hx6 : x.cells.length = 6 := rfl
      have hc1l : c1.length = cap * 6 := by rw [hc1]; simp only [List.length_append, List.length_take, List.length_drop, hd, Array.length_toList, hs]; omega
      simp only [List.size_toArray, hc1l, hx6]; omega) x.one
    simpa using h
  have HE : Hid (InsPost B w (.slice (some ⟨g, 0, none⟩) es.length cap) (es.take i ++ x :: es.drop i) (.returned (.slice (some ⟨g, 0, none⟩) (es.length + 1) cap)) ((w.drew.setRow g c1.toArray).setRow g (c1.take (i * 6) ++ x.cells ++ c1.drop (i * 6 + x.cells.length)).toArray)) := Lib.hid (by
    refine ⟨some ⟨g, 0, none⟩, cap, by rw [ins_len es x i (by omega)], ⟨by rw [flatE_len], .inr ⟨g, cap, _, rfl, hB, setRow_heap _ g _ _ _ _ hgx, by rw [ins_len es x i (by omega)]; omega, hm, by simpa using hcl.1, ?_⟩⟩, ?_, .inl rfl⟩
    · rw [ins_len es x i (by omega)]; simpa using hcl.2
    · refine ⟨rfl, rfl, rfl, by simp [World.setRow], fun q hq hqg => ?_⟩
      have hqg' : q ≠ g := fun e => hqg (by simp [Value.ownBlock, e])
      rw [setRow_other _ g q _ hqg', setRow_other _ g q _ hqg']; rfl)
  have mx : maxLen = 9223372036854775807 := by decide
  rw [mx] at hm
  have hw1 : IntKind.i64.wrap ((i : Int) + 1) = (i : Int) + 1 := by rw [IntKind.wrap_i64]; omega
  have htn : ((i : Int) + 1).toNat = i + 1 := by omega
  have hb0 : (0 : Int) ≤ (i : Int) + 1 := by omega
  have hb1 : ¬ (cap = i + 1) := by omega
  have hb2 : ¬ (cap = i) := by omega
  have hb3 : ((i : Int) == (es.length : Int)) = false := by simp; omega
  have hb4 : (i : Int) + 1 ≤ (es.length : Int) + 1 := by omega
  have hb5 : (i : Int) ≤ (es.length : Int) + 1 := by omega
  generalize hN : es.length = N at *
  clear hN hcl hx hbx hg hgd hgx ht hc1 hs hd mx
  go_enter Try.func31, Try.ntmps31
  go_wp2_with (simp only [hov])
  go_region_law (fail)
  go_wp2_with (simp only [hcp2])
  go_ret
  have hE := HE.out
  simp only [List.append_assoc] at hE
  exact hE
theorem grow_cells (es : List E6) (x : E6) (i gc : Nat) (zs : List Value) (hi : i ≤ es.length) (hgc : es.length + 1 ≤ gc) (hz : zs.length = (gc - i) * 6) :
    let c0 := flatE (es.take i) ++ zs
    let c1 := c0.take (i * 6) ++ x.cells ++ c0.drop (i * 6 + x.cells.length)
    let c2 := c1.take ((i + 1) * 6) ++ flatE (es.drop i) ++ c1.drop ((i + 1) * 6 + (flatE (es.drop i)).length)
    c0.length = gc * 6 ∧ c1.length = gc * 6 ∧ c2.length = gc * 6 ∧ c2.take ((es.length + 1) * 6) = flatE (es.take i ++ x :: es.drop i) := by
  have hd : (flatE (es.drop i)).length = (es.length - i) * 6 := by rw [flatE_len, List.length_drop]
  have htl : (flatE (es.take i)).length = i * 6 := by rw [flatE_len, List.length_take, Nat.min_eq_left (by omega)]
  have hx : x.cells.length = 6 := rfl
  simp only [hd, hx]
  have e1 : (flatE (es.take i) ++ zs).take (i * 6) = flatE (es.take i) := List.take_left' htl
  rw [e1]
  have l0 : (flatE (es.take i) ++ zs).length = gc * 6 := by rw [List.length_append, htl, hz]; omega
  have l1 : (flatE (es.take i) ++ x.cells ++ (flatE (es.take i) ++ zs).drop (i * 6 + 6)).length = gc * 6 := by
    simp only [List.length_append, htl, hx, List.length_drop, hz]; omega
  have e2 : (flatE (es.take i) ++ x.cells ++ (flatE (es.take i) ++ zs).drop (i * 6 + 6)).take ((i + 1) * 6) = flatE (es.take i) ++ x.cells := List.take_left' (by rw [List.length_append, htl, hx]; omega)
  refine ⟨l0, l1, ?_, ?_⟩
  · simp only [List.length_append, List.length_take, List.length_drop, hd, htl, hx, hz]; omega
  · rw [e2, flatE_append, flatE_cons, ← List.append_assoc]
    exact List.take_left' (by simp only [List.length_append, htl, hx, hd]; omega)
set_option maxRecDepth 100000 in
set_option maxHeartbeats 4000000 in
theorem Insert_grow (B g gx i : Nat) (es : List E6) (x : E6) (cur : Array Value) (w : World) (hlen : es.length ≤ 1099511627776) (hi : i < es.length) (hB : B ≤ w.heap.size) (hg : w.heap[g]? = some (.cells cur 37 (0, 0)))
    (hs : cur.size = es.length * 6) (ht : cur.toList.take (es.length * 6) = flatE es) (hx : Blk w gx x.cells) (hne : gx ≠ g) :
    Calls Try.prog 31 #[.slice (some ⟨g, 0, none⟩) es.length es.length, .int .i64 i, .slice (some ⟨gx, 0, none⟩) 1 1] w (InsPost B w (.slice (some ⟨g, 0, none⟩) es.length es.length) (es.take i ++ x :: es.drop i)) := by
  obtain ⟨ii, z, hty, hii, hzz, hsz, hby, hzc, hzl⟩ := elemE
  have hgl : g < w.heap.size := (Array.getElem?_eq_some_iff.1 hg).1
  have hcell : ∀ j v, (flatE es)[j]? = some v → w.cell? ⟨g, j, none⟩ = some v := fun j v hj => by
    rw [← ht] at hj
    have hjl : j < es.length * 6 := by
      have := (List.getElem?_eq_some_iff.1 hj).1
      rw [List.length_take] at this; omega
    rw [List.getElem?_take_of_lt hjl] at hj
    unfold World.cell?
    simp only [hg]
    simpa using hj
  obtain ⟨gc, hgcd⟩ : ∃ gc, gc = grownCap w (es.length + 1) es.length 37 := ⟨_, rfl⟩
  have hgc : es.length + 1 ≤ gc := by rw [hgcd]; exact grownCap_ge ..
  obtain ⟨zs, hzs⟩ : ∃ zs, zs = (Builtin.zeroCells z.cells (es.length + 1 - i)).toList ++ (Builtin.zeroCells z.cells (gc - (es.length + 1))).toList := ⟨_, rfl⟩
  have hzsl : zs.length = (gc - i) * 6 := by
    have h1 := zeroCells_flat zE.cells (es.length + 1 - i) (by decide)
    have h2 := zeroCells_flat zE.cells (gc - (es.length + 1)) (by decide)
    rw [hzs, hzc, h1, h2, List.length_append, flat_len (k := 6) (by intro y hy; rw [(List.mem_replicate.1 hy).2]; rfl), flat_len (k := 6) (by intro y hy; rw [(List.mem_replicate.1 hy).2]; rfl), List.length_replicate, List.length_replicate]
    omega
  have hap : ∀ ty, (Builtin.append_ #[27, 3] ty #[.slice (some ⟨g, 0, none⟩) i es.length, .int .i64 ((es.length : Int) + 1 - (i : Int))]).run Try.prog w = .ok (.slice (some ⟨w.heap.size, 0, none⟩) (es.length + 1) gc) (w.alloc (.cells (flatE (es.take i) ++ zs).toArray 37)).drew := fun ty => by
    have h := run_append_grow_zeros (P := Try.prog) w 27 3 ty 37 ii z .i64 .i64 hty Try.underlying3 hii hzz ⟨g, 0, none⟩ i es.length (flatE (es.take i)) (by rw [flatE_len, List.length_take, hsz, Nat.min_eq_left (by omega)])
      (fun j v hj => by
        rw [addr_add, Nat.zero_add]
        refine hcell j v ?_
        rw [← flatE_take es i (by omega)] at hj
        have hjl := (List.getElem?_eq_some_iff.1 hj).1
        rw [List.length_take] at hjl
        rwa [List.getElem?_take_of_lt (by omega)] at hj)
      (es.length + 1 - i) (by omega) (by rw [hsz]; decide) (by omega) (by omega) (by rw [hby]; omega) (by
        rw [show i + (es.length + 1 - i) = es.length + 1 by omega]
        exact growslice_fits (by omega) (by rw [hby]; omega))
    rw [show ((es.length + 1 - i : Nat) : Int) = (es.length : Int) + 1 - (i : Int) by omega, show i + (es.length + 1 - i) = es.length + 1 by omega, ← hgcd] at h
    rw [h, hzs]
    show _ = Result.ok _ (w.drew.alloc _)
    congr 3
    apply Array.ext'
    simp
  have hgcl := grow_cells es x i gc zs (by omega) hgc hzsl
  obtain ⟨c0, hc0⟩ : ∃ c0, c0 = flatE (es.take i) ++ zs := ⟨_, rfl⟩
  obtain ⟨c1, hc1⟩ : ∃ c1, c1 = c0.take (i * 6) ++ x.cells ++ c0.drop (i * 6 + x.cells.length) := ⟨_, rfl⟩
  obtain ⟨c2, hc2⟩ : ∃ c2, c2 = c1.take ((i + 1) * 6) ++ flatE (es.drop i) ++ c1.drop ((i + 1) * 6 + (flatE (es.drop i)).length) := ⟨_, rfl⟩
  simp only [← hc0, ← hc1, ← hc2] at hgcl hap
  obtain ⟨l0, l1, l2, hfin⟩ := hgcl
  have hx6 : x.cells.length = 6 := rfl
  have hd : (flatE (es.drop i)).length = (es.length - i) * 6 := by rw [flatE_len, List.length_drop]
  have hg1 : (w.alloc (.cells c0.toArray 37)).drew.heap[w.heap.size]? = some (.cells c0.toArray 37 (0, 0)) := heap_alloc_new _ _
  have hbx := (hx.alloc (.cells c0.toArray 37)).below (Below.refl _ _).drew
  have hxl : gx < w.heap.size := hx.lt
  have hcp1 : ∀ ty dc, (Builtin.copy_ #[27, 27] ty #[.slice (some ⟨w.heap.size, i * 6, none⟩) (es.length + 1 - i) dc, .slice (some ⟨gx, 0, none⟩) 1 1]).run Try.prog (w.alloc (.cells c0.toArray 37)).drew = .ok (goInt (Nat.min 1 (es.length + 1 - i))) ((w.alloc (.cells c0.toArray 37)).drew.setRow w.heap.size c1.toArray) := fun ty dc => by
    have h := run_copyK (P := Try.prog) (w.alloc (.cells c0.toArray 37)).drew 27 ty 37 6 w.heap.size (i * 6) (es.length + 1 - i) dc ⟨gx, 0, none⟩ 1 1 c0.toArray _ x.cells hty infoE hg1 (by show 6 = min _ _ * 6; omega) (news_blk hbx) (by simp only [List.size_toArray, l0, hx6]; omega) x.one
    rw [hc1]
    simpa using h
  obtain ⟨W, hW⟩ : ∃ W, W = (w.alloc (.cells c0.toArray 37)).drew.setRow w.heap.size c1.toArray := ⟨_, rfl⟩
  have hg2 : W.heap[w.heap.size]? = some (.cells c1.toArray 37 (0, 0)) := by rw [hW]; exact setRow_heap _ _ _ _ _ _ hg1
  have hgo : W.heap[g]? = some (.cells cur 37 (0, 0)) := by
    rw [hW, setRow_other _ _ g _ (by omega)]; exact (heap_alloc_old w _ hgl).trans hg
  rw [← hW] at hcp1
  have hcp2 : ∀ ty dc sc, (Builtin.copy_ #[27, 27] ty #[.slice (some ⟨w.heap.size, (i + 1) * 6, none⟩) (es.length - i) dc, .slice (some ⟨g, i * 6, none⟩) (es.length - i) sc]).run Try.prog W.drew = .ok (goInt (Nat.min (es.length - i) (es.length - i))) (W.drew.setRow w.heap.size c2.toArray) := fun ty dc sc => by
    have h := run_copyK (P := Try.prog) W.drew 27 ty 37 6 w.heap.size ((i + 1) * 6) (es.length - i) dc ⟨g, i * 6, none⟩ (es.length - i) sc c1.toArray _ (flatE (es.drop i)) hty infoE hg2 (by rw [hd]; congr 1; show _ = min _ _; omega)
      (fun j v hj => by
        rw [addr_add]
        rw [← flatE_drop es i (by omega), List.getElem?_drop, ← ht] at hj
        have hjl : i * 6 + j < es.length * 6 := by
          have := (List.getElem?_eq_some_iff.1 hj).1
          rw [List.length_take] at this; omega
        rw [List.getElem?_take_of_lt hjl] at hj
        unfold World.cell?
        have hgod : W.drew.heap[g]? = some (.cells cur 37 (0, 0)) := hgo
        simp only [hgod]
        simpa using hj) (by simp only [List.size_toArray, l1, hd]; omega) (flatE_one _)
    rw [hc2]
    simpa using h
  have HE : Hid (InsPost B w (.slice (some ⟨g, 0, none⟩) es.length es.length) (es.take i ++ x :: es.drop i) (.returned (.slice (some ⟨w.heap.size, 0, none⟩) (es.length + 1) gc)) (W.drew.setRow w.heap.size c2.toArray)) := Lib.hid (by
    refine ⟨some ⟨w.heap.size, 0, none⟩, gc, by rw [ins_len es x i (by omega)], ⟨by rw [flatE_len], .inr ⟨w.heap.size, gc, _, rfl, hB, setRow_heap _ _ _ _ _ _ hg2, by rw [ins_len es x i (by omega)]; omega, by rw [hgcd]; exact grownCap_le_maxLen _ _ _ _ (by unfold maxLen; omega), by simpa using l2, ?_⟩⟩, ?_, .inr ⟨_, rfl, Nat.le_refl _⟩⟩
    · rw [ins_len es x i (by omega)]; simpa using hfin
    · refine ⟨by rw [hW]; rfl, by rw [hW]; rfl, by rw [hW]; rfl, by rw [hW]; simp [World.setRow], fun q hq hqg => ?_⟩
      have hqg' : q ≠ w.heap.size := by omega
      rw [setRow_other _ _ q _ hqg']
      show W.heap[q]? = _
      rw [hW, setRow_other _ _ q _ hqg']; exact heap_alloc_old w _ hq)
  have hw1 : IntKind.i64.wrap ((i : Int) + 1) = (i : Int) + 1 := by rw [IntKind.wrap_i64]; omega
  have htn : ((i : Int) + 1).toNat = i + 1 := by omega
  have hb0 : (0 : Int) ≤ (i : Int) + 1 := by omega
  have hb1 : ¬ (gc = i + 1) := by omega
  have hb2 : ¬ (gc = i) := by omega
  have hb2' : ¬ (es.length = i) := by omega
  have hb6 : i ≤ es.length := by omega
  have hb3 : ((i : Int) == (es.length : Int)) = false := by simp; omega
  have hb4 : (i : Int) + 1 ≤ (es.length : Int) + 1 := by omega
  have hb5 : (i : Int) ≤ (es.length : Int) + 1 := by omega
  have hw2 : IntKind.i64.wrap ((es.length : Int) + 1 - (i : Int)) = (es.length : Int) + 1 - (i : Int) := by rw [IntKind.wrap_i64]; omega
  generalize hN : es.length = N at *
  clear hW hN hx hbx hg hg1 hg2 hgo ht hc0 hc1 hc2 hs hd hcell l0 l1 l2 hfin hzs hzsl hgcd hty hii hzz hsz hby hzc hzl hx6
  go_enter Try.func31, Try.ntmps31
  go_wp2_with (at_builtin; refine Lib.wpList_append_run _ rfl _ _ _ _ rfl _ _ rfl rfl _ _ (hap _) ?_)
  go_region_law (fail)
  go_wp2_with fail
  go_ret
  exact HE.out
set_option maxRecDepth 100000 in
set_option maxHeartbeats 4000000 in
theorem Insert_end (B gx : Nat) (es : List E6) (x : E6) (v : Value) (w : World) (hlen : es.length ≤ 1099511627776) (hB : B ≤ w.heap.size) (hv : OwnE B w v es) (hx : Blk w gx x.cells) :
    Calls Try.prog 31 #[v, .int .i64 es.length, .slice (some ⟨gx, 0, none⟩) 1 1] w (InsPost B w v (es ++ [x])) := by
  obtain ⟨ii, z, hty, hii, hzz, hsz, hby, hzc, hzl⟩ := elemE
  obtain ⟨a, c, rfl⟩ := owns_shape hv
  have hap : ∀ ty, ∃ va vc w', (Builtin.append_ #[27, 27] ty #[.slice a es.length c, .slice (some ⟨gx, 0, none⟩) 1 1]).run Try.prog w = .ok (.slice va (es.length + 1) vc) w' ∧ InsPost B w (.slice a es.length c) (es ++ [x]) (.returned (.slice va (es.length + 1) vc)) w' := fun ty => by
    obtain ⟨v', w', h1, h2, h3, _, h5⟩ := run_append_own_at (P := Try.prog) w B 27 ty 37 ii z 6 56 hty hii hzz hsz hby (by rw [hzc]; rfl) (by decide) _ es.length (flatE es) hv ⟨gx, 0, none⟩ 1 1 x.cells rfl (news_blk hx) x.one (by unfold maxLen; omega) (by omega) hB
    obtain ⟨va, vc, rfl⟩ := owns_shape h2
    refine ⟨va, vc, w', h1, va, vc, by simp, ?_, h3, ?_⟩
    · show w'.ownsRow B 37 6 _ _ _
      rw [flatE_append, flatE_cons, List.length_append]
      simpa [flatE] using h2
    · rw [List.length_append]
      rcases h5 with h5 | h5
      · exact .inl h5
      · exact .inr ⟨_, h5, Nat.le_refl _⟩
  obtain ⟨va, vc, w', hr, hp⟩ := hap 27
  have HP := Lib.hid hp
  have hb3 : ((es.length : Int) == (es.length : Int)) = true := by simp
  generalize hN : es.length = N at *
  clear hN hap hp hv hx hty hii hzz hsz hby hzc hzl
  by_cases hcN : c = N
  case' pos => subst hcN
  all_goals
    go_enter Try.func31, Try.ntmps31
    go_wp2_with (at_builtin; refine Lib.wpList_append_run _ rfl _ _ _ _ rfl _ _ rfl rfl _ _ hr ?_)
    go_ret
    exact HP.out
theorem Insert_c (B gx i : Nat) (es : List E6) (x : E6) (v : Value) (w : World) (hlen : es.length ≤ 1099511627776) (hi : i ≤ es.length) (hB : B ≤ w.heap.size) (hv : OwnE B w v es) (hx : Blk w gx x.cells) (hne : v.ownBlock ≠ some gx) :
    Calls Try.prog 31 #[v, .int .i64 i, .slice (some ⟨gx, 0, none⟩) 1 1] w (InsPost B w v (es.take i ++ x :: es.drop i)) := by
  by_cases hin : i = es.length
  · subst hin
    have := Insert_end B gx es x v w hlen hB hv hx
    simpa using this
  · obtain ⟨g, cap, cur, rfl, hBg, hg, hnc, hm, hs, ht⟩ := hv.open (by omega)
    have hgx : gx ≠ g := fun e => hne (by simp [Value.ownBlock, e])
    by_cases hroom : es.length + 1 ≤ cap
    · exact Insert_shift B g cap gx i es x cur w hlen (by omega) hBg hg hroom hm hs ht hx hgx
    · obtain rfl : cap = es.length := by omega
      exact Insert_grow B g gx i es x cur w hlen (by omega) hB hg hs ht hx hgx
theorem del_cells (es : List E6) (i cap : Nat) (cur : List Value) (hi : i < es.length) (hcap : es.length ≤ cap) (hs : cur.length = cap * 6) (ht : cur.take (es.length * 6) = flatE es) :
    let c1 := cur.take (i * 6) ++ flatE (es.drop (i + 1)) ++ cur.drop (i * 6 + (flatE (es.drop (i + 1))).length)
    let c2 := c1.take ((es.length - 1) * 6) ++ (List.replicate 1 zE.cells).flatten ++ c1.drop ((es.length - 1) * 6 + 1 * zE.cells.length)
    c1.length = cap * 6 ∧ c2.length = cap * 6 ∧ c2.take ((es.length - 1) * 6) = flatE (es.take i ++ es.drop (i + 1)) := by
  have hd : (flatE (es.drop (i + 1))).length = (es.length - (i + 1)) * 6 := by rw [flatE_len, List.length_drop]
  have hti : cur.take (i * 6) = flatE (es.take i) := by
    rw [← flatE_take es i (by omega), ← ht, List.take_take, Nat.min_eq_left (by omega)]
  have htl : (flatE (es.take i)).length = i * 6 := by rw [flatE_len, List.length_take, Nat.min_eq_left (by omega)]
  have hz : (List.replicate 1 zE.cells).flatten.length = 6 := rfl
  have hz2 : zE.cells.length = 6 := rfl
  simp only [hd, hti, hz2]
  have l1 : (flatE (es.take i) ++ flatE (es.drop (i + 1)) ++ cur.drop (i * 6 + (es.length - (i + 1)) * 6)).length = cap * 6 := by
    simp only [List.length_append, htl, hd, List.length_drop, hs]; omega
  have e1 : (flatE (es.take i) ++ flatE (es.drop (i + 1)) ++ cur.drop (i * 6 + (es.length - (i + 1)) * 6)).take ((es.length - 1) * 6) = flatE (es.take i) ++ flatE (es.drop (i + 1)) := List.take_left' (by rw [List.length_append, htl, hd]; omega)
  refine ⟨l1, ?_, ?_⟩
  · rw [List.length_append, List.length_append, List.length_take, List.length_drop, l1, hz]; omega
  · rw [e1, flatE_append, List.append_assoc]
    exact List.take_left' (by rw [List.length_append, htl, hd]; omega)
set_option maxRecDepth 100000 in
set_option maxHeartbeats 4000000 in
theorem Delete_c (B i : Nat) (es : List E6) (v : Value) (w : World) (hlen : es.length ≤ 1099511627776) (hi : i < es.length) (hv : OwnE B w v es) :
    Calls Try.prog 38 #[v, .int .i64 i, .int .i64 ((i : Int) + 1)] w (InsPost B w v (es.take i ++ es.drop (i + 1))) := by
  obtain ⟨g, cap, cur, rfl, hBg, hg, hnc, hm, hs, ht⟩ := hv.open (by omega)
  obtain ⟨c1, hc1⟩ : ∃ c1, c1 = cur.toList.take (i * 6) ++ flatE (es.drop (i + 1)) ++ cur.toList.drop (i * 6 + (flatE (es.drop (i + 1))).length) := ⟨_, rfl⟩
  obtain ⟨c2, hc2⟩ : ∃ c2, c2 = c1.take ((es.length - 1) * 6) ++ (List.replicate 1 zE.cells).flatten ++ c1.drop ((es.length - 1) * 6 + 1 * zE.cells.length) := ⟨_, rfl⟩
  have hcl := del_cells es i cap cur.toList hi hnc (by simpa using hs) ht
  simp only [← hc1, ← hc2] at hcl
  obtain ⟨l1, l2, hfin⟩ := hcl
  obtain ⟨ii, z, hty, hii, hzz, hsz, hby, hzc, hzl⟩ := elemE
  have hd : (flatE (es.drop (i + 1))).length = (es.length - (i + 1)) * 6 := by rw [flatE_len, List.length_drop]
  have hgd : w.drew.heap[g]? = some (.cells cur 37 (0, 0)) := hg
  have hap : ∀ ty ad sc, (0 < es.length - (i + 1) → ad = ⟨g, (i + 1) * 6, none⟩) → (Builtin.append_ #[27, 27] ty #[.slice (some ⟨g, 0, none⟩) i cap, .slice (some ad) (es.length - (i + 1)) sc]).run Try.prog w.drew = .ok (.slice (some ⟨g, 0, none⟩) (es.length - 1) cap) (w.drew.setRow g c1.toArray) := fun ty ad sc had => by
    have h := run_append_room (P := Try.prog) w.drew 27 ty 37 ii hty hii g i cap cur hgd ad (es.length - (i + 1)) sc (flatE (es.drop (i + 1))) (by rw [hd, hsz])
      (fun j v hj => by
        have hjl := (List.getElem?_eq_some_iff.1 hj).1
        rw [hd] at hjl
        rw [had (by omega), addr_add]
        rw [← flatE_drop es (i + 1) (by omega), List.getElem?_drop, ← ht, List.getElem?_take_of_lt (by omega)] at hj
        unfold World.cell?
        simp only [hgd]
        simpa using hj) (flatE_one _) (by omega) (by rw [hsz, hd, hs]; omega)
    rw [h, hsz, hc1, show i + (es.length - (i + 1)) = es.length - 1 by omega]
  have hg1 : (w.drew.setRow g c1.toArray).heap[g]? = some (.cells c1.toArray 37 (0, 0)) := setRow_heap _ g cur _ _ _ hgd
  have hclr : ∀ ty sc, (Builtin.clear_ #[27] ty #[.slice (some ⟨g, (es.length - 1) * 6, none⟩) 1 sc]).run Try.prog (w.drew.setRow g c1.toArray) = .ok (.tuple #[]) ((w.drew.setRow g c1.toArray).setRow g c2.toArray) := fun ty sc => by
    have h := run_clearK (P := Try.prog) (w.drew.setRow g c1.toArray) 27 37 ty z zE.cells hty (fun w => by simp [zeroValue, typeInfo, hii, hzz]) hzc (by decide) zE.one g ((es.length - 1) * 6) 1 sc c1.toArray _ hg1 (by decide) (by show _ + 1 * 6 ≤ _; simp only [List.size_toArray, l1]; omega)
    rw [h, hc2]
  have hln : (es.take i ++ es.drop (i + 1)).length = es.length - 1 := by simp; omega
  have HE : Hid (InsPost B w (.slice (some ⟨g, 0, none⟩) es.length cap) (es.take i ++ es.drop (i + 1)) (.returned (.slice (some ⟨g, 0, none⟩) (es.length - 1) cap)) ((w.drew.setRow g c1.toArray).setRow g c2.toArray)) := Lib.hid (by
    refine ⟨some ⟨g, 0, none⟩, cap, by rw [hln], ⟨by rw [flatE_len], .inr ⟨g, cap, _, rfl, hBg, setRow_heap _ g _ _ _ _ hg1, by rw [hln]; omega, hm, by simpa using l2, ?_⟩⟩, ?_, .inl rfl⟩
    · rw [hln]; simpa using hfin
    · refine ⟨rfl, rfl, rfl, by simp [World.setRow], fun q hq hqg => ?_⟩
      have hqg' : q ≠ g := fun e => hqg (by simp [Value.ownBlock, e])
      rw [setRow_other _ g q _ hqg', setRow_other _ g q _ hqg']; rfl)
  have mx : maxLen = 9223372036854775807 := by decide
  rw [mx] at hm
  have hb0 : (0 : Int) ≤ (i : Int) + 1 := by omega
  have htn : ((i : Int) + 1).toNat = i + 1 := by omega
  have hb1 : (i : Int) ≤ (i : Int) + 1 := by omega
  have hb2 : (i : Int) + 1 ≤ (es.length : Int) := by omega
  have hb3 : ((i : Int) == (i : Int) + 1) = false := by simp; omega
  have hb4 : i ≤ es.length := by omega
  have hb5 : (es.length : Int) ≤ (cap : Int) := by omega
  have hb6 : i + 1 ≤ es.length := by omega
  have hb7 : ¬ (cap = es.length - 1) := by omega
  have hb8 : es.length - 1 ≤ es.length := by omega
  have hb9 : es.length - (es.length - 1) = 1 := by omega
  have hlc : ((es.length - 1 : Nat) : Int) = (es.length : Int) - 1 := by omega
  generalize hN : es.length = N at *
  clear hN hg hgd hg1 ht hc1 hc2 hs hd l1 l2 hfin hty hii hzz hsz hby hzc hzl hln hv mx
  by_cases hcap : cap = i + 1
  case' pos =>
    obtain rfl : N = i + 1 := by omega
    subst hcap
    have had := fun ty sc => hap ty ⟨g, 0, none⟩ sc (fun h => by omega)
    simp only [Nat.add_sub_cancel, Nat.sub_self] at had hclr HE
    clear hb2 hb4 hb5 hb6 hb7 hb8 hb9 hlc hnc hlen
    have hb4 : i ≤ i + 1 := by omega
    have hb7 : ¬ (i + 1 = i) := by omega
  case' neg =>
    have had := fun ty sc => hap ty ⟨g, (i + 1) * 6, none⟩ sc (fun _ => rfl)
    have hb10 : i ≤ cap := by omega
  all_goals
    clear hap
    go_enter Try.func38, Try.ntmps38
    go_wp2_with fail
    go_region_law (refine step_appR rfl _ _ _ _ rfl _ _ rfl rfl (had _ _) ?_)
  all_goals
    go_wp2_with fail
    go_ret
    exact HE.out
end Go.Proofs.Ythbjkkfpahhfiaa
