
/- Contracts of the reference's drum: padded, New, Write, Sync. -/
import Derived.Test.YtlllbacjdjllbaaDoorRd1
import Derived.Test.YtlllbacjdjllbaaDoorMin5
namespace Go.Proofs.YtlllbacjdjllbaaDoor
open Go Go.Proofs Go.Shelf Go.RowKit Go.Great
set_option linter.unusedVariables false
set_option linter.unusedSimpArgs false
abbrev R_RRw5_0 : Oper := { dst := some 28, op := Op.move (Operand.tmp 0), type := 45, pos := "drum.go:65", after := #[], guard := none }
abbrev R_RRw5_1 : Oper := { dst := some 29, op := Op.nilCheck (Operand.tmp 28), type := 0, pos := "drum.go:65", after := #[{ on := 0, ground := Ground.data }], guard := none }
abbrev R_RRw5_2 : Oper := { dst := some 30, op := Op.fieldAddr 84 (Operand.tmp 29) 1, type := 0, pos := "drum.go:65", after := #[{ on := 1, ground := Ground.data }], guard := none }
abbrev R_RRw5_3 : Oper := { dst := some 31, op := Op.load 81 (Operand.tmp 30), type := 81, pos := "drum.go:65", after := #[{ on := 2, ground := Ground.data }], guard := none }
abbrev R_RRw5_4 : Oper := { dst := some 32, op := Op.move (Operand.tmp 1), type := 3, pos := "drum.go:65", after := #[], guard := none }
abbrev R_RRw5_5 : Oper := { dst := some 33, op := Op.move (Operand.tmp 2), type := 30, pos := "drum.go:65", after := #[], guard := none }
abbrev R_RRw5_6 : Oper := { dst := some 34, op := Op.call { callee := Callee.value (Operand.func 42), args := #[Operand.tmp 33], argTypes := #[30] }, type := 9, pos := "drum.go:65", after := #[{ on := 5, ground := Ground.data }], guard := none }
abbrev R_RRw5_7 : Oper := { dst := some 35, op := Op.indexAddr 81 (Operand.tmp 31) (Operand.tmp 32), type := 0, pos := "drum.go:65", after := #[{ on := 3, ground := Ground.data }, { on := 4, ground := Ground.data }, { on := 0, ground := Ground.phase }, { on := 1, ground := Ground.phase }, { on := 2, ground := Ground.phase }, { on := 3, ground := Ground.phase }, { on := 4, ground := Ground.phase }, { on := 5, ground := Ground.phase }, { on := 6, ground := Ground.phase }], guard := none }
abbrev R_RRw5_8 : Oper := { dst := none, op := Op.store 9 (Operand.tmp 35) (Operand.tmp 34), type := 0, pos := "drum.go:65", after := #[{ on := 7, ground := Ground.data }, { on := 6, ground := Ground.data }, { on := 6, ground := Ground.chain }, { on := 0, ground := Ground.phase }, { on := 1, ground := Ground.phase }, { on := 2, ground := Ground.phase }, { on := 3, ground := Ground.phase }, { on := 4, ground := Ground.phase }, { on := 5, ground := Ground.phase }, { on := 6, ground := Ground.phase }], guard := none }
abbrev R_RRw6_0 : Oper := { dst := some 36, op := Op.move (Operand.tmp 0), type := 45, pos := "drum.go:66", after := #[], guard := none }
abbrev R_RRw6_1 : Oper := { dst := some 37, op := Op.move (Operand.tmp 0), type := 45, pos := "drum.go:66", after := #[], guard := none }
abbrev R_RRw6_10 : Oper := { dst := some 46, op := Op.move (Operand.tmp 1), type := 3, pos := "drum.go:66", after := #[], guard := none }
abbrev R_RRw6_11 : Oper := { dst := some 47, op := Op.indexAddr 81 (Operand.tmp 45) (Operand.tmp 46), type := 0, pos := "drum.go:66", after := #[{ on := 9, ground := Ground.data }, { on := 10, ground := Ground.data }], guard := none }
abbrev R_RRw6_12 : Oper := { dst := some 48, op := Op.load 9 (Operand.tmp 47), type := 9, pos := "drum.go:66", after := #[{ on := 11, ground := Ground.data }], guard := none }
abbrev R_RRw6_13 : Oper := { dst := some 49, op := Op.build 92 #[(0, Operand.tmp 41), (1, Operand.tmp 48)], type := 92, pos := "drum.go:66", after := #[{ on := 5, ground := Ground.data }, { on := 12, ground := Ground.data }], guard := none }
abbrev R_RRw6_14 : Oper := { dst := some 50, op := Op.buildSlice 82 1 #[(0, Operand.tmp 49)], type := 82, pos := "drum.go:66", after := #[{ on := 13, ground := Ground.data }], guard := none }
abbrev R_RRw6_15 : Oper := { dst := some 51, op := Op.call { callee := Callee.builtin Builtin.append, args := #[Operand.tmp 40, Operand.tmp 50], argTypes := #[82, 82] }, type := 82, pos := "drum.go:66", after := #[{ on := 4, ground := Ground.data }, { on := 14, ground := Ground.data }], guard := none }
abbrev R_RRw6_16 : Oper := { dst := some 52, op := Op.nilCheck (Operand.tmp 36), type := 0, pos := "drum.go:66", after := #[{ on := 0, ground := Ground.data }, { on := 0, ground := Ground.phase }, { on := 1, ground := Ground.phase }, { on := 2, ground := Ground.phase }, { on := 3, ground := Ground.phase }, { on := 4, ground := Ground.phase }, { on := 5, ground := Ground.phase }, { on := 6, ground := Ground.phase }, { on := 7, ground := Ground.phase }, { on := 8, ground := Ground.phase }, { on := 9, ground := Ground.phase }, { on := 10, ground := Ground.phase }, { on := 11, ground := Ground.phase }, { on := 12, ground := Ground.phase }, { on := 13, ground := Ground.phase }, { on := 14, ground := Ground.phase }, { on := 15, ground := Ground.phase }], guard := none }
abbrev R_RRw6_17 : Oper := { dst := some 53, op := Op.fieldAddr 84 (Operand.tmp 52) 2, type := 0, pos := "drum.go:66", after := #[{ on := 16, ground := Ground.data }, { on := 0, ground := Ground.phase }, { on := 1, ground := Ground.phase }, { on := 2, ground := Ground.phase }, { on := 3, ground := Ground.phase }, { on := 4, ground := Ground.phase }, { on := 5, ground := Ground.phase }, { on := 6, ground := Ground.phase }, { on := 7, ground := Ground.phase }, { on := 8, ground := Ground.phase }, { on := 9, ground := Ground.phase }, { on := 10, ground := Ground.phase }, { on := 11, ground := Ground.phase }, { on := 12, ground := Ground.phase }, { on := 13, ground := Ground.phase }, { on := 14, ground := Ground.phase }, { on := 15, ground := Ground.phase }], guard := none }
abbrev R_RRw6_2 : Oper := { dst := some 38, op := Op.nilCheck (Operand.tmp 37), type := 0, pos := "drum.go:66", after := #[{ on := 1, ground := Ground.data }], guard := none }
abbrev R_RRw6_3 : Oper := { dst := some 39, op := Op.fieldAddr 84 (Operand.tmp 38) 2, type := 0, pos := "drum.go:66", after := #[{ on := 2, ground := Ground.data }], guard := none }
abbrev R_RRw6_4 : Oper := { dst := some 40, op := Op.load 82 (Operand.tmp 39), type := 82, pos := "drum.go:66", after := #[{ on := 3, ground := Ground.data }], guard := none }
abbrev R_RRw6_5 : Oper := { dst := some 41, op := Op.move (Operand.tmp 1), type := 3, pos := "drum.go:66", after := #[], guard := none }
abbrev R_RRw6_6 : Oper := { dst := some 42, op := Op.move (Operand.tmp 0), type := 45, pos := "drum.go:66", after := #[], guard := none }
abbrev R_RRw6_7 : Oper := { dst := some 43, op := Op.nilCheck (Operand.tmp 42), type := 0, pos := "drum.go:66", after := #[{ on := 6, ground := Ground.data }], guard := none }
abbrev R_RRw6_8 : Oper := { dst := some 44, op := Op.fieldAddr 84 (Operand.tmp 43) 1, type := 0, pos := "drum.go:66", after := #[{ on := 7, ground := Ground.data }], guard := none }
abbrev R_RRw6_9 : Oper := { dst := some 45, op := Op.load 81 (Operand.tmp 44), type := 81, pos := "drum.go:66", after := #[{ on := 8, ground := Ground.data }], guard := none }

theorem padCells (p : List UInt8) (h : p.length ≤ 64) : (bytesV zero64).take 0 ++ bytesV p ++ (bytesV zero64).drop (0 + (bytesV p).length) = bytesV (pad p) := by
  unfold pad zero64
  rw [List.take_zero, List.nil_append, bytesV_append, bytesV_length, Nat.zero_add]
  congr 1
  unfold bytesV
  rw [← List.map_drop, List.drop_replicate]
set_option maxRecDepth 20000 in
theorem run_copyR (w : World) (ty : TypeId) (g : Nat) (p : List UInt8) (b : Option Addr) (c : Nat) (hp : RowAt w (.slice b p.length c) (bytesV p)) (hl : p.length ≤ 64) (hg : BlkT w g (bytesV zero64) 5) :
    (Builtin.copy_ #[30, 30] ty #[.slice (some ⟨g, 0, none⟩) 64 64, .slice b p.length c]).run Tryd.prog w = .ok (goInt p.length) (w.setRow g (bytesV (pad p)).toArray) := by
  rcases hp.2 with ⟨h1, h2⟩ | ⟨ad, c', h1, h2, h3⟩
  · have hp0 : p = [] := by
      have := congrArg List.length h2
      rw [bytesV_length] at this
      exact List.eq_nil_of_length_eq_zero this
    subst hp0
    injection h1 with e1 e2 e3
    subst e1; subst e3
    rw [show ([] : List UInt8).length = 0 from rfl, pad_nil]
    have e : w.setRow g (bytesV zero64).toArray = w := setRow_self w g _ 5 (0, 0) hg
    rw [e]
    have hu := uint8Info
    exact Go.run_copy_nil Tryd.prog w 30 30 ty 5 ⟨g, 0, none⟩ 64 64 Tryd.underlying30 (by cases hq : Tryd.prog.info? 5 with | none => rw [hq] at hu; simp at hu | some i => rfl)
  · injection h1 with e1 e2 e3
    subst e1
    have hr := run_copyK (P := Tryd.prog) w 30 ty 5 1 g 0 64 64 ad p.length c (bytesV zero64).toArray 5 (bytesV p) Tryd.underlying30 uint8Info hg (by rw [bytesV_length, show Nat.min p.length 64 = p.length from Nat.min_eq_left hl]; omega)
      (fun j u hu => by
        obtain ⟨hj, hu⟩ := List.getElem?_eq_some_iff.1 hu
        rw [h3 j hj, hu]) (by simp [bytesV_length, zero64]; omega) (bytesV_one p)
    rw [hr, show Nat.min p.length 64 = p.length from Nat.min_eq_left hl]
    have := padCells p hl
    rw [← this]
set_option maxRecDepth 20000 in
set_option maxHeartbeats 2000000 in
theorem padded_c (w : World) (p : List UInt8) (vp : Value) (hp : RowAt w vp (bytesV p)) (hl : p.length ≤ 64) : Calls Tryd.prog 42 #[vp] w fun e w' => e = .returned (.string ⟨(pad p).toArray⟩) ∧ Below w.heap.size w w' := by
  obtain ⟨b, c, rfl⟩ := hp.shapeB
  have HM : ∀ W : World, (Instr.makeSlice 30 (.int .i64 64) (.int .i64 64)).run Tryd.prog W = .ok (.slice (some ⟨W.heap.size, 0, none⟩) 64 64) (W.alloc (.cells (bytesV zero64).toArray 5)) := fun W => by
    have q := make_rowK elemBK .i64 .i64 64 (by decide) (by decide) W
    rw [Nat.mul_one] at q
    have m := madeB 64
    rw [show ([Value.int .u8 0] : List Value).toArray = #[.int .u8 0] from rfl, m] at q
    exact q
  have HP := Lib.hid (hp.below ((Below.refl _ w).alloc (Nat.le_refl _) (.cells (bytesV zero64).toArray 5)))
  have HB := Lib.hid ((Below.refl _ w).alloc (Nat.le_refl _) (.cells (bytesV zero64).toArray 5))
  have HG := Lib.hid (BlkT.new w (bytesV zero64) 5)
  have HC := fun ty => run_copyR (w.alloc (.cells (bytesV zero64).toArray 5)) ty w.heap.size p b c HP.out hl HG.out
  have hq : BlkT ((w.alloc (.cells (bytesV zero64).toArray 5)).setRow w.heap.size (bytesV (pad p)).toArray) w.heap.size (bytesV (pad p)) 5 := HG.out.setRow (bytesV (pad p))
  have hpl := pad_len hl
  have hr := rowOfBlk hq (by rw [hpl]; decide)
  rw [hpl] at hr
  have hs := hr.toStr 30 9 5 Tryd.underlying30 Tryd.underlying5 Tryd.underlying9
  have HZ : Hid (Below w.heap.size w ((w.alloc (.cells (bytesV zero64).toArray 5)).setRow w.heap.size (bytesV (pad p)).toArray)) := Lib.hid (by
    have hgr : (w.alloc (.cells (bytesV zero64).toArray 5)).grownBy ((w.alloc (.cells (bytesV zero64).toArray 5)).setRow w.heap.size (bytesV (pad p)).toArray) (some w.heap.size) := ⟨rfl, rfl, rfl, by simp, fun q _ hq => setRow_other _ _ q _ (fun e => hq (by rw [e]))⟩
    exact HB.out.grown hgr HB.out.size (fun j hj => by cases hj; exact Nat.le_refl _))
  clear hp hq hr hpl
  go_enter Tryd.func42, Tryd.ntmps42
  go_wp2_with fail
  go_ret
  exact ⟨rfl, HZ.out⟩
/-- a call on the reference's drum; its rows may lie elsewhere behind it. -/
def RDGo (lo X : Nat) (w : World) (r : Value) (d : PD) (e : Ending) (w' : World) : Prop := ∃ ov sv wv left, e = .returned r ∧ RDAt lo w' X ov sv wv d left ∧ ChR lo w w'
theorem elemS1 : Elem1 81 9 16 := elem1_of (z := .string ⟨#[]⟩) Tryd.underlying81 (by kernel_rfl) rfl
theorem strs_one (l : List UInt8) (n : Nat) : ∀ u ∈ strsOf l n, u.oneCell' = true := by
  intro u hu
  unfold strsOf at hu
  obtain ⟨i, _, rfl⟩ := List.mem_map.1 hu
  rfl
section
variable {lo X : Nat} {ov sv wv : Value} {d : PD} {left : Int} {w : World}
theorem RDAt.synced (h : RDAt lo w X ov sv wv d left) {nv : Value} (ho : w.ownsRow lo tStr 1 nv d.n (strsOf d.now d.n)) (hne : nv.ownBlock = none ∨ nv.ownBlock ≠ sv.ownBlock) :
    RDAt lo ((w.setCell ⟨X, 0, none⟩ nv).setCell ⟨X, 2, none⟩ (.slice none 0 0)) X nv sv (.slice none 0 0) { d with good := d.now, wait := [] } left ∧ ChR lo w ((w.setCell ⟨X, 0, none⟩ nv).setCell ⟨X, 2, none⟩ (.slice none 0 0)) := by
  obtain ⟨h1, h2, h3, h4, h5⟩ := h.cells 0 nv
  have ho1 := Go.ownsRow_setCell_other (a := (⟨X, 0, none⟩ : Addr)) ho (h.blk.apartO ho (by decide)) nv
  have ho2 := Go.ownsRow_setCell_other (a := (⟨X, 2, none⟩ : Addr)) ho1 (h1.apartO ho1 (by decide)) (.slice none 0 0)
  have hs2 := Go.ownsRow_setCell_other (a := (⟨X, 2, none⟩ : Addr)) h3 (h1.apartO h3 (by decide)) (.slice none 0 0)
  exact ⟨⟨h1.set 2 _, ho2, hs2, World.ownsRow_nil _ _ _ _, hne, h.ge, ⟨h.ok.n, h.ok.now, h.ok.now, by simp, h.ok.fuse⟩, h.left⟩, h5.grown (grownBy_set _ X 2 _) h.ge ⟨_, _, _, h1, .inl rfl⟩⟩
set_option maxRecDepth 20000 in
set_option maxHeartbeats 4000000 in
theorem RSync_c (h : RDAt lo w X ov sv wv d left) : Calls Tryd.prog 68 #[.pointer (some ⟨X, 0, none⟩)] w (RDGo lo X w (.int .i64 (syncP d).1) (syncP d).2) := by
  have HAL := Lib.hid (alive_c h)
  have HS : Hid (syncP d = if (livesP d).1 = true then (0, { (livesP d).2 with good := (livesP d).2.now, wait := [] }) else (9, (livesP d).2)) := Lib.hid rfl
  rw [HS.out]
  obtain ⟨sa, sc, hsv⟩ := owns_shape h.s
  have hn := (lives_same d).1
  clear h HS
  generalize livesP d = pl at *
  obtain ⟨bl, d1⟩ := pl
  dsimp only at hn
  rw [← hn] at hsv
  subst hsv
  clear hn
  cases bl
  · simp only [Bool.false_eq_true, if_false]
    go_enter Tryd.func68, Tryd.ntmps68
    go_wp2_with (first | (go_at_call 49; (with_reducible refine HAL.out.mono ?_); rintro e wz ⟨l1, rfl, hd, hc⟩; have HD := Lib.hid hd; have HC := Lib.hid hc; clear hd hc) | fail)
    go_ret
    exact ⟨_, _, _, _, rfl, HD.out, HC.out⟩
  · simp only [if_true]
    go_enter Tryd.func68, Tryd.ntmps68
    go_wp2_with (first | (go_at_call 49; (with_reducible refine HAL.out.mono ?_); rintro e wz ⟨l1, rfl, hd, hc⟩; have HD := Lib.hid hd; have HC := Lib.hid hc; have c1 := fun o => (hd.blk.below ((Below.refl _ wz).alloc (Nat.le_refl _) o)).blk.cell 1 _ rfl; clear hd hc) | (at_builtin; refine wp_app0 elemS1 rfl _ _ rfl wz.heap.size _ rfl (owns_empty wz _) (.slice sa d1.n sc) (strsOf d1.now d1.n) d1.n (strs_len _ _) rfl ((RowAt.ofOwns HD.out.s).below ((Below.refl _ wz).alloc (Nat.le_refl _) _)) (strs_one _ _) (by have := HD.out.ok.n; omega) (by have := HD.out.ok.n; omega) (by simp) ?_; intro va5 vc5 w5 hown5 hb5; have HO5 := Lib.hid hown5; have HB5 := Lib.hid (((Below.refl _ wz).alloc (Nat.le_refl _) (.cells #[] 9)).trans hb5); have H5 := Lib.hid (HD.out.below HB5.out); have e0 := H5.out.blk.blk.cell 0 _ rfl; have e2 := H5.out.blk.blk.cell 2 _ rfl; have f0 := H5.out.blk.blk.thaw 0; have f2 := H5.out.blk.blk.thaw 2; clear hown5 hb5) | fail)
    go_ret
    have hlo : lo ≤ wz.heap.size := by have := HD.out.blk.lt; have := HD.out.ge; omega
    have q := H5.out.synced (own_mono HO5.out hlo) (by
      rcases hv : (Value.slice va5 d1.n vc5).ownBlock with _ | g
      · exact .inl rfl
      · right
        intro e
        have h1 := (HO5.out.lt g hv).1
        have h2 := (HD.out.s.lt g (by rw [← e])).2
        omega)
    exact ⟨_, _, _, _, rfl, q.1, (HC.out.trans (ChR.ofBelow HB5.out)).trans q.2⟩
theorem own_setAt {W : World} {lo e n g c i : Nat} {xs : List Value} (h : W.ownsRow lo e 1 (.slice (some ⟨g, 0, none⟩) n c) n xs) (hi : i < n) (u : Value) : (W.setCell ⟨g, i, none⟩ u).ownsRow lo e 1 (.slice (some ⟨g, 0, none⟩) n c) n (xs.set i u) := by
  refine ⟨by rw [List.length_set]; exact h.1, ?_⟩
  rcases h.2 with ⟨h', _⟩ | ⟨g', cap, cur, hv, hB, hg, hc, hm, hs, ht⟩
  · cases h'
  · injection hv with e1 _ e3
    injection e1 with e1
    injection e1 with e1 _ _
    subst e1 e3
    have hb : BlkT W g cur.toList e := by unfold BlkT; simpa using hg
    have hb2 := hb.set i u
    refine .inr ⟨g, c, (cur.toList.set i u).toArray, rfl, hB, ?_, hc, hm, by simpa using hs, ?_⟩
    · unfold BlkT at hb2; exact hb2
    · rw [← ht]
      show (cur.toList.set i u).take (n * 1) = _
      rw [List.take_set]
theorem own_some {W : World} {lo e n : Nat} {a : Option Addr} {c : Nat} {xs : List Value} (h : W.ownsRow lo e 1 (.slice a n c) n xs) (hn : 0 < n) : ∃ g, a = some ⟨g, 0, none⟩ ∧ lo ≤ g ∧ ∃ cs, BlkT W g cs e := by
  rcases h.2 with ⟨h', h0⟩ | ⟨g', cap, cur, hv, hB, hg, _⟩
  · omega
  · injection hv with e1 _ _
    exact ⟨g', e1, hB, cur.toList, by unfold BlkT; simpa using hg⟩
theorem own_cell {W : World} {lo e n g c i : Nat} {xs : List Value} (h : W.ownsRow lo e 1 (.slice (some ⟨g, 0, none⟩) n c) n xs) (hi : i < n) : W.cell? ⟨g, i, none⟩ = some (xs[i]'(by have := h.1; omega)) := by
  obtain ⟨B, o, e, _, hx⟩ := (RowAt.ofOwns h).cellAt i (by have := h.1; omega)
  simp only [Option.some.injEq, Addr.mk.injEq] at e
  obtain ⟨rfl, rfl, _⟩ := e
  rw [Nat.zero_add] at hx
  exact hx
theorem own_thaw {W : World} {lo e n g c i : Nat} {xs : List Value} (h : W.ownsRow lo e 1 (.slice (some ⟨g, 0, none⟩) n c) n xs) (hi : i < n) : W.frozen? ⟨g, i, none⟩ = false := by
  obtain ⟨g', e, _, cs, hb⟩ := own_some h (by omega)
  injection e with e
  injection e with e _ _
  subst e
  exact hb.blk.thaw i
theorem strs_upd {l q : List UInt8} {n k : Nat} (hl : l.length = 64 * n) (hk : k < n) (hq : q.length = 64) : strsOf (upd l k q) n = (strsOf l n).set k (strV q) := by
  apply List.ext_getElem?
  intro j
  by_cases hj : j < n
  · rw [strs_get hj, List.getElem?_set]
    by_cases hkj : k = j
    · subst hkj
      rw [if_pos rfl, if_pos (by rw [strs_len]; exact hk), sec_upd_same hl hk hq]
    · rw [if_neg hkj, strs_get hj, sec_upd_other hl hk hj hq (fun e => hkj e.symm)]
  · rw [List.getElem?_eq_none (by rw [strs_len]; omega), List.getElem?_eq_none (by rw [List.length_set, strs_len]; omega)]
/-- a sector is written. -/
theorem RDAt.wrote {g c : Nat} (h : RDAt lo w X ov (.slice (some ⟨g, 0, none⟩) d.n c) wv d left) {k : Nat} (hk : k < d.n) {q : List UInt8} (hq : q.length = 64) :
    RDAt lo (w.setCell ⟨g, k, none⟩ (strV q)) X ov (.slice (some ⟨g, 0, none⟩) d.n c) wv { d with now := upd d.now k q } left ∧ ChR lo w (w.setCell ⟨g, k, none⟩ (strV q)) := by
  obtain ⟨g', e, hg, cs, hb⟩ := own_some h.s (by omega)
  injection e with e
  injection e with e _ _
  subst e
  have hne : ov.ownBlock ≠ some g := by
    rcases h.ne with h' | h'
    · rw [h']; simp
    · exact h'
  refine ⟨⟨h.blk.other (fun e => (h.blk.apart hb (by decide)) e) k _, Go.ownsRow_setCell_other (a := (⟨g, k, none⟩ : Addr)) h.old hne _, ?_, Go.ownsRow_setCell_other (a := (⟨g, k, none⟩ : Addr)) h.w (hb.apartO h.w (by decide)) _, h.ne, h.ge, ⟨h.ok.n, h.ok.good, upd_len h.ok.now hk hq, h.ok.wait, h.ok.fuse⟩, h.left⟩, (ChR.refl lo w).grown (grownBy_set w g k _) hg ⟨_, _, _, hb, .inr (.inl rfl)⟩⟩
  show (w.setCell ⟨g, k, none⟩ (strV q)).ownsRow lo tStr 1 _ d.n (strsOf (upd d.now k q) d.n)
  rw [strs_upd h.ok.now hk hq]
  exact own_setAt h.s hk _
theorem own_keptT {W W' : World} {B B' e e' k k' n n' : Nat} {v u : Value} {xs xs' : List Value} (h : W.ownsRow B e k v n xs) (h' : W.ownsRow B' e' k' u n' xs') (hne : e ≠ e') (hg : W.grownBy W' u.ownBlock) : W'.ownsRow B e k v n xs := by
  have ha := owns_apart h h' hne
  refine ⟨h.1, ?_⟩
  rcases h.2 with h0 | ⟨g, cap, cur, rfl, hB, hh, rest⟩
  · exact .inl h0
  · refine .inr ⟨g, cap, cur, rfl, hB, ?_, rest⟩
    rcases ha with ha | ha
    · cases ha
    · exact (hg.block g (Array.getElem?_eq_some_iff.1 hh).1 (fun e => ha (by rw [← e]; rfl))).trans hh
theorem ChR.row {lo0 n k : Nat} {W W' : World} {u : Value} {xs : List Value} (h : W.ownsRow lo0 tRw k u n xs) (hg : W.grownBy W' u.ownBlock) : ChR lo0 W W' := by
  rcases hu : u.ownBlock with _ | g
  · rw [hu] at hg
    exact ⟨hg.os, hg.tape, hg.output, hg.size, fun i hi _ => hg.block i hi (by simp)⟩
  · rw [hu] at hg
    refine (ChR.refl lo0 W).grown hg (h.lt g hu).1 ?_
    rcases h.2 with ⟨rfl, _⟩ | ⟨g', cap, cur, rfl, _, hh, _⟩
    · cases hu
    · injection hu with hu
      have hu' : g' = g := hu
      subst hu'
      exact ⟨_, _, _, hh, .inr (.inr rfl)⟩
/-- a write waits. -/
theorem RDAt.waits {W' : World} (h : RDAt lo w X ov sv wv d left) (hg : w.grownBy W' wv.ownBlock) {nv : Value} {x : Int × List UInt8} (hw : W'.ownsRow lo tRw 2 nv (d.wait.length + 1) (d.wait.flatMap rcell ++ rcell x)) (hx : x.2.length = 64 ∧ 0 ≤ x.1 ∧ x.1 < d.n) :
    (W'.cell? ⟨X, 2, none⟩ = some wv ∧ W'.frozen? ⟨X, 2, none⟩ = false) ∧ RDAt lo (W'.setCell ⟨X, 2, none⟩ nv) X ov sv nv { d with wait := d.wait ++ [x] } left ∧ ChR lo w (W'.setCell ⟨X, 2, none⟩ nv) := by
  have hb := blk_grown h.blk hg (h.blk.apartO h.w (by decide))
  have ho := own_keptT h.old h.w (by decide) hg
  have hs := own_keptT h.s h.w (by decide) hg
  refine ⟨⟨hb.blk.cell 2 _ rfl, hb.blk.thaw 2⟩, ⟨hb.set 2 nv, Go.ownsRow_setCell_other (a := (⟨X, 2, none⟩ : Addr)) ho (hb.apartO ho (by decide)) nv, Go.ownsRow_setCell_other (a := (⟨X, 2, none⟩ : Addr)) hs (hb.apartO hs (by decide)) nv, ?_, h.ne, h.ge, ⟨h.ok.n, h.ok.good, h.ok.now, fun y hy => ?_, h.ok.fuse⟩, h.left⟩, (ChR.row h.w hg).grown (grownBy_set W' X 2 nv) h.ge ⟨_, _, _, hb, .inl rfl⟩⟩
  · have q := Go.ownsRow_setCell_other (a := (⟨X, 2, none⟩ : Addr)) hw (hb.apartO hw (by decide)) nv
    show (W'.setCell ⟨X, 2, none⟩ nv).ownsRow lo tRw 2 nv (d.wait ++ [x]).length ((d.wait ++ [x]).flatMap rcell)
    rw [List.length_append, List.length_singleton, List.flatMap_append, List.flatMap_singleton]
    exact q
  · rcases List.mem_append.1 hy with hy | hy
    · exact h.ok.wait y hy
    · rw [List.mem_singleton.1 hy]; exact hx
theorem elemRw : ElemK 82 92 2 24 [.int .i64 0, .string ⟨#[]⟩] := elemK_of (z := .agg #[.int .i64 0, .string ⟨#[]⟩]) Tryd.underlying82 (by kernel_rfl) rfl rfl
set_option maxRecDepth 20000 in
set_option maxHeartbeats 4000000 in
theorem RWrite_c (h : RDAt lo w X ov sv wv d left) (i : Int) (b : Option Addr) (c : Nat) (p : List UInt8) (hp : RowAt w (.slice b p.length c) (bytesV p)) (hpk : ∀ w', ChR lo w w' → RowAt w' (.slice b p.length c) (bytesV p)) (hwl : d.wait.length ≤ 1099511627776) :
    Calls Tryd.prog 28 #[.pointer (some ⟨X, 0, none⟩), .int .i64 i, .slice b p.length c] w (RDGo lo X w (.int .i64 (writeP d i p).1) (writeP d i p).2) := by
  have HAL := Lib.hid (alive_c h)
  have HS : Hid (writeP d i p = if (livesP d).1 = true then (if 0 ≤ i ∧ i < d.n ∧ p.length ≤ 64 then (0, { (livesP d).2 with now := upd (livesP d).2.now i.toNat (pad p), wait := (livesP d).2.wait ++ [(i, pad p)] }) else (1, (livesP d).2)) else (9, (livesP d).2)) := Lib.hid rfl
  rw [HS.out]
  obtain ⟨sa, sc, hsv⟩ := owns_shape h.s
  have hn := (lives_same d).1
  have hw0 := (lives_same d).2.2.2
  rw [← hw0] at hwl
  have hml := hp.1
  rw [bytesV_length, show maxLen = 9223372036854775807 by decide] at hml
  have HP := Lib.hid hpk
  clear h HS hp hpk hw0
  rw [← hn]
  generalize livesP d = pl at *
  obtain ⟨bl, d1⟩ := pl
  dsimp only at hn hwl HAL ⊢
  rw [← hn] at hsv
  subst hsv
  clear hn
  cases bl
  · simp only [Bool.false_eq_true, if_false]
    go_enter Tryd.func28, Tryd.ntmps28
    go_wp2_with (first | (go_at_call 49; (with_reducible refine HAL.out.mono ?_); rintro e wz ⟨l1, rfl, hd, hc⟩; have HD := Lib.hid hd; have HC := Lib.hid hc; clear hd hc) | fail)
    go_ret
    exact ⟨_, _, _, _, rfl, HD.out, HC.out⟩
  · simp only [if_true]
    by_cases h1 : i < 0
    · rw [if_neg (by omega)]
      go_enter Tryd.func28, Tryd.ntmps28
      go_wp2_with (first | (go_at_call 49; (with_reducible refine HAL.out.mono ?_); rintro e wz ⟨l1, rfl, hd, hc⟩; have HD := Lib.hid hd; have HC := Lib.hid hc; have c1 := hd.blk.blk.cell 1 _ rfl; clear hd hc) | fail)
      go_ret
      exact ⟨_, _, _, _, rfl, HD.out, HC.out⟩
    by_cases h2 : (d1.n : Int) ≤ i
    · rw [if_neg (by omega)]
      go_enter Tryd.func28, Tryd.ntmps28
      go_wp2_with (first | (go_at_call 49; (with_reducible refine HAL.out.mono ?_); rintro e wz ⟨l1, rfl, hd, hc⟩; have HD := Lib.hid hd; have HC := Lib.hid hc; have c1 := hd.blk.blk.cell 1 _ rfl; clear hd hc) | fail)
      go_ret
      exact ⟨_, _, _, _, rfl, HD.out, HC.out⟩
    by_cases h3 : 64 < p.length
    · rw [if_neg (by omega)]
      have h3' : (64 : Int) < (p.length : Int) := by omega
      go_enter Tryd.func28, Tryd.ntmps28
      go_wp2_with (first | (go_at_call 49; (with_reducible refine HAL.out.mono ?_); rintro e wz ⟨l1, rfl, hd, hc⟩; have HD := Lib.hid hd; have HC := Lib.hid hc; have c1 := hd.blk.blk.cell 1 _ rfl; clear hd hc) | fail)
      go_ret
      exact ⟨_, _, _, _, rfl, HD.out, HC.out⟩
    rw [if_pos (by omega)]
    have h3' : ¬ (64 : Int) < (p.length : Int) := by omega
    obtain ⟨k, rfl⟩ : ∃ k : Nat, i = (k : Int) := ⟨i.toNat, by omega⟩
    go_enter Tryd.func28, Tryd.ntmps28
    go_wp2_with (first | (go_at_call 49; (with_reducible refine HAL.out.mono ?_); rintro e wz ⟨l1, rfl, hd, hc⟩; have HD := Lib.hid hd; have HC := Lib.hid hc; have c1 := hd.blk.blk.cell 1 _ rfl; clear hd hc) | fail)
    have hk : k < d1.n := by omega
    obtain ⟨gs, rfl, hgs, scs, hsb⟩ := own_some HD.out.s (by omega)
    have hpl := pad_len (p := p) (by omega)
    have HDa := Lib.hid (HD.out.below (Below.refl _ wz).drew)
    have HPA := Lib.hid (padded_c wz.drew p _ (HP.out _ (HC.out.trans (ChR.ofBelow (Below.refl _ wz).drew))) (by omega))
    refine wp_region_held_drew (S := (fun W => W.cell? ⟨X, 1, none⟩ = some (.slice (some ⟨gs, 0, none⟩) d1.n sc))) (by kernel_rfl) ?_ (fun hHeld => ?_)
    · (first | exact c1 | exact c6 | exact c7)
    (refine wpAnyH_take (i := 0) (oi := R_RRw5_0) (v := ?_) rfl (by kernel_rfl) (by kernel_rfl) (by kernel_rfl) (fun _ _ _ h => h) (Or.inl ⟨by rfl, ?_⟩) (by assumption) ?_; rotate_left; next => (intro w hSw; (try dsimp only at hSw); (try delta R_RRw5_0); go_simp; try with_reducible rfl))
    (try simp only [Act.put, List.setIfInBounds_toArray, List.set_cons_zero, List.set_cons_succ])
    (refine wpAnyH_take (i := 1) (oi := R_RRw5_1) (v := ?_) rfl (by kernel_rfl) (by kernel_rfl) (by kernel_rfl) (fun _ _ _ h => h) (Or.inl ⟨by rfl, ?_⟩) (by assumption) ?_; rotate_left; next => (intro w hSw; (try dsimp only at hSw); (try delta R_RRw5_1); go_simp; try with_reducible rfl))
    (try simp only [Act.put, List.setIfInBounds_toArray, List.set_cons_zero, List.set_cons_succ])
    (refine wpAnyH_take (i := 2) (oi := R_RRw5_2) (v := ?_) rfl (by kernel_rfl) (by kernel_rfl) (by kernel_rfl) (fun _ _ _ h => h) (Or.inl ⟨by rfl, ?_⟩) (by assumption) ?_; rotate_left; next => (intro w hSw; (try dsimp only at hSw); (try delta R_RRw5_2); go_simp; try with_reducible rfl))
    (try simp only [Act.put, List.setIfInBounds_toArray, List.set_cons_zero, List.set_cons_succ])
    (refine wpAnyH_take (i := 3) (oi := R_RRw5_3) (v := ?_) rfl (by kernel_rfl) (by kernel_rfl) (by kernel_rfl) (fun _ _ _ h => h) (Or.inl ⟨by rfl, ?_⟩) (by assumption) ?_; rotate_left; next => (intro w hSw; (try dsimp only at hSw); (try delta R_RRw5_3); go_simp; try with_reducible rfl))
    (try simp only [Act.put, List.setIfInBounds_toArray, List.set_cons_zero, List.set_cons_succ])
    (refine wpAnyH_take (i := 4) (oi := R_RRw5_4) (v := ?_) rfl (by kernel_rfl) (by kernel_rfl) (by kernel_rfl) (fun _ _ _ h => h) (Or.inl ⟨by rfl, ?_⟩) (by assumption) ?_; rotate_left; next => (intro w hSw; (try dsimp only at hSw); (try delta R_RRw5_4); go_simp; try with_reducible rfl))
    (try simp only [Act.put, List.setIfInBounds_toArray, List.set_cons_zero, List.set_cons_succ])
    (refine wpAnyH_take (i := 5) (oi := R_RRw5_5) (v := ?_) rfl (by kernel_rfl) (by kernel_rfl) (by kernel_rfl) (fun _ _ _ h => h) (Or.inl ⟨by rfl, ?_⟩) (by assumption) ?_; rotate_left; next => (intro w hSw; (try dsimp only at hSw); (try delta R_RRw5_5); go_simp; try with_reducible rfl))
    (try simp only [Act.put, List.setIfInBounds_toArray, List.set_cons_zero, List.set_cons_succ])
    refine wpAnyH_ready (rs := [6]) (by kernel_rfl) (by simp) ?_
    refine AllReadyH.cons (o := R_RRw5_6) rfl (fun K hK => ?_) AllReadyH.nil
    (try delta R_RRw5_6)
    go_simp
    (first | (go_at_call 42; (with_reducible refine (HPA.out).mono ?_); rintro e w6 ⟨rfl, hb6⟩; have HB6 := Lib.hid hb6; have HD6 := Lib.hid (HDa.out.below hb6); have c6 := HD6.out.blk.blk.cell 1 _ rfl; have cs6 := own_cell HD6.out.s hk; have fs6 := own_thaw HD6.out.s hk; have HN7 := Lib.hid (HD6.out.wrote hk hpl); have c7 : (w6.setCell ⟨gs, k, none⟩ (.string ⟨(pad p).toArray⟩)).cell? ⟨X, 1, none⟩ = some (.slice (some ⟨gs, 0, none⟩) d1.n sc) := HN7.out.1.blk.blk.cell 1 _ rfl; clear hb6) | (fail_if_success (go_at_call 42)))
    (try go_wp2_with fail)
    refine hK.out _ _ ?_ (fun hHeld => ?_)
    · (first | exact c1 | exact c6 | exact c7)
    clear hK K
    (try simp only [Act.put, List.setIfInBounds_toArray, List.set_cons_zero, List.set_cons_succ])
    (refine wpAnyH_take (i := 7) (oi := R_RRw5_7) (v := ?_) rfl (by kernel_rfl) (by kernel_rfl) (by kernel_rfl) (fun _ _ _ h => h) (Or.inl ⟨by rfl, ?_⟩) (by assumption) ?_; rotate_left; next => (intro w hSw; (try dsimp only at hSw); (try delta R_RRw5_7); go_simp; try with_reducible rfl))
    (try simp only [Act.put, List.setIfInBounds_toArray, List.set_cons_zero, List.set_cons_succ])
    refine wpAnyH_ready (rs := [8]) (by kernel_rfl) (by simp) ?_
    refine AllReadyH.cons (o := R_RRw5_8) rfl (fun K hK => ?_) AllReadyH.nil
    (try delta R_RRw5_8)
    go_simp
    (first | (go_at_call 42; (with_reducible refine (HPA.out).mono ?_); rintro e w6 ⟨rfl, hb6⟩; have HB6 := Lib.hid hb6; have HD6 := Lib.hid (HDa.out.below hb6); have c6 := HD6.out.blk.blk.cell 1 _ rfl; have cs6 := own_cell HD6.out.s hk; have fs6 := own_thaw HD6.out.s hk; have HN7 := Lib.hid (HD6.out.wrote hk hpl); have c7 : (w6.setCell ⟨gs, k, none⟩ (.string ⟨(pad p).toArray⟩)).cell? ⟨X, 1, none⟩ = some (.slice (some ⟨gs, 0, none⟩) d1.n sc) := HN7.out.1.blk.blk.cell 1 _ rfl; clear hb6) | (fail_if_success (go_at_call 42)))
    (try go_wp2_with fail)
    refine hK.out _ _ ?_ (fun hHeld => ?_)
    · (first | exact c1 | exact c6 | exact c7)
    clear hK K
    (try simp only [Act.put, List.setIfInBounds_toArray, List.set_cons_zero, List.set_cons_succ])
    refine wpAnyH_done (by kernel_rfl) ?_ _
    have HC7 : Hid (ChR lo w (w6.setCell ⟨gs, k, none⟩ (.string ⟨(pad p).toArray⟩))) := Lib.hid ((HC.out.trans (ChR.ofBelow ((Below.refl _ wz).drew.trans (HB6.out.mono (Nat.le_refl _))))).trans HN7.out.2)
    have HE7 : Hid ((w6.setCell ⟨gs, k, none⟩ (.string ⟨(pad p).toArray⟩)).cell? ⟨gs, k, none⟩ = some (.string ⟨(pad p).toArray⟩)) := Lib.hid (cell_same (own_cell HD6.out.s hk))
    have HD7 : Hid (RDAt lo (w6.setCell ⟨gs, k, none⟩ (.string ⟨(pad p).toArray⟩)) X ov (.slice (some ⟨gs, 0, none⟩) d1.n sc) wv { d1 with now := upd d1.now k (pad p) } l1) := Lib.hid HN7.out.1
    clear HN7 c1 c6 c7 cs6 fs6 hHeld HDa HPA HB6 HD6
    generalize w6.setCell ⟨gs, k, none⟩ (.string ⟨(pad p).toArray⟩) = w7 at *
    obtain ⟨wa, wc, rfl⟩ := owns_shape HD7.out.w
    have HD8 := Lib.hid (HD7.out.below (Below.refl _ w7).drew)
    have c1 := HD7.out.blk.blk.cell 1 _ rfl
    have c2 := HD7.out.blk.blk.cell 2 _ rfl
    have ck := HE7.out
    have hnn := HD7.out.ok.n
    have HDo := Lib.hid (fun o => HD8.out.below ((Below.refl _ w7.drew).alloc (Nat.le_refl _) o))
    have HKo : Hid (∀ o, (w7.drew.alloc o).cell? ⟨gs, k, none⟩ = some (.string ⟨(pad p).toArray⟩)) := Lib.hid (fun o => by
      have hb := ((Below.refl _ w7).drew.alloc (Nat.le_refl _) o)
      rw [hb.cell (World.block_lt_of_cell? w7 _ HE7.out)]
      exact HE7.out)
    go_wp2_with fail
    have HDX := Lib.hid (HDo.out (.cells ([.int .i64 (k : Int), .string ⟨(pad p).toArray⟩] : List Value).toArray tRw))
    refine wp_region_last (n := 18) (S := (fun W => W.cell? ⟨X, 2, none⟩ = some (.slice wa d1.wait.length wc) ∧ W.cell? ⟨X, 1, none⟩ = some (.slice (some ⟨gs, 0, none⟩) d1.n sc) ∧ W.cell? ⟨gs, k, none⟩ = some (.string ⟨(pad p).toArray⟩))) (by kernel_rfl) (by kernel_rfl) (by kernel_rfl) ?_ (fun hHeld => ?_)
    · (first | exact ⟨c2, c1, ck⟩ | exact ⟨(HDo.out _).blk.blk.cell 2 _ rfl, (HDo.out _).blk.blk.cell 1 _ rfl, HKo.out _⟩ | exact HN9.out)
    (refine wpAnyH_take (i := 0) (oi := R_RRw6_0) (v := ?_) rfl (by kernel_rfl) (by kernel_rfl) (by kernel_rfl) (fun _ _ _ h => h) (Or.inl ⟨by rfl, ?_⟩) (by assumption) ?_; rotate_left; next => (intro w hSw; (try dsimp only at hSw); (try delta R_RRw6_0); go_simp; try with_reducible rfl))
    (try simp only [Act.put, List.setIfInBounds_toArray, List.set_cons_zero, List.set_cons_succ])
    (refine wpAnyH_take (i := 1) (oi := R_RRw6_1) (v := ?_) rfl (by kernel_rfl) (by kernel_rfl) (by kernel_rfl) (fun _ _ _ h => h) (Or.inl ⟨by rfl, ?_⟩) (by assumption) ?_; rotate_left; next => (intro w hSw; (try dsimp only at hSw); (try delta R_RRw6_1); go_simp; try with_reducible rfl))
    (try simp only [Act.put, List.setIfInBounds_toArray, List.set_cons_zero, List.set_cons_succ])
    (refine wpAnyH_take (i := 2) (oi := R_RRw6_2) (v := ?_) rfl (by kernel_rfl) (by kernel_rfl) (by kernel_rfl) (fun _ _ _ h => h) (Or.inl ⟨by rfl, ?_⟩) (by assumption) ?_; rotate_left; next => (intro w hSw; (try dsimp only at hSw); (try delta R_RRw6_2); go_simp; try with_reducible rfl))
    (try simp only [Act.put, List.setIfInBounds_toArray, List.set_cons_zero, List.set_cons_succ])
    (refine wpAnyH_take (i := 3) (oi := R_RRw6_3) (v := ?_) rfl (by kernel_rfl) (by kernel_rfl) (by kernel_rfl) (fun _ _ _ h => h) (Or.inl ⟨by rfl, ?_⟩) (by assumption) ?_; rotate_left; next => (intro w hSw; (try dsimp only at hSw); (try delta R_RRw6_3); go_simp; try with_reducible rfl))
    (try simp only [Act.put, List.setIfInBounds_toArray, List.set_cons_zero, List.set_cons_succ])
    (refine wpAnyH_take (i := 4) (oi := R_RRw6_4) (v := ?_) rfl (by kernel_rfl) (by kernel_rfl) (by kernel_rfl) (fun _ _ _ h => h) (Or.inl ⟨by rfl, ?_⟩) (by assumption) ?_; rotate_left; next => (intro w hSw; (try dsimp only at hSw); (try delta R_RRw6_4); go_simp; try with_reducible rfl))
    (try simp only [Act.put, List.setIfInBounds_toArray, List.set_cons_zero, List.set_cons_succ])
    (refine wpAnyH_take (i := 5) (oi := R_RRw6_5) (v := ?_) rfl (by kernel_rfl) (by kernel_rfl) (by kernel_rfl) (fun _ _ _ h => h) (Or.inl ⟨by rfl, ?_⟩) (by assumption) ?_; rotate_left; next => (intro w hSw; (try dsimp only at hSw); (try delta R_RRw6_5); go_simp; try with_reducible rfl))
    (try simp only [Act.put, List.setIfInBounds_toArray, List.set_cons_zero, List.set_cons_succ])
    (refine wpAnyH_take (i := 6) (oi := R_RRw6_6) (v := ?_) rfl (by kernel_rfl) (by kernel_rfl) (by kernel_rfl) (fun _ _ _ h => h) (Or.inl ⟨by rfl, ?_⟩) (by assumption) ?_; rotate_left; next => (intro w hSw; (try dsimp only at hSw); (try delta R_RRw6_6); go_simp; try with_reducible rfl))
    (try simp only [Act.put, List.setIfInBounds_toArray, List.set_cons_zero, List.set_cons_succ])
    (refine wpAnyH_take (i := 7) (oi := R_RRw6_7) (v := ?_) rfl (by kernel_rfl) (by kernel_rfl) (by kernel_rfl) (fun _ _ _ h => h) (Or.inl ⟨by rfl, ?_⟩) (by assumption) ?_; rotate_left; next => (intro w hSw; (try dsimp only at hSw); (try delta R_RRw6_7); go_simp; try with_reducible rfl))
    (try simp only [Act.put, List.setIfInBounds_toArray, List.set_cons_zero, List.set_cons_succ])
    (refine wpAnyH_take (i := 8) (oi := R_RRw6_8) (v := ?_) rfl (by kernel_rfl) (by kernel_rfl) (by kernel_rfl) (fun _ _ _ h => h) (Or.inl ⟨by rfl, ?_⟩) (by assumption) ?_; rotate_left; next => (intro w hSw; (try dsimp only at hSw); (try delta R_RRw6_8); go_simp; try with_reducible rfl))
    (try simp only [Act.put, List.setIfInBounds_toArray, List.set_cons_zero, List.set_cons_succ])
    (refine wpAnyH_take (i := 9) (oi := R_RRw6_9) (v := ?_) rfl (by kernel_rfl) (by kernel_rfl) (by kernel_rfl) (fun _ _ _ h => h) (Or.inl ⟨by rfl, ?_⟩) (by assumption) ?_; rotate_left; next => (intro w hSw; (try dsimp only at hSw); (try delta R_RRw6_9); go_simp; try with_reducible rfl))
    (try simp only [Act.put, List.setIfInBounds_toArray, List.set_cons_zero, List.set_cons_succ])
    (refine wpAnyH_take (i := 10) (oi := R_RRw6_10) (v := ?_) rfl (by kernel_rfl) (by kernel_rfl) (by kernel_rfl) (fun _ _ _ h => h) (Or.inl ⟨by rfl, ?_⟩) (by assumption) ?_; rotate_left; next => (intro w hSw; (try dsimp only at hSw); (try delta R_RRw6_10); go_simp; try with_reducible rfl))
    (try simp only [Act.put, List.setIfInBounds_toArray, List.set_cons_zero, List.set_cons_succ])
    (refine wpAnyH_take (i := 11) (oi := R_RRw6_11) (v := ?_) rfl (by kernel_rfl) (by kernel_rfl) (by kernel_rfl) (fun _ _ _ h => h) (Or.inl ⟨by rfl, ?_⟩) (by assumption) ?_; rotate_left; next => (intro w hSw; (try dsimp only at hSw); (try delta R_RRw6_11); go_simp; try with_reducible rfl))
    (try simp only [Act.put, List.setIfInBounds_toArray, List.set_cons_zero, List.set_cons_succ])
    (refine wpAnyH_take (i := 12) (oi := R_RRw6_12) (v := ?_) rfl (by kernel_rfl) (by kernel_rfl) (by kernel_rfl) (fun _ _ _ h => h) (Or.inl ⟨by rfl, ?_⟩) (by assumption) ?_; rotate_left; next => (intro w hSw; (try dsimp only at hSw); (try delta R_RRw6_12); go_simp; try with_reducible rfl))
    (try simp only [Act.put, List.setIfInBounds_toArray, List.set_cons_zero, List.set_cons_succ])
    refine wpAnyH_ready (rs := [13]) (by kernel_rfl) (by simp) ?_
    refine AllReadyH.cons (o := R_RRw6_13) rfl (fun K hK => ?_) AllReadyH.nil
    (try delta R_RRw6_13)
    go_simp
    refine hK.out _ _ ?_ (fun hHeld => ?_)
    · (first | exact ⟨c2, c1, ck⟩ | exact ⟨(HDo.out _).blk.blk.cell 2 _ rfl, (HDo.out _).blk.blk.cell 1 _ rfl, HKo.out _⟩ | exact HN9.out)
    clear hK K
    (try simp only [Act.put, List.setIfInBounds_toArray, List.set_cons_zero, List.set_cons_succ])
    refine wpAnyH_ready (rs := [14]) (by kernel_rfl) (by simp) ?_
    refine AllReadyH.cons (o := R_RRw6_14) rfl (fun K hK => ?_) AllReadyH.nil
    (try delta R_RRw6_14)
    (refine step_buildOne elemRw (by decide) (by decide) rfl _ rfl [.int .i64 (k : Int), .string ⟨(pad p).toArray⟩] rfl rfl ?_)
    refine hK.out _ _ ?_ (fun hHeld => ?_)
    · (first | exact ⟨c2, c1, ck⟩ | exact ⟨(HDo.out _).blk.blk.cell 2 _ rfl, (HDo.out _).blk.blk.cell 1 _ rfl, HKo.out _⟩ | exact HN9.out)
    clear hK K
    (try simp only [Act.put, List.setIfInBounds_toArray, List.set_cons_zero, List.set_cons_succ])
    refine wpAnyH_ready (rs := [15]) (by kernel_rfl) (by simp) ?_
    refine AllReadyH.cons (o := R_RRw6_15) rfl (fun K hK => ?_) AllReadyH.nil
    (try delta R_RRw6_15)
    (refine step_appK elemRw (by decide) rfl _ _ rfl lo d1.wait.length _ (d1.wait.flatMap rcell) (by rfl) HDX.out.w ⟨w7.drew.heap.size, 0, none⟩ 1 [.int .i64 (k : Int), .string ⟨(pad p).toArray⟩] rfl rfl (fun j u hu => by rw [addr_add, Nat.zero_add]; exact (Blk.new w7.drew [.int .i64 (k : Int), .string ⟨(pad p).toArray⟩] tRw).cell j u hu) (by intro u hu; simp only [List.mem_cons, List.not_mem_nil, or_false] at hu; rcases hu with rfl | rfl <;> rfl) (by omega) (by omega) (by have h1 := HD7.out.blk.lt; have h2 := HD7.out.ge; simp; omega) ?_; intro va9 vc9 w9 hown hgr; have HQ9 := Lib.hid (HDX.out.waits (x := ((k : Int), pad p)) hgr hown ⟨hpl, by omega, by omega⟩); have hb9 := blk_grown HDX.out.blk hgr (HDX.out.blk.apartO HDX.out.w (by decide)); obtain ⟨gs', eg, _, scs', hsb'⟩ := own_some HDX.out.s (by omega); injection eg with eg; injection eg with eg _ _; subst eg; have hk9 := hgr.cell (HKo.out _) (by have q := hsb'.apartO HDX.out.w (by decide); intro e; exact q (by rw [← e])); have HN9 := Lib.hid (show w9.cell? ⟨X, 2, none⟩ = some (.slice wa d1.wait.length wc) ∧ w9.cell? ⟨X, 1, none⟩ = some (.slice (some ⟨gs, 0, none⟩) d1.n sc) ∧ w9.cell? ⟨gs, k, none⟩ = some (.string ⟨(pad p).toArray⟩) from ⟨hb9.blk.cell 2 _ rfl, hb9.blk.cell 1 _ rfl, hk9⟩); clear hown hgr hb9 hk9)
    refine hK.out _ _ ?_ (fun hHeld => ?_)
    · (first | exact ⟨c2, c1, ck⟩ | exact ⟨(HDo.out _).blk.blk.cell 2 _ rfl, (HDo.out _).blk.blk.cell 1 _ rfl, HKo.out _⟩ | exact HN9.out)
    clear hK K
    (try simp only [Act.put, List.setIfInBounds_toArray, List.set_cons_zero, List.set_cons_succ])
    (refine wpAnyH_take (i := 16) (oi := R_RRw6_16) (v := ?_) rfl (by kernel_rfl) (by kernel_rfl) (by kernel_rfl) (fun _ _ _ h => h) (Or.inl ⟨by rfl, ?_⟩) (by assumption) ?_; rotate_left; next => (intro w hSw; (try dsimp only at hSw); (try delta R_RRw6_16); go_simp; try with_reducible rfl))
    (try simp only [Act.put, List.setIfInBounds_toArray, List.set_cons_zero, List.set_cons_succ])
    (refine wpAnyH_take (i := 17) (oi := R_RRw6_17) (v := ?_) rfl (by kernel_rfl) (by kernel_rfl) (by kernel_rfl) (fun _ _ _ h => h) (Or.inl ⟨by rfl, ?_⟩) (by assumption) ?_; rotate_left; next => (intro w hSw; (try dsimp only at hSw); (try delta R_RRw6_17); go_simp; try with_reducible rfl))
    (try simp only [Act.put, List.setIfInBounds_toArray, List.set_cons_zero, List.set_cons_succ])
    refine wpAnyH_done (by kernel_rfl) ?_ _
    (refine last_do (o := { dst := none, op := Op.store 82 (Operand.tmp 53) (Operand.tmp 51), type := 0, pos := "drum.go:66", after := #[{ on := 17, ground := Ground.data }, { on := 15, ground := Ground.data }, { on := 15, ground := Ground.chain }, { on := 0, ground := Ground.phase }, { on := 1, ground := Ground.phase }, { on := 2, ground := Ground.phase }, { on := 3, ground := Ground.phase }, { on := 4, ground := Ground.phase }, { on := 5, ground := Ground.phase }, { on := 6, ground := Ground.phase }, { on := 7, ground := Ground.phase }, { on := 8, ground := Ground.phase }, { on := 9, ground := Ground.phase }, { on := 10, ground := Ground.phase }, { on := 11, ground := Ground.phase }, { on := 12, ground := Ground.phase }, { on := 13, ground := Ground.phase }, { on := 14, ground := Ground.phase }, { on := 15, ground := Ground.phase }], guard := none }) rfl (fun K hK => ?_); have e2 := HQ9.out.1.1; have f2 := HQ9.out.1.2; go_simp; refine hK.out _ _ ?_; clear hK K; go_wp2_with fail; go_ret; exact ⟨_, _, _, _, rfl, HQ9.out.2.1, (HC7.out.trans (ChR.ofBelow ((Below.refl _ w7).drew.alloc (Nat.le_refl _) _))).trans HQ9.out.2.2⟩)
end
end Go.Proofs.YtlllbacjdjllbaaDoor
