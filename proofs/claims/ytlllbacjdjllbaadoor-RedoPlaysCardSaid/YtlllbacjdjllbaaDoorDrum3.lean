
/- Contracts of package drum: Write. -/
import Derived.Test.YtlllbacjdjllbaaDoorDrum2
import Derived.Deep.WholeRow
import Derived.Great.BuildSlice
import Derived.Great.FillDense
import Derived.Test.YtlllbacjdjllbaaDoorReg
namespace Go.Proofs.YtlllbacjdjllbaaDoor
open Go Go.Proofs Go.RowKit Go.Great
set_option linter.unusedVariables false
set_option linter.unusedSimpArgs false
abbrev R_WriteA_0 : Oper := { dst := some 35, op := Op.move (Operand.tmp 0), type := 23, pos := "drum.go:67", after := #[], guard := none }
abbrev R_WriteA_1 : Oper := { dst := some 36, op := Op.nilCheck (Operand.tmp 35), type := 0, pos := "drum.go:67", after := #[{ on := 0, ground := Ground.data }], guard := none }
abbrev R_WriteA_2 : Oper := { dst := some 37, op := Op.fieldAddr 65 (Operand.tmp 36) 1, type := 0, pos := "drum.go:67", after := #[{ on := 1, ground := Ground.data }], guard := none }
abbrev R_WriteA_3 : Oper := { dst := some 38, op := Op.load 62 (Operand.tmp 37), type := 62, pos := "drum.go:67", after := #[{ on := 2, ground := Ground.data }], guard := none }
abbrev R_WriteA_4 : Oper := { dst := some 39, op := Op.move (Operand.tmp 1), type := 3, pos := "drum.go:67", after := #[], guard := none }
abbrev R_WriteA_5 : Oper := { dst := some 40, op := Op.fieldAddr 80 (Operand.tmp 7) 1, type := 0, pos := "drum.go:67", after := #[], guard := none }
abbrev R_WriteA_6 : Oper := { dst := some 41, op := Op.load 78 (Operand.tmp 40), type := 78, pos := "drum.go:67", after := #[{ on := 5, ground := Ground.data }], guard := none }
abbrev R_WriteA_7 : Oper := { dst := some 42, op := Op.indexAddr 62 (Operand.tmp 38) (Operand.tmp 39), type := 0, pos := "drum.go:67", after := #[{ on := 3, ground := Ground.data }, { on := 4, ground := Ground.data }, { on := 0, ground := Ground.phase }, { on := 1, ground := Ground.phase }, { on := 2, ground := Ground.phase }, { on := 3, ground := Ground.phase }, { on := 4, ground := Ground.phase }, { on := 5, ground := Ground.phase }, { on := 6, ground := Ground.phase }], guard := none }
abbrev R_WriteB_0 : Oper := { dst := some 43, op := Op.move (Operand.tmp 0), type := 23, pos := "drum.go:68", after := #[], guard := none }
abbrev R_WriteB_1 : Oper := { dst := some 44, op := Op.move (Operand.tmp 0), type := 23, pos := "drum.go:68", after := #[], guard := none }
abbrev R_WriteB_2 : Oper := { dst := some 45, op := Op.nilCheck (Operand.tmp 44), type := 0, pos := "drum.go:68", after := #[{ on := 1, ground := Ground.data }], guard := none }
abbrev R_WriteB_3 : Oper := { dst := some 46, op := Op.fieldAddr 65 (Operand.tmp 45) 2, type := 0, pos := "drum.go:68", after := #[{ on := 2, ground := Ground.data }], guard := none }
abbrev R_WriteB_4 : Oper := { dst := some 47, op := Op.load 63 (Operand.tmp 46), type := 63, pos := "drum.go:68", after := #[{ on := 3, ground := Ground.data }], guard := none }
abbrev R_WriteB_5 : Oper := { dst := some 48, op := Op.load 80 (Operand.tmp 7), type := 80, pos := "drum.go:68", after := #[], guard := none }
abbrev R_WriteB_6 : Oper := { dst := some 49, op := Op.buildSlice 63 1 #[(0, Operand.tmp 48)], type := 63, pos := "drum.go:68", after := #[{ on := 5, ground := Ground.data }], guard := none }
abbrev R_WriteB_7 : Oper := { dst := some 50, op := Op.call { callee := Callee.builtin Builtin.append, args := #[Operand.tmp 47, Operand.tmp 49], argTypes := #[63, 63] }, type := 63, pos := "drum.go:68", after := #[{ on := 4, ground := Ground.data }, { on := 6, ground := Ground.data }], guard := none }
abbrev R_WriteB_8 : Oper := { dst := some 51, op := Op.nilCheck (Operand.tmp 43), type := 0, pos := "drum.go:68", after := #[{ on := 0, ground := Ground.data }, { on := 0, ground := Ground.phase }, { on := 1, ground := Ground.phase }, { on := 2, ground := Ground.phase }, { on := 3, ground := Ground.phase }, { on := 4, ground := Ground.phase }, { on := 5, ground := Ground.phase }, { on := 6, ground := Ground.phase }, { on := 7, ground := Ground.phase }], guard := none }
abbrev R_WriteB_9 : Oper := { dst := some 52, op := Op.fieldAddr 65 (Operand.tmp 51) 2, type := 0, pos := "drum.go:68", after := #[{ on := 8, ground := Ground.data }, { on := 0, ground := Ground.phase }, { on := 1, ground := Ground.phase }, { on := 2, ground := Ground.phase }, { on := 3, ground := Ground.phase }, { on := 4, ground := Ground.phase }, { on := 5, ground := Ground.phase }, { on := 6, ground := Ground.phase }, { on := 7, ground := Ground.phase }], guard := none }

def pad (p : List UInt8) : List UInt8 := p ++ List.replicate (64 - p.length) 0
def upd (l : List UInt8) (i : Nat) (p : List UInt8) : List UInt8 := l.take (64 * i) ++ p ++ l.drop (64 * i + 64)
def writeP (d : PD) (i : Int) (p : List UInt8) : Int × PD :=
  if (livesP d).1 = true then (if 0 ≤ i ∧ i < d.n ∧ p.length ≤ 64 then (0, { (livesP d).2 with now := upd (livesP d).2.now i.toNat (pad p), wait := (livesP d).2.wait ++ [(i, pad p)] }) else (1, (livesP d).2)) else (9, (livesP d).2)
def zero64 : List UInt8 := List.replicate 64 0
theorem zeroW : Tryd.zeroCells80.toList = .int .i64 0 :: bytesV zero64 := by kernel_rfl
theorem writeInfo : (Tryd.prog.info? tW).map (·.size) = some 65 := by kernel_rfl
theorem uint8Info : (Tryd.prog.info? 5).map (·.size) = some 1 := by kernel_rfl
theorem storeW (w : World) (i : Int) : (storeCells ⟨w.heap.size, 0, none⟩ (Tryd.zeroCells80.toList.set 0 (.int .i64 i))).run Tryd.prog (w.alloc (.cells Tryd.zeroCells80 80)) = .ok () (w.alloc (.cells (wcell (i, zero64)).toArray tW)) := by
  have e : Tryd.zeroCells80.toList.set 0 (.int .i64 i) = wcell (i, zero64) := by rw [zeroW]; rfl
  have hz : Tryd.zeroCells80.size = 65 := by rw [← Array.length_toList, zeroW]; simp [bytesV_length, zero64]
  rw [e]
  have := run_storeCells_new (P := Tryd.prog) w tW Tryd.zeroCells80 (wcell (i, zero64)).toArray (by rw [writeInfo]; simp [wcell, bytesV_length, zero64]) (by rw [hz]; simp [wcell, bytesV_length, zero64]) (all_oneCell_toArray (fun v hv => by
    rcases List.mem_cons.1 hv with rfl | hv
    · rfl
    · exact bytesV_one _ v hv))
  exact this
theorem pad_len {p : List UInt8} (h : p.length ≤ 64) : (pad p).length = 64 := by unfold pad; simp; omega
theorem upd_len {l p : List UInt8} {i n : Nat} (hl : l.length = 64 * n) (hi : i < n) (hp : p.length = 64) : (upd l i p).length = 64 * n := by
  unfold upd; simp only [List.length_append, List.length_take, List.length_drop]; omega
theorem pad_nil : pad [] = zero64 := by unfold pad zero64; rw [List.nil_append, List.length_nil]
set_option maxRecDepth 10000 in
theorem cellsP (i : Int) (p : List UInt8) (h : p.length ≤ 64) : (wcell (i, zero64)).take 1 ++ bytesV p ++ (wcell (i, zero64)).drop (1 + p.length) = wcell (i, pad p) := by
  unfold wcell pad zero64 bytesV
  rw [Nat.add_comm 1, List.drop_succ_cons]
  dsimp only
  rw [List.map_append, List.map_replicate, List.map_replicate, List.drop_replicate]
  simp
set_option maxRecDepth 10000 in
/-- 'copy(x[:], p)' into a new struct's array. -/
theorem run_copyP (w : World) (t ty : TypeId) (ht : Tryd.prog.underlying t = some (.slice 5))
    (g : Nat) (i : Int) (p : List UInt8) (b : Option Addr) (c : Nat) (hp : RowAt w (.slice b p.length c) (bytesV p)) (hl : p.length ≤ 64)
    (hg : BlkT w g (wcell (i, zero64)) tW) : (Builtin.copy_ #[t, t] ty #[.slice (some ⟨g, 1, none⟩) 64 64, .slice b p.length c]).run Tryd.prog w = .ok (goInt p.length) (w.setRow g (wcell (i, pad p)).toArray) := by
  rcases hp.2 with ⟨h1, h2⟩ | ⟨ad, c', h1, h2, h3⟩
  · have hp0 : p = [] := by
      have := congrArg List.length h2
      rw [bytesV_length] at this
      exact List.eq_nil_of_length_eq_zero this
    subst hp0
    injection h1 with e1 e2 e3
    subst e1; subst e3
    rw [show ([] : List UInt8).length = 0 from rfl, pad_nil]
    have e : w.setRow g (wcell (i, zero64)).toArray = w := setRow_self w g _ tW (0, 0) hg
    rw [e]
    have hu := uint8Info
    exact Go.run_copy_nil Tryd.prog w t t ty 5 ⟨g, 1, none⟩ 64 64 ht (by cases hq : Tryd.prog.info? 5 with | none => rw [hq] at hu; simp at hu | some i => rfl)
  · injection h1 with e1 e2 e3
    subst e1
    have hr := run_copyK (P := Tryd.prog) w t ty 5 1 g 1 64 64 ad p.length c (wcell (i, zero64)).toArray tW (bytesV p) ht uint8Info hg (by rw [bytesV_length, show Nat.min p.length 64 = p.length from Nat.min_eq_left hl]; omega)
      (fun j u hu => by
        obtain ⟨hj, hu⟩ := List.getElem?_eq_some_iff.1 hu
        rw [h3 j hj, hu]) (by simp [bytesV_length, wcell, zero64]; omega) (bytesV_one p)
    rw [hr, show Nat.min p.length 64 = p.length from Nat.min_eq_left hl]
    have := cellsP i p hl
    rw [← this, bytesV_length]
theorem rangeW (w : World) (i : Int) (p : List UInt8) : ((w.alloc (.cells (wcell (i, p)).toArray tW)).drew).rangeAt w.heap.size 1 (bytesV p) := by
  rw [World.rangeAt_drew]
  intro j u hu
  refine (BlkT.new w (wcell (i, p)) tW).blk.cell (1 + j) u ?_
  rw [Nat.add_comm]
  exact hu
theorem updCells {l p : List UInt8} {i n : Nat} (hl : l.length = 64 * n) (hi : i < n) (hp : p.length = 64) : ((bytesV l).take (i * 64 + 0) ++ bytesV p ++ (bytesV l).drop (i * 64 + 0 + (bytesV p).length)) = bytesV (upd l i p) := by
  unfold upd bytesV
  rw [List.map_append, List.map_append, List.map_take, List.map_drop, List.length_map, hp, Nat.add_zero, Nat.mul_comm]
/-- a sector is stored. -/
theorem wp_storeS {op : Oper} {a : Act} {w : World} {K : Act → World → Prop} {Q : Exit → Act → World → Prop} (x y : Operand) (ho : op.op = .store 78 x y) (m i n : Nat) (l p : List UInt8)
    (hx : a.eval x = .pointer (some ⟨m, i * 64, none⟩)) (hy : a.eval y = .agg (bytesV p).toArray) (hm : BlkT w m (bytesV l) tS) (hl : l.length = 64 * n) (hi : i < n) (hp : p.length = 64)
    (h : K (a.put op.dst undef) (w.setRow m (bytesV (upd l i p)).toArray)) : op.wp Tryd.prog a w K Q := by
  have hst := run_storeCells_at Tryd.prog m (i * 64) tS (bytesV p) 0 _ w hm (by simp [bytesV_length]; omega) (bytesV_one p)
  have hsv : (storeVar 78 ⟨m, i * 64, none⟩ (.agg (bytesV p).toArray)).run Tryd.prog w = .ok () (w.setRow m (bytesV (upd l i p)).toArray) := by
    have hI := secInfo
    cases hq : Tryd.prog.info? tS with
    | none => rw [hq] at hI; simp at hI
    | some inf =>
      have hq' : Tryd.prog.info? 78 = some inf := hq
      rw [hq] at hI
      simp only [Option.map_some, Option.some.injEq] at hI
      have e := updCells hl hi hp
      rw [List.toList_toArray, e] at hst
      simp [storeVar, sizeOf, typeInfo, hq', Value.cells, hI, bytesV_length, hp, hst]
  unfold Oper.wp execOp
  simp only [ho, hx, hy, Instr.storeAt, Instr.sureAddr, Sem.run_bind, Sem.run_pure, Result.andThen_ok, hsv]
  exact h
theorem step_storeS {ops : Array Oper} {op : Oper} {a : Act} {w : World} {K : Act → World → Prop} {E : Prop} {Q : Exit → Act → World → Prop} (hgd : op.guard = none) (x y : Operand) (ho : op.op = .store 78 x y) (m i n : Nat) (l p : List UInt8)
    (hx : a.eval x = .pointer (some ⟨m, i * 64, none⟩)) (hy : a.eval y = .agg (bytesV p).toArray) (hm : BlkT w m (bytesV l) tS) (hl : l.length = 64 * n) (hi : i < n) (hp : p.length = 64)
    (h : K (a.put op.dst undef) (w.setRow m (bytesV (upd l i p)).toArray)) : if Region.wanted op (yielded ops a.tmps) = true then op.wp Tryd.prog a w K Q else E := by
  have hw : Region.wanted op (yielded ops a.tmps) = true := by simp [Region.wanted, hgd]
  rw [if_pos hw]
  exact wp_storeS x y ho m i n l p hx hy hm hl hi hp h
theorem elemWt : ElemK 63 80 65 72 (wcell (0, zero64)) := elemK_of (z := .agg (wcell (0, zero64)).toArray) Tryd.underlying63 (by kernel_rfl) rfl rfl
theorem wcell_len {i : Int} {p : List UInt8} (h : p.length = 64) : (wcell (i, p)).length = 65 := by unfold wcell; rw [List.length_cons, bytesV_length, h]
theorem wcell_one (i : Int) (p : List UInt8) : ∀ u ∈ wcell (i, p), u.oneCell' = true := fun v hv => by
  rcases List.mem_cons.1 hv with rfl | hv
  · rfl
  · exact bytesV_one _ v hv
theorem step_buildOne {t e : TypeId} {c bytes : Nat} {zs : List Value} (he : ElemK t e c bytes zs) (hc : 0 < c) (hc2 : c ≤ 2 ^ 24) {ops : Array Oper} {op : Oper} {a : Act} {w : World} {K : Act → World → Prop} {E : Prop} {Q : Exit → Act → World → Prop} (hgd : op.guard = none) (x : Operand) (ho : op.op = .buildSlice t 1 #[(0, x)]) (cs : List Value)
    (hx : a.eval x = .agg cs.toArray) (hl : cs.length = c)
    (h : K (a.put op.dst (.slice (some ⟨w.heap.size, 0, none⟩) 1 1)) (w.alloc (.cells cs.toArray e))) : if Region.wanted op (yielded ops a.tmps) = true then op.wp Tryd.prog a w K Q else E := by
  have hw : Region.wanted op (yielded ops a.tmps) = true := by simp [Region.wanted, hgd]
  rw [if_pos hw]
  obtain ⟨i, z, ht, hi, hz, hs1, hb1, hz1, hzl⟩ := he
  refine wp_buildSlice (P := Tryd.prog) t e 1 _ ho cs.toArray i z ht hi hz (by rw [hs1]; omega) (by rw [hs1]; omega) ?_ h
  have := fill_whole (s := c) hc [.agg cs.toArray] ((Array.range (1 * c)).map (z.cells[· % z.cells.size]!)) (by intro v hv; rw [List.mem_singleton.1 hv]; simp [Value.cells, hl]) (by simp)
  rw [hs1]
  simpa [hx, Value.cells] using this
section
variable {lo D g m : Nat} {v : Value} {d : PD} {w : World}
theorem writeNow (h : DrumAt lo w D g m v d) {k : Nat} {p : List UInt8} (hk : k < d.n) (hp : p.length = 64) : DrumAt lo (w.setRow m (bytesV (upd d.now k p)).toArray) D g m v { d with now := upd d.now k p } ∧ Chg lo w (w.setRow m (bytesV (upd d.now k p)).toArray) := by
  have hDm : D ≠ m := fun e => (h.blk.apart h.mb (by decide)) e
  have hmv : v.ownBlock ≠ some m := h.mb.apartO h.wb (by decide)
  have hgr : w.grownBy (w.setRow m (bytesV (upd d.now k p)).toArray) (some m) := ⟨rfl, rfl, rfl, by simp, fun q _ hq => setRow_other w m q _ (fun e => hq (by rw [e]))⟩
  refine ⟨⟨h.blk.rowOther hDm _, h.gb.rowOther h.ne.1 _, h.mb.setRow _, h.wb.kept hgr (.inr hmv), h.ne, ⟨h.ok.n, h.ok.good, upd_len h.ok.now hk hp, h.ok.wait, h.ok.fuse⟩⟩, ?_⟩
  exact ⟨rfl, rfl, rfl, by simp, fun q hq hd => setRow_other w m q _ (by
      rcases hd with hd | hd
      · have := h.ne.2.2.2; omega
      · intro e; subst e
        exact (hd _ _ _ h.mb).2.1 rfl)⟩
theorem writeWait (h : DrumAt lo w D g m v d) {o : Obj} {W1 : World} {v' : Value} {i : Nat} {p : List UInt8} (hi : i < d.n) (hp : p.length = 64) (hgr : (w.alloc o).grownBy W1 v.ownBlock)
    (hown : W1.ownsRow lo tW 65 v' (d.wait.length + 1) (d.wait.flatMap wcell ++ wcell ((i : Int), p))) :
    (W1.cell? ⟨D, 2, none⟩ = some v ∧ W1.frozen? ⟨D, 2, none⟩ = false) ∧ DrumAt lo (W1.setCell ⟨D, 2, none⟩ v') D g m v' { d with wait := d.wait ++ [((i : Int), p)] } ∧ Chg lo w (W1.setCell ⟨D, 2, none⟩ v') := by
  have kp : ∀ {q cs t}, BlkT w q cs t → v.ownBlock ≠ some q → BlkT W1 q cs t := fun {q cs t} hb hne => by
    have h1 := hgr.block q (by simpa using Nat.lt_succ_of_lt hb.lt) (fun e => hne e.symm)
    have h2 : (w.alloc o).heap[q]? = w.heap[q]? := by
      show (w.heap.push o)[q]? = _
      rw [Array.getElem?_push, if_neg (by have := hb.lt; omega)]
    unfold BlkT at hb ⊢
    rw [h1, h2]; exact hb
  have hD := kp h.blk (h.blk.apartO h.wb (by decide))
  have hg := kp h.gb (h.gb.apartO h.wb (by decide))
  have hm := kp h.mb (h.mb.apartO h.wb (by decide))
  have hDg : g ≠ D := fun e => (hD.apart hg (by decide)) e.symm
  have hDm : m ≠ D := fun e => (hD.apart hm (by decide)) e.symm
  have hw := hD.apartO hown (by decide)
  refine ⟨⟨hD.blk.cell 2 _ rfl, hD.blk.thaw 2⟩, ⟨hD.set 2 _, hg.other hDg _ _, hm.other hDm _ _, ?_, h.ne, ⟨h.ok.n, h.ok.good, h.ok.now, fun x hx => ?_, h.ok.fuse⟩⟩, ?_⟩
  · have := hown.kept (grown_set W1 D 2 v') (.inr hw)
    simpa using this
  · rcases List.mem_append.1 hx with hx | hx
    · exact h.ok.wait x hx
    · rw [List.mem_singleton.1 hx]
      exact ⟨hp, Int.natCast_nonneg _, Int.ofNat_lt.2 hi⟩
  · have c1 : Chg lo w W1 := ⟨hgr.os, hgr.tape, hgr.output, Nat.le_trans (by simp) hgr.size, fun q hq hd => by
      have hne : v.ownBlock ≠ some q := fun e => by
        rcases h.wb.2 with ⟨rfl, _⟩ | ⟨q', cap, cur, rfl, hB, hg', _⟩
        · simp [Value.ownBlock] at e
        · simp only [Value.ownBlock, Option.some.injEq] at e
          subst e
          rcases hd with hd | hd
          · omega
          · exact (hd _ _ _ hg').2.2 rfl
      rw [hgr.block q (by simpa using Nat.lt_succ_of_lt hq) (fun e => hne e.symm)]
      show (w.heap.push o)[q]? = _
      rw [Array.getElem?_push, if_neg (by omega)]⟩
    exact c1.trans ((Chg.refl lo W1).set hD h.ne.2.1 (.inl rfl) 2 v')
theorem localW {W7 w1 : World} {o : Obj} {q : Nat} {cs : List Value} {v : Value} (hgr : (W7.drew.alloc o).grownBy w1 v.ownBlock) (hx : BlkT W7 q cs tW) (hv : ∀ i, v.ownBlock = some i → i < q) : w1.rangeAt q 0 cs := by
  have h1 := hgr.block q (by simpa using Nat.lt_succ_of_lt hx.lt) (fun e => by have := hv q e.symm; omega)
  have h2 : (W7.drew.alloc o).heap[q]? = W7.heap[q]? := by
    show (W7.drew.heap.push o)[q]? = _
    rw [Array.getElem?_push, if_neg (by have := hx.lt; simp; omega)]
    rfl
  have hb : BlkT w1 q cs tW := by unfold BlkT at hx ⊢; rw [h1, h2]; exact hx
  intro j u hu
  rw [Nat.zero_add]
  exact hb.blk.cell j u hu
set_option maxRecDepth 100000 in
set_option maxHeartbeats 4000000 in
theorem Write_c (h : DrumAt lo w D g m v d) (i : Int) (b : Option Addr) (c : Nat) (p : List UInt8) (hp : RowAt w (.slice b p.length c) (bytesV p)) (hpk : ∀ w', Chg lo w w' → RowAt w' (.slice b p.length c) (bytesV p)) (hwl : d.wait.length ≤ 1099511627776) : Calls Tryd.prog 27 #[.pointer (some ⟨D, 0, none⟩), .int .i64 i, .slice b p.length c] w (DrumTo lo D g m w (.int .i64 (writeP d i p).1) (writeP d i p).2) := by
  have CL := Lib.hid (lives_c h)
  have HS : Hid (writeP d i p = if (livesP d).1 = true then (if 0 ≤ i ∧ i < d.n ∧ p.length ≤ 64 then (0, { (livesP d).2 with now := upd (livesP d).2.now i.toNat (pad p), wait := (livesP d).2.wait ++ [(i, pad p)] }) else (1, (livesP d).2)) else (9, (livesP d).2)) := Lib.hid rfl
  have hn0 : (livesP d).2.n = d.n := by unfold livesP; split <;> rfl
  have hw0 : (livesP d).2.wait = d.wait := by unfold livesP; split <;> rfl
  rw [← hw0] at hwl
  clear hw0
  rw [HS.out]
  have hml := hp.1
  rw [bytesV_length, show maxLen = 9223372036854775807 by decide] at hml
  have HP := Lib.hid hpk
  clear h HS hp hpk
  generalize livesP d = pl at *
  obtain ⟨bl, d1⟩ := pl
  dsimp only at CL hn0 hwl ⊢
  rw [← hn0]
  clear hn0
  cases bl
  case false =>
    simp only [Bool.false_eq_true, if_false]
    go_enter Tryd.func27, Tryd.ntmps27
    go_wp2_with (first | (go_at_call 48; (with_reducible refine CL.out.mono ?_); rintro e wz ⟨rfl, hd, hc⟩; have HD := Lib.hid hd; have HC := Lib.hid hc; clear hd hc) | fail)
    go_ret
    exact ⟨v, rfl, HD.out, HC.out⟩
  case true =>
    simp only [if_true]
    by_cases h1 : i < 0
    · rw [if_neg (by omega)]
      go_enter Tryd.func27, Tryd.ntmps27
      go_wp2_with (first | (go_at_call 48; (with_reducible refine CL.out.mono ?_); rintro e wz ⟨rfl, hd, hc⟩; have HD := Lib.hid hd; have HC := Lib.hid hc; obtain ⟨⟨h0, h1, h2, h3, h4⟩, f0, f1, f2, f3, f4⟩ := hd.cells; clear hd hc) | fail)
      go_ret
      exact ⟨v, rfl, HD.out, HC.out⟩
    by_cases h2 : (d1.n : Int) ≤ i
    · rw [if_neg (by omega)]
      go_enter Tryd.func27, Tryd.ntmps27
      go_wp2_with (first | (go_at_call 48; (with_reducible refine CL.out.mono ?_); rintro e wz ⟨rfl, hd, hc⟩; have HD := Lib.hid hd; have HC := Lib.hid hc; obtain ⟨⟨h0, h1, h2, h3, h4⟩, f0, f1, f2, f3, f4⟩ := hd.cells; clear hd hc) | fail)
      go_ret
      exact ⟨v, rfl, HD.out, HC.out⟩
    by_cases h3 : 64 < p.length
    · rw [if_neg (by omega)]
      have h3' : (64 : Int) < (p.length : Int) := by omega
      go_enter Tryd.func27, Tryd.ntmps27
      go_wp2_with (first | (go_at_call 48; (with_reducible refine CL.out.mono ?_); rintro e wz ⟨rfl, hd, hc⟩; have HD := Lib.hid hd; have HC := Lib.hid hc; obtain ⟨⟨h0, h1, h2, h3, h4⟩, f0, f1, f2, f3, f4⟩ := hd.cells; clear hd hc) | fail)
      go_ret
      exact ⟨v, rfl, HD.out, HC.out⟩
    rw [if_pos (by omega)]
    have h3' : ¬ (64 : Int) < (p.length : Int) := by omega
    go_enter Tryd.func27, Tryd.ntmps27
    go_wp2_with (first | (go_at_call 48; (with_reducible refine CL.out.mono ?_); rintro e wz ⟨rfl, hd, hc⟩; have HD := Lib.hid hd; have HC := Lib.hid hc; obtain ⟨⟨h0, h1, h2, h3, h4⟩, f0, f1, f2, f3, f4⟩ := hd.cells; clear hd hc) | fail)
    rw [storeW]
    go_wp2_with fail
    have HCa : Chg lo w (wz.alloc (.cells (wcell (i, zero64)).toArray tW)) := HC.out.trans (Chg.ofBelow ((Below.refl _ wz).alloc (Nat.le_refl _) _))
    rw [run_copyP _ _ _ Tryd.underlying30 wz.heap.size i p b c (HP.out _ HCa) (by omega) (BlkT.new _ _ _), World.setRow_alloc_new]
    go_wp2_with fail
    have HCb : Chg lo w (wz.alloc (.cells (wcell (i, pad p)).toArray tW)).drew := HC.out.trans (Chg.ofBelow ((Below.refl _ wz).alloc (Nat.le_refl _) _).drew)
    have HDb := Lib.hid (HD.out.below ((Below.refl _ wz).alloc (Nat.le_refl _) (.cells (wcell (i, pad p)).toArray tW)).drew)
    obtain ⟨⟨h0, h1c, h2c, h3c, h4c⟩, f0, f1, f2, f3, f4⟩ := HDb.out.cells
    obtain ⟨k, rfl⟩ : ∃ k : Nat, i = (k : Int) := ⟨i.toNat, by omega⟩
    have hk : k < d1.n := by omega
    have hpl := pad_len (p := p) (by omega)
    have hnn := HDb.out.ok.n
    refine wp_region_last (n := 8) (S := (fun W => W.cell? ⟨D, 1, none⟩ = some (.slice (some ⟨m, 0, none⟩) d1.n d1.n) ∧ W.rangeAt wz.heap.size 1 (bytesV (pad p)))) (by kernel_rfl) (by kernel_rfl) (by kernel_rfl) ?_ (fun hHeld => ?_)
    · (exact ⟨h1c, rangeW wz _ (pad p)⟩)
    (refine wpAnyH_take (i := 0) (oi := R_WriteA_0) (v := ?_) rfl (by kernel_rfl) (by kernel_rfl) (by kernel_rfl) (fun _ _ _ h => h) (Or.inl ⟨by rfl, ?_⟩) (by assumption) ?_; rotate_left; next => (intro w hSw; (try dsimp only at hSw); (try delta R_WriteA_0); go_simp; try with_reducible rfl))
    (try simp only [Act.put, List.setIfInBounds_toArray, List.set_cons_zero, List.set_cons_succ])
    (refine wpAnyH_take (i := 1) (oi := R_WriteA_1) (v := ?_) rfl (by kernel_rfl) (by kernel_rfl) (by kernel_rfl) (fun _ _ _ h => h) (Or.inl ⟨by rfl, ?_⟩) (by assumption) ?_; rotate_left; next => (intro w hSw; (try dsimp only at hSw); (try delta R_WriteA_1); go_simp; try with_reducible rfl))
    (try simp only [Act.put, List.setIfInBounds_toArray, List.set_cons_zero, List.set_cons_succ])
    (refine wpAnyH_take (i := 2) (oi := R_WriteA_2) (v := ?_) rfl (by kernel_rfl) (by kernel_rfl) (by kernel_rfl) (fun _ _ _ h => h) (Or.inl ⟨by rfl, ?_⟩) (by assumption) ?_; rotate_left; next => (intro w hSw; (try dsimp only at hSw); (try delta R_WriteA_2); go_simp; try with_reducible rfl))
    (try simp only [Act.put, List.setIfInBounds_toArray, List.set_cons_zero, List.set_cons_succ])
    (refine wpAnyH_take (i := 3) (oi := R_WriteA_3) (v := ?_) rfl (by kernel_rfl) (by kernel_rfl) (by kernel_rfl) (fun _ _ _ h => h) (Or.inl ⟨by rfl, ?_⟩) (by assumption) ?_; rotate_left; next => (intro w hSw; (try dsimp only at hSw); (try delta R_WriteA_3); go_simp; try with_reducible rfl))
    (try simp only [Act.put, List.setIfInBounds_toArray, List.set_cons_zero, List.set_cons_succ])
    (refine wpAnyH_take (i := 4) (oi := R_WriteA_4) (v := ?_) rfl (by kernel_rfl) (by kernel_rfl) (by kernel_rfl) (fun _ _ _ h => h) (Or.inl ⟨by rfl, ?_⟩) (by assumption) ?_; rotate_left; next => (intro w hSw; (try dsimp only at hSw); (try delta R_WriteA_4); go_simp; try with_reducible rfl))
    (try simp only [Act.put, List.setIfInBounds_toArray, List.set_cons_zero, List.set_cons_succ])
    (refine wpAnyH_take (i := 5) (oi := R_WriteA_5) (v := ?_) rfl (by kernel_rfl) (by kernel_rfl) (by kernel_rfl) (fun _ _ _ h => h) (Or.inl ⟨by rfl, ?_⟩) (by assumption) ?_; rotate_left; next => (intro w hSw; (try dsimp only at hSw); (try delta R_WriteA_5); go_simp; try with_reducible rfl))
    (try simp only [Act.put, List.setIfInBounds_toArray, List.set_cons_zero, List.set_cons_succ])
    refine wpAnyH_take (i := 6) (oi := R_WriteA_6) rfl (by kernel_rfl) (by kernel_rfl) (by kernel_rfl) (fun _ _ _ h => h) (yieldsIf_load_mid (by rfl) tS _ rfl wz.heap.size 1 rfl (bytesV (pad p)) _ (fun _ h => h.2) Tryd.underlying78 rfl (by rw [secInfo, bytesV_length, hpl])) (by assumption) ?_
    (try simp only [Act.put, List.setIfInBounds_toArray, List.set_cons_zero, List.set_cons_succ])
    (refine wpAnyH_take (i := 7) (oi := R_WriteA_7) (v := ?_) rfl (by kernel_rfl) (by kernel_rfl) (by kernel_rfl) (fun _ _ _ h => h) (Or.inl ⟨by rfl, ?_⟩) (by assumption) ?_; rotate_left; next => (intro w hSw; (try dsimp only at hSw); (try delta R_WriteA_7); go_simp; try with_reducible rfl))
    (try simp only [Act.put, List.setIfInBounds_toArray, List.set_cons_zero, List.set_cons_succ])
    refine wpAnyH_done (by kernel_rfl) ?_ _
    (refine last_do (o := { dst := none, op := Op.store 78 (Operand.tmp 42) (Operand.tmp 41), type := 0, pos := "drum.go:67", after := #[{ on := 7, ground := Ground.data }, { on := 6, ground := Ground.data }, { on := 0, ground := Ground.phase }, { on := 1, ground := Ground.phase }, { on := 2, ground := Ground.phase }, { on := 3, ground := Ground.phase }, { on := 4, ground := Ground.phase }, { on := 5, ground := Ground.phase }, { on := 6, ground := Ground.phase }], guard := none }) rfl (fun K hK => ?_); refine step_storeS rfl _ _ rfl m k d1.n d1.now (pad p) rfl rfl HDb.out.mb HDb.out.ok.now hk hpl ?_; refine hK.out _ _ ?_; clear hK K; go_wp2_with fail)
    have HN7 := Lib.hid (writeNow HDb.out hk hpl)
    have HC7 : Hid (Chg lo w ((wz.alloc (.cells (wcell ((k : Int), pad p)).toArray tW)).drew.setRow m (bytesV (upd d1.now k (pad p))).toArray)) := Lib.hid (HCb.trans HN7.out.2)
    have HX7 : Hid (BlkT ((wz.alloc (.cells (wcell ((k : Int), pad p)).toArray tW)).drew.setRow m (bytesV (upd d1.now k (pad p))).toArray) wz.heap.size (wcell ((k : Int), pad p)) tW) := Lib.hid (BlkT.rowOther (BlkT.new wz _ _) (by have := HD.out.mb.lt; omega) _)
    have HD7 := Lib.hid HN7.out.1
    have hlo : lo ≤ wz.heap.size := by have := HD.out.mb.lt; have := HD.out.ne.2.2.2; omega
    have hsz7 : wz.heap.size ≤ ((wz.alloc (.cells (wcell ((k : Int), pad p)).toArray tW)).drew.setRow m (bytesV (upd d1.now k (pad p))).toArray).heap.size := by simp
    clear HN7 h0 h1c h2c h3c h4c f0 f1 f2 f3 f4 HDb HCb HCa hHeld
    generalize ((wz.alloc (.cells (wcell ((k : Int), pad p)).toArray tW)).drew.setRow m (bytesV (upd d1.now k (pad p))).toArray) = W7 at *
    have HD8 := Lib.hid (HD7.out.below (Below.refl _ W7).drew)
    obtain ⟨h0, h1c, h2c, h3c, h4c⟩ := HD8.out.cells.1
    have HX8 : Hid (W7.drew.rangeAt wz.heap.size 0 (wcell ((k : Int), pad p))) := Lib.hid (by
      rw [World.rangeAt_drew]; intro j u hu; rw [Nat.zero_add]; exact HX7.out.blk.cell j u hu)
    have hlo8 : lo ≤ W7.heap.size := by omega
    refine wp_region_last (n := 10) (S := (fun W => W.cell? ⟨D, 2, none⟩ = some v ∧ W.rangeAt wz.heap.size 0 (wcell ((k : Int), pad p)))) (by kernel_rfl) (by kernel_rfl) (by kernel_rfl) ?_ (fun hHeld => ?_)
    · (first | exact ⟨h2c, HX8.out⟩ | exact ⟨HW9.out.1, HW9.out.2⟩ | exact ⟨HN9.out.1.1, HY9.out⟩)
    (refine wpAnyH_take (i := 0) (oi := R_WriteB_0) (v := ?_) rfl (by kernel_rfl) (by kernel_rfl) (by kernel_rfl) (fun _ _ _ h => h) (Or.inl ⟨by rfl, ?_⟩) (by assumption) ?_; rotate_left; next => (intro w hSw; (try dsimp only at hSw); (try delta R_WriteB_0); go_simp; try with_reducible rfl))
    (try simp only [Act.put, List.setIfInBounds_toArray, List.set_cons_zero, List.set_cons_succ])
    (refine wpAnyH_take (i := 1) (oi := R_WriteB_1) (v := ?_) rfl (by kernel_rfl) (by kernel_rfl) (by kernel_rfl) (fun _ _ _ h => h) (Or.inl ⟨by rfl, ?_⟩) (by assumption) ?_; rotate_left; next => (intro w hSw; (try dsimp only at hSw); (try delta R_WriteB_1); go_simp; try with_reducible rfl))
    (try simp only [Act.put, List.setIfInBounds_toArray, List.set_cons_zero, List.set_cons_succ])
    (refine wpAnyH_take (i := 2) (oi := R_WriteB_2) (v := ?_) rfl (by kernel_rfl) (by kernel_rfl) (by kernel_rfl) (fun _ _ _ h => h) (Or.inl ⟨by rfl, ?_⟩) (by assumption) ?_; rotate_left; next => (intro w hSw; (try dsimp only at hSw); (try delta R_WriteB_2); go_simp; try with_reducible rfl))
    (try simp only [Act.put, List.setIfInBounds_toArray, List.set_cons_zero, List.set_cons_succ])
    (refine wpAnyH_take (i := 3) (oi := R_WriteB_3) (v := ?_) rfl (by kernel_rfl) (by kernel_rfl) (by kernel_rfl) (fun _ _ _ h => h) (Or.inl ⟨by rfl, ?_⟩) (by assumption) ?_; rotate_left; next => (intro w hSw; (try dsimp only at hSw); (try delta R_WriteB_3); go_simp; try with_reducible rfl))
    (try simp only [Act.put, List.setIfInBounds_toArray, List.set_cons_zero, List.set_cons_succ])
    (refine wpAnyH_take (i := 4) (oi := R_WriteB_4) (v := ?_) rfl (by kernel_rfl) (by kernel_rfl) (by kernel_rfl) (fun _ _ _ h => h) (Or.inl ⟨by rfl, ?_⟩) (by assumption) ?_; rotate_left; next => (intro w hSw; (try dsimp only at hSw); (try delta R_WriteB_4); go_simp; try with_reducible rfl))
    (try simp only [Act.put, List.setIfInBounds_toArray, List.set_cons_zero, List.set_cons_succ])
    refine wpAnyH_take (i := 5) (oi := R_WriteB_5) rfl (by kernel_rfl) (by kernel_rfl) (by kernel_rfl) (fun _ _ _ h => h) (yieldsIf_load_mid (by rfl) tW _ rfl wz.heap.size 0 rfl (wcell ((k : Int), pad p)) _ (fun _ h => h.2) Tryd.underlying80 rfl (by rw [writeInfo, wcell_len hpl])) (by assumption) ?_
    (try simp only [Act.put, List.setIfInBounds_toArray, List.set_cons_zero, List.set_cons_succ])
    refine wpAnyH_ready (rs := [6]) (by kernel_rfl) (by simp) ?_
    refine AllReadyH.cons (o := R_WriteB_6) rfl (fun K hK => ?_) AllReadyH.nil
    (try delta R_WriteB_6)
    (refine step_buildOne elemWt (by decide) (by decide) rfl _ rfl (wcell ((k : Int), pad p)) rfl (wcell_len hpl) ?_; have HW9 : Hid ((W7.drew.alloc (.cells (wcell ((k : Int), pad p)).toArray 80)).cell? ⟨D, 2, none⟩ = some v ∧ (W7.drew.alloc (.cells (wcell ((k : Int), pad p)).toArray 80)).rangeAt wz.heap.size 0 (wcell ((k : Int), pad p))) := Lib.hid ⟨by rw [World.cell?_alloc_lt _ _ _ (by have := HD8.out.blk.lt; simpa using this)]; exact h2c, World.rangeAt_alloc HX8.out _⟩)
    refine hK.out _ _ ?_ (fun hHeld => ?_)
    · (first | exact ⟨h2c, HX8.out⟩ | exact ⟨HW9.out.1, HW9.out.2⟩ | exact ⟨HN9.out.1.1, HY9.out⟩)
    clear hK K
    (try simp only [Act.put, List.setIfInBounds_toArray, List.set_cons_zero, List.set_cons_succ])
    refine wpAnyH_ready (rs := [7]) (by kernel_rfl) (by simp) ?_
    refine AllReadyH.cons (o := R_WriteB_7) rfl (fun K hK => ?_) AllReadyH.nil
    (try delta R_WriteB_7)
    (refine step_appK elemWt (by decide) rfl _ _ rfl lo d1.wait.length v _ rfl (HD8.out.wb.alloc _) ⟨W7.drew.heap.size, 0, none⟩ 1 (wcell ((k : Int), pad p)) rfl (wcell_len hpl) (fun j u hu => by rw [addr_add, Nat.zero_add]; exact (Blk.new W7.drew (wcell ((k : Int), pad p)) _).cell j u hu) (wcell_one _ _) (by omega) (by omega) (by simp; omega) ?_; intro va vc w1 hown hgr; have HN9 := Lib.hid (writeWait HD8.out hk hpl hgr hown); have HY9 : Hid (w1.rangeAt wz.heap.size 0 (wcell ((k : Int), pad p))) := Lib.hid (localW hgr HX7.out (fun q hq => (HD.out.wb.lt q hq).2)); clear hown hgr)
    refine hK.out _ _ ?_ (fun hHeld => ?_)
    · (first | exact ⟨h2c, HX8.out⟩ | exact ⟨HW9.out.1, HW9.out.2⟩ | exact ⟨HN9.out.1.1, HY9.out⟩)
    clear hK K
    (try simp only [Act.put, List.setIfInBounds_toArray, List.set_cons_zero, List.set_cons_succ])
    (refine wpAnyH_take (i := 8) (oi := R_WriteB_8) (v := ?_) rfl (by kernel_rfl) (by kernel_rfl) (by kernel_rfl) (fun _ _ _ h => h) (Or.inl ⟨by rfl, ?_⟩) (by assumption) ?_; rotate_left; next => (intro w hSw; (try dsimp only at hSw); (try delta R_WriteB_8); go_simp; try with_reducible rfl))
    (try simp only [Act.put, List.setIfInBounds_toArray, List.set_cons_zero, List.set_cons_succ])
    (refine wpAnyH_take (i := 9) (oi := R_WriteB_9) (v := ?_) rfl (by kernel_rfl) (by kernel_rfl) (by kernel_rfl) (fun _ _ _ h => h) (Or.inl ⟨by rfl, ?_⟩) (by assumption) ?_; rotate_left; next => (intro w hSw; (try dsimp only at hSw); (try delta R_WriteB_9); go_simp; try with_reducible rfl))
    (try simp only [Act.put, List.setIfInBounds_toArray, List.set_cons_zero, List.set_cons_succ])
    refine wpAnyH_done (by kernel_rfl) ?_ _
    (refine last_do (o := { dst := none, op := Op.store 63 (Operand.tmp 52) (Operand.tmp 50), type := 0, pos := "drum.go:68", after := #[{ on := 9, ground := Ground.data }, { on := 7, ground := Ground.data }, { on := 7, ground := Ground.chain }, { on := 0, ground := Ground.phase }, { on := 1, ground := Ground.phase }, { on := 2, ground := Ground.phase }, { on := 3, ground := Ground.phase }, { on := 4, ground := Ground.phase }, { on := 5, ground := Ground.phase }, { on := 6, ground := Ground.phase }, { on := 7, ground := Ground.phase }], guard := none }) rfl (fun K hK => ?_); have e0 := HN9.out.1.1; have e1 := HN9.out.1.2; go_simp; refine hK.out _ _ ?_; clear hK K; go_wp2_with fail; go_ret; exact ⟨_, rfl, HN9.out.2.1, (HC7.out.trans (Chg.ofBelow (Below.refl _ W7).drew)).trans HN9.out.2.2⟩)
end
end Go.Proofs.YtlllbacjdjllbaaDoor
