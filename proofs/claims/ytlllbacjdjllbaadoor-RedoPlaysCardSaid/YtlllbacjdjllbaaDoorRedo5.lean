
/- Contracts of package redo: an entry is laid; Append, Reset, Len, Room. -/
import Derived.Test.YtlllbacjdjllbaaDoorRedo4
namespace Go.Proofs.YtlllbacjdjllbaaDoor
open Go Go.Proofs Go.Shelf Go.RowKit Go.Great
set_option linter.unusedVariables false
set_option linter.unusedSimpArgs false
abbrev R_RApp3_0 : Oper := { dst := some 7, op := Op.move (Operand.tmp 0), type := 25, pos := "redo.go:125", after := #[], guard := none }
abbrev R_RApp3_1 : Oper := { dst := some 8, op := Op.move (Operand.tmp 0), type := 25, pos := "redo.go:125", after := #[], guard := none }
abbrev R_RApp3_10 : Oper := { dst := some 17, op := Op.move (Operand.tmp 1), type := 30, pos := "redo.go:125", after := #[], guard := none }
abbrev R_RApp3_11 : Oper := { dst := some 18, op := Op.move (Operand.tmp 0), type := 25, pos := "redo.go:125", after := #[], guard := none }
abbrev R_RApp3_12 : Oper := { dst := some 19, op := Op.nilCheck (Operand.tmp 18), type := 0, pos := "redo.go:125", after := #[{ on := 11, ground := Ground.data }], guard := none }
abbrev R_RApp3_13 : Oper := { dst := some 20, op := Op.fieldAddr 70 (Operand.tmp 19) 3, type := 0, pos := "redo.go:125", after := #[{ on := 12, ground := Ground.data }], guard := none }
abbrev R_RApp3_14 : Oper := { dst := some 21, op := Op.load 3 (Operand.tmp 20), type := 3, pos := "redo.go:125", after := #[{ on := 13, ground := Ground.data }], guard := none }
abbrev R_RApp3_15 : Oper := { dst := some 22, op := Op.binOp BinOp.add 3 (Operand.tmp 21) (Operand.const (Value.int IntKind.i64 1)) 3, type := 3, pos := "redo.go:125", after := #[{ on := 14, ground := Ground.data }], guard := none }
abbrev R_RApp3_2 : Oper := { dst := some 9, op := Op.nilCheck (Operand.tmp 8), type := 0, pos := "redo.go:125", after := #[{ on := 1, ground := Ground.data }], guard := none }
abbrev R_RApp3_3 : Oper := { dst := some 10, op := Op.fieldAddr 70 (Operand.tmp 9) 1, type := 0, pos := "redo.go:125", after := #[{ on := 2, ground := Ground.data }], guard := none }
abbrev R_RApp3_4 : Oper := { dst := some 11, op := Op.fieldAddr 67 (Operand.tmp 10) 1, type := 0, pos := "redo.go:125", after := #[{ on := 3, ground := Ground.data }], guard := none }
abbrev R_RApp3_5 : Oper := { dst := some 12, op := Op.load 3 (Operand.tmp 11), type := 3, pos := "redo.go:125", after := #[{ on := 4, ground := Ground.data }], guard := none }
abbrev R_RApp3_6 : Oper := { dst := some 13, op := Op.move (Operand.tmp 0), type := 25, pos := "redo.go:125", after := #[], guard := none }
abbrev R_RApp3_7 : Oper := { dst := some 14, op := Op.nilCheck (Operand.tmp 13), type := 0, pos := "redo.go:125", after := #[{ on := 6, ground := Ground.data }], guard := none }
abbrev R_RApp3_8 : Oper := { dst := some 15, op := Op.fieldAddr 70 (Operand.tmp 14) 2, type := 0, pos := "redo.go:125", after := #[{ on := 7, ground := Ground.data }], guard := none }
abbrev R_RApp3_9 : Oper := { dst := some 16, op := Op.load 30 (Operand.tmp 15), type := 30, pos := "redo.go:125", after := #[{ on := 8, ground := Ground.data }], guard := none }
abbrev R_RRoom3_0 : Oper := { dst := some 5, op := Op.move (Operand.tmp 0), type := 25, pos := "redo.go:149", after := #[], guard := none }
abbrev R_RRoom3_1 : Oper := { dst := some 6, op := Op.nilCheck (Operand.tmp 5), type := 0, pos := "redo.go:149", after := #[{ on := 0, ground := Ground.data }], guard := none }
abbrev R_RRoom3_10 : Oper := { dst := some 15, op := Op.call { callee := Callee.builtin Builtin.len, args := #[Operand.tmp 14], argTypes := #[30] }, type := 3, pos := "redo.go:149", after := #[{ on := 9, ground := Ground.data }], guard := none }
abbrev R_RRoom3_11 : Oper := { dst := some 16, op := Op.binOp BinOp.sub 3 (Operand.tmp 10) (Operand.tmp 15) 3, type := 3, pos := "redo.go:149", after := #[{ on := 5, ground := Ground.data }, { on := 10, ground := Ground.data }], guard := none }
abbrev R_RRoom3_12 : Oper := { dst := some 2, op := Op.assign (Operand.tmp 16), type := 3, pos := "redo.go:149", after := #[{ on := 11, ground := Ground.data }, { on := 4, ground := Ground.chain }, { on := 0, ground := Ground.phase }, { on := 1, ground := Ground.phase }, { on := 2, ground := Ground.phase }, { on := 3, ground := Ground.phase }, { on := 4, ground := Ground.phase }, { on := 5, ground := Ground.phase }, { on := 6, ground := Ground.phase }, { on := 7, ground := Ground.phase }, { on := 8, ground := Ground.phase }, { on := 9, ground := Ground.phase }, { on := 10, ground := Ground.phase }, { on := 11, ground := Ground.phase }], guard := none }
abbrev R_RRoom3_2 : Oper := { dst := some 7, op := Op.fieldAddr 70 (Operand.tmp 6) 0, type := 0, pos := "redo.go:149", after := #[{ on := 1, ground := Ground.data }], guard := none }
abbrev R_RRoom3_3 : Oper := { dst := some 8, op := Op.load 23 (Operand.tmp 7), type := 23, pos := "redo.go:149", after := #[{ on := 2, ground := Ground.data }], guard := none }
abbrev R_RRoom3_4 : Oper := { dst := some 9, op := Op.call { callee := Callee.value (Operand.func 34), args := #[Operand.tmp 8], argTypes := #[23] }, type := 3, pos := "redo.go:149", after := #[{ on := 3, ground := Ground.data }], guard := none }
abbrev R_RRoom3_5 : Oper := { dst := some 10, op := Op.binOp BinOp.mul 3 (Operand.tmp 9) (Operand.const (Value.int IntKind.i64 64)) 3, type := 3, pos := "redo.go:149", after := #[{ on := 4, ground := Ground.data }], guard := none }
abbrev R_RRoom3_6 : Oper := { dst := some 11, op := Op.move (Operand.tmp 0), type := 25, pos := "redo.go:149", after := #[], guard := none }
abbrev R_RRoom3_7 : Oper := { dst := some 12, op := Op.nilCheck (Operand.tmp 11), type := 0, pos := "redo.go:149", after := #[{ on := 6, ground := Ground.data }], guard := none }
abbrev R_RRoom3_8 : Oper := { dst := some 13, op := Op.fieldAddr 70 (Operand.tmp 12) 2, type := 0, pos := "redo.go:149", after := #[{ on := 7, ground := Ground.data }], guard := none }
abbrev R_RRoom3_9 : Oper := { dst := some 14, op := Op.load 30 (Operand.tmp 13), type := 30, pos := "redo.go:149", after := #[{ on := 8, ground := Ground.data }], guard := none }

/-- a region that draws its order, and whose last two operations wait for all others, one behind the other. -/
theorem wp_region_last2 {P : Program} {full : Array Oper} {Q : Exit → Go.Act → World → Prop} {id n : Nat} {a : Go.Act} {w : World} {S : World → Prop} (hm : P.follows .mixedOrders = true) (hf : full.size = n + 2) (hok : lastOk .any full = true) (hok1 : lastOk .any full.pop = true) (hS : S w.drew)
    (h : S w.drew → wpAnyH P .any full.pop.pop (lastQ P full.pop (lastQ P full Q (n + 1)) n) S n (Array.replicate n false) a w.drew) : (Code.region id full true).wp P Q a w := by
  refine wp_region_any hm ?_
  have cl : ∀ (m : Nat) (os : Array Oper), Closed .any os (Array.replicate m false) := fun m os i o ho hl => by
    exfalso
    by_cases hin : i < m
    · simp [Array.getD, hin] at hl
    · simp [Array.getD, hin] at hl
  have rep : ∀ m : Nat, Array.replicate (m + 1) false = (Array.replicate m false).push false := fun m => by
    apply Array.ext_getElem?
    intro q
    simp only [Array.getElem?_replicate, Array.getElem?_push, Array.size_replicate]
    split <;> split <;> simp_all <;> omega
  have h1 := wpAny_of_held _ _ _ _ (h hS)
  have h2 := wp_last (P := P) (Q := lastQ P full Q (n + 1)) (md := .any) (ops := full.pop.pop) (full := full.pop) (n := n) (by simp; omega) (fun i hi => by rw [Array.getElem?_pop]; rw [if_pos (by simp; omega)]) (by simp; omega) hok1 n (Array.replicate n false) a w.drew (by simp) (cl _ _) h1
  rw [← rep] at h2
  have h3 := wp_last (P := P) (Q := Q) (md := .any) (ops := full.pop) (full := full) (n := n + 1) (by omega) (fun i hi => by rw [Array.getElem?_pop]; rw [if_pos (by omega)]) (by simp; omega) hok (n + 1) (Array.replicate (n + 1) false) a w.drew (by simp) (cl _ _) h2
  rw [← rep] at h3
  rw [hf]
  exact h3
/-- nothing has turned but drums and logs that lie from lo on. -/
def notL (W : World) (k : Nat) : Prop := ∀ cs t fr, W.heap[k]? = some (.cells cs t fr) → t ≠ tD ∧ t ≠ tS ∧ t ≠ tW ∧ t ≠ tL
structure ChL (lo : Nat) (w w' : World) : Prop where
  os : w'.os = w.os
  tape : w'.tape = w.tape
  output : w'.output = w.output
  size : w.heap.size ≤ w'.heap.size
  block : ∀ k, k < w.heap.size → (k < lo ∨ notL w k) → w'.heap[k]? = w.heap[k]?
theorem ChL.refl (lo : Nat) (w : World) : ChL lo w w := ⟨rfl, rfl, rfl, Nat.le_refl _, fun _ _ _ => rfl⟩
theorem ChL.trans {lo : Nat} {a b c : World} (h : ChL lo a b) (k : ChL lo b c) : ChL lo a c :=
  ⟨k.os.trans h.os, k.tape.trans h.tape, k.output.trans h.output, Nat.le_trans h.size k.size, fun i hi hd => by
    have e := h.block i hi hd
    rw [← e]
    refine k.block i (Nat.lt_of_lt_of_le hi h.size) ?_
    rcases hd with hd | hd
    · exact .inl hd
    · right; intro cs t fr hc; rw [e] at hc; exact hd cs t fr hc⟩
theorem ChL.ofChg {lo : Nat} {w w' : World} (h : Chg lo w w') : ChL lo w w' :=
  ⟨h.os, h.tape, h.output, h.size, fun k hk hd => h.block k hk (hd.imp id (fun h cs t fr hc => by obtain ⟨a, b, c, _⟩ := h cs t fr hc; exact ⟨a, b, c⟩))⟩
theorem ChL.ofBelow {lo : Nat} {w w' : World} (h : Below w.heap.size w w') : ChL lo w w' := ChL.ofChg (Chg.ofBelow h)
theorem ChL.below {lo : Nat} {w0 w w' : World} (h : ChL lo w w') (h0 : Below w0.heap.size w0 w) (hl : w0.heap.size ≤ lo) : Below w0.heap.size w0 w' :=
  h0.trans ⟨h.os, h.tape, h.output, h.size, fun k hk => h.block k (Nat.lt_of_lt_of_le hk h0.size) (.inl (by omega))⟩
theorem BlkT.chl {lo : Nat} {w w' : World} {g : Nat} {cs : List Value} {t : TypeId} (h : BlkT w g cs t) (hc : ChL lo w w') (ht : t ≠ tD ∧ t ≠ tS ∧ t ≠ tW ∧ t ≠ tL) : BlkT w' g cs t := by
  have e := hc.block g h.lt (.inr (fun cs' t' fr' he => by unfold BlkT at h; rw [h] at he; simp only [Option.some.injEq, Obj.cells.injEq] at he; rw [← he.2.1]; exact ht))
  unfold BlkT at h ⊢
  rw [e]; exact h
theorem own_chl {lo : Nat} {w w' : World} {B e k n : Nat} {v : Value} {xs : List Value} (h : w.ownsRow B e k v n xs) (hc : ChL lo w w') (ht : e ≠ tD ∧ e ≠ tS ∧ e ≠ tW ∧ e ≠ tL) : w'.ownsRow B e k v n xs := by
  refine ⟨h.1, ?_⟩
  rcases h.2 with h' | ⟨g, cap, cur, rfl, hB, hg, rest⟩
  · exact .inl h'
  · refine .inr ⟨g, cap, cur, rfl, hB, ?_, rest⟩
    rw [hc.block g (Array.getElem?_eq_some_iff.1 hg).1 (.inr (fun cs' t' fr' he => by rw [hg] at he; simp only [Option.some.injEq, Obj.cells.injEq] at he; rw [← he.2.1]; exact ht))]
    exact hg
theorem RowU.chl {lo lo' : Nat} {W W' : World} {v : Value} {l : List UInt8} (h : RowU lo W v l) (hc : ChL lo' W W') : RowU lo W' v l := by
  obtain ⟨hr, g, cur, fr, hg, hl, hh⟩ := h
  have e := hc.block g (Array.getElem?_eq_some_iff.1 hh).1 (.inr (fun cs' t' fr' he => by rw [hh] at he; simp only [Option.some.injEq, Obj.cells.injEq] at he; rw [← he.2.1]; decide))
  refine ⟨hr.move fun b o u hb hlt hcell => ?_, g, cur, fr, hg, hl, e.trans hh⟩
  rw [hg] at hb
  obtain rfl : g = b := Option.some.inj hb
  rw [World.cell?_of_block (a := ⟨g, o, none⟩) e]; exact hcell
theorem RowsU.chl {lo lo' : Nat} {W W' : World} {v : Value} {es : List (List UInt8)} (h : RowsU lo W v es) (hc : ChL lo' W W') : RowsU lo W' v es := by
  obtain ⟨cells, ho, hcs⟩ := h
  exact ⟨cells, own_chl ho hc (by decide), fun i e c h1 h2 => (hcs i e c h1 h2).chl hc⟩
/-- a log's block is written. -/
theorem ChL.set {lo : Nat} {w W : World} {g : Nat} {cs : List Value} (h : ChL lo w W) (hb : BlkT W g cs tL) (hg : lo ≤ g) (j : Nat) (v : Value) : ChL lo w (W.setCell ⟨g, j, none⟩ v) := by
  have hs := (grownBy_set W g j v)
  refine ⟨hs.os.trans h.os, hs.tape.trans h.tape, hs.output.trans h.output, Nat.le_trans h.size hs.size, fun k hk hd => ?_⟩
  have hne : k ≠ g := by
    rintro rfl
    rcases hd with hd | hd
    · omega
    · have e := h.block k hk (.inr hd)
      have hb' : W.heap[k]? = some (.cells cs.toArray tL) := hb
      rw [e] at hb'
      exact (hd _ _ _ hb').2.2.2 rfl
  exact (hs.block k (Nat.lt_of_lt_of_le hk h.size) (by simp [hne])).trans (h.block k hk hd)
/-- a cell of a log's block is set. -/
structure LX (lo : Nat) (w W : World) (L D g m : Nat) (v vb : Value) (d : PD) (bb : List UInt8) (cs : List Value) : Prop where
  blk : BlkT W L cs tL
  drum : DrumAt lo W D g m v d
  chl : ChL lo w W
  own : W.ownsRow lo 5 1 vb bb.length (bytesV bb)
theorem LX.set {lo : Nat} {w W : World} {L D g m : Nat} {v vb : Value} {d : PD} {bb : List UInt8} {cs : List Value} (h : LX lo w W L D g m v vb d bb cs) (hg : lo ≤ L) (j : Nat) (u : Value) : LX lo w (W.setCell ⟨L, j, none⟩ u) L D g m v vb d bb (cs.set j u) := by
  have hd := h.drum
  refine ⟨h.blk.set j u, ⟨hd.blk.other (h.blk.apart hd.blk (by decide)).symm j u, hd.gb.other (h.blk.apart hd.gb (by decide)).symm j u, hd.mb.other (h.blk.apart hd.mb (by decide)).symm j u, Go.ownsRow_setCell_other (a := (⟨L, j, none⟩ : Addr)) hd.wb (h.blk.apartO hd.wb (by decide)) u, hd.ne, hd.ok⟩, h.chl.set h.blk hg j u, Go.ownsRow_setCell_other (a := (⟨L, j, none⟩ : Addr)) h.own (h.blk.apartO h.own (by decide)) u⟩
/-- an entry is laid behind bytes. -/
def laysP (l : PL) (d : PD) (k : Nat) (b p : List UInt8) (count : Int) : Int × PL × PD :=
  if l.dead = true then (9, l, d)
  else if 64 * bankP d < (b ++ lebStr p).length ∨ 1099511627776 ≤ l.head.number then (3, l, d)
  else if (writesP d (l.head.number + 1) k (b ++ lebStr p) b.length).1 = 0 then (0, ⟨⟨l.head.number + 1, k, (b ++ lebStr p).length⟩, b ++ lebStr p, count, false⟩, (writesP d (l.head.number + 1) k (b ++ lebStr p) b.length).2)
  else ((writesP d (l.head.number + 1) k (b ++ lebStr p) b.length).1, { l with dead := true }, (writesP d (l.head.number + 1) k (b ++ lebStr p) b.length).2)
/-- a log on a drum. -/
structure LDAt (lo : Nat) (W : World) (L D g m : Nat) (bv v : Value) (l : PL) (d : PD) : Prop where
  log : LogAt lo W L D bv l
  drum : DrumAt lo W D g m v d
def LDTo (lo L D g m : Nat) (w : World) (r : Int) (l : PL) (d : PD) (e : Ending) (w' : World) : Prop := ∃ bv v, e = .returned (.int .i64 r) ∧ LDAt lo w' L D g m bv v l d ∧ ChL lo w w'
theorem LDAt.below {lo : Nat} {W W' : World} {L D g m : Nat} {bv v : Value} {l : PL} {d : PD} (h : LDAt lo W L D g m bv v l d) (hb : Below W.heap.size W W') : LDAt lo W' L D g m bv v l d :=
  ⟨h.log.chg (Chg.ofBelow (lo := lo) hb), h.drum.below hb⟩
section
variable {lo L D g m : Nat} {bv v : Value} {l : PL} {d : PD} {w : World}
set_option maxRecDepth 100000 in
set_option maxHeartbeats 8000000 in
theorem lays_c (h : LDAt lo w L D g m bv v l d) (hn : 4 ≤ d.n) (hno : 0 ≤ l.head.number) (hno2 : l.head.number ≤ 9223372036854775000) (k : Nat) (hk : k ≤ 1) (b p : List UInt8) (vb vp : Value) (hb : RowAt w vb (bytesV b)) (hp : RowAt w vp (bytesV p)) (hbl : b.length ≤ 64 * bankP d) (hpl : p.length ≤ 17592186000000) (count : Int)
    (hwl : d.wait.length ≤ 1099511000000) : Calls Tryd.prog 41 #[.pointer (some ⟨L, 0, none⟩), .int .i64 (k : Int), vb, vp, .int .i64 count] w (LDTo lo L D g m w (laysP l d k b p count).1 (laysP l d k b p count).2.1 (laysP l d k b p count).2.2) := by
  have HLn := hb.lenRun elemU 3
  have hs := hp.toStr 30 9 5 Tryd.underlying30 Tryd.underlying5 Tryd.underlying9
  rw [bytesV_length] at HLn
  have H := Lib.hid h
  have hbq : bankP d ≤ 99 := by unfold bankP; have := h.drum.ok.n; omega
  have HST : Hid (Calls Tryd.prog 55 #[vb, .slice (some ⟨w.heap.size, 0, none⟩) 1 1] (w.alloc (.cells #[.string ⟨p.toArray⟩] 9)) (OwnB (w.alloc (.cells #[.string ⟨p.toArray⟩] 9)) (b ++ lebStr p))) := Lib.hid (by
    have q := Str_c vb (.slice (some ⟨w.heap.size, 0, none⟩) 1 1) b [p] (w.alloc (.cells #[.string ⟨p.toArray⟩] 9)) (hb.below ((Below.refl _ w).alloc (Nat.le_refl _) _)) (RowAt.new (hc := by simp) w [.string ⟨p.toArray⟩] 9 1 (by simp [maxLen])) (by simp [strsRoom]; omega)
    simpa [lebStrs] using q)
  have HBA : Hid (Below w.heap.size w (w.alloc (.cells #[.string ⟨p.toArray⟩] 9))) := Lib.hid ((Below.refl _ w).alloc (Nat.le_refl _) _)
  clear h hb hp
  go_enter Tryd.func41, Tryd.ntmps41
  go_wp2_with fail
  with_reducible refine (HST.out).mono ?_
  rintro e w1 ⟨vr, rfl, hown1, hb1⟩
  have HB1 := Lib.hid (HBA.out.trans (hb1.mono HBA.out.size))
  have H1 := Lib.hid (H.out.below HB1.out)
  have HO1 := Lib.hid (own_mono (B' := lo) hown1 (by have := H.out.drum.ne; have := H.out.drum.mb.lt; simp; omega))
  clear hown1 hb1
  generalize hbb : b ++ lebStr p = bb at *
  obtain ⟨va, vc, rfl⟩ := owns_shape HO1.out
  obtain ⟨⟨n1, k1, s1⟩, lb, cnt, dead⟩ := l
  simp only at hno hno2
  have l6 := H1.out.log.blk.blk.cell 6 _ rfl
  have l0 := H1.out.log.blk.blk.cell 0 _ rfl
  have l1 := H1.out.log.blk.blk.cell 1 _ rfl
  have HBB := Lib.hid hbb
  have HLP : Hid (laysP ⟨⟨n1, k1, s1⟩, lb, cnt, dead⟩ d k b p count = if dead = true then (9, ⟨⟨n1, k1, s1⟩, lb, cnt, dead⟩, d) else if 64 * bankP d < bb.length ∨ 1099511627776 ≤ n1 then (3, ⟨⟨n1, k1, s1⟩, lb, cnt, dead⟩, d) else if (writesP d (n1 + 1) k bb b.length).1 = 0 then (0, ⟨⟨n1 + 1, k, bb.length⟩, bb, count, false⟩, (writesP d (n1 + 1) k bb b.length).2) else ((writesP d (n1 + 1) k bb b.length).1, ⟨⟨n1, k1, s1⟩, lb, cnt, true⟩, (writesP d (n1 + 1) k bb b.length).2)) := Lib.hid (by unfold laysP; rw [hbb])
  have HBL := Lib.hid (show b.length ≤ bb.length from by rw [← hbb, List.length_append]; omega)
  have HCB := Lib.hid (bank_c H1.out.drum (by omega))
  clear hbb HST hs
  cases dead
  case true =>
    go_wp2_with fail
    go_ret
    rw [HLP.out, if_pos (by simp)]
    exact ⟨bv, v, rfl, H1.out, ChL.ofBelow HB1.out⟩
  case false =>
    by_cases hbig : 64 * bankP d < bb.length
    · have hb2 : (bankP d : Int) * 64 < (bb.length : Int) := by omega
      go_wp2_with (first | (go_at_call 34; (with_reducible refine (HCB.out).mono ?_); rintro e w' ⟨rfl, rfl⟩) | fail)
      go_ret
      rw [HLP.out, if_neg (by decide), if_pos (.inl hbig)]
      exact ⟨bv, v, rfl, H1.out, ChL.ofBelow HB1.out⟩
    have hb2 : ¬ (bankP d : Int) * 64 < (bb.length : Int) := by omega
    by_cases hmost : 1099511627776 ≤ n1
    · go_wp2_with (first | (go_at_call 34; (with_reducible refine (HCB.out).mono ?_); rintro e w' ⟨rfl, rfl⟩) | fail)
      go_ret
      rw [HLP.out, if_neg (by decide), if_pos (.inr hmost)]
      exact ⟨bv, v, rfl, H1.out, ChL.ofBelow HB1.out⟩
    have HIF : Hid (¬ (64 * bankP d < bb.length ∨ 1099511627776 ≤ n1)) := Lib.hid (by omega)
    go_wp2_with (first | (go_at_call 34; (with_reducible refine (HCB.out).mono ?_); rintro e w' ⟨rfl, rfl⟩) | fail)
    have HBo : Hid (Below w1.heap.size w1 (w1.alloc (.cells #[.int .i64 (n1 + 1), .int .i64 (k : Int), .int .i64 (bb.length : Int)] 67))) := Lib.hid ((Below.refl _ w1).alloc (Nat.le_refl _) _)
    have HX := Lib.hid (BlkT.new w1 [.int .i64 (n1 + 1), .int .i64 (k : Int), .int .i64 (bb.length : Int)] 67)
    have H2 := Lib.hid (H1.out.below HBo.out)
    have HO2 := Lib.hid (own_belowE HO1.out HBo.out)
    have HWR := writes_c H2.out.drum hn L _ H2.out.log.blk (n1 + 1) (by omega) (by omega) k hk bb (by omega) (.slice va bb.length vc) (fun w' hc => RowAt.ofOwns (own_chg HO2.out hc (by decide))) b.length HBL.out hwl
    obtain ⟨wp, hwp⟩ : ∃ wp, writesP d (n1 + 1) k bb b.length = wp := ⟨_, rfl⟩
    rw [hwp] at HWR HLP
    rw [if_neg (by simp), if_neg HIF.out] at HLP
    obtain ⟨e2, d2⟩ := wp
    have HWP := Lib.hid hwp
    have HW := Lib.hid HWR
    clear HWR hwp
    simp only at HW HLP
    with_reducible refine (HW.out).mono ?_
    rintro e w3 ⟨v3, rfl, hd3, hc3⟩
    have HD3 := Lib.hid hd3
    have HC3 := Lib.hid hc3
    have HX3 := Lib.hid (HX.out.chg hc3 (by decide))
    have HL3 := Lib.hid (H2.out.log.chg hc3)
    have HO3 := Lib.hid (own_chg HO2.out hc3 (by decide))
    have c0 := HX3.out.blk.cell 0 _ rfl
    have c1 := HX3.out.blk.cell 1 _ rfl
    have c2 := HX3.out.blk.cell 2 _ rfl
    have f1 := HL3.out.blk.blk.thaw 1
    have f2 := HL3.out.blk.blk.thaw 2
    have f3 := HL3.out.blk.blk.thaw 3
    have f4 := HL3.out.blk.blk.thaw 4
    have f5 := HL3.out.blk.blk.thaw 5
    have f6 := HL3.out.blk.blk.thaw 6
    have l1 := HL3.out.blk.blk.cell 1 _ rfl
    have l2 := HL3.out.blk.blk.cell 2 _ rfl
    have l3 := HL3.out.blk.blk.cell 3 _ rfl
    have l4 := HL3.out.blk.blk.cell 4 _ rfl
    have l5 := HL3.out.blk.blk.cell 5 _ rfl
    have l6 := HL3.out.blk.blk.cell 6 _ rfl
    have hge := HL3.out.ge
    have HQ : Hid (LX lo w w3 L D g m v3 (.slice va bb.length vc) d2 bb (logCells D ⟨⟨n1, k1, s1⟩, lb, cnt, false⟩ bv)) := Lib.hid ⟨HL3.out.blk, hd3, (ChL.ofBelow (HB1.out.trans (HBo.out.mono HB1.out.size))).trans (ChL.ofChg hc3), HO3.out⟩
    clear hd3 hc3
    by_cases he : e2 = 0
    · subst he
      rw [if_pos rfl] at HLP
      go_wp2_with fail
      go_ret
      rw [HLP.out]
      have q := HQ.out
      have q5 := ((((q.set hge 1 (.int .i64 (n1 + 1))).set hge 2 (.int .i64 (k : Int))).set hge 3 (.int .i64 (bb.length : Int))).set hge 4 (.slice va bb.length vc)).set hge 5 (.int .i64 count)
      exact ⟨.slice va bb.length vc, v3, rfl, ⟨⟨q5.blk, q5.own, hge⟩, q5.drum⟩, q5.chl⟩
    · rw [if_neg he] at HLP
      go_wp2_with fail
      go_ret
      rw [HLP.out]
      have q6 := HQ.out.set hge 6 (.bool true)
      have qo := Go.ownsRow_setCell_other (a := (⟨L, 6, none⟩ : Addr)) HL3.out.own (HL3.out.blk.apartO HL3.out.own (by decide)) (.bool true)
      exact ⟨bv, v3, rfl, ⟨⟨q6.blk, qo, hge⟩, q6.drum⟩, q6.chl⟩
/-- a log that fits its drum. -/
structure PL.ok (l : PL) (d : PD) : Prop where
  n : 4 ≤ d.n
  no : 0 ≤ l.head.number ∧ l.head.number ≤ 1099511627776
  bank : l.head.bank = 0 ∨ l.head.bank = 1
  len : l.b.length ≤ 64 * bankP d
  count : 0 ≤ l.count ∧ l.count ≤ 1099511627776
def appendP (l : PL) (d : PD) (p : List UInt8) : Int × PL × PD := laysP l d l.head.bank.toNat l.b p (l.count + 1)
def resetP (l : PL) (d : PD) (p : List UInt8) : Int × PL × PD := laysP l d (1 - l.head.bank).toNat [] p 1
set_option maxRecDepth 100000 in
set_option maxHeartbeats 4000000 in
theorem RAppend_c (h : LDAt lo w L D g m bv v l d) (hok : l.ok d) (p : List UInt8) (vp : Value) (hp : RowAt w vp (bytesV p)) (hpl : p.length ≤ 17592186000000) (hwl : d.wait.length ≤ 1099511000000) :
    Calls Tryd.prog 13 #[.pointer (some ⟨L, 0, none⟩), vp] w (LDTo lo L D g m w (appendP l d p).1 (appendP l d p).2.1 (appendP l d p).2.2) := by
  have hb := hok.bank
  have hc := hok.count
  have HC := Lib.hid (lays_c (h.below (Below.refl _ w).drew) hok.n hok.no.1 (by have := hok.no.2; omega) l.head.bank.toNat (by omega) l.b p bv vp ((RowAt.ofOwns h.log.own).below (Below.refl _ w).drew) (hp.below (Below.refl _ w).drew) hok.len hpl (l.count + 1) hwl)
  have HC0 := Lib.hid (lays_c h hok.n hok.no.1 (by have := hok.no.2; omega) l.head.bank.toNat (by omega) l.b p bv vp (RowAt.ofOwns h.log.own) hp hok.len hpl (l.count + 1) hwl)
  have e : ((l.head.bank.toNat : Nat) : Int) = l.head.bank := by omega
  rw [e] at HC HC0
  have l2 := h.log.blk.blk.cell 2 _ rfl
  have l4 := h.log.blk.blk.cell 4 _ rfl
  have l5 := h.log.blk.blk.cell 5 _ rfl
  have wc : IntKind.i64.wrap (l.count + 1) = l.count + 1 := by rw [IntKind.wrap_i64]; omega
  obtain ⟨ap, hap⟩ : ∃ ap, appendP l d p = ap := ⟨_, rfl⟩
  have HAP := Lib.hid hap
  rw [show laysP l d l.head.bank.toNat l.b p (l.count + 1) = ap from hap] at HC HC0
  rw [hap]
  obtain ⟨r1, l1, d1⟩ := ap
  simp only at HC HC0 ⊢
  clear h hp e hap
  obtain ⟨⟨n1, k1, s1⟩, lb, cnt, dead⟩ := l
  simp only at HC HC0 l2 l4 l5 wc hb hc hok
  go_enter Tryd.func13, Tryd.ntmps13
  go_wp2_with fail
  refine wp_region_last2 (n := 16) (S := (fun W => W.cell? ⟨L, 2, none⟩ = some (.int .i64 k1) ∧ W.cell? ⟨L, 4, none⟩ = some bv ∧ W.cell? ⟨L, 5, none⟩ = some (.int .i64 cnt))) (by kernel_rfl) (by kernel_rfl) (by kernel_rfl) (by kernel_rfl) ?_ (fun hHeld => ?_)
  · exact ⟨l2, l4, l5⟩
  (refine wpAnyH_take (i := 0) (oi := R_RApp3_0) (v := ?_) rfl (by kernel_rfl) (by kernel_rfl) (by kernel_rfl) (fun _ _ _ h => h) (Or.inl ⟨by rfl, ?_⟩) (by assumption) ?_; rotate_left; next => (intro w hSw; (try dsimp only at hSw); (try delta R_RApp3_0); go_simp; try with_reducible rfl))
  (try simp only [Act.put, List.setIfInBounds_toArray, List.set_cons_zero, List.set_cons_succ])
  (refine wpAnyH_take (i := 1) (oi := R_RApp3_1) (v := ?_) rfl (by kernel_rfl) (by kernel_rfl) (by kernel_rfl) (fun _ _ _ h => h) (Or.inl ⟨by rfl, ?_⟩) (by assumption) ?_; rotate_left; next => (intro w hSw; (try dsimp only at hSw); (try delta R_RApp3_1); go_simp; try with_reducible rfl))
  (try simp only [Act.put, List.setIfInBounds_toArray, List.set_cons_zero, List.set_cons_succ])
  (refine wpAnyH_take (i := 2) (oi := R_RApp3_2) (v := ?_) rfl (by kernel_rfl) (by kernel_rfl) (by kernel_rfl) (fun _ _ _ h => h) (Or.inl ⟨by rfl, ?_⟩) (by assumption) ?_; rotate_left; next => (intro w hSw; (try dsimp only at hSw); (try delta R_RApp3_2); go_simp; try with_reducible rfl))
  (try simp only [Act.put, List.setIfInBounds_toArray, List.set_cons_zero, List.set_cons_succ])
  (refine wpAnyH_take (i := 3) (oi := R_RApp3_3) (v := ?_) rfl (by kernel_rfl) (by kernel_rfl) (by kernel_rfl) (fun _ _ _ h => h) (Or.inl ⟨by rfl, ?_⟩) (by assumption) ?_; rotate_left; next => (intro w hSw; (try dsimp only at hSw); (try delta R_RApp3_3); go_simp; try with_reducible rfl))
  (try simp only [Act.put, List.setIfInBounds_toArray, List.set_cons_zero, List.set_cons_succ])
  (refine wpAnyH_take (i := 4) (oi := R_RApp3_4) (v := ?_) rfl (by kernel_rfl) (by kernel_rfl) (by kernel_rfl) (fun _ _ _ h => h) (Or.inl ⟨by rfl, ?_⟩) (by assumption) ?_; rotate_left; next => (intro w hSw; (try dsimp only at hSw); (try delta R_RApp3_4); go_simp; try with_reducible rfl))
  (try simp only [Act.put, List.setIfInBounds_toArray, List.set_cons_zero, List.set_cons_succ])
  (refine wpAnyH_take (i := 5) (oi := R_RApp3_5) (v := ?_) rfl (by kernel_rfl) (by kernel_rfl) (by kernel_rfl) (fun _ _ _ h => h) (Or.inl ⟨by rfl, ?_⟩) (by assumption) ?_; rotate_left; next => (intro w hSw; (try dsimp only at hSw); (try delta R_RApp3_5); go_simp; try with_reducible rfl))
  (try simp only [Act.put, List.setIfInBounds_toArray, List.set_cons_zero, List.set_cons_succ])
  (refine wpAnyH_take (i := 6) (oi := R_RApp3_6) (v := ?_) rfl (by kernel_rfl) (by kernel_rfl) (by kernel_rfl) (fun _ _ _ h => h) (Or.inl ⟨by rfl, ?_⟩) (by assumption) ?_; rotate_left; next => (intro w hSw; (try dsimp only at hSw); (try delta R_RApp3_6); go_simp; try with_reducible rfl))
  (try simp only [Act.put, List.setIfInBounds_toArray, List.set_cons_zero, List.set_cons_succ])
  (refine wpAnyH_take (i := 7) (oi := R_RApp3_7) (v := ?_) rfl (by kernel_rfl) (by kernel_rfl) (by kernel_rfl) (fun _ _ _ h => h) (Or.inl ⟨by rfl, ?_⟩) (by assumption) ?_; rotate_left; next => (intro w hSw; (try dsimp only at hSw); (try delta R_RApp3_7); go_simp; try with_reducible rfl))
  (try simp only [Act.put, List.setIfInBounds_toArray, List.set_cons_zero, List.set_cons_succ])
  (refine wpAnyH_take (i := 8) (oi := R_RApp3_8) (v := ?_) rfl (by kernel_rfl) (by kernel_rfl) (by kernel_rfl) (fun _ _ _ h => h) (Or.inl ⟨by rfl, ?_⟩) (by assumption) ?_; rotate_left; next => (intro w hSw; (try dsimp only at hSw); (try delta R_RApp3_8); go_simp; try with_reducible rfl))
  (try simp only [Act.put, List.setIfInBounds_toArray, List.set_cons_zero, List.set_cons_succ])
  (refine wpAnyH_take (i := 9) (oi := R_RApp3_9) (v := ?_) rfl (by kernel_rfl) (by kernel_rfl) (by kernel_rfl) (fun _ _ _ h => h) (Or.inl ⟨by rfl, ?_⟩) (by assumption) ?_; rotate_left; next => (intro w hSw; (try dsimp only at hSw); (try delta R_RApp3_9); go_simp; try with_reducible rfl))
  (try simp only [Act.put, List.setIfInBounds_toArray, List.set_cons_zero, List.set_cons_succ])
  (refine wpAnyH_take (i := 10) (oi := R_RApp3_10) (v := ?_) rfl (by kernel_rfl) (by kernel_rfl) (by kernel_rfl) (fun _ _ _ h => h) (Or.inl ⟨by rfl, ?_⟩) (by assumption) ?_; rotate_left; next => (intro w hSw; (try dsimp only at hSw); (try delta R_RApp3_10); go_simp; try with_reducible rfl))
  (try simp only [Act.put, List.setIfInBounds_toArray, List.set_cons_zero, List.set_cons_succ])
  (refine wpAnyH_take (i := 11) (oi := R_RApp3_11) (v := ?_) rfl (by kernel_rfl) (by kernel_rfl) (by kernel_rfl) (fun _ _ _ h => h) (Or.inl ⟨by rfl, ?_⟩) (by assumption) ?_; rotate_left; next => (intro w hSw; (try dsimp only at hSw); (try delta R_RApp3_11); go_simp; try with_reducible rfl))
  (try simp only [Act.put, List.setIfInBounds_toArray, List.set_cons_zero, List.set_cons_succ])
  (refine wpAnyH_take (i := 12) (oi := R_RApp3_12) (v := ?_) rfl (by kernel_rfl) (by kernel_rfl) (by kernel_rfl) (fun _ _ _ h => h) (Or.inl ⟨by rfl, ?_⟩) (by assumption) ?_; rotate_left; next => (intro w hSw; (try dsimp only at hSw); (try delta R_RApp3_12); go_simp; try with_reducible rfl))
  (try simp only [Act.put, List.setIfInBounds_toArray, List.set_cons_zero, List.set_cons_succ])
  (refine wpAnyH_take (i := 13) (oi := R_RApp3_13) (v := ?_) rfl (by kernel_rfl) (by kernel_rfl) (by kernel_rfl) (fun _ _ _ h => h) (Or.inl ⟨by rfl, ?_⟩) (by assumption) ?_; rotate_left; next => (intro w hSw; (try dsimp only at hSw); (try delta R_RApp3_13); go_simp; try with_reducible rfl))
  (try simp only [Act.put, List.setIfInBounds_toArray, List.set_cons_zero, List.set_cons_succ])
  (refine wpAnyH_take (i := 14) (oi := R_RApp3_14) (v := ?_) rfl (by kernel_rfl) (by kernel_rfl) (by kernel_rfl) (fun _ _ _ h => h) (Or.inl ⟨by rfl, ?_⟩) (by assumption) ?_; rotate_left; next => (intro w hSw; (try dsimp only at hSw); (try delta R_RApp3_14); go_simp; try with_reducible rfl))
  (try simp only [Act.put, List.setIfInBounds_toArray, List.set_cons_zero, List.set_cons_succ])
  (refine wpAnyH_take (i := 15) (oi := R_RApp3_15) (v := ?_) rfl (by kernel_rfl) (by kernel_rfl) (by kernel_rfl) (fun _ _ _ h => h) (Or.inl ⟨by rfl, ?_⟩) (by assumption) ?_; rotate_left; next => (intro w hSw; (try dsimp only at hSw); (try delta R_RApp3_15); go_simp; try with_reducible rfl))
  (try simp only [Act.put, List.setIfInBounds_toArray, List.set_cons_zero, List.set_cons_succ])
  refine wpAnyH_done (by kernel_rfl) ?_ _
  (refine last_do (o := { dst := some 23, op := Op.call { callee := Callee.value (Operand.func 41), args := #[Operand.tmp 7, Operand.tmp 12, Operand.tmp 16, Operand.tmp 17, Operand.tmp 22], argTypes := #[25, 3, 30, 30, 3] }, type := 26, pos := "redo.go:125", after := #[{ on := 0, ground := Ground.data }, { on := 5, ground := Ground.data }, { on := 9, ground := Ground.data }, { on := 10, ground := Ground.data }, { on := 15, ground := Ground.data }], guard := none }) rfl (fun K hK => ?_); go_simp; (with_reducible refine (HC.out).mono ?_); rintro e w5 ⟨bv5, v5, rfl, hd5, hc5⟩; have HD5 := Lib.hid hd5; have HC5 := Lib.hid hc5; clear hd5 hc5; (try go_wp2_with fail); refine hK.out _ _ ?_; clear hK K; refine last_do (o := { dst := some 4, op := Op.assign (Operand.tmp 23), type := 26, pos := "redo.go:125", after := #[{ on := 16, ground := Ground.data }, { on := 16, ground := Ground.chain }, { on := 0, ground := Ground.phase }, { on := 1, ground := Ground.phase }, { on := 2, ground := Ground.phase }, { on := 3, ground := Ground.phase }, { on := 4, ground := Ground.phase }, { on := 5, ground := Ground.phase }, { on := 6, ground := Ground.phase }, { on := 7, ground := Ground.phase }, { on := 8, ground := Ground.phase }, { on := 9, ground := Ground.phase }, { on := 10, ground := Ground.phase }, { on := 11, ground := Ground.phase }, { on := 12, ground := Ground.phase }, { on := 13, ground := Ground.phase }, { on := 14, ground := Ground.phase }, { on := 15, ground := Ground.phase }, { on := 16, ground := Ground.phase }], guard := none }) rfl (fun K hK => ?_); go_simp; refine hK.out _ _ ?_; clear hK K; go_wp2_with fail; go_ret; exact ⟨bv5, v5, rfl, HD5.out, (ChL.ofBelow (Below.refl _ w).drew).trans HC5.out⟩)
set_option maxRecDepth 100000 in
set_option maxHeartbeats 4000000 in
theorem RReset_c (h : LDAt lo w L D g m bv v l d) (hok : l.ok d) (p : List UInt8) (vp : Value) (hp : RowAt w vp (bytesV p)) (hpl : p.length ≤ 17592186000000) (hwl : d.wait.length ≤ 1099511000000) :
    Calls Tryd.prog 15 #[.pointer (some ⟨L, 0, none⟩), vp] w (LDTo lo L D g m w (resetP l d p).1 (resetP l d p).2.1 (resetP l d p).2.2) := by
  have hb := hok.bank
  have HC := Lib.hid (lays_c h hok.n hok.no.1 (by have := hok.no.2; omega) (1 - l.head.bank).toNat (by omega) [] p (.slice none 0 0) vp (RowAt.nil _) hp (by simp) hpl 1 hwl)
  have e : (((1 - l.head.bank).toNat : Nat) : Int) = 1 - l.head.bank := by omega
  rw [e] at HC
  have l2 := h.log.blk.blk.cell 2 _ rfl
  obtain ⟨ap, hap⟩ : ∃ ap, resetP l d p = ap := ⟨_, rfl⟩
  rw [show laysP l d (1 - l.head.bank).toNat [] p 1 = ap from hap] at HC
  rw [hap]
  obtain ⟨r1, l1, d1⟩ := ap
  simp only at HC ⊢
  clear h hp e hap
  obtain ⟨⟨n1, k1, s1⟩, lb, cnt, dead⟩ := l
  simp only at HC l2 hb hok
  have wk : wrap64 (1 - k1) = 1 - k1 := by unfold wrap64; omega
  go_enter Tryd.func15, Tryd.ntmps15
  go_wp2_with (first | (go_at_call 41; (with_reducible refine (HC.out).mono ?_); rintro e w5 ⟨bv5, v5, rfl, hd5, hc5⟩; have HD5 := Lib.hid hd5; have HC5 := Lib.hid hc5; clear hd5 hc5) | fail)
  go_ret
  exact ⟨bv5, v5, rfl, HD5.out, HC5.out⟩
set_option maxRecDepth 100000 in
theorem RLen_c (h : LDAt lo w L D g m bv v l d) : Calls Tryd.prog 14 #[.pointer (some ⟨L, 0, none⟩)] w fun e w' => e = .returned (.int .i64 l.count) ∧ w = w' := by
  have l5 := h.log.blk.blk.cell 5 _ rfl
  clear h
  go_enter Tryd.func14, Tryd.ntmps14
  go_wp2_with fail
  go_ret
  exact ⟨rfl, rfl⟩
set_option maxRecDepth 100000 in
theorem RRoom_c (h : LDAt lo w L D g m bv v l d) (hok : l.ok d) : Calls Tryd.prog 18 #[.pointer (some ⟨L, 0, none⟩)] w fun e w' => e = .returned (.int .i64 ((bankP d : Int) * 64 - l.b.length)) ∧ w' = w.drew := by
  have l0 := h.log.blk.blk.cell 0 _ rfl
  have l4 := h.log.blk.blk.cell 4 _ rfl
  have HCB := Lib.hid (fun W hb => bank_c (h.drum.below (W' := W) hb) (by have := hok.n; omega))
  have hbq : bankP d ≤ 99 := by unfold bankP; have := h.drum.ok.n; omega
  obtain ⟨a, c, rfl⟩ := owns_shape h.log.own
  have hl := hok.len
  have HCB := Lib.hid (HCB.out w.drew (Below.refl _ w).drew)
  obtain ⟨hd, lb, cnt, dead⟩ := l
  simp only at l0 l4 hl ⊢
  have wq : IntKind.i64.wrap ((bankP d : Int) * 64) = (bankP d : Int) * 64 := by rw [IntKind.wrap_i64]; omega
  have wr : IntKind.i64.wrap ((bankP d : Int) * 64 - (lb.length : Int)) = (bankP d : Int) * 64 - (lb.length : Int) := by rw [IntKind.wrap_i64]; omega
  clear h
  go_enter Tryd.func18, Tryd.ntmps18
  go_wp2_with fail
  refine wp_region_held_drew (S := (fun W => W.cell? ⟨L, 0, none⟩ = some (.pointer (some ⟨D, 0, none⟩)) ∧ W.cell? ⟨L, 4, none⟩ = some (.slice a lb.length c))) (by kernel_rfl) ?_ (fun hHeld => ?_)
  · (exact ⟨l0, l4⟩)
  (refine wpAnyH_take (i := 0) (oi := R_RRoom3_0) (v := ?_) rfl (by kernel_rfl) (by kernel_rfl) (by kernel_rfl) (fun _ _ _ h => h) (Or.inl ⟨by rfl, ?_⟩) (by assumption) ?_; rotate_left; next => (intro w hSw; (try dsimp only at hSw); (try delta R_RRoom3_0); go_simp; try with_reducible rfl))
  (try simp only [Act.put, List.setIfInBounds_toArray, List.set_cons_zero, List.set_cons_succ])
  (refine wpAnyH_take (i := 1) (oi := R_RRoom3_1) (v := ?_) rfl (by kernel_rfl) (by kernel_rfl) (by kernel_rfl) (fun _ _ _ h => h) (Or.inl ⟨by rfl, ?_⟩) (by assumption) ?_; rotate_left; next => (intro w hSw; (try dsimp only at hSw); (try delta R_RRoom3_1); go_simp; try with_reducible rfl))
  (try simp only [Act.put, List.setIfInBounds_toArray, List.set_cons_zero, List.set_cons_succ])
  (refine wpAnyH_take (i := 2) (oi := R_RRoom3_2) (v := ?_) rfl (by kernel_rfl) (by kernel_rfl) (by kernel_rfl) (fun _ _ _ h => h) (Or.inl ⟨by rfl, ?_⟩) (by assumption) ?_; rotate_left; next => (intro w hSw; (try dsimp only at hSw); (try delta R_RRoom3_2); go_simp; try with_reducible rfl))
  (try simp only [Act.put, List.setIfInBounds_toArray, List.set_cons_zero, List.set_cons_succ])
  (refine wpAnyH_take (i := 3) (oi := R_RRoom3_3) (v := ?_) rfl (by kernel_rfl) (by kernel_rfl) (by kernel_rfl) (fun _ _ _ h => h) (Or.inl ⟨by rfl, ?_⟩) (by assumption) ?_; rotate_left; next => (intro w hSw; (try dsimp only at hSw); (try delta R_RRoom3_3); go_simp; try with_reducible rfl))
  (try simp only [Act.put, List.setIfInBounds_toArray, List.set_cons_zero, List.set_cons_succ])
  (refine wpAnyH_take (i := 6) (oi := R_RRoom3_6) (v := ?_) rfl (by kernel_rfl) (by kernel_rfl) (by kernel_rfl) (fun _ _ _ h => h) (Or.inl ⟨by rfl, ?_⟩) (by assumption) ?_; rotate_left; next => (intro w hSw; (try dsimp only at hSw); (try delta R_RRoom3_6); go_simp; try with_reducible rfl))
  (try simp only [Act.put, List.setIfInBounds_toArray, List.set_cons_zero, List.set_cons_succ])
  (refine wpAnyH_take (i := 7) (oi := R_RRoom3_7) (v := ?_) rfl (by kernel_rfl) (by kernel_rfl) (by kernel_rfl) (fun _ _ _ h => h) (Or.inl ⟨by rfl, ?_⟩) (by assumption) ?_; rotate_left; next => (intro w hSw; (try dsimp only at hSw); (try delta R_RRoom3_7); go_simp; try with_reducible rfl))
  (try simp only [Act.put, List.setIfInBounds_toArray, List.set_cons_zero, List.set_cons_succ])
  (refine wpAnyH_take (i := 8) (oi := R_RRoom3_8) (v := ?_) rfl (by kernel_rfl) (by kernel_rfl) (by kernel_rfl) (fun _ _ _ h => h) (Or.inl ⟨by rfl, ?_⟩) (by assumption) ?_; rotate_left; next => (intro w hSw; (try dsimp only at hSw); (try delta R_RRoom3_8); go_simp; try with_reducible rfl))
  (try simp only [Act.put, List.setIfInBounds_toArray, List.set_cons_zero, List.set_cons_succ])
  (refine wpAnyH_take (i := 9) (oi := R_RRoom3_9) (v := ?_) rfl (by kernel_rfl) (by kernel_rfl) (by kernel_rfl) (fun _ _ _ h => h) (Or.inl ⟨by rfl, ?_⟩) (by assumption) ?_; rotate_left; next => (intro w hSw; (try dsimp only at hSw); (try delta R_RRoom3_9); go_simp; try with_reducible rfl))
  (try simp only [Act.put, List.setIfInBounds_toArray, List.set_cons_zero, List.set_cons_succ])
  (refine wpAnyH_take (i := 10) (oi := R_RRoom3_10) (v := ?_) rfl (by kernel_rfl) (by kernel_rfl) (by kernel_rfl) (fun _ _ _ h => h) (Or.inl ⟨by rfl, ?_⟩) (by assumption) ?_; rotate_left; next => (intro w hSw; (try dsimp only at hSw); (try delta R_RRoom3_10); go_simp; try with_reducible rfl))
  (try simp only [Act.put, List.setIfInBounds_toArray, List.set_cons_zero, List.set_cons_succ])
  refine wpAnyH_ready (rs := [4]) (by kernel_rfl) (by simp) ?_
  refine AllReadyH.cons (o := R_RRoom3_4) rfl (fun K hK => ?_) AllReadyH.nil
  (try delta R_RRoom3_4)
  go_simp
  (first | (go_at_call 34; (with_reducible refine (HCB.out).mono ?_); rintro e wz ⟨rfl, rfl⟩) | fail)
  (try go_wp2_with fail)
  refine hK.out _ _ ?_ (fun hHeld => ?_)
  · (exact ⟨l0, l4⟩)
  clear hK K
  (try simp only [Act.put, List.setIfInBounds_toArray, List.set_cons_zero, List.set_cons_succ])
  (refine wpAnyH_take (i := 5) (oi := R_RRoom3_5) (v := ?_) rfl (by kernel_rfl) (by kernel_rfl) (by kernel_rfl) (fun _ _ _ h => h) (Or.inl ⟨by rfl, ?_⟩) (by assumption) ?_; rotate_left; next => (intro w hSw; (try dsimp only at hSw); (try delta R_RRoom3_5); go_simp; try with_reducible rfl))
  (try simp only [Act.put, List.setIfInBounds_toArray, List.set_cons_zero, List.set_cons_succ])
  (refine wpAnyH_take (i := 11) (oi := R_RRoom3_11) (v := ?_) rfl (by kernel_rfl) (by kernel_rfl) (by kernel_rfl) (fun _ _ _ h => h) (Or.inl ⟨by rfl, ?_⟩) (by assumption) ?_; rotate_left; next => (intro w hSw; (try dsimp only at hSw); (try delta R_RRoom3_11); go_simp; try with_reducible rfl))
  (try simp only [Act.put, List.setIfInBounds_toArray, List.set_cons_zero, List.set_cons_succ])
  (refine wpAnyH_take (i := 12) (oi := R_RRoom3_12) (v := ?_) rfl (by kernel_rfl) (by kernel_rfl) (by kernel_rfl) (fun _ _ _ h => h) (Or.inl ⟨by rfl, ?_⟩) (by assumption) ?_; rotate_left; next => (intro w hSw; (try dsimp only at hSw); (try delta R_RRoom3_12); go_simp; try with_reducible rfl))
  (try simp only [Act.put, List.setIfInBounds_toArray, List.set_cons_zero, List.set_cons_succ])
  refine wpAnyH_done (by kernel_rfl) ?_ _
  go_wp2_with fail
  go_ret
  exact ⟨rfl, rfl⟩
set_option maxRecDepth 100000 in
theorem RAppend_nil (vp : Value) (w : World) : Calls Tryd.prog 13 #[.pointer none, vp] w fun e w' => e = .returned (.int .i64 1) ∧ w = w' := by
  go_enter Tryd.func13, Tryd.ntmps13
  go_wp2_with fail
  go_ret
  exact ⟨rfl, rfl⟩
set_option maxRecDepth 100000 in
theorem RReset_nil (vp : Value) (w : World) : Calls Tryd.prog 15 #[.pointer none, vp] w fun e w' => e = .returned (.int .i64 1) ∧ w = w' := by
  go_enter Tryd.func15, Tryd.ntmps15
  go_wp2_with fail
  go_ret
  exact ⟨rfl, rfl⟩
theorem RLen_nil (w : World) : Calls Tryd.prog 14 #[.pointer none] w fun e w' => e = .returned (.int .i64 0) ∧ w = w' := by
  go_enter Tryd.func14, Tryd.ntmps14
  go_wp2_with fail
  go_ret
  exact ⟨rfl, rfl⟩
theorem RRoom_nil (w : World) : Calls Tryd.prog 18 #[.pointer none] w fun e w' => e = .returned (.int .i64 0) ∧ w = w' := by
  go_enter Tryd.func18, Tryd.ntmps18
  go_wp2_with fail
  go_ret
  exact ⟨rfl, rfl⟩
end
end Go.Proofs.YtlllbacjdjllbaaDoor
