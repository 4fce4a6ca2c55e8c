
/- Contracts of package redo: what a log is in memory; Open's first loop. -/
import Derived.Test.YtlllbacjdjllbaaDoorRedo2
import Derived.Test.YtlllbacjdjllbaaDoorEnts
namespace Go.Proofs.YtlllbacjdjllbaaDoor
open Go Go.Proofs Go.Shelf Go.RowKit Go.Great
set_option linter.unusedVariables false
set_option linter.unusedSimpArgs false
abbrev R_Open7_0 : Oper := { dst := some 22, op := Op.move (Operand.tmp 5), type := 25, pos := "redo.go:70", after := #[], guard := none }
abbrev R_Open7_1 : Oper := { dst := some 23, op := Op.move (Operand.tmp 5), type := 25, pos := "redo.go:70", after := #[], guard := none }
abbrev R_Open7_10 : Oper := { dst := some 32, op := Op.fieldAddr 67 (Operand.tmp 31) 1, type := 0, pos := "redo.go:70", after := #[{ on := 9, ground := Ground.data }], guard := none }
abbrev R_Open7_11 : Oper := { dst := some 33, op := Op.load 3 (Operand.tmp 32), type := 3, pos := "redo.go:70", after := #[{ on := 10, ground := Ground.data }], guard := none }
abbrev R_Open7_12 : Oper := { dst := some 34, op := Op.move (Operand.tmp 6), type := 3, pos := "redo.go:70", after := #[], guard := none }
abbrev R_Open7_13 : Oper := { dst := some 35, op := Op.call { callee := Callee.value (Operand.func 36), args := #[Operand.tmp 28, Operand.tmp 33, Operand.tmp 34], argTypes := #[23, 3, 3] }, type := 3, pos := "redo.go:70", after := #[{ on := 6, ground := Ground.data }, { on := 11, ground := Ground.data }, { on := 12, ground := Ground.data }], guard := none }
abbrev R_Open7_14 : Oper := { dst := some 36, op := Op.call { callee := Callee.value (Operand.func 35), args := #[Operand.tmp 27, Operand.tmp 35], argTypes := #[23, 3] }, type := 30, pos := "redo.go:70", after := #[{ on := 5, ground := Ground.data }, { on := 13, ground := Ground.data }, { on := 13, ground := Ground.chain }], guard := none }
abbrev R_Open7_15 : Oper := { dst := some 37, op := Op.call { callee := Callee.builtin Builtin.append, args := #[Operand.tmp 26, Operand.tmp 36], argTypes := #[30, 30] }, type := 30, pos := "redo.go:70", after := #[{ on := 4, ground := Ground.data }, { on := 14, ground := Ground.data }, { on := 14, ground := Ground.chain }], guard := none }
abbrev R_Open7_16 : Oper := { dst := some 38, op := Op.nilCheck (Operand.tmp 22), type := 0, pos := "redo.go:70", after := #[{ on := 0, ground := Ground.data }, { on := 0, ground := Ground.phase }, { on := 1, ground := Ground.phase }, { on := 2, ground := Ground.phase }, { on := 3, ground := Ground.phase }, { on := 4, ground := Ground.phase }, { on := 5, ground := Ground.phase }, { on := 6, ground := Ground.phase }, { on := 7, ground := Ground.phase }, { on := 8, ground := Ground.phase }, { on := 9, ground := Ground.phase }, { on := 10, ground := Ground.phase }, { on := 11, ground := Ground.phase }, { on := 12, ground := Ground.phase }, { on := 13, ground := Ground.phase }, { on := 14, ground := Ground.phase }, { on := 15, ground := Ground.phase }], guard := none }
abbrev R_Open7_17 : Oper := { dst := some 39, op := Op.fieldAddr 70 (Operand.tmp 38) 2, type := 0, pos := "redo.go:70", after := #[{ on := 16, ground := Ground.data }, { on := 0, ground := Ground.phase }, { on := 1, ground := Ground.phase }, { on := 2, ground := Ground.phase }, { on := 3, ground := Ground.phase }, { on := 4, ground := Ground.phase }, { on := 5, ground := Ground.phase }, { on := 6, ground := Ground.phase }, { on := 7, ground := Ground.phase }, { on := 8, ground := Ground.phase }, { on := 9, ground := Ground.phase }, { on := 10, ground := Ground.phase }, { on := 11, ground := Ground.phase }, { on := 12, ground := Ground.phase }, { on := 13, ground := Ground.phase }, { on := 14, ground := Ground.phase }, { on := 15, ground := Ground.phase }], guard := none }
abbrev R_Open7_2 : Oper := { dst := some 24, op := Op.nilCheck (Operand.tmp 23), type := 0, pos := "redo.go:70", after := #[{ on := 1, ground := Ground.data }], guard := none }
abbrev R_Open7_3 : Oper := { dst := some 25, op := Op.fieldAddr 70 (Operand.tmp 24) 2, type := 0, pos := "redo.go:70", after := #[{ on := 2, ground := Ground.data }], guard := none }
abbrev R_Open7_4 : Oper := { dst := some 26, op := Op.load 30 (Operand.tmp 25), type := 30, pos := "redo.go:70", after := #[{ on := 3, ground := Ground.data }], guard := none }
abbrev R_Open7_5 : Oper := { dst := some 27, op := Op.move (Operand.tmp 0), type := 23, pos := "redo.go:70", after := #[], guard := none }
abbrev R_Open7_6 : Oper := { dst := some 28, op := Op.move (Operand.tmp 0), type := 23, pos := "redo.go:70", after := #[], guard := none }
abbrev R_Open7_7 : Oper := { dst := some 29, op := Op.move (Operand.tmp 5), type := 25, pos := "redo.go:70", after := #[], guard := none }
abbrev R_Open7_8 : Oper := { dst := some 30, op := Op.nilCheck (Operand.tmp 29), type := 0, pos := "redo.go:70", after := #[{ on := 7, ground := Ground.data }], guard := none }
abbrev R_Open7_9 : Oper := { dst := some 31, op := Op.fieldAddr 70 (Operand.tmp 30) 1, type := 0, pos := "redo.go:70", after := #[{ on := 8, ground := Ground.data }], guard := none }
abbrev R_Open9_0 : Oper := { dst := some 41, op := Op.move (Operand.tmp 5), type := 25, pos := "redo.go:72", after := #[], guard := none }
abbrev R_Open9_1 : Oper := { dst := some 42, op := Op.move (Operand.tmp 5), type := 25, pos := "redo.go:72", after := #[], guard := none }
abbrev R_Open9_10 : Oper := { dst := some 51, op := Op.slice 30 (Operand.tmp 45) none (some (Operand.tmp 50)) none, type := 30, pos := "redo.go:72", after := #[{ on := 4, ground := Ground.data }, { on := 9, ground := Ground.data }], guard := none }
abbrev R_Open9_11 : Oper := { dst := some 52, op := Op.nilCheck (Operand.tmp 41), type := 0, pos := "redo.go:72", after := #[{ on := 0, ground := Ground.data }, { on := 0, ground := Ground.phase }, { on := 1, ground := Ground.phase }, { on := 2, ground := Ground.phase }, { on := 3, ground := Ground.phase }, { on := 4, ground := Ground.phase }, { on := 5, ground := Ground.phase }, { on := 6, ground := Ground.phase }, { on := 7, ground := Ground.phase }, { on := 8, ground := Ground.phase }, { on := 9, ground := Ground.phase }, { on := 10, ground := Ground.phase }], guard := none }
abbrev R_Open9_12 : Oper := { dst := some 53, op := Op.fieldAddr 70 (Operand.tmp 52) 2, type := 0, pos := "redo.go:72", after := #[{ on := 11, ground := Ground.data }, { on := 0, ground := Ground.phase }, { on := 1, ground := Ground.phase }, { on := 2, ground := Ground.phase }, { on := 3, ground := Ground.phase }, { on := 4, ground := Ground.phase }, { on := 5, ground := Ground.phase }, { on := 6, ground := Ground.phase }, { on := 7, ground := Ground.phase }, { on := 8, ground := Ground.phase }, { on := 9, ground := Ground.phase }, { on := 10, ground := Ground.phase }], guard := none }
abbrev R_Open9_2 : Oper := { dst := some 43, op := Op.nilCheck (Operand.tmp 42), type := 0, pos := "redo.go:72", after := #[{ on := 1, ground := Ground.data }], guard := none }
abbrev R_Open9_3 : Oper := { dst := some 44, op := Op.fieldAddr 70 (Operand.tmp 43) 2, type := 0, pos := "redo.go:72", after := #[{ on := 2, ground := Ground.data }], guard := none }
abbrev R_Open9_4 : Oper := { dst := some 45, op := Op.load 30 (Operand.tmp 44), type := 30, pos := "redo.go:72", after := #[{ on := 3, ground := Ground.data }], guard := none }
abbrev R_Open9_5 : Oper := { dst := some 46, op := Op.move (Operand.tmp 5), type := 25, pos := "redo.go:72", after := #[], guard := none }
abbrev R_Open9_6 : Oper := { dst := some 47, op := Op.nilCheck (Operand.tmp 46), type := 0, pos := "redo.go:72", after := #[{ on := 5, ground := Ground.data }], guard := none }
abbrev R_Open9_7 : Oper := { dst := some 48, op := Op.fieldAddr 70 (Operand.tmp 47) 1, type := 0, pos := "redo.go:72", after := #[{ on := 6, ground := Ground.data }], guard := none }
abbrev R_Open9_8 : Oper := { dst := some 49, op := Op.fieldAddr 67 (Operand.tmp 48) 2, type := 0, pos := "redo.go:72", after := #[{ on := 7, ground := Ground.data }], guard := none }
abbrev R_Open9_9 : Oper := { dst := some 50, op := Op.load 3 (Operand.tmp 49), type := 3, pos := "redo.go:72", after := #[{ on := 8, ground := Ground.data }], guard := none }

/-- a log, plainly. -/
structure PL where
  head : HD3
  b : List UInt8
  count : Int
  dead : Bool
def tL : TypeId := 70
def logCells (D : Nat) (l : PL) (bv : Value) : List Value := [.pointer (some ⟨D, 0, none⟩), .int .i64 l.head.number, .int .i64 l.head.bank, .int .i64 l.head.bytes, bv, .int .i64 l.count, .bool l.dead]
structure LogAt (lo : Nat) (W : World) (L D : Nat) (bv : Value) (l : PL) : Prop where
  blk : BlkT W L (logCells D l bv) tL
  own : W.ownsRow lo 5 1 bv l.b.length (bytesV l.b)
  ge : lo ≤ L
theorem LogAt.chg {lo lo' : Nat} {w w' : World} {L D : Nat} {bv : Value} {l : PL} (h : LogAt lo w L D bv l) (hc : Chg lo' w w') : LogAt lo w' L D bv l :=
  ⟨h.blk.chg hc (by decide), own_chg h.own hc (by decide), h.ge⟩
/-- the bytes of a bank's first sectors. -/
def bankB (d : PD) (k n : Nat) : List UInt8 := ((List.range n).map (fun i => sec d.now (2 + k * bankP d + i))).flatten
theorem bankB_len {d : PD} (h : d.ok) (hn : 4 ≤ d.n) {k n : Nat} (hk : k ≤ 1) (hl : n ≤ bankP d) : (bankB d k n).length = 64 * n := by
  unfold bankB
  induction n with
  | zero => rfl
  | succ n ih =>
    rw [List.range_succ, List.map_append, List.flatten_append, List.length_append, ih (by omega)]
    have hq : k * bankP d ≤ 1 * bankP d := Nat.mul_le_mul_right _ hk
    have hb : 2 * bankP d ≤ d.n - 2 := by unfold bankP; omega
    have := sec_len h.now (i := 2 + k * bankP d + n) (by omega)
    simp [this]
    omega
theorem bankB_succ (d : PD) (k n : Nat) : bankB d k (n + 1) = bankB d k n ++ sec d.now (2 + k * bankP d + n) := by
  unfold bankB; rw [List.range_succ, List.map_append, List.flatten_append]; simp
/-- a head that may be: noughts, or right. -/
def HD3.okIn (d : PD) (h : HD3) : Prop := (h.bank = 0 ∨ h.bank = 1) ∧ 0 ≤ h.bytes ∧ h.bytes ≤ (bankP d : Int) * 64 ∧ 0 ≤ h.number ∧ h.number ≤ 1099511627776
theorem newest_ok (d : PD) : (newestP d).okIn d := by
  have hO : ∀ i, (headOfP d i).2 = true → (headOfP d i).1.okIn d := fun i h => by
    unfold headOfP headOk at h
    simp only [Bool.and_eq_true, Bool.or_eq_true, decide_eq_true_eq] at h
    obtain ⟨⟨⟨⟨⟨⟨_, _⟩, h1⟩, h2⟩, h3⟩, h4⟩, h5⟩ := h
    exact ⟨h3, h4, h5, by show 0 ≤ (headRd (sec d.now i)).1.number; omega, h2⟩
  unfold newestP newestOf
  split
  · rename_i h
    simp only [Bool.and_eq_true] at h
    exact hO 0 h.1
  · split
    · rename_i h; exact hO 1 h
    · exact ⟨.inl rfl, Int.le_refl _, by show (0 : Int) ≤ _; omega, Int.le_refl _, by decide⟩
section
variable {lo D g m : Nat} {v : Value} {d : PD} {w : World}
theorem own_below {w w' : World} {B e k n : Nat} {v : Value} {xs : List Value} (h : w.ownsRow B e k v n xs) (hb : Below w.heap.size w w') : w'.ownsRow B e k v n xs := by
  refine ⟨h.1, ?_⟩
  rcases h.2 with h' | ⟨g, cap, cur, rfl, hB, hg, rest⟩
  · exact .inl h'
  · exact .inr ⟨g, cap, cur, rfl, hB, (hb.block g (Array.getElem?_eq_some_iff.1 hg).1).trans hg, rest⟩
theorem blk_grown {W W' : World} {g : Nat} {cs : List Value} {t : TypeId} {r : Option Nat} (h : BlkT W g cs t) (hg : W.grownBy W' r) (hr : r ≠ some g) : BlkT W' g cs t := by
  have e := hg.block g (BlkT.lt h) (fun e => hr e.symm)
  unfold BlkT at h ⊢
  rw [e]; exact h
set_option maxRecDepth 20000 in
theorem bytesV_take (l : List UInt8) (k : Nat) : bytesV (l.take k) = (bytesV l).take k := by simp [bytesV, List.map_take]
set_option maxRecDepth 20000 in
/-- 's[:k]' of a row of bytes of one's own. -/
theorem own_cutHi {W : World} {lo n : Nat} {v : Value} {xs : List Value} (h : W.ownsRow lo 5 1 v n xs) (k : Nat) (hk : k ≤ n) :
    ∃ va vc, (∀ w' kk, (Instr.slice 30 v none (some (.int kk (k : Int))) none).run Tryd.prog w' = .ok (.slice va k vc) w') ∧ W.ownsRow lo 5 1 (.slice va k vc) k (xs.take k) ∧ Value.ownBlock (.slice va k vc) = v.ownBlock := by
  rcases h.2 with ⟨rfl, rfl⟩ | ⟨g, cap, cur, rfl, hB, hg, hc, hm, hs, ht⟩
  · obtain rfl : k = 0 := by omega
    refine ⟨none, 0, fun w' kk => ?_, ?_, rfl⟩
    · have := run_slice_h (P := Tryd.prog) (w := w') 30 none 0 0 Tryd.underlying30 kk 0 (by omega) (by omega)
      rw [elemSz] at this
      exact this
    · have h1 := h.1
      have : xs = [] := by simpa using h1
      subst this
      exact h
  · refine ⟨some ⟨g, 0, none⟩, cap, fun w' kk => ?_, ⟨?_, .inr ⟨g, cap, cur, rfl, hB, hg, by omega, hm, hs, ?_⟩⟩, rfl⟩
    · have := run_slice_h (P := Tryd.prog) (w := w') 30 (some ⟨g, 0, none⟩) n cap Tryd.underlying30 kk (k : Int) (by omega) (by omega)
      rw [elemSz, Int.toNat_natCast] at this
      rw [show (Value.slice (some ⟨g, 0, none⟩) k cap) = Go.sliced (some ⟨g, 0, none⟩) 0 k cap 1 from by unfold Go.sliced; split <;> simp_all [Addr.add]]
      exact this
    · have h1 := h.1
      simp at h1 ⊢
      omega
    · rw [← ht, List.take_take]
      congr 1
      omega
set_option maxRecDepth 20000 in
/-- 'append(s, x...)' of a row of bytes that are there, at a step of a region that draws its order. -/
theorem step_appM {ops : Array Oper} {o : Oper} {a : Act} {w : World} {Q : Exit → Act → World → Prop} {K : Act → World → Prop} {E : Prop} (hgd : o.guard = none) (s x : Operand) (ho : o.op = .call { callee := .builtin .append, args := #[s, x], argTypes := #[30, 30] })
    (B n : Nat) (v : Value) (xs : List Value) (hs : a.eval s = v) (hown : w.ownsRow B 5 1 v n xs) (ad : Addr) (c : Nat) (l : List UInt8) (hx : a.eval x = .slice (some ad) l.length c)
    (hr : RowAt w (.slice (some ad) l.length c) (bytesV l)) (hm : n + l.length ≤ 140737488355328) (hB : B ≤ w.heap.size)
    (h : ∀ va vc w', w'.ownsRow B 5 1 (.slice va (n + l.length) vc) (n + l.length) (xs ++ bytesV l) → Below B w w' → w.grownBy w' v.ownBlock → K (a.put o.dst (.slice va (n + l.length) vc)) w') :
    if Region.wanted o (yielded ops a.tmps) = true then Oper.wp Tryd.prog o a w K Q else E := by
  obtain ⟨i, z, ht, hi, hz, hs1, hb1, hz1⟩ := elemB
  have hw : Region.wanted o (yielded ops a.tmps) = true := by simp [Region.wanted, hgd]
  rw [if_pos hw]
  have hnews : ∀ j u, (bytesV l)[j]? = some u → w.cell? (ad.add j) = some u := fun j u hu => by
    rcases hr.2 with ⟨h1, _⟩ | ⟨x', c', h1, _, hc⟩
    · cases h1
    · injection h1 with e1 _ _
      injection e1 with e1
      subst e1
      obtain ⟨hj, hu⟩ := List.getElem?_eq_some_iff.1 hu
      rw [hc j hj, hu]
  refine wp_append_own _ s x _ ho B _ i z 1 1 ht hi hz hs1 hb1 hz1 (by decide) v n xs hs hown ad l.length c (bytesV l) hx (by rw [bytesV_length]; omega) hnews (bytesV_one l) (by unfold maxLen; omega) (by omega) hB (fun v' w' h2 h3 h4 => ?_)
  obtain ⟨va, vc, rfl⟩ := owns_shape h2
  exact h va vc w' h2 ((Below.refl _ _).mono hB |>.grown h3 hB (fun j hj => (hown.lt j hj).1)) h3
/-- the bytes that the newest head tells of; the entries in them; the log. -/
def logB (d : PD) : List UInt8 := (bankB d (newestP d).bank.toNat (bankP d)).take (newestP d).bytes.toNat
def logP (d : PD) : PL := ⟨newestP d, logB d, ((entP (logB d)).1.length : Int), false⟩
/-- what Open gives. -/
def OpenTo (w : World) (D : Nat) (d : PD) (e : Ending) (w' : World) : Prop :=
  ((entP (logB d)).2 = true ∧ ∃ L bv ov, e = .returned (.tuple #[.pointer (some ⟨L, 0, none⟩), ov, .int .i64 0]) ∧ LogAt w.heap.size w' L D bv (logP d) ∧ RowsU w.heap.size w' ov (entP (logB d)).1 ∧ Below w.heap.size w w') ∨
  ((entP (logB d)).2 = false ∧ e = .returned (.tuple #[.pointer none, .slice none 0 0, .int .i64 2]) ∧ Below w.heap.size w w')
set_option maxRecDepth 100000 in
set_option maxHeartbeats 8000000 in
theorem Open_c1 (h : DrumAt lo w D g m v d) (hn : 4 ≤ d.n) (n1 : Int) (k n3 : Nat) (hk : k ≤ 1) (h3 : n3 ≤ 64 * bankP d) (hN : newestP d = ⟨n1, (k : Int), (n3 : Int)⟩) : Calls Tryd.prog 11 #[.pointer (some ⟨D, 0, none⟩)] w (OpenTo w D d) := by
  have CL := Lib.hid (fun W (hb : Below w.heap.size w W) => Len_c (h.below hb))
  have CN := Lib.hid (fun W (hb : Below w.heap.size w W) => newest_c (h.below hb) hn)
  have CB := Lib.hid (fun W (hb : Below w.heap.size w W) => bank_c (h.below hb) (by omega))
  have hn4 : ¬ ((d.n : Int) < 4) := by omega
  go_enter Tryd.func11, Tryd.ntmps11
  go_wp2_with (first | (go_at_call 32; (with_reducible refine (CL.out _ (Below.refl _ _)).mono ?_); rintro e wz ⟨rfl, rfl⟩) | (go_at_call 33; (with_reducible refine (CN.out _ (Below.refl _ _)).mono ?_); rintro e w1 ⟨rfl, hb1⟩; rw [hN]; dsimp only [HD3.val]))
  have HW := Lib.hid (hb1.alloc hb1.size (.cells #[.pointer (some ⟨D, 0, none⟩), .int .i64 n1, .int .i64 (k : Int), .int .i64 (n3 : Int), .slice none 0 0, .int .i64 0, .bool false] 70))
  have HL := Lib.hid (BlkT.new w1 (logCells D ⟨⟨n1, (k : Int), (n3 : Int)⟩, [], 0, false⟩ (.slice none 0 0)) tL)
  have HLS : Hid (w.heap.size ≤ w1.heap.size) := Lib.hid hb1.size
  with_reducible refine (CB.out _ HW.out).mono ?_
  rintro e w2 ⟨rfl, rfl⟩
  go_wp2_with fail
  have hqb : bankP d ≤ 99 := by unfold bankP; have := h.ok.n; omega
  have HD := Lib.hid h
  have CSE := Lib.hid (fun W (hb : Below w.heap.size w W) j (hj : j < bankP d) => sector_c (h.below hb) (by omega) k j hk (by omega))
  have CR := Lib.hid (fun W (hb : Below w.heap.size w W) j (hj : j < bankP d) => Read_c (h.below hb) ((2 + k * bankP d + j : Nat) : Int))
  clear h
  generalize hQ : bankP d = qb at *
  go_loopw [19] (fun i wr => ∃ (j : Nat) (bv : Value), j ≤ qb ∧ i = .int .i64 (j : Int) ∧ BlkT wr w1.heap.size (logCells D ⟨⟨n1, (k : Int), (n3 : Int)⟩, bankB d k j, 0, false⟩ bv) tL ∧ wr.ownsRow w.heap.size 5 1 bv (64 * j) (bytesV (bankB d k j)) ∧ Below w.heap.size w wr) (fun i _ => qb - (intOf i).toNat)
  case atStart => exact ⟨0, _, by omega, rfl, HL.out, World.ownsRow_nil _ _ _ _, HW.out⟩
  case round =>
    obtain ⟨j, bv, hj, rfl, hl, ho, hb⟩ := hrel
    obtain ⟨ba, bc, rfl⟩ := owns_shape ho
    by_cases hjq : j < qb
    · have hjq' : (j : Int) < (qb : Int) := by omega
      have HSC := Lib.hid (CSE.out wr.drew hb.drew j hjq)
      have HRD := Lib.hid (CR.out wr.drew hb.drew j hjq)
      have HLd := Lib.hid (hl.below (Below.refl _ wr).drew)
      have HOd := Lib.hid ho.drew
      have HI : Hid (readP d ((2 + k * qb + j : Nat) : Int) = sec d.now (2 + k * qb + j)) := Lib.hid (by
        have hkq : k * qb ≤ 1 * qb := Nat.mul_le_mul_right _ hk
        have hq2 : 2 * qb ≤ d.n - 2 := by rw [← hQ]; unfold bankP; omega
        unfold readP; rw [if_pos ⟨by omega, by omega⟩, Int.toNat_natCast])
      have HSL : Hid ((sec d.now (2 + k * qb + j)).length = 64) := Lib.hid (sec_len HD.out.ok.now (by
        have hkq : k * qb ≤ 1 * qb := Nat.mul_le_mul_right _ hk
        have hq2 : 2 * qb ≤ d.n - 2 := by rw [← hQ]; unfold bankP; omega
        omega))
      have HJ : ((2 + k * qb + j : Nat) : Int) = 2 + (k : Int) * (qb : Int) + (j : Int) := by push_cast; rfl
      rw [HI.out, HJ] at HRD
      clear HJ
      have HBS : Hid (bankB d k (j + 1) = bankB d k j ++ sec d.now (2 + k * qb + j)) := Lib.hid (by rw [bankB_succ, hQ])
      generalize sec d.now (2 + k * qb + j) = sj at *
      have t4 := HLd.out.blk.cell 4 _ rfl
      have t2 := HLd.out.blk.cell 2 _ rfl
      have HBd := Lib.hid hb.drew
      have hlw : w1.heap.size < wr.heap.size := hl.lt
      have HLW := Lib.hid (show w1.heap.size < wr.drew.heap.size from hlw)
      clear hl ho HI hb
      go_wp2_with fail
      refine wp_region_last (n := 18) (S := (fun W => W.cell? ⟨w1.heap.size, 4, none⟩ = some (.slice ba (64 * j) bc) ∧ W.cell? ⟨w1.heap.size, 2, none⟩ = some (.int .i64 (k : Int)))) (by kernel_rfl) (by kernel_rfl) (by kernel_rfl) ?_ (fun hHeld => ?_)
      · (first | exact ⟨t4, t2⟩ | exact ⟨HL5.out.blk.cell 4 _ rfl, HL5.out.blk.cell 2 _ rfl⟩ | exact ⟨HL6.out.blk.cell 4 _ rfl, HL6.out.blk.cell 2 _ rfl⟩)
      (refine wpAnyH_take (i := 0) (oi := R_Open7_0) (v := ?_) rfl (by kernel_rfl) (by kernel_rfl) (by kernel_rfl) (fun _ _ _ h => h) (Or.inl ⟨by rfl, ?_⟩) (by assumption) ?_; rotate_left; next => (intro w hSw; (try dsimp only at hSw); (try delta R_Open7_0); go_simp; try with_reducible rfl))
      (try simp only [Act.put, List.setIfInBounds_toArray, List.set_cons_zero, List.set_cons_succ])
      (refine wpAnyH_take (i := 1) (oi := R_Open7_1) (v := ?_) rfl (by kernel_rfl) (by kernel_rfl) (by kernel_rfl) (fun _ _ _ h => h) (Or.inl ⟨by rfl, ?_⟩) (by assumption) ?_; rotate_left; next => (intro w hSw; (try dsimp only at hSw); (try delta R_Open7_1); go_simp; try with_reducible rfl))
      (try simp only [Act.put, List.setIfInBounds_toArray, List.set_cons_zero, List.set_cons_succ])
      (refine wpAnyH_take (i := 2) (oi := R_Open7_2) (v := ?_) rfl (by kernel_rfl) (by kernel_rfl) (by kernel_rfl) (fun _ _ _ h => h) (Or.inl ⟨by rfl, ?_⟩) (by assumption) ?_; rotate_left; next => (intro w hSw; (try dsimp only at hSw); (try delta R_Open7_2); go_simp; try with_reducible rfl))
      (try simp only [Act.put, List.setIfInBounds_toArray, List.set_cons_zero, List.set_cons_succ])
      (refine wpAnyH_take (i := 3) (oi := R_Open7_3) (v := ?_) rfl (by kernel_rfl) (by kernel_rfl) (by kernel_rfl) (fun _ _ _ h => h) (Or.inl ⟨by rfl, ?_⟩) (by assumption) ?_; rotate_left; next => (intro w hSw; (try dsimp only at hSw); (try delta R_Open7_3); go_simp; try with_reducible rfl))
      (try simp only [Act.put, List.setIfInBounds_toArray, List.set_cons_zero, List.set_cons_succ])
      (refine wpAnyH_take (i := 4) (oi := R_Open7_4) (v := ?_) rfl (by kernel_rfl) (by kernel_rfl) (by kernel_rfl) (fun _ _ _ h => h) (Or.inl ⟨by rfl, ?_⟩) (by assumption) ?_; rotate_left; next => (intro w hSw; (try dsimp only at hSw); (try delta R_Open7_4); go_simp; try with_reducible rfl))
      (try simp only [Act.put, List.setIfInBounds_toArray, List.set_cons_zero, List.set_cons_succ])
      (refine wpAnyH_take (i := 5) (oi := R_Open7_5) (v := ?_) rfl (by kernel_rfl) (by kernel_rfl) (by kernel_rfl) (fun _ _ _ h => h) (Or.inl ⟨by rfl, ?_⟩) (by assumption) ?_; rotate_left; next => (intro w hSw; (try dsimp only at hSw); (try delta R_Open7_5); go_simp; try with_reducible rfl))
      (try simp only [Act.put, List.setIfInBounds_toArray, List.set_cons_zero, List.set_cons_succ])
      (refine wpAnyH_take (i := 6) (oi := R_Open7_6) (v := ?_) rfl (by kernel_rfl) (by kernel_rfl) (by kernel_rfl) (fun _ _ _ h => h) (Or.inl ⟨by rfl, ?_⟩) (by assumption) ?_; rotate_left; next => (intro w hSw; (try dsimp only at hSw); (try delta R_Open7_6); go_simp; try with_reducible rfl))
      (try simp only [Act.put, List.setIfInBounds_toArray, List.set_cons_zero, List.set_cons_succ])
      (refine wpAnyH_take (i := 7) (oi := R_Open7_7) (v := ?_) rfl (by kernel_rfl) (by kernel_rfl) (by kernel_rfl) (fun _ _ _ h => h) (Or.inl ⟨by rfl, ?_⟩) (by assumption) ?_; rotate_left; next => (intro w hSw; (try dsimp only at hSw); (try delta R_Open7_7); go_simp; try with_reducible rfl))
      (try simp only [Act.put, List.setIfInBounds_toArray, List.set_cons_zero, List.set_cons_succ])
      (refine wpAnyH_take (i := 8) (oi := R_Open7_8) (v := ?_) rfl (by kernel_rfl) (by kernel_rfl) (by kernel_rfl) (fun _ _ _ h => h) (Or.inl ⟨by rfl, ?_⟩) (by assumption) ?_; rotate_left; next => (intro w hSw; (try dsimp only at hSw); (try delta R_Open7_8); go_simp; try with_reducible rfl))
      (try simp only [Act.put, List.setIfInBounds_toArray, List.set_cons_zero, List.set_cons_succ])
      (refine wpAnyH_take (i := 9) (oi := R_Open7_9) (v := ?_) rfl (by kernel_rfl) (by kernel_rfl) (by kernel_rfl) (fun _ _ _ h => h) (Or.inl ⟨by rfl, ?_⟩) (by assumption) ?_; rotate_left; next => (intro w hSw; (try dsimp only at hSw); (try delta R_Open7_9); go_simp; try with_reducible rfl))
      (try simp only [Act.put, List.setIfInBounds_toArray, List.set_cons_zero, List.set_cons_succ])
      (refine wpAnyH_take (i := 10) (oi := R_Open7_10) (v := ?_) rfl (by kernel_rfl) (by kernel_rfl) (by kernel_rfl) (fun _ _ _ h => h) (Or.inl ⟨by rfl, ?_⟩) (by assumption) ?_; rotate_left; next => (intro w hSw; (try dsimp only at hSw); (try delta R_Open7_10); go_simp; try with_reducible rfl))
      (try simp only [Act.put, List.setIfInBounds_toArray, List.set_cons_zero, List.set_cons_succ])
      (refine wpAnyH_take (i := 11) (oi := R_Open7_11) (v := ?_) rfl (by kernel_rfl) (by kernel_rfl) (by kernel_rfl) (fun _ _ _ h => h) (Or.inl ⟨by rfl, ?_⟩) (by assumption) ?_; rotate_left; next => (intro w hSw; (try dsimp only at hSw); (try delta R_Open7_11); go_simp; try with_reducible rfl))
      (try simp only [Act.put, List.setIfInBounds_toArray, List.set_cons_zero, List.set_cons_succ])
      (refine wpAnyH_take (i := 12) (oi := R_Open7_12) (v := ?_) rfl (by kernel_rfl) (by kernel_rfl) (by kernel_rfl) (fun _ _ _ h => h) (Or.inl ⟨by rfl, ?_⟩) (by assumption) ?_; rotate_left; next => (intro w hSw; (try dsimp only at hSw); (try delta R_Open7_12); go_simp; try with_reducible rfl))
      (try simp only [Act.put, List.setIfInBounds_toArray, List.set_cons_zero, List.set_cons_succ])
      refine wpAnyH_ready (rs := [13]) (by kernel_rfl) (by simp) ?_
      refine AllReadyH.cons (o := R_Open7_13) rfl (fun K hK => ?_) AllReadyH.nil
      (try delta R_Open7_13)
      (go_simp; (with_reducible refine (HSC.out).mono ?_); rintro e wq ⟨rfl, rfl⟩; (try go_wp2_with fail))
      refine hK.out _ _ ?_ (fun hHeld => ?_)
      · (first | exact ⟨t4, t2⟩ | exact ⟨HL5.out.blk.cell 4 _ rfl, HL5.out.blk.cell 2 _ rfl⟩ | exact ⟨HL6.out.blk.cell 4 _ rfl, HL6.out.blk.cell 2 _ rfl⟩)
      clear hK K
      (try simp only [Act.put, List.setIfInBounds_toArray, List.set_cons_zero, List.set_cons_succ])
      refine wpAnyH_ready (rs := [14]) (by kernel_rfl) (by simp) ?_
      refine AllReadyH.cons (o := R_Open7_14) rfl (fun K hK => ?_) AllReadyH.nil
      (try delta R_Open7_14)
      (go_simp; (with_reducible refine (HRD.out).mono ?_); rintro e w5 ⟨vr, rfl, hown5, hb5⟩; have hr5 := RowAt.ofOwns hown5; obtain ⟨ra, rc, rfl⟩ := hr5.shapeB; obtain ⟨rb, ro, rfl, _, _⟩ := hr5.cellAt 0 (by rw [bytesV_length, HSL.out]; decide); have HR5 := Lib.hid hr5; have HL5 := Lib.hid (HLd.out.below hb5); have HO5 := Lib.hid (own_below HOd.out hb5); have HB5 := Lib.hid (HBd.out.trans (hb5.mono HBd.out.size)); clear hr5 hown5 hb5; (try go_wp2_with fail))
      refine hK.out _ _ ?_ (fun hHeld => ?_)
      · (first | exact ⟨t4, t2⟩ | exact ⟨HL5.out.blk.cell 4 _ rfl, HL5.out.blk.cell 2 _ rfl⟩ | exact ⟨HL6.out.blk.cell 4 _ rfl, HL6.out.blk.cell 2 _ rfl⟩)
      clear hK K
      (try simp only [Act.put, List.setIfInBounds_toArray, List.set_cons_zero, List.set_cons_succ])
      refine wpAnyH_ready (rs := [15]) (by kernel_rfl) (by simp) ?_
      refine AllReadyH.cons (o := R_Open7_15) rfl (fun K hK => ?_) AllReadyH.nil
      (try delta R_Open7_15)
      (refine step_appM rfl _ _ rfl w.heap.size (64 * j) _ _ rfl HO5.out ⟨rb, ro, none⟩ rc sj rfl HR5.out (by have := HSL.out; omega) HB5.out.size ?_; intro na nc w6 hown6 hb6 hg6; have HL6 := Lib.hid (blk_grown HL5.out hg6 (HL5.out.apartO HO5.out (by decide))); have HO6 := Lib.hid hown6; have HB6 := Lib.hid (HB5.out.trans (hb6.mono (Nat.le_refl _))); clear hown6 hb6 hg6)
      refine hK.out _ _ ?_ (fun hHeld => ?_)
      · (first | exact ⟨t4, t2⟩ | exact ⟨HL5.out.blk.cell 4 _ rfl, HL5.out.blk.cell 2 _ rfl⟩ | exact ⟨HL6.out.blk.cell 4 _ rfl, HL6.out.blk.cell 2 _ rfl⟩)
      clear hK K
      (try simp only [Act.put, List.setIfInBounds_toArray, List.set_cons_zero, List.set_cons_succ])
      (refine wpAnyH_take (i := 16) (oi := R_Open7_16) (v := ?_) rfl (by kernel_rfl) (by kernel_rfl) (by kernel_rfl) (fun _ _ _ h => h) (Or.inl ⟨by rfl, ?_⟩) (by assumption) ?_; rotate_left; next => (intro w hSw; (try dsimp only at hSw); (try delta R_Open7_16); go_simp; try with_reducible rfl))
      (try simp only [Act.put, List.setIfInBounds_toArray, List.set_cons_zero, List.set_cons_succ])
      (refine wpAnyH_take (i := 17) (oi := R_Open7_17) (v := ?_) rfl (by kernel_rfl) (by kernel_rfl) (by kernel_rfl) (fun _ _ _ h => h) (Or.inl ⟨by rfl, ?_⟩) (by assumption) ?_; rotate_left; next => (intro w hSw; (try dsimp only at hSw); (try delta R_Open7_17); go_simp; try with_reducible rfl))
      (try simp only [Act.put, List.setIfInBounds_toArray, List.set_cons_zero, List.set_cons_succ])
      refine wpAnyH_done (by kernel_rfl) ?_ _
      (have e4 := HL6.out.blk.cell 4 _ rfl; have e5 := HL6.out.blk.thaw 4; have HN6 := Lib.hid (HL6.out.set 4 (.slice na (64 * j + sj.length) nc)); have HP6 := Lib.hid (Go.ownsRow_setCell_other (a := (⟨w1.heap.size, 4, none⟩ : Addr)) HO6.out (HL6.out.apartO HO6.out (by decide)) (.slice na (64 * j + sj.length) nc)); have HC6 := Lib.hid (Below.setCell (p := (⟨w1.heap.size, 4, none⟩ : Addr)) HB6.out HLS.out (.slice na (64 * j + sj.length) nc)); refine last_do (o := { dst := none, op := Op.store 30 (Operand.tmp 39) (Operand.tmp 37), type := 0, pos := "redo.go:70", after := #[{ on := 17, ground := Ground.data }, { on := 15, ground := Ground.data }, { on := 15, ground := Ground.chain }, { on := 0, ground := Ground.phase }, { on := 1, ground := Ground.phase }, { on := 2, ground := Ground.phase }, { on := 3, ground := Ground.phase }, { on := 4, ground := Ground.phase }, { on := 5, ground := Ground.phase }, { on := 6, ground := Ground.phase }, { on := 7, ground := Ground.phase }, { on := 8, ground := Ground.phase }, { on := 9, ground := Ground.phase }, { on := 10, ground := Ground.phase }, { on := 11, ground := Ground.phase }, { on := 12, ground := Ground.phase }, { on := 13, ground := Ground.phase }, { on := 14, ground := Ground.phase }, { on := 15, ground := Ground.phase }], guard := none }) rfl (fun K hK => ?_); go_simp; refine hK.out _ _ ?_; clear hK K e4 e5; go_wp2_with fail; have e6 : 64 * j + sj.length = 64 * (j + 1) := by { have := HSL.out; omega }; rw [e6] at HN6 HP6 HC6 ⊢; refine ⟨⟨j + 1, _, hjq, rfl, HN6.out, ?_, HC6.out⟩, ?_⟩; (rw [HBS.out, bytesV_append]; exact HP6.out); (simp [intOf]; omega))
    · obtain rfl : j = qb := by omega
      have HLd := Lib.hid hl
      have HOd := Lib.hid ho
      have HBd := Lib.hid hb
      obtain ⟨ca, cc, hcut, hcown, hco⟩ := own_cutHi HOd.out n3 h3
      have t4 := HLd.out.blk.cell 4 _ rfl
      have t3 := HLd.out.blk.cell 3 _ rfl
      have HCO := Lib.hid hcown
      clear hl ho hb hcown
      go_wp2_with fail
      refine wp_region_last (n := 13) (S := (fun W => W.cell? ⟨w1.heap.size, 4, none⟩ = some (.slice ba (64 * j) bc) ∧ W.cell? ⟨w1.heap.size, 3, none⟩ = some (.int .i64 (n3 : Int)))) (by kernel_rfl) (by kernel_rfl) (by kernel_rfl) ?_ (fun hHeld => ?_)
      · exact ⟨t4, t3⟩
      (refine wpAnyH_take (i := 0) (oi := R_Open9_0) (v := ?_) rfl (by kernel_rfl) (by kernel_rfl) (by kernel_rfl) (fun _ _ _ h => h) (Or.inl ⟨by rfl, ?_⟩) (by assumption) ?_; rotate_left; next => (intro w hSw; (try dsimp only at hSw); (try delta R_Open9_0); go_simp; try with_reducible rfl))
      (try simp only [Act.put, List.setIfInBounds_toArray, List.set_cons_zero, List.set_cons_succ])
      (refine wpAnyH_take (i := 1) (oi := R_Open9_1) (v := ?_) rfl (by kernel_rfl) (by kernel_rfl) (by kernel_rfl) (fun _ _ _ h => h) (Or.inl ⟨by rfl, ?_⟩) (by assumption) ?_; rotate_left; next => (intro w hSw; (try dsimp only at hSw); (try delta R_Open9_1); go_simp; try with_reducible rfl))
      (try simp only [Act.put, List.setIfInBounds_toArray, List.set_cons_zero, List.set_cons_succ])
      (refine wpAnyH_take (i := 2) (oi := R_Open9_2) (v := ?_) rfl (by kernel_rfl) (by kernel_rfl) (by kernel_rfl) (fun _ _ _ h => h) (Or.inl ⟨by rfl, ?_⟩) (by assumption) ?_; rotate_left; next => (intro w hSw; (try dsimp only at hSw); (try delta R_Open9_2); go_simp; try with_reducible rfl))
      (try simp only [Act.put, List.setIfInBounds_toArray, List.set_cons_zero, List.set_cons_succ])
      (refine wpAnyH_take (i := 3) (oi := R_Open9_3) (v := ?_) rfl (by kernel_rfl) (by kernel_rfl) (by kernel_rfl) (fun _ _ _ h => h) (Or.inl ⟨by rfl, ?_⟩) (by assumption) ?_; rotate_left; next => (intro w hSw; (try dsimp only at hSw); (try delta R_Open9_3); go_simp; try with_reducible rfl))
      (try simp only [Act.put, List.setIfInBounds_toArray, List.set_cons_zero, List.set_cons_succ])
      (refine wpAnyH_take (i := 4) (oi := R_Open9_4) (v := ?_) rfl (by kernel_rfl) (by kernel_rfl) (by kernel_rfl) (fun _ _ _ h => h) (Or.inl ⟨by rfl, ?_⟩) (by assumption) ?_; rotate_left; next => (intro w hSw; (try dsimp only at hSw); (try delta R_Open9_4); go_simp; try with_reducible rfl))
      (try simp only [Act.put, List.setIfInBounds_toArray, List.set_cons_zero, List.set_cons_succ])
      (refine wpAnyH_take (i := 5) (oi := R_Open9_5) (v := ?_) rfl (by kernel_rfl) (by kernel_rfl) (by kernel_rfl) (fun _ _ _ h => h) (Or.inl ⟨by rfl, ?_⟩) (by assumption) ?_; rotate_left; next => (intro w hSw; (try dsimp only at hSw); (try delta R_Open9_5); go_simp; try with_reducible rfl))
      (try simp only [Act.put, List.setIfInBounds_toArray, List.set_cons_zero, List.set_cons_succ])
      (refine wpAnyH_take (i := 6) (oi := R_Open9_6) (v := ?_) rfl (by kernel_rfl) (by kernel_rfl) (by kernel_rfl) (fun _ _ _ h => h) (Or.inl ⟨by rfl, ?_⟩) (by assumption) ?_; rotate_left; next => (intro w hSw; (try dsimp only at hSw); (try delta R_Open9_6); go_simp; try with_reducible rfl))
      (try simp only [Act.put, List.setIfInBounds_toArray, List.set_cons_zero, List.set_cons_succ])
      (refine wpAnyH_take (i := 7) (oi := R_Open9_7) (v := ?_) rfl (by kernel_rfl) (by kernel_rfl) (by kernel_rfl) (fun _ _ _ h => h) (Or.inl ⟨by rfl, ?_⟩) (by assumption) ?_; rotate_left; next => (intro w hSw; (try dsimp only at hSw); (try delta R_Open9_7); go_simp; try with_reducible rfl))
      (try simp only [Act.put, List.setIfInBounds_toArray, List.set_cons_zero, List.set_cons_succ])
      (refine wpAnyH_take (i := 8) (oi := R_Open9_8) (v := ?_) rfl (by kernel_rfl) (by kernel_rfl) (by kernel_rfl) (fun _ _ _ h => h) (Or.inl ⟨by rfl, ?_⟩) (by assumption) ?_; rotate_left; next => (intro w hSw; (try dsimp only at hSw); (try delta R_Open9_8); go_simp; try with_reducible rfl))
      (try simp only [Act.put, List.setIfInBounds_toArray, List.set_cons_zero, List.set_cons_succ])
      (refine wpAnyH_take (i := 9) (oi := R_Open9_9) (v := ?_) rfl (by kernel_rfl) (by kernel_rfl) (by kernel_rfl) (fun _ _ _ h => h) (Or.inl ⟨by rfl, ?_⟩) (by assumption) ?_; rotate_left; next => (intro w hSw; (try dsimp only at hSw); (try delta R_Open9_9); go_simp; try with_reducible rfl))
      (try simp only [Act.put, List.setIfInBounds_toArray, List.set_cons_zero, List.set_cons_succ])
      (refine wpAnyH_take (i := 10) (oi := R_Open9_10) (v := ?_) rfl (by kernel_rfl) (by kernel_rfl) (by kernel_rfl) (fun _ _ _ h => h) (Or.inl ⟨by rfl, ?_⟩) (by assumption) ?_; rotate_left; next => (intro w hSw; (try dsimp only at hSw); (try delta R_Open9_10); go_simp; try with_reducible rfl))
      (try simp only [Act.put, List.setIfInBounds_toArray, List.set_cons_zero, List.set_cons_succ])
      (refine wpAnyH_take (i := 11) (oi := R_Open9_11) (v := ?_) rfl (by kernel_rfl) (by kernel_rfl) (by kernel_rfl) (fun _ _ _ h => h) (Or.inl ⟨by rfl, ?_⟩) (by assumption) ?_; rotate_left; next => (intro w hSw; (try dsimp only at hSw); (try delta R_Open9_11); go_simp; try with_reducible rfl))
      (try simp only [Act.put, List.setIfInBounds_toArray, List.set_cons_zero, List.set_cons_succ])
      (refine wpAnyH_take (i := 12) (oi := R_Open9_12) (v := ?_) rfl (by kernel_rfl) (by kernel_rfl) (by kernel_rfl) (fun _ _ _ h => h) (Or.inl ⟨by rfl, ?_⟩) (by assumption) ?_; rotate_left; next => (intro w hSw; (try dsimp only at hSw); (try delta R_Open9_12); go_simp; try with_reducible rfl))
      (try simp only [Act.put, List.setIfInBounds_toArray, List.set_cons_zero, List.set_cons_succ])
      refine wpAnyH_done (by kernel_rfl) ?_ _
      (have e4 := HLd.out.blk.cell 4 _ rfl; have e5 := HLd.out.blk.thaw 4; have HN6 := Lib.hid ((BlkT.below HLd.out (Below.refl _ wr).drew).set 4 (.slice ca n3 cc)); have HP6 := Lib.hid (Go.ownsRow_setCell_other (a := (⟨w1.heap.size, 4, none⟩ : Addr)) HCO.out.drew (by rw [hco]; exact HLd.out.apartO HOd.out (by decide)) (.slice ca n3 cc)); have HC6 := Lib.hid (Below.setCell (p := (⟨w1.heap.size, 4, none⟩ : Addr)) HBd.out.drew HLS.out (.slice ca n3 cc)); refine last_do (o := { dst := none, op := Op.store 30 (Operand.tmp 53) (Operand.tmp 51), type := 0, pos := "redo.go:72", after := #[{ on := 12, ground := Ground.data }, { on := 10, ground := Ground.data }, { on := 0, ground := Ground.phase }, { on := 1, ground := Ground.phase }, { on := 2, ground := Ground.phase }, { on := 3, ground := Ground.phase }, { on := 4, ground := Ground.phase }, { on := 5, ground := Ground.phase }, { on := 6, ground := Ground.phase }, { on := 7, ground := Ground.phase }, { on := 8, ground := Ground.phase }, { on := 9, ground := Ground.phase }, { on := 10, ground := Ground.phase }], guard := none }) rfl (fun K hK => ?_); go_simp; refine hK.out _ _ ?_; clear hK K e4 e5; go_wp2_with fail)
      have HN7 : Hid (BlkT (wr.setCell ⟨w1.heap.size, 4, none⟩ (.slice ca n3 cc)).drew w1.heap.size (logCells D ⟨⟨n1, (k : Int), (n3 : Int)⟩, (bankB d k j).take n3, 0, false⟩ (.slice ca n3 cc)) tL) := HN6
      have HP7 : Hid ((wr.setCell ⟨w1.heap.size, 4, none⟩ (.slice ca n3 cc)).drew.ownsRow w.heap.size 5 1 (.slice ca n3 cc) n3 (bytesV ((bankB d k j).take n3))) := Lib.hid (by rw [bytesV_take]; exact HP6.out)
      have HC7 : Hid (Below w.heap.size w (wr.setCell ⟨w1.heap.size, 4, none⟩ (.slice ca n3 cc)).drew) := HC6
      have HBL : Hid ((((bankB d k j).take n3).length = n3)) := Lib.hid (by rw [List.length_take, bankB_len HD.out.ok hn hk (by omega)]; omega)
      have HLB : Hid (logB d = (bankB d k j).take n3) := Lib.hid (by unfold logB; rw [hN, hQ]; rfl)
      clear HN6 HP6 HC6 HLd HOd HBd HCO hcut hco
      generalize (wr.setCell ⟨w1.heap.size, 4, none⟩ (.slice ca n3 cc)).drew = w2 at *
      generalize (bankB d k j).take n3 = lb at *
      have HR7 := Lib.hid (RowAt.ofOwns HP7.out)
      with_reducible refine (Open_c _ lb w2 HR7.out (by have := HBL.out; omega)).mono ?_
      rintro e w3 ⟨B, R, rfl, hB, hcur, hb3, hR, hBl⟩
      have H3 := Lib.hid (cstart hcur hb3 hB)
      have HRl := Lib.hid hR
      have HBl := Lib.hid hBl
      have HS3 := Lib.hid hb3.size
      clear hcur hb3 hB hR hBl
      go_wp2_with fail
      go_loopw [8] (fun o wr => ∃ (c : Cur) (es : List (List UInt8)) (q n' c' : Nat) (a' : Option Addr), o = .slice a' n' c' ∧ n' = es.length ∧ entP lb = (es ++ (entF q c).1, (entF q c).2) ∧ curLen c ≤ q ∧ es.length + curLen c ≤ lb.length ∧ CS R B w2 c wr ∧ w3.heap.size ≤ wr.heap.size ∧ RowsU w3.heap.size wr o es) (fun o _ => lb.length + 1 - (match o with | .slice _ n _ => n | _ => 0))
      case atStart => exact ⟨some lb, [], lb.length, 0, 0, none, rfl, rfl, by simp [entP], Nat.le_refl _, by simp [curLen], H3.out, Nat.le_refl _, RowsU.nil _ _⟩
      case round =>
        obtain ⟨c, es, q, n', c', a', rfl, hes, hE, hcq, hle, hcs, hsz, hro⟩ := hrel
        have HCS := Lib.hid hcs
        have HES := Lib.hid hes
        have HSZ := Lib.hid hsz
        have HRO := Lib.hid hro
        have HE := Lib.hid hE
        have HLE := Lib.hid (show curLen c ≤ q ∧ es.length + curLen c ≤ lb.length from ⟨hcq, hle⟩)
        rcases c with _ | (_ | ⟨x, r⟩)
        · have HG := Lib.hid (Good_c B _ wr HCS.out.cur)
          have HWh := Lib.hid (Whole_c B _ wr HCS.out.cur)
          simp only [Option.isSome] at HG
          clear hes
          go_wp2_with (first | (go_at_call 38; (with_reducible refine (HG.out).mono ?_); rintro e w' ⟨rfl, rfl⟩) | (go_at_call 39; (with_reducible refine (HWh.out).mono ?_); rintro e w' ⟨rfl, rfl⟩))
          go_ret3
          right
          have hE := HE.out
          rw [← HLB.out] at hE
          exact ⟨by rw [hE]; simp [entF], rfl, HC7.out.trans (HCS.out.bel.mono HC7.out.size)⟩
        · have HG := Lib.hid (Good_c B _ wr HCS.out.cur)
          have HWh := Lib.hid (Whole_c B _ wr HCS.out.cur)
          simp only [Option.isSome] at HG
          have HNr := Lib.hid (HN7.out.below HCS.out.bel)
          have HLr := Lib.hid (HC7.out.trans (HCS.out.bel.mono HC7.out.size))
          have t5 := HNr.out.blk.cell 5 _ rfl
          have f5 := HNr.out.blk.thaw 5
          clear hes
          go_wp2_with (first | (go_at_call 38; (with_reducible refine (HG.out).mono ?_); rintro e w' ⟨rfl, rfl⟩) | (go_at_call 39; (with_reducible refine (HWh.out).mono ?_); rintro e w' ⟨rfl, rfl⟩))
          go_ret3
          left
          have hE := HE.out
          rw [← HLB.out] at hE
          have hl1 : w1.heap.size < w3.heap.size := Nat.lt_of_lt_of_le HN7.out.lt HS3.out
          have hg := grownBy_set wr w1.heap.size 5 (.int .i64 (n' : Int))
          have hN2 : logP d = ⟨⟨n1, (k : Int), (n3 : Int)⟩, lb, (n' : Int), false⟩ := by
            unfold logP
            rw [hN, HLB.out, ← HLB.out, hE, HES.out, HLB.out]
            simp [entF]
          have hE2 : (entP (logB d)).1 = es := by rw [hE]; simp [entF]
          refine ⟨by rw [hE]; simp [entF], w1.heap.size, .slice ca n3 cc, .slice a' n' c', rfl, ⟨?_, ?_, HLS.out⟩, ?_, HLr.out.grown hg HLr.out.size (fun q hq => by cases hq; exact HLS.out)⟩
          · rw [hN2]; exact HNr.out.set 5 _
          · rw [hN2]; exact Go.ownsRow_setCell_other (a := (⟨w1.heap.size, 5, none⟩ : Addr)) (by rw [HBL.out]; exact own_belowE HP7.out HCS.out.bel) (HN7.out.apartO HP7.out (by decide)) _
          · rw [hE2]; exact (HRO.out.low hg hl1).mono (by have := HC7.out.size; have := HS3.out; omega)
        · have HG := Lib.hid (Good_c B _ wr HCS.out.cur)
          have HWh := Lib.hid (Whole_c B _ wr HCS.out.cur)
          simp only [Option.isSome] at HG
          have HDD : Hid (decide (some (x :: r) = (some [] : Cur)) = false) := Lib.hid (by simp)
          rw [HDD.out] at HWh
          have hcl := curStr_len x r
          have HCL := Lib.hid (show (curStr (some (x :: r))).1.length ≤ 6336 from by have h1 := HLE.out.2; have h2 := HBL.out; have h4 := hcl.2; simp only [curLen, List.length_cons] at h1; omega)
          clear hes
          have HCN := Lib.hid hcl.1
          clear hcl
          go_wp2_with (first | (go_at_call 38; (with_reducible refine (HG.out).mono ?_); rintro e w' ⟨rfl, rfl⟩) | (go_at_call 39; (with_reducible refine (HWh.out).mono ?_); rintro e w' ⟨rfl, rfl⟩))
          with_reducible refine (CStr_c B _ wr HCS.out.cur).mono ?_
          rintro e wq ⟨rfl, hcq, hgq⟩
          have HCQ := Lib.hid (HCS.out.call hcq hgq)
          have HRQ := Lib.hid (HRO.out.low hgq HBl.out)
          have HSQ := Lib.hid (show w3.heap.size ≤ wq.heap.size from Nat.le_trans HSZ.out hgq.size)
          clear hcq hgq
          generalize hS : curStr (some (x :: r)) = ss at *
          obtain ⟨s1, c1⟩ := ss
          obtain ⟨cv, wv, hconv, hru, hbv⟩ := conv_rowU s1 (by have h4 : s1.length ≤ 6336 := HCL.out; unfold maxLen; omega) wq w3.heap.size HSQ.out
          obtain ⟨cells, hco, hcc⟩ := HRQ.out.below hbv
          rw [← HES.out] at hco
          have HCO := Lib.hid hco
          have HCC := Lib.hid hcc
          have HCV := Lib.hid (HCQ.out.below hbv)
          have HRU := Lib.hid hru
          have HSV := Lib.hid (Nat.le_trans HSQ.out hbv.size)
          have HNB := Lib.hid (show n' + 1 ≤ 6337 from by have h1 := HLE.out.2; have h2 := HBL.out; have h4 := HES.out; omega)
          clear hco hcc hru hbv
          go_wp2_with (at_builtin; refine wp_appK1 elemRs (by decide) rfl _ _ rfl w3.heap.size n' _ cells rfl HCO.out [.slice (some ⟨wq.heap.size, 0, none⟩) s1.length cv] rfl rfl ?_ ?_ ?_ ?_ ?_)
          · intro u hu; rw [List.mem_singleton.1 hu]; rfl
          · have := HNB.out; omega
          · have := HNB.out; omega
          · exact HSV.out
          · intro v' w' hown' hgr hbl
            obtain ⟨va, vc, rfl⟩ := owns_shape hown'
            have HR' := Lib.hid (RowsU.snoc (by rw [← HES.out]; exact HCO.out.alloc _) (fun i e c h1 h2 => (HCC.out i e c h1 h2).below ((Below.refl _ wv).alloc (Nat.le_refl _) _)) (HRU.out.below ((Below.refl _ wv).alloc (Nat.le_refl _) _)) (by rw [← HES.out]; exact hown') hgr)
            have HC' := Lib.hid ((HCV.out.below ((Below.refl _ wv).alloc (Nat.le_refl _) _)).grownO (HCO.out.alloc _) hgr HBl.out (fun r' hr' => (HRl.out r' hr').2) HS3.out)
            have HS' := Lib.hid (Nat.le_trans HSV.out hbl.size)
            clear hown' hgr hbl
            go_wp2_with fail
            refine ⟨⟨c1, es ++ [s1], q - 1, n' + 1, vc, va, rfl, by rw [List.length_append, HES.out]; rfl, ?_, ?_, ?_, HC'.out, HS'.out, HR'.out⟩, ?_⟩
            · have hq : q = (q - 1) + 1 := by have h1 := HLE.out.1; simp only [curLen, List.length_cons] at h1; omega
              have hE := HE.out
              rw [hq] at hE
              rw [hE]
              simp [entF, hS]
            · have h1 := HLE.out.1; have h2 := HCN.out; simp only [curLen, List.length_cons] at h1 h2 ⊢; omega
            · have h1 := HLE.out.2; have h2 := HCN.out; simp only [curLen, List.length_cons, List.length_append, List.length_nil] at h1 h2 ⊢; omega
            · have h1 := HLE.out.2; have h2 := HES.out; simp only [curLen, List.length_cons] at h1; simp only []; omega
theorem ROpen_c (h : DrumAt lo w D g m v d) (hn : 4 ≤ d.n) : Calls Tryd.prog 11 #[.pointer (some ⟨D, 0, none⟩)] w (OpenTo w D d) := by
  obtain ⟨h1, h2, h3, h4, h5⟩ := newest_ok d
  generalize hN : newestP d = hd at *
  obtain ⟨n1, k, n3⟩ := hd
  simp only at h1 h2 h3 h4 h5
  refine Open_c1 h hn n1 k.toNat n3.toNat (by omega) (by omega) ?_
  rw [hN]
  congr 1 <;> omega
set_option maxRecDepth 100000 in
theorem ROpen_small (h : DrumAt lo w D g m v d) (hn : d.n < 4) : Calls Tryd.prog 11 #[.pointer (some ⟨D, 0, none⟩)] w fun e w' => e = .returned (.tuple #[.pointer none, .slice none 0 0, .int .i64 1]) ∧ w = w' := by
  have CL := Lib.hid (Len_c h)
  have hn4 : (d.n : Int) < 4 := by omega
  go_enter Tryd.func11, Tryd.ntmps11
  go_wp2_with (first | (go_at_call 32; (with_reducible refine (CL.out).mono ?_); rintro e w' ⟨rfl, rfl⟩) | fail)
  go_ret3
  exact ⟨rfl, rfl⟩
set_option maxRecDepth 100000 in
theorem ROpen_nil (w : World) : Calls Tryd.prog 11 #[.pointer none] w fun e w' => e = .returned (.tuple #[.pointer none, .slice none 0 0, .int .i64 1]) ∧ w = w' := by
  have CL := Lib.hid (Len_nil w)
  go_enter Tryd.func11, Tryd.ntmps11
  go_wp2_with (first | (go_at_call 32; (with_reducible refine (CL.out).mono ?_); rintro e w' ⟨rfl, rfl⟩) | fail)
  go_ret3
  exact ⟨rfl, rfl⟩
end
end Go.Proofs.YtlllbacjdjllbaaDoor
