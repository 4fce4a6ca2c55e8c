
/- Contracts of the reference's log: Append, Reset, Room. -/
import Derived.Test.YtlllbacjdjllbaaDoorRl4
namespace Go.Proofs.YtlllbacjdjllbaaDoor
open Go Go.Proofs Go.Shelf Go.RowKit Go.Great
set_option linter.unusedVariables false
set_option linter.unusedSimpArgs false
abbrev R_RRApp1_0 : Oper := { dst := some 5, op := Op.move (Operand.tmp 0), type := 47, pos := "redo.go:112", after := #[], guard := none }
abbrev R_RRApp1_1 : Oper := { dst := some 6, op := Op.move (Operand.tmp 0), type := 47, pos := "redo.go:112", after := #[], guard := none }
abbrev R_RRApp1_10 : Oper := { dst := some 15, op := Op.move (Operand.tmp 1), type := 30, pos := "redo.go:112", after := #[], guard := none }
abbrev R_RRApp1_11 : Oper := { dst := some 16, op := Op.move (Operand.tmp 0), type := 47, pos := "redo.go:112", after := #[], guard := none }
abbrev R_RRApp1_12 : Oper := { dst := some 17, op := Op.nilCheck (Operand.tmp 16), type := 0, pos := "redo.go:112", after := #[{ on := 11, ground := Ground.data }], guard := none }
abbrev R_RRApp1_13 : Oper := { dst := some 18, op := Op.fieldAddr 59 (Operand.tmp 17) 3, type := 0, pos := "redo.go:112", after := #[{ on := 12, ground := Ground.data }], guard := none }
abbrev R_RRApp1_14 : Oper := { dst := some 19, op := Op.load 3 (Operand.tmp 18), type := 3, pos := "redo.go:112", after := #[{ on := 13, ground := Ground.data }], guard := none }
abbrev R_RRApp1_15 : Oper := { dst := some 20, op := Op.binOp BinOp.add 3 (Operand.tmp 19) (Operand.const (Value.int IntKind.i64 1)) 3, type := 3, pos := "redo.go:112", after := #[{ on := 14, ground := Ground.data }], guard := none }
abbrev R_RRApp1_2 : Oper := { dst := some 7, op := Op.nilCheck (Operand.tmp 6), type := 0, pos := "redo.go:112", after := #[{ on := 1, ground := Ground.data }], guard := none }
abbrev R_RRApp1_3 : Oper := { dst := some 8, op := Op.fieldAddr 59 (Operand.tmp 7) 2, type := 0, pos := "redo.go:112", after := #[{ on := 2, ground := Ground.data }], guard := none }
abbrev R_RRApp1_4 : Oper := { dst := some 9, op := Op.load 30 (Operand.tmp 8), type := 30, pos := "redo.go:112", after := #[{ on := 3, ground := Ground.data }], guard := none }
abbrev R_RRApp1_5 : Oper := { dst := some 10, op := Op.move (Operand.tmp 0), type := 47, pos := "redo.go:112", after := #[], guard := none }
abbrev R_RRApp1_6 : Oper := { dst := some 11, op := Op.nilCheck (Operand.tmp 10), type := 0, pos := "redo.go:112", after := #[{ on := 5, ground := Ground.data }], guard := none }
abbrev R_RRApp1_7 : Oper := { dst := some 12, op := Op.fieldAddr 59 (Operand.tmp 11) 1, type := 0, pos := "redo.go:112", after := #[{ on := 6, ground := Ground.data }], guard := none }
abbrev R_RRApp1_8 : Oper := { dst := some 13, op := Op.fieldAddr 57 (Operand.tmp 12) 1, type := 0, pos := "redo.go:112", after := #[{ on := 7, ground := Ground.data }], guard := none }
abbrev R_RRApp1_9 : Oper := { dst := some 14, op := Op.load 3 (Operand.tmp 13), type := 3, pos := "redo.go:112", after := #[{ on := 8, ground := Ground.data }], guard := none }
abbrev R_RRRoom1_0 : Oper := { dst := some 3, op := Op.move (Operand.tmp 0), type := 47, pos := "redo.go:118", after := #[], guard := none }
abbrev R_RRRoom1_1 : Oper := { dst := some 4, op := Op.nilCheck (Operand.tmp 3), type := 0, pos := "redo.go:118", after := #[{ on := 0, ground := Ground.data }], guard := none }
abbrev R_RRRoom1_10 : Oper := { dst := some 13, op := Op.call { callee := Callee.builtin Builtin.len, args := #[Operand.tmp 12], argTypes := #[30] }, type := 3, pos := "redo.go:118", after := #[{ on := 9, ground := Ground.data }], guard := none }
abbrev R_RRRoom1_11 : Oper := { dst := some 14, op := Op.binOp BinOp.sub 3 (Operand.tmp 8) (Operand.tmp 13) 3, type := 3, pos := "redo.go:118", after := #[{ on := 5, ground := Ground.data }, { on := 10, ground := Ground.data }], guard := none }
abbrev R_RRRoom1_12 : Oper := { dst := some 2, op := Op.assign (Operand.tmp 14), type := 3, pos := "redo.go:118", after := #[{ on := 11, ground := Ground.data }, { on := 4, ground := Ground.chain }, { on := 0, ground := Ground.phase }, { on := 1, ground := Ground.phase }, { on := 2, ground := Ground.phase }, { on := 3, ground := Ground.phase }, { on := 4, ground := Ground.phase }, { on := 5, ground := Ground.phase }, { on := 6, ground := Ground.phase }, { on := 7, ground := Ground.phase }, { on := 8, ground := Ground.phase }, { on := 9, ground := Ground.phase }, { on := 10, ground := Ground.phase }, { on := 11, ground := Ground.phase }], guard := none }
abbrev R_RRRoom1_2 : Oper := { dst := some 5, op := Op.fieldAddr 59 (Operand.tmp 4) 0, type := 0, pos := "redo.go:118", after := #[{ on := 1, ground := Ground.data }], guard := none }
abbrev R_RRRoom1_3 : Oper := { dst := some 6, op := Op.load 45 (Operand.tmp 5), type := 45, pos := "redo.go:118", after := #[{ on := 2, ground := Ground.data }], guard := none }
abbrev R_RRRoom1_4 : Oper := { dst := some 7, op := Op.call { callee := Callee.value (Operand.func 44), args := #[Operand.tmp 6], argTypes := #[45] }, type := 3, pos := "redo.go:118", after := #[{ on := 3, ground := Ground.data }], guard := none }
abbrev R_RRRoom1_5 : Oper := { dst := some 8, op := Op.binOp BinOp.mul 3 (Operand.tmp 7) (Operand.const (Value.int IntKind.i64 64)) 3, type := 3, pos := "redo.go:118", after := #[{ on := 4, ground := Ground.data }], guard := none }
abbrev R_RRRoom1_6 : Oper := { dst := some 9, op := Op.move (Operand.tmp 0), type := 47, pos := "redo.go:118", after := #[], guard := none }
abbrev R_RRRoom1_7 : Oper := { dst := some 10, op := Op.nilCheck (Operand.tmp 9), type := 0, pos := "redo.go:118", after := #[{ on := 6, ground := Ground.data }], guard := none }
abbrev R_RRRoom1_8 : Oper := { dst := some 11, op := Op.fieldAddr 59 (Operand.tmp 10) 2, type := 0, pos := "redo.go:118", after := #[{ on := 7, ground := Ground.data }], guard := none }
abbrev R_RRRoom1_9 : Oper := { dst := some 12, op := Op.load 30 (Operand.tmp 11), type := 30, pos := "redo.go:118", after := #[{ on := 8, ground := Ground.data }], guard := none }

section
variable {lo L X : Nat} {bv ov sv wv : Value} {l : PL} {d : PD} {left : Int} {w : World}
set_option maxRecDepth 100000 in
set_option maxHeartbeats 4000000 in
theorem XAppend_c (hl : RLAt lo w L X bv l) (h : RDAt lo w X ov sv wv d left) (hok : l.ok d) (p : List UInt8) (vp : Value) (hp : RowAt w vp (bytesV p)) (hpl : p.length ≤ 17592186000000) (hwl : d.wait.length ≤ 1099511000000) :
    Calls Tryd.prog 24 #[.pointer (some ⟨L, 0, none⟩), vp] w (RLTo lo L X w (appendP l d p).1 (appendP l d p).2.1 (appendP l d p).2.2) := by
  have hb := hok.bank
  have hc := hok.count
  have HC := Lib.hid (lay_c (hl.below (Below.refl _ w).drew) (h.below (Below.refl _ w).drew) hok.n hok.no.1 (by have := hok.no.2; omega) l.head.bank.toNat (by omega) l.b p bv vp ((RowAt.ofOwns hl.own).below (Below.refl _ w).drew) (hp.below (Below.refl _ w).drew) hok.len hpl (l.count + 1) hwl)
  have e : ((l.head.bank.toNat : Nat) : Int) = l.head.bank := by omega
  rw [e] at HC
  have l2 := hl.blk.blk.cell 2 _ rfl
  have l4 := hl.blk.blk.cell 4 _ rfl
  have l5 := hl.blk.blk.cell 5 _ rfl
  have wc : IntKind.i64.wrap (l.count + 1) = l.count + 1 := by rw [IntKind.wrap_i64]; omega
  obtain ⟨ap, hap⟩ : ∃ ap, appendP l d p = ap := ⟨_, rfl⟩
  rw [show laysP l d l.head.bank.toNat l.b p (l.count + 1) = ap from hap] at HC
  rw [hap]
  obtain ⟨r1, l1, d1⟩ := ap
  simp only at HC ⊢
  clear h hl hp e hap
  obtain ⟨⟨n1, k1, s1⟩, lb, cnt, dead⟩ := l
  simp only at HC l2 l4 l5 wc hb hc hok
  go_enter Tryd.func24, Tryd.ntmps24
  go_wp2_with fail
  refine wp_region_last2 (n := 16) (S := (fun W => W.cell? ⟨L, 2, none⟩ = some (.int .i64 k1) ∧ W.cell? ⟨L, 4, none⟩ = some bv ∧ W.cell? ⟨L, 5, none⟩ = some (.int .i64 cnt))) (by kernel_rfl) (by kernel_rfl) (by kernel_rfl) (by kernel_rfl) ?_ (fun hHeld => ?_)
  · exact ⟨l2, l4, l5⟩
  (refine wpAnyH_take (i := 0) (oi := R_RRApp1_0) (v := ?_) rfl (by kernel_rfl) (by kernel_rfl) (by kernel_rfl) (fun _ _ _ h => h) (Or.inl ⟨by rfl, ?_⟩) (by assumption) ?_; rotate_left; next => (intro w hSw; (try dsimp only at hSw); (try delta R_RRApp1_0); go_simp; try with_reducible rfl))
  (try simp only [Act.put, List.setIfInBounds_toArray, List.set_cons_zero, List.set_cons_succ])
  (refine wpAnyH_take (i := 1) (oi := R_RRApp1_1) (v := ?_) rfl (by kernel_rfl) (by kernel_rfl) (by kernel_rfl) (fun _ _ _ h => h) (Or.inl ⟨by rfl, ?_⟩) (by assumption) ?_; rotate_left; next => (intro w hSw; (try dsimp only at hSw); (try delta R_RRApp1_1); go_simp; try with_reducible rfl))
  (try simp only [Act.put, List.setIfInBounds_toArray, List.set_cons_zero, List.set_cons_succ])
  (refine wpAnyH_take (i := 2) (oi := R_RRApp1_2) (v := ?_) rfl (by kernel_rfl) (by kernel_rfl) (by kernel_rfl) (fun _ _ _ h => h) (Or.inl ⟨by rfl, ?_⟩) (by assumption) ?_; rotate_left; next => (intro w hSw; (try dsimp only at hSw); (try delta R_RRApp1_2); go_simp; try with_reducible rfl))
  (try simp only [Act.put, List.setIfInBounds_toArray, List.set_cons_zero, List.set_cons_succ])
  (refine wpAnyH_take (i := 3) (oi := R_RRApp1_3) (v := ?_) rfl (by kernel_rfl) (by kernel_rfl) (by kernel_rfl) (fun _ _ _ h => h) (Or.inl ⟨by rfl, ?_⟩) (by assumption) ?_; rotate_left; next => (intro w hSw; (try dsimp only at hSw); (try delta R_RRApp1_3); go_simp; try with_reducible rfl))
  (try simp only [Act.put, List.setIfInBounds_toArray, List.set_cons_zero, List.set_cons_succ])
  (refine wpAnyH_take (i := 4) (oi := R_RRApp1_4) (v := ?_) rfl (by kernel_rfl) (by kernel_rfl) (by kernel_rfl) (fun _ _ _ h => h) (Or.inl ⟨by rfl, ?_⟩) (by assumption) ?_; rotate_left; next => (intro w hSw; (try dsimp only at hSw); (try delta R_RRApp1_4); go_simp; try with_reducible rfl))
  (try simp only [Act.put, List.setIfInBounds_toArray, List.set_cons_zero, List.set_cons_succ])
  (refine wpAnyH_take (i := 5) (oi := R_RRApp1_5) (v := ?_) rfl (by kernel_rfl) (by kernel_rfl) (by kernel_rfl) (fun _ _ _ h => h) (Or.inl ⟨by rfl, ?_⟩) (by assumption) ?_; rotate_left; next => (intro w hSw; (try dsimp only at hSw); (try delta R_RRApp1_5); go_simp; try with_reducible rfl))
  (try simp only [Act.put, List.setIfInBounds_toArray, List.set_cons_zero, List.set_cons_succ])
  (refine wpAnyH_take (i := 6) (oi := R_RRApp1_6) (v := ?_) rfl (by kernel_rfl) (by kernel_rfl) (by kernel_rfl) (fun _ _ _ h => h) (Or.inl ⟨by rfl, ?_⟩) (by assumption) ?_; rotate_left; next => (intro w hSw; (try dsimp only at hSw); (try delta R_RRApp1_6); go_simp; try with_reducible rfl))
  (try simp only [Act.put, List.setIfInBounds_toArray, List.set_cons_zero, List.set_cons_succ])
  (refine wpAnyH_take (i := 7) (oi := R_RRApp1_7) (v := ?_) rfl (by kernel_rfl) (by kernel_rfl) (by kernel_rfl) (fun _ _ _ h => h) (Or.inl ⟨by rfl, ?_⟩) (by assumption) ?_; rotate_left; next => (intro w hSw; (try dsimp only at hSw); (try delta R_RRApp1_7); go_simp; try with_reducible rfl))
  (try simp only [Act.put, List.setIfInBounds_toArray, List.set_cons_zero, List.set_cons_succ])
  (refine wpAnyH_take (i := 8) (oi := R_RRApp1_8) (v := ?_) rfl (by kernel_rfl) (by kernel_rfl) (by kernel_rfl) (fun _ _ _ h => h) (Or.inl ⟨by rfl, ?_⟩) (by assumption) ?_; rotate_left; next => (intro w hSw; (try dsimp only at hSw); (try delta R_RRApp1_8); go_simp; try with_reducible rfl))
  (try simp only [Act.put, List.setIfInBounds_toArray, List.set_cons_zero, List.set_cons_succ])
  (refine wpAnyH_take (i := 9) (oi := R_RRApp1_9) (v := ?_) rfl (by kernel_rfl) (by kernel_rfl) (by kernel_rfl) (fun _ _ _ h => h) (Or.inl ⟨by rfl, ?_⟩) (by assumption) ?_; rotate_left; next => (intro w hSw; (try dsimp only at hSw); (try delta R_RRApp1_9); go_simp; try with_reducible rfl))
  (try simp only [Act.put, List.setIfInBounds_toArray, List.set_cons_zero, List.set_cons_succ])
  (refine wpAnyH_take (i := 10) (oi := R_RRApp1_10) (v := ?_) rfl (by kernel_rfl) (by kernel_rfl) (by kernel_rfl) (fun _ _ _ h => h) (Or.inl ⟨by rfl, ?_⟩) (by assumption) ?_; rotate_left; next => (intro w hSw; (try dsimp only at hSw); (try delta R_RRApp1_10); go_simp; try with_reducible rfl))
  (try simp only [Act.put, List.setIfInBounds_toArray, List.set_cons_zero, List.set_cons_succ])
  (refine wpAnyH_take (i := 11) (oi := R_RRApp1_11) (v := ?_) rfl (by kernel_rfl) (by kernel_rfl) (by kernel_rfl) (fun _ _ _ h => h) (Or.inl ⟨by rfl, ?_⟩) (by assumption) ?_; rotate_left; next => (intro w hSw; (try dsimp only at hSw); (try delta R_RRApp1_11); go_simp; try with_reducible rfl))
  (try simp only [Act.put, List.setIfInBounds_toArray, List.set_cons_zero, List.set_cons_succ])
  (refine wpAnyH_take (i := 12) (oi := R_RRApp1_12) (v := ?_) rfl (by kernel_rfl) (by kernel_rfl) (by kernel_rfl) (fun _ _ _ h => h) (Or.inl ⟨by rfl, ?_⟩) (by assumption) ?_; rotate_left; next => (intro w hSw; (try dsimp only at hSw); (try delta R_RRApp1_12); go_simp; try with_reducible rfl))
  (try simp only [Act.put, List.setIfInBounds_toArray, List.set_cons_zero, List.set_cons_succ])
  (refine wpAnyH_take (i := 13) (oi := R_RRApp1_13) (v := ?_) rfl (by kernel_rfl) (by kernel_rfl) (by kernel_rfl) (fun _ _ _ h => h) (Or.inl ⟨by rfl, ?_⟩) (by assumption) ?_; rotate_left; next => (intro w hSw; (try dsimp only at hSw); (try delta R_RRApp1_13); go_simp; try with_reducible rfl))
  (try simp only [Act.put, List.setIfInBounds_toArray, List.set_cons_zero, List.set_cons_succ])
  (refine wpAnyH_take (i := 14) (oi := R_RRApp1_14) (v := ?_) rfl (by kernel_rfl) (by kernel_rfl) (by kernel_rfl) (fun _ _ _ h => h) (Or.inl ⟨by rfl, ?_⟩) (by assumption) ?_; rotate_left; next => (intro w hSw; (try dsimp only at hSw); (try delta R_RRApp1_14); go_simp; try with_reducible rfl))
  (try simp only [Act.put, List.setIfInBounds_toArray, List.set_cons_zero, List.set_cons_succ])
  (refine wpAnyH_take (i := 15) (oi := R_RRApp1_15) (v := ?_) rfl (by kernel_rfl) (by kernel_rfl) (by kernel_rfl) (fun _ _ _ h => h) (Or.inl ⟨by rfl, ?_⟩) (by assumption) ?_; rotate_left; next => (intro w hSw; (try dsimp only at hSw); (try delta R_RRApp1_15); go_simp; try with_reducible rfl))
  (try simp only [Act.put, List.setIfInBounds_toArray, List.set_cons_zero, List.set_cons_succ])
  refine wpAnyH_done (by kernel_rfl) ?_ _
  (refine last_do (o := { dst := some 21, op := Op.call { callee := Callee.value (Operand.func 47), args := #[Operand.tmp 5, Operand.tmp 9, Operand.tmp 14, Operand.tmp 15, Operand.tmp 20], argTypes := #[47, 30, 3, 30, 3] }, type := 3, pos := "redo.go:112", after := #[{ on := 0, ground := Ground.data }, { on := 4, ground := Ground.data }, { on := 9, ground := Ground.data }, { on := 10, ground := Ground.data }, { on := 15, ground := Ground.data }], guard := none }) rfl (fun K hK => ?_); go_simp; (with_reducible refine (HC.out).mono ?_); rintro e w5 ⟨bv5, o5, s5, v5, lf5, rfl, hl5, hd5, hc5⟩; have HL5 := Lib.hid hl5; have HD5 := Lib.hid hd5; have HC5 := Lib.hid hc5; clear hl5 hd5 hc5; (try go_wp2_with fail); refine hK.out _ _ ?_; clear hK K; refine last_do (o := { dst := some 4, op := Op.assign (Operand.tmp 21), type := 3, pos := "redo.go:112", after := #[{ on := 16, ground := Ground.data }, { on := 16, ground := Ground.chain }, { on := 0, ground := Ground.phase }, { on := 1, ground := Ground.phase }, { on := 2, ground := Ground.phase }, { on := 3, ground := Ground.phase }, { on := 4, ground := Ground.phase }, { on := 5, ground := Ground.phase }, { on := 6, ground := Ground.phase }, { on := 7, ground := Ground.phase }, { on := 8, ground := Ground.phase }, { on := 9, ground := Ground.phase }, { on := 10, ground := Ground.phase }, { on := 11, ground := Ground.phase }, { on := 12, ground := Ground.phase }, { on := 13, ground := Ground.phase }, { on := 14, ground := Ground.phase }, { on := 15, ground := Ground.phase }, { on := 16, ground := Ground.phase }], guard := none }) rfl (fun K hK => ?_); go_simp; refine hK.out _ _ ?_; clear hK K; go_wp2_with fail; go_ret; exact ⟨bv5, o5, s5, v5, lf5, rfl, HL5.out, HD5.out, (ChRL.ofBelow (Below.refl _ w).drew).trans HC5.out⟩)
set_option maxRecDepth 100000 in
set_option maxHeartbeats 4000000 in
theorem XReset_c (hl : RLAt lo w L X bv l) (h : RDAt lo w X ov sv wv d left) (hok : l.ok d) (p : List UInt8) (vp : Value) (hp : RowAt w vp (bytesV p)) (hpl : p.length ≤ 17592186000000) (hwl : d.wait.length ≤ 1099511000000) :
    Calls Tryd.prog 25 #[.pointer (some ⟨L, 0, none⟩), vp] w (RLTo lo L X w (resetP l d p).1 (resetP l d p).2.1 (resetP l d p).2.2) := by
  have hb := hok.bank
  have HC := Lib.hid (lay_c hl h hok.n hok.no.1 (by have := hok.no.2; omega) (1 - l.head.bank).toNat (by omega) [] p (.slice none 0 0) vp (RowAt.nil _) hp (by simp) hpl 1 hwl)
  have e : (((1 - l.head.bank).toNat : Nat) : Int) = 1 - l.head.bank := by omega
  rw [e] at HC
  have l2 := hl.blk.blk.cell 2 _ rfl
  obtain ⟨ap, hap⟩ : ∃ ap, resetP l d p = ap := ⟨_, rfl⟩
  rw [show laysP l d (1 - l.head.bank).toNat [] p 1 = ap from hap] at HC
  rw [hap]
  obtain ⟨r1, l1, d1⟩ := ap
  simp only at HC ⊢
  clear h hl hp e hap
  obtain ⟨⟨n1, k1, s1⟩, lb, cnt, dead⟩ := l
  simp only at HC l2 hb hok
  have wk : wrap64 (1 - k1) = 1 - k1 := by unfold wrap64; omega
  have wk2 : IntKind.i64.wrap (1 - k1) = 1 - k1 := by rw [IntKind.wrap_i64]; omega
  go_enter Tryd.func25, Tryd.ntmps25
  go_wp2_with (first | (go_at_call 47; (with_reducible refine (HC.out).mono ?_); rintro e w5 ⟨bv5, o5, s5, v5, lf5, rfl, hl5, hd5, hc5⟩; have HL5 := Lib.hid hl5; have HD5 := Lib.hid hd5; have HC5 := Lib.hid hc5; clear hl5 hd5 hc5) | fail)
  go_ret
  exact ⟨bv5, o5, s5, v5, lf5, rfl, HL5.out, HD5.out, HC5.out⟩
set_option maxRecDepth 100000 in
theorem XRoom_c (hl : RLAt lo w L X bv l) (h : RDAt lo w X ov sv wv d left) (hok : l.ok d) : Calls Tryd.prog 30 #[.pointer (some ⟨L, 0, none⟩)] w fun e w' => e = .returned (.int .i64 ((bankP d : Int) * 64 - l.b.length)) ∧ w' = w.drew := by
  have l0 := hl.blk.blk.cell 0 _ rfl
  have l4 := hl.blk.blk.cell 4 _ rfl
  have HCB := Lib.hid (sectors_c (h.below (Below.refl _ w).drew) (by have := hok.n; omega))
  have hbq : bankP d ≤ 99 := by unfold bankP; have := h.ok.n; omega
  obtain ⟨a, c, rfl⟩ := owns_shape hl.own
  have hle := hok.len
  obtain ⟨hd, lb, cnt, dead⟩ := l
  simp only at l0 l4 hle ⊢
  have wq : IntKind.i64.wrap ((bankP d : Int) * 64) = (bankP d : Int) * 64 := by rw [IntKind.wrap_i64]; omega
  have wr : IntKind.i64.wrap ((bankP d : Int) * 64 - (lb.length : Int)) = (bankP d : Int) * 64 - (lb.length : Int) := by rw [IntKind.wrap_i64]; omega
  clear h hl
  go_enter Tryd.func30, Tryd.ntmps30
  go_wp2_with fail
  refine wp_region_held_drew (S := (fun W => W.cell? ⟨L, 0, none⟩ = some (.pointer (some ⟨X, 0, none⟩)) ∧ W.cell? ⟨L, 4, none⟩ = some (.slice a lb.length c))) (by kernel_rfl) ?_ (fun hHeld => ?_)
  · (exact ⟨l0, l4⟩)
  (refine wpAnyH_take (i := 0) (oi := R_RRRoom1_0) (v := ?_) rfl (by kernel_rfl) (by kernel_rfl) (by kernel_rfl) (fun _ _ _ h => h) (Or.inl ⟨by rfl, ?_⟩) (by assumption) ?_; rotate_left; next => (intro w hSw; (try dsimp only at hSw); (try delta R_RRRoom1_0); go_simp; try with_reducible rfl))
  (try simp only [Act.put, List.setIfInBounds_toArray, List.set_cons_zero, List.set_cons_succ])
  (refine wpAnyH_take (i := 1) (oi := R_RRRoom1_1) (v := ?_) rfl (by kernel_rfl) (by kernel_rfl) (by kernel_rfl) (fun _ _ _ h => h) (Or.inl ⟨by rfl, ?_⟩) (by assumption) ?_; rotate_left; next => (intro w hSw; (try dsimp only at hSw); (try delta R_RRRoom1_1); go_simp; try with_reducible rfl))
  (try simp only [Act.put, List.setIfInBounds_toArray, List.set_cons_zero, List.set_cons_succ])
  (refine wpAnyH_take (i := 2) (oi := R_RRRoom1_2) (v := ?_) rfl (by kernel_rfl) (by kernel_rfl) (by kernel_rfl) (fun _ _ _ h => h) (Or.inl ⟨by rfl, ?_⟩) (by assumption) ?_; rotate_left; next => (intro w hSw; (try dsimp only at hSw); (try delta R_RRRoom1_2); go_simp; try with_reducible rfl))
  (try simp only [Act.put, List.setIfInBounds_toArray, List.set_cons_zero, List.set_cons_succ])
  (refine wpAnyH_take (i := 3) (oi := R_RRRoom1_3) (v := ?_) rfl (by kernel_rfl) (by kernel_rfl) (by kernel_rfl) (fun _ _ _ h => h) (Or.inl ⟨by rfl, ?_⟩) (by assumption) ?_; rotate_left; next => (intro w hSw; (try dsimp only at hSw); (try delta R_RRRoom1_3); go_simp; try with_reducible rfl))
  (try simp only [Act.put, List.setIfInBounds_toArray, List.set_cons_zero, List.set_cons_succ])
  (refine wpAnyH_take (i := 6) (oi := R_RRRoom1_6) (v := ?_) rfl (by kernel_rfl) (by kernel_rfl) (by kernel_rfl) (fun _ _ _ h => h) (Or.inl ⟨by rfl, ?_⟩) (by assumption) ?_; rotate_left; next => (intro w hSw; (try dsimp only at hSw); (try delta R_RRRoom1_6); go_simp; try with_reducible rfl))
  (try simp only [Act.put, List.setIfInBounds_toArray, List.set_cons_zero, List.set_cons_succ])
  (refine wpAnyH_take (i := 7) (oi := R_RRRoom1_7) (v := ?_) rfl (by kernel_rfl) (by kernel_rfl) (by kernel_rfl) (fun _ _ _ h => h) (Or.inl ⟨by rfl, ?_⟩) (by assumption) ?_; rotate_left; next => (intro w hSw; (try dsimp only at hSw); (try delta R_RRRoom1_7); go_simp; try with_reducible rfl))
  (try simp only [Act.put, List.setIfInBounds_toArray, List.set_cons_zero, List.set_cons_succ])
  (refine wpAnyH_take (i := 8) (oi := R_RRRoom1_8) (v := ?_) rfl (by kernel_rfl) (by kernel_rfl) (by kernel_rfl) (fun _ _ _ h => h) (Or.inl ⟨by rfl, ?_⟩) (by assumption) ?_; rotate_left; next => (intro w hSw; (try dsimp only at hSw); (try delta R_RRRoom1_8); go_simp; try with_reducible rfl))
  (try simp only [Act.put, List.setIfInBounds_toArray, List.set_cons_zero, List.set_cons_succ])
  (refine wpAnyH_take (i := 9) (oi := R_RRRoom1_9) (v := ?_) rfl (by kernel_rfl) (by kernel_rfl) (by kernel_rfl) (fun _ _ _ h => h) (Or.inl ⟨by rfl, ?_⟩) (by assumption) ?_; rotate_left; next => (intro w hSw; (try dsimp only at hSw); (try delta R_RRRoom1_9); go_simp; try with_reducible rfl))
  (try simp only [Act.put, List.setIfInBounds_toArray, List.set_cons_zero, List.set_cons_succ])
  (refine wpAnyH_take (i := 10) (oi := R_RRRoom1_10) (v := ?_) rfl (by kernel_rfl) (by kernel_rfl) (by kernel_rfl) (fun _ _ _ h => h) (Or.inl ⟨by rfl, ?_⟩) (by assumption) ?_; rotate_left; next => (intro w hSw; (try dsimp only at hSw); (try delta R_RRRoom1_10); go_simp; try with_reducible rfl))
  (try simp only [Act.put, List.setIfInBounds_toArray, List.set_cons_zero, List.set_cons_succ])
  refine wpAnyH_ready (rs := [4]) (by kernel_rfl) (by simp) ?_
  refine AllReadyH.cons (o := R_RRRoom1_4) rfl (fun K hK => ?_) AllReadyH.nil
  (try delta R_RRRoom1_4)
  go_simp
  (first | (go_at_call 44; (with_reducible refine (HCB.out).mono ?_); rintro e wz ⟨rfl, rfl⟩) | fail)
  (try go_wp2_with fail)
  refine hK.out _ _ ?_ (fun hHeld => ?_)
  · (exact ⟨l0, l4⟩)
  clear hK K
  (try simp only [Act.put, List.setIfInBounds_toArray, List.set_cons_zero, List.set_cons_succ])
  (refine wpAnyH_take (i := 5) (oi := R_RRRoom1_5) (v := ?_) rfl (by kernel_rfl) (by kernel_rfl) (by kernel_rfl) (fun _ _ _ h => h) (Or.inl ⟨by rfl, ?_⟩) (by assumption) ?_; rotate_left; next => (intro w hSw; (try dsimp only at hSw); (try delta R_RRRoom1_5); go_simp; try with_reducible rfl))
  (try simp only [Act.put, List.setIfInBounds_toArray, List.set_cons_zero, List.set_cons_succ])
  (refine wpAnyH_take (i := 11) (oi := R_RRRoom1_11) (v := ?_) rfl (by kernel_rfl) (by kernel_rfl) (by kernel_rfl) (fun _ _ _ h => h) (Or.inl ⟨by rfl, ?_⟩) (by assumption) ?_; rotate_left; next => (intro w hSw; (try dsimp only at hSw); (try delta R_RRRoom1_11); go_simp; try with_reducible rfl))
  (try simp only [Act.put, List.setIfInBounds_toArray, List.set_cons_zero, List.set_cons_succ])
  (refine wpAnyH_take (i := 12) (oi := R_RRRoom1_12) (v := ?_) rfl (by kernel_rfl) (by kernel_rfl) (by kernel_rfl) (fun _ _ _ h => h) (Or.inl ⟨by rfl, ?_⟩) (by assumption) ?_; rotate_left; next => (intro w hSw; (try dsimp only at hSw); (try delta R_RRRoom1_12); go_simp; try with_reducible rfl))
  (try simp only [Act.put, List.setIfInBounds_toArray, List.set_cons_zero, List.set_cons_succ])
  refine wpAnyH_done (by kernel_rfl) ?_ _
  go_wp2_with fail
  go_ret
  exact ⟨rfl, rfl⟩
end
end Go.Proofs.YtlllbacjdjllbaaDoor
