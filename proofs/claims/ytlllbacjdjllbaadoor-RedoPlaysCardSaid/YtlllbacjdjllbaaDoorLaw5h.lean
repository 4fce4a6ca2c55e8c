
/- The laws on package redo: alike. -/
import Derived.Test.YtlllbacjdjllbaaDoorRl1
import Derived.Test.YtlllbacjdjllbaaDoorLaw5g
namespace Go.Proofs.YtlllbacjdjllbaaDoor
open Go Go.Proofs Go.Shelf Go.RowKit Go.Great
set_option linter.unusedVariables false
set_option linter.unusedSimpArgs false
abbrev R_RAlk4_0 : Oper := { dst := some 15, op := Op.move (Operand.tmp 0), type := 23, pos := "law.go:57", after := #[], guard := none }
abbrev R_RAlk4_1 : Oper := { dst := some 16, op := Op.move (Operand.tmp 5), type := 3, pos := "law.go:57", after := #[], guard := none }
abbrev R_RAlk4_10 : Oper := { dst := some 25, op := Op.load 9 (Operand.tmp 24), type := 9, pos := "law.go:57", after := #[{ on := 9, ground := Ground.data }], guard := none }
abbrev R_RAlk4_11 : Oper := { dst := some 26, op := Op.binOp BinOp.neq 9 (Operand.tmp 18) (Operand.tmp 25) 9, type := 4, pos := "law.go:57", after := #[{ on := 3, ground := Ground.data }, { on := 10, ground := Ground.data }], guard := none }
abbrev R_RAlk4_2 : Oper := { dst := some 17, op := Op.call { callee := Callee.value (Operand.func 35), args := #[Operand.tmp 15, Operand.tmp 16], argTypes := #[23, 3] }, type := 30, pos := "law.go:57", after := #[{ on := 0, ground := Ground.data }, { on := 1, ground := Ground.data }], guard := none }
abbrev R_RAlk4_3 : Oper := { dst := some 18, op := Op.convert 30 9 (Operand.tmp 17), type := 9, pos := "law.go:57", after := #[{ on := 2, ground := Ground.data }], guard := none }
abbrev R_RAlk4_4 : Oper := { dst := some 19, op := Op.move (Operand.tmp 1), type := 45, pos := "law.go:57", after := #[], guard := none }
abbrev R_RAlk4_5 : Oper := { dst := some 20, op := Op.nilCheck (Operand.tmp 19), type := 0, pos := "law.go:57", after := #[{ on := 4, ground := Ground.data }], guard := none }
abbrev R_RAlk4_6 : Oper := { dst := some 21, op := Op.fieldAddr 84 (Operand.tmp 20) 1, type := 0, pos := "law.go:57", after := #[{ on := 5, ground := Ground.data }], guard := none }
abbrev R_RAlk4_7 : Oper := { dst := some 22, op := Op.load 81 (Operand.tmp 21), type := 81, pos := "law.go:57", after := #[{ on := 6, ground := Ground.data }], guard := none }
abbrev R_RAlk4_8 : Oper := { dst := some 23, op := Op.move (Operand.tmp 5), type := 3, pos := "law.go:57", after := #[], guard := none }
abbrev R_RAlk4_9 : Oper := { dst := some 24, op := Op.indexAddr 81 (Operand.tmp 22) (Operand.tmp 23), type := 0, pos := "law.go:57", after := #[{ on := 7, ground := Ground.data }, { on := 8, ground := Ground.data }], guard := none }
abbrev R_RAlk6_0 : Oper := { dst := some 27, op := Op.move (Operand.tmp 0), type := 23, pos := "law.go:61", after := #[], guard := none }
abbrev R_RAlk6_1 : Oper := { dst := some 28, op := Op.call { callee := Callee.value (Operand.func 32), args := #[Operand.tmp 27], argTypes := #[23] }, type := 3, pos := "law.go:61", after := #[{ on := 0, ground := Ground.data }], guard := none }
abbrev R_RAlk6_10 : Oper := { dst := some 37, op := Op.call { callee := Callee.value (Operand.func 17), args := #[Operand.tmp 36], argTypes := #[23] }, type := 3, pos := "law.go:61", after := #[{ on := 9, ground := Ground.data }, { on := 8, ground := Ground.chain }, { on := 8, ground := Ground.guard }], guard := some (8, true) }
abbrev R_RAlk6_11 : Oper := { dst := some 38, op := Op.move (Operand.tmp 1), type := 45, pos := "law.go:61", after := #[{ on := 8, ground := Ground.guard }], guard := some (8, true) }
abbrev R_RAlk6_12 : Oper := { dst := some 39, op := Op.call { callee := Callee.value (Operand.func 50), args := #[Operand.tmp 38], argTypes := #[45] }, type := 3, pos := "law.go:61", after := #[{ on := 11, ground := Ground.data }, { on := 10, ground := Ground.chain }, { on := 8, ground := Ground.guard }], guard := some (8, true) }
abbrev R_RAlk6_13 : Oper := { dst := some 40, op := Op.binOp BinOp.eql 3 (Operand.tmp 37) (Operand.tmp 39) 3, type := 4, pos := "law.go:61", after := #[{ on := 10, ground := Ground.data }, { on := 12, ground := Ground.data }, { on := 8, ground := Ground.guard }], guard := some (8, true) }
abbrev R_RAlk6_14 : Oper := { dst := some 41, op := Op.pick (Operand.tmp 35) (Operand.tmp 40) (Operand.const (Value.bool false)), type := 4, pos := "law.go:61", after := #[{ on := 8, ground := Ground.data }, { on := 13, ground := Ground.data }], guard := none }
abbrev R_RAlk6_15 : Oper := { dst := some 4, op := Op.assign (Operand.tmp 41), type := 4, pos := "law.go:61", after := #[{ on := 14, ground := Ground.data }, { on := 12, ground := Ground.chain }, { on := 0, ground := Ground.phase }, { on := 1, ground := Ground.phase }, { on := 2, ground := Ground.phase }, { on := 3, ground := Ground.phase }, { on := 4, ground := Ground.phase }, { on := 5, ground := Ground.phase }, { on := 6, ground := Ground.phase }, { on := 7, ground := Ground.phase }, { on := 8, ground := Ground.phase }, { on := 9, ground := Ground.phase }, { on := 10, ground := Ground.phase }, { on := 11, ground := Ground.phase }, { on := 12, ground := Ground.phase }, { on := 13, ground := Ground.phase }, { on := 14, ground := Ground.phase }], guard := none }
abbrev R_RAlk6_2 : Oper := { dst := some 29, op := Op.move (Operand.tmp 1), type := 45, pos := "law.go:61", after := #[], guard := none }
abbrev R_RAlk6_3 : Oper := { dst := some 30, op := Op.nilCheck (Operand.tmp 29), type := 0, pos := "law.go:61", after := #[{ on := 2, ground := Ground.data }], guard := none }
abbrev R_RAlk6_4 : Oper := { dst := some 31, op := Op.fieldAddr 84 (Operand.tmp 30) 1, type := 0, pos := "law.go:61", after := #[{ on := 3, ground := Ground.data }], guard := none }
abbrev R_RAlk6_5 : Oper := { dst := some 32, op := Op.load 81 (Operand.tmp 31), type := 81, pos := "law.go:61", after := #[{ on := 4, ground := Ground.data }], guard := none }
abbrev R_RAlk6_6 : Oper := { dst := some 33, op := Op.call { callee := Callee.builtin Builtin.len, args := #[Operand.tmp 32], argTypes := #[81] }, type := 3, pos := "law.go:61", after := #[{ on := 5, ground := Ground.data }], guard := none }
abbrev R_RAlk6_7 : Oper := { dst := some 34, op := Op.binOp BinOp.eql 3 (Operand.tmp 28) (Operand.tmp 33) 3, type := 4, pos := "law.go:61", after := #[{ on := 1, ground := Ground.data }, { on := 6, ground := Ground.data }], guard := none }
abbrev R_RAlk6_8 : Oper := { dst := some 35, op := Op.move (Operand.tmp 34), type := 4, pos := "law.go:61", after := #[{ on := 7, ground := Ground.data }, { on := 1, ground := Ground.chain }], guard := none }
abbrev R_RAlk6_9 : Oper := { dst := some 36, op := Op.move (Operand.tmp 0), type := 23, pos := "law.go:61", after := #[{ on := 8, ground := Ground.guard }], guard := some (8, true) }

theorem toS5 {w : World} {v : Value} {l : List UInt8} (h : RowAt w v (bytesV l)) : (convert 30 9 v).run Tryd.prog w = .ok (.string ⟨l.toArray⟩) w :=
  h.toStr 30 9 5 Tryd.underlying30 Tryd.underlying5 Tryd.underlying9
set_option maxRecDepth 100000 in
set_option maxHeartbeats 4000000 in
theorem alike_c {lo D g m X : Nat} {v ov sv wv : Value} {d : PD} {left : Int} {w : World} (h : DrumAt lo w D g m v d) (hx : RDAt lo w X ov sv wv d left) :
    Calls Tryd.prog 31 #[.pointer (some ⟨D, 0, none⟩), .pointer (some ⟨X, 0, none⟩)] w fun e w' => e = .returned (.bool true) ∧ Below w.heap.size w w' := by
  obtain ⟨sa, sc, rfl⟩ := owns_shape hx.s
  have HD := Lib.hid h
  have HX := Lib.hid hx
  have hn := h.ok.n
  have HSr : Hid (∀ j (hj : j < d.n), ∃ b o, sa = some ⟨b, o, none⟩ ∧ ∀ W, Below w.heap.size w W → W.cell? ⟨b, o + j, none⟩ = some (strV (sec d.now j))) := Lib.hid (fun j hj => by
    have hr := RowAt.ofOwns hx.s
    have hg := strs_get (l := d.now) hj
    have hl : j < (strsOf d.now d.n).length := (List.getElem?_eq_some_iff.1 hg).1
    obtain ⟨b, o, e, hb, hc⟩ := hr.cellAt j hl
    refine ⟨b, o, e, fun W hW => ?_⟩
    obtain ⟨b2, o2, e2, _, hc2⟩ := (hr.below hW).cellAt j hl
    rw [e] at e2
    injection e2 with e2
    injection e2 with e3 e4
    subst e3 e4
    rw [hc2, ← hg, List.getElem?_eq_getElem hl])
  clear h hx
  go_enter Tryd.func31, Tryd.ntmps31
  go_wp2_with fail
  go_loopw [5] (fun i wr => ∃ j : Nat, j ≤ d.n ∧ i = .int .i64 (j : Int) ∧ Below w.heap.size w wr) (fun i _ => d.n - (intOf i).toNat)
  case atStart => exact ⟨0, by omega, rfl, Below.refl _ _⟩
  case round =>
    obtain ⟨j, hj, rfl, hb⟩ := hrel
    have c1 := (HX.out.below hb).blk.blk.cell 1 _ rfl
    have HB := Lib.hid hb.drew
    by_cases hjn : j < d.n
    · have HI : Hid (readP d (j : Int) = sec d.now j) := Lib.hid (by unfold readP; rw [if_pos ⟨by omega, by omega⟩, Int.toNat_natCast])
      have HRD := Lib.hid (Read_c (HD.out.below HB.out) (j : Int))
      rw [HI.out] at HRD
      obtain ⟨sb, so, rfl, hsc⟩ := HSr.out j hjn
      have tj := hsc _ hb
      unfold strV at tj hsc
      have HSC := Lib.hid hsc
      generalize sec d.now j = s at *
      clear hsc hb HI
      go_wp2_with fail
      refine wp_region_held_drew (S := (fun W => W.cell? ⟨X, 1, none⟩ = some (.slice (some ⟨sb, so, none⟩) d.n sc) ∧ W.cell? ⟨sb, so + j, none⟩ = some (.string ⟨s.toArray⟩))) (by kernel_rfl) ?_ (fun hHeld => ?_)
      · (exact ⟨c1, tj⟩)
      (refine wpAnyH_take (i := 0) (oi := R_RAlk4_0) (v := ?_) rfl (by kernel_rfl) (by kernel_rfl) (by kernel_rfl) (fun _ _ _ h => h) (Or.inl ⟨by rfl, ?_⟩) (by assumption) ?_; rotate_left; next => (intro w hSw; (try dsimp only at hSw); (try delta R_RAlk4_0); go_simp; try with_reducible rfl))
      (try simp only [Act.put, List.setIfInBounds_toArray, List.set_cons_zero, List.set_cons_succ])
      (refine wpAnyH_take (i := 1) (oi := R_RAlk4_1) (v := ?_) rfl (by kernel_rfl) (by kernel_rfl) (by kernel_rfl) (fun _ _ _ h => h) (Or.inl ⟨by rfl, ?_⟩) (by assumption) ?_; rotate_left; next => (intro w hSw; (try dsimp only at hSw); (try delta R_RAlk4_1); go_simp; try with_reducible rfl))
      (try simp only [Act.put, List.setIfInBounds_toArray, List.set_cons_zero, List.set_cons_succ])
      (refine wpAnyH_take (i := 4) (oi := R_RAlk4_4) (v := ?_) rfl (by kernel_rfl) (by kernel_rfl) (by kernel_rfl) (fun _ _ _ h => h) (Or.inl ⟨by rfl, ?_⟩) (by assumption) ?_; rotate_left; next => (intro w hSw; (try dsimp only at hSw); (try delta R_RAlk4_4); go_simp; try with_reducible rfl))
      (try simp only [Act.put, List.setIfInBounds_toArray, List.set_cons_zero, List.set_cons_succ])
      (refine wpAnyH_take (i := 5) (oi := R_RAlk4_5) (v := ?_) rfl (by kernel_rfl) (by kernel_rfl) (by kernel_rfl) (fun _ _ _ h => h) (Or.inl ⟨by rfl, ?_⟩) (by assumption) ?_; rotate_left; next => (intro w hSw; (try dsimp only at hSw); (try delta R_RAlk4_5); go_simp; try with_reducible rfl))
      (try simp only [Act.put, List.setIfInBounds_toArray, List.set_cons_zero, List.set_cons_succ])
      (refine wpAnyH_take (i := 6) (oi := R_RAlk4_6) (v := ?_) rfl (by kernel_rfl) (by kernel_rfl) (by kernel_rfl) (fun _ _ _ h => h) (Or.inl ⟨by rfl, ?_⟩) (by assumption) ?_; rotate_left; next => (intro w hSw; (try dsimp only at hSw); (try delta R_RAlk4_6); go_simp; try with_reducible rfl))
      (try simp only [Act.put, List.setIfInBounds_toArray, List.set_cons_zero, List.set_cons_succ])
      (refine wpAnyH_take (i := 7) (oi := R_RAlk4_7) (v := ?_) rfl (by kernel_rfl) (by kernel_rfl) (by kernel_rfl) (fun _ _ _ h => h) (Or.inl ⟨by rfl, ?_⟩) (by assumption) ?_; rotate_left; next => (intro w hSw; (try dsimp only at hSw); (try delta R_RAlk4_7); go_simp; try with_reducible rfl))
      (try simp only [Act.put, List.setIfInBounds_toArray, List.set_cons_zero, List.set_cons_succ])
      (refine wpAnyH_take (i := 8) (oi := R_RAlk4_8) (v := ?_) rfl (by kernel_rfl) (by kernel_rfl) (by kernel_rfl) (fun _ _ _ h => h) (Or.inl ⟨by rfl, ?_⟩) (by assumption) ?_; rotate_left; next => (intro w hSw; (try dsimp only at hSw); (try delta R_RAlk4_8); go_simp; try with_reducible rfl))
      (try simp only [Act.put, List.setIfInBounds_toArray, List.set_cons_zero, List.set_cons_succ])
      (refine wpAnyH_take (i := 9) (oi := R_RAlk4_9) (v := ?_) rfl (by kernel_rfl) (by kernel_rfl) (by kernel_rfl) (fun _ _ _ h => h) (Or.inl ⟨by rfl, ?_⟩) (by assumption) ?_; rotate_left; next => (intro w hSw; (try dsimp only at hSw); (try delta R_RAlk4_9); go_simp; try with_reducible rfl))
      (try simp only [Act.put, List.setIfInBounds_toArray, List.set_cons_zero, List.set_cons_succ])
      (refine wpAnyH_take (i := 10) (oi := R_RAlk4_10) (v := ?_) rfl (by kernel_rfl) (by kernel_rfl) (by kernel_rfl) (fun _ _ _ h => h) (Or.inl ⟨by rfl, ?_⟩) (by assumption) ?_; rotate_left; next => (intro w hSw; (try dsimp only at hSw); (try delta R_RAlk4_10); go_simp; try with_reducible rfl))
      (try simp only [Act.put, List.setIfInBounds_toArray, List.set_cons_zero, List.set_cons_succ])
      refine wpAnyH_ready (rs := [2]) (by kernel_rfl) (by simp) ?_
      refine AllReadyH.cons (o := R_RAlk4_2) rfl (fun K hK => ?_) AllReadyH.nil
      (try delta R_RAlk4_2)
      go_simp
      (first | (go_at_call 35; (with_reducible refine (HRD.out).mono ?_); rintro e w5 ⟨vr, rfl, hown5, hb5⟩; have hr5 := RowAt.ofOwns hown5; have hcv := toS5 hr5; have HB5 := Lib.hid (HB.out.trans (hb5.mono HB.out.size)); have c1 := (HX.out.below HB5.out).blk.blk.cell 1 _ rfl; have tj := HSC.out _ HB5.out; clear hown5 hb5 hr5) | skip)
      (try go_wp2_with fail)
      refine hK.out _ _ ?_ (fun hHeld => ?_)
      · (exact ⟨c1, tj⟩)
      clear hK K
      (try simp only [Act.put, List.setIfInBounds_toArray, List.set_cons_zero, List.set_cons_succ])
      refine wpAnyH_ready (rs := [3]) (by kernel_rfl) (by simp) ?_
      refine AllReadyH.cons (o := R_RAlk4_3) rfl (fun K hK => ?_) AllReadyH.nil
      (try delta R_RAlk4_3)
      go_simp
      (first | (go_at_call 35; (with_reducible refine (HRD.out).mono ?_); rintro e w5 ⟨vr, rfl, hown5, hb5⟩; have hr5 := RowAt.ofOwns hown5; have hcv := toS5 hr5; have HB5 := Lib.hid (HB.out.trans (hb5.mono HB.out.size)); have c1 := (HX.out.below HB5.out).blk.blk.cell 1 _ rfl; have tj := HSC.out _ HB5.out; clear hown5 hb5 hr5) | skip)
      (try go_wp2_with fail)
      refine hK.out _ _ ?_ (fun hHeld => ?_)
      · (exact ⟨c1, tj⟩)
      clear hK K
      (try simp only [Act.put, List.setIfInBounds_toArray, List.set_cons_zero, List.set_cons_succ])
      (refine wpAnyH_take (i := 11) (oi := R_RAlk4_11) (v := ?_) rfl (by kernel_rfl) (by kernel_rfl) (by kernel_rfl) (fun _ _ _ h => h) (Or.inl ⟨by rfl, ?_⟩) (by assumption) ?_; rotate_left; next => (intro w hSw; (try dsimp only at hSw); (try delta R_RAlk4_11); go_simp; try with_reducible rfl))
      (try simp only [Act.put, List.setIfInBounds_toArray, List.set_cons_zero, List.set_cons_succ])
      refine wpAnyH_done (by kernel_rfl) ?_ _
      go_wp2_with fail
      go_roundw
      case rel => exact ⟨j + 1, by omega, by go_num, HB5.out⟩
      case measure => simp [intOf]; omega
    · obtain rfl : j = d.n := by omega
      have HCL := Lib.hid (Len_c (HD.out.below HB.out))
      have HCW := Lib.hid (Waiting_c (HD.out.below HB.out))
      have HCX := Lib.hid (RWaiting_c (HX.out.below HB.out))
      clear hb
      go_wp2_with fail
      refine wp_region_held_drew (S := (fun W => W.cell? ⟨X, 1, none⟩ = some (.slice sa d.n sc))) (by kernel_rfl) ?_ (fun hHeld => ?_)
      · (exact c1)
      (refine wpAnyH_take (i := 0) (oi := R_RAlk6_0) (v := ?_) rfl (by kernel_rfl) (by kernel_rfl) (by kernel_rfl) (fun _ _ _ h => h) (Or.inl ⟨by rfl, ?_⟩) (by assumption) ?_; rotate_left; next => (intro w hSw; (try dsimp only at hSw); (try delta R_RAlk6_0); go_simp; try with_reducible rfl))
      (try simp only [Act.put, List.setIfInBounds_toArray, List.set_cons_zero, List.set_cons_succ])
      (refine wpAnyH_take (i := 2) (oi := R_RAlk6_2) (v := ?_) rfl (by kernel_rfl) (by kernel_rfl) (by kernel_rfl) (fun _ _ _ h => h) (Or.inl ⟨by rfl, ?_⟩) (by assumption) ?_; rotate_left; next => (intro w hSw; (try dsimp only at hSw); (try delta R_RAlk6_2); go_simp; try with_reducible rfl))
      (try simp only [Act.put, List.setIfInBounds_toArray, List.set_cons_zero, List.set_cons_succ])
      (refine wpAnyH_take (i := 3) (oi := R_RAlk6_3) (v := ?_) rfl (by kernel_rfl) (by kernel_rfl) (by kernel_rfl) (fun _ _ _ h => h) (Or.inl ⟨by rfl, ?_⟩) (by assumption) ?_; rotate_left; next => (intro w hSw; (try dsimp only at hSw); (try delta R_RAlk6_3); go_simp; try with_reducible rfl))
      (try simp only [Act.put, List.setIfInBounds_toArray, List.set_cons_zero, List.set_cons_succ])
      (refine wpAnyH_take (i := 4) (oi := R_RAlk6_4) (v := ?_) rfl (by kernel_rfl) (by kernel_rfl) (by kernel_rfl) (fun _ _ _ h => h) (Or.inl ⟨by rfl, ?_⟩) (by assumption) ?_; rotate_left; next => (intro w hSw; (try dsimp only at hSw); (try delta R_RAlk6_4); go_simp; try with_reducible rfl))
      (try simp only [Act.put, List.setIfInBounds_toArray, List.set_cons_zero, List.set_cons_succ])
      (refine wpAnyH_take (i := 5) (oi := R_RAlk6_5) (v := ?_) rfl (by kernel_rfl) (by kernel_rfl) (by kernel_rfl) (fun _ _ _ h => h) (Or.inl ⟨by rfl, ?_⟩) (by assumption) ?_; rotate_left; next => (intro w hSw; (try dsimp only at hSw); (try delta R_RAlk6_5); go_simp; try with_reducible rfl))
      (try simp only [Act.put, List.setIfInBounds_toArray, List.set_cons_zero, List.set_cons_succ])
      (refine wpAnyH_take (i := 6) (oi := R_RAlk6_6) (v := ?_) rfl (by kernel_rfl) (by kernel_rfl) (by kernel_rfl) (fun _ _ _ h => h) (Or.inl ⟨by rfl, ?_⟩) (by assumption) ?_; rotate_left; next => (intro w hSw; (try dsimp only at hSw); (try delta R_RAlk6_6); go_simp; try with_reducible rfl))
      (try simp only [Act.put, List.setIfInBounds_toArray, List.set_cons_zero, List.set_cons_succ])
      refine wpAnyH_ready (rs := [1]) (by kernel_rfl) (by simp) ?_
      refine AllReadyH.cons (o := R_RAlk6_1) rfl (fun K hK => ?_) AllReadyH.nil
      (try delta R_RAlk6_1)
      go_simp
      (first | (go_at_call 32; (with_reducible refine (HCL.out).mono ?_); rintro e wz ⟨rfl, rfl⟩) | (go_at_call 17; (with_reducible refine (HCW.out).mono ?_); rintro e wz ⟨rfl, rfl⟩) | (go_at_call 50; (with_reducible refine (HCX.out).mono ?_); rintro e wz ⟨rfl, rfl⟩))
      (try go_wp2_with fail)
      refine hK.out _ _ ?_ (fun hHeld => ?_)
      · (exact c1)
      clear hK K
      (try simp only [Act.put, List.setIfInBounds_toArray, List.set_cons_zero, List.set_cons_succ])
      (refine wpAnyH_take (i := 7) (oi := R_RAlk6_7) (v := ?_) rfl (by kernel_rfl) (by kernel_rfl) (by kernel_rfl) (fun _ _ _ h => h) (Or.inl ⟨by rfl, ?_⟩) (by assumption) ?_; rotate_left; next => (intro w hSw; (try dsimp only at hSw); (try delta R_RAlk6_7); go_simp; try with_reducible rfl))
      (try simp only [Act.put, List.setIfInBounds_toArray, List.set_cons_zero, List.set_cons_succ])
      (refine wpAnyH_take (i := 8) (oi := R_RAlk6_8) (v := ?_) rfl (by kernel_rfl) (by kernel_rfl) (by kernel_rfl) (fun _ _ _ h => h) (Or.inl ⟨by rfl, ?_⟩) (by assumption) ?_; rotate_left; next => (intro w hSw; (try dsimp only at hSw); (try delta R_RAlk6_8); go_simp; try with_reducible rfl))
      (try simp only [Act.put, List.setIfInBounds_toArray, List.set_cons_zero, List.set_cons_succ])
      first | (refine wpAnyH_take (i := 9) (oi := R_RAlk6_9) (v := undef) rfl (by kernel_rfl) (by kernel_rfl) (by kernel_rfl) (fun _ _ _ h => h) (Or.inr ⟨by rfl, rfl⟩) (by assumption) ?_) | (refine wpAnyH_take (i := 9) (oi := R_RAlk6_9) (v := ?_) rfl (by kernel_rfl) (by kernel_rfl) (by kernel_rfl) (fun _ _ _ h => h) (Or.inl ⟨by rfl, ?_⟩) (by assumption) ?_; rotate_left; next => (intro w hSw; (try dsimp only at hSw); (try delta R_RAlk6_9); go_simp; try with_reducible rfl))
      (try simp only [Act.put, List.setIfInBounds_toArray, List.set_cons_zero, List.set_cons_succ])
      first | (refine wpAnyH_take (i := 11) (oi := R_RAlk6_11) (v := undef) rfl (by kernel_rfl) (by kernel_rfl) (by kernel_rfl) (fun _ _ _ h => h) (Or.inr ⟨by rfl, rfl⟩) (by assumption) ?_) | (refine wpAnyH_take (i := 11) (oi := R_RAlk6_11) (v := ?_) rfl (by kernel_rfl) (by kernel_rfl) (by kernel_rfl) (fun _ _ _ h => h) (Or.inl ⟨by rfl, ?_⟩) (by assumption) ?_; rotate_left; next => (intro w hSw; (try dsimp only at hSw); (try delta R_RAlk6_11); go_simp; try with_reducible rfl))
      (try simp only [Act.put, List.setIfInBounds_toArray, List.set_cons_zero, List.set_cons_succ])
      first
      | (refine wpAnyH_take (i := 10) (oi := R_RAlk6_10) (v := undef) rfl (by kernel_rfl) (by kernel_rfl) (by kernel_rfl) (fun _ _ _ h => h) (Or.inr ⟨by rfl, rfl⟩) (by assumption) ?_
         (try simp only [Act.put, List.setIfInBounds_toArray, List.set_cons_zero, List.set_cons_succ]))
      | (refine wpAnyH_ready (rs := [10]) (by kernel_rfl) (by simp) ?_
         refine AllReadyH.cons (o := R_RAlk6_10) rfl (fun K hK => ?_) AllReadyH.nil
         (try delta R_RAlk6_10)
         go_simp
         (first | (go_at_call 32; (with_reducible refine (HCL.out).mono ?_); rintro e wz ⟨rfl, rfl⟩) | (go_at_call 17; (with_reducible refine (HCW.out).mono ?_); rintro e wz ⟨rfl, rfl⟩) | (go_at_call 50; (with_reducible refine (HCX.out).mono ?_); rintro e wz ⟨rfl, rfl⟩))
         (try go_wp2_with fail)
         refine hK.out _ _ ?_ (fun hHeld => ?_)
         · (exact c1)
         clear hK K
         (try simp only [Act.put, List.setIfInBounds_toArray, List.set_cons_zero, List.set_cons_succ]))
      first
      | (refine wpAnyH_take (i := 12) (oi := R_RAlk6_12) (v := undef) rfl (by kernel_rfl) (by kernel_rfl) (by kernel_rfl) (fun _ _ _ h => h) (Or.inr ⟨by rfl, rfl⟩) (by assumption) ?_
         (try simp only [Act.put, List.setIfInBounds_toArray, List.set_cons_zero, List.set_cons_succ]))
      | (refine wpAnyH_ready (rs := [12]) (by kernel_rfl) (by simp) ?_
         refine AllReadyH.cons (o := R_RAlk6_12) rfl (fun K hK => ?_) AllReadyH.nil
         (try delta R_RAlk6_12)
         go_simp
         (first | (go_at_call 32; (with_reducible refine (HCL.out).mono ?_); rintro e wz ⟨rfl, rfl⟩) | (go_at_call 17; (with_reducible refine (HCW.out).mono ?_); rintro e wz ⟨rfl, rfl⟩) | (go_at_call 50; (with_reducible refine (HCX.out).mono ?_); rintro e wz ⟨rfl, rfl⟩))
         (try go_wp2_with fail)
         refine hK.out _ _ ?_ (fun hHeld => ?_)
         · (exact c1)
         clear hK K
         (try simp only [Act.put, List.setIfInBounds_toArray, List.set_cons_zero, List.set_cons_succ]))
      first | (refine wpAnyH_take (i := 13) (oi := R_RAlk6_13) (v := undef) rfl (by kernel_rfl) (by kernel_rfl) (by kernel_rfl) (fun _ _ _ h => h) (Or.inr ⟨by rfl, rfl⟩) (by assumption) ?_) | (refine wpAnyH_take (i := 13) (oi := R_RAlk6_13) (v := ?_) rfl (by kernel_rfl) (by kernel_rfl) (by kernel_rfl) (fun _ _ _ h => h) (Or.inl ⟨by rfl, ?_⟩) (by assumption) ?_; rotate_left; next => (intro w hSw; (try dsimp only at hSw); (try delta R_RAlk6_13); go_simp; try with_reducible rfl))
      (try simp only [Act.put, List.setIfInBounds_toArray, List.set_cons_zero, List.set_cons_succ])
      (refine wpAnyH_take (i := 14) (oi := R_RAlk6_14) (v := ?_) rfl (by kernel_rfl) (by kernel_rfl) (by kernel_rfl) (fun _ _ _ h => h) (Or.inl ⟨by rfl, ?_⟩) (by assumption) ?_; rotate_left; next => (intro w hSw; (try dsimp only at hSw); (try delta R_RAlk6_14); go_simp; try with_reducible rfl))
      (try simp only [Act.put, List.setIfInBounds_toArray, List.set_cons_zero, List.set_cons_succ])
      (refine wpAnyH_take (i := 15) (oi := R_RAlk6_15) (v := ?_) rfl (by kernel_rfl) (by kernel_rfl) (by kernel_rfl) (fun _ _ _ h => h) (Or.inl ⟨by rfl, ?_⟩) (by assumption) ?_; rotate_left; next => (intro w hSw; (try dsimp only at hSw); (try delta R_RAlk6_15); go_simp; try with_reducible rfl))
      (try simp only [Act.put, List.setIfInBounds_toArray, List.set_cons_zero, List.set_cons_succ])
      refine wpAnyH_done (by kernel_rfl) ?_ _
      go_wp2_with fail
      go_ret
      exact ⟨rfl, HB.out⟩
end Go.Proofs.YtlllbacjdjllbaaDoor
