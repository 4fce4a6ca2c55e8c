
/- Contracts of the reference's drum: New, Crash. -/
import Derived.Test.YtlllbacjdjllbaaDoorRd2
namespace Go.Proofs.YtlllbacjdjllbaaDoor
open Go Go.Proofs Go.Shelf Go.RowKit Go.Great
set_option linter.unusedVariables false
set_option linter.unusedSimpArgs false
abbrev R_RCr6_0 : Oper := { dst := some 32, op := Op.move (Operand.tmp 5), type := 81, pos := "drum.go:91", after := #[], guard := none }
abbrev R_RCr6_1 : Oper := { dst := some 33, op := Op.move (Operand.tmp 0), type := 45, pos := "drum.go:91", after := #[], guard := none }
abbrev R_RCr6_10 : Oper := { dst := some 42, op := Op.nilCheck (Operand.tmp 41), type := 0, pos := "drum.go:91", after := #[{ on := 9, ground := Ground.data }], guard := none }
abbrev R_RCr6_11 : Oper := { dst := some 43, op := Op.fieldAddr 84 (Operand.tmp 42) 2, type := 0, pos := "drum.go:91", after := #[{ on := 10, ground := Ground.data }], guard := none }
abbrev R_RCr6_12 : Oper := { dst := some 44, op := Op.load 82 (Operand.tmp 43), type := 82, pos := "drum.go:91", after := #[{ on := 11, ground := Ground.data }], guard := none }
abbrev R_RCr6_13 : Oper := { dst := some 45, op := Op.move (Operand.tmp 6), type := 3, pos := "drum.go:91", after := #[], guard := none }
abbrev R_RCr6_14 : Oper := { dst := some 46, op := Op.indexAddr 82 (Operand.tmp 44) (Operand.tmp 45), type := 0, pos := "drum.go:91", after := #[{ on := 12, ground := Ground.data }, { on := 13, ground := Ground.data }], guard := none }
abbrev R_RCr6_15 : Oper := { dst := some 47, op := Op.fieldAddr 92 (Operand.tmp 46) 1, type := 0, pos := "drum.go:91", after := #[{ on := 14, ground := Ground.data }], guard := none }
abbrev R_RCr6_16 : Oper := { dst := some 48, op := Op.load 9 (Operand.tmp 47), type := 9, pos := "drum.go:91", after := #[{ on := 15, ground := Ground.data }], guard := none }
abbrev R_RCr6_17 : Oper := { dst := some 49, op := Op.indexAddr 81 (Operand.tmp 32) (Operand.tmp 40), type := 0, pos := "drum.go:91", after := #[{ on := 0, ground := Ground.data }, { on := 8, ground := Ground.data }, { on := 0, ground := Ground.phase }, { on := 1, ground := Ground.phase }, { on := 2, ground := Ground.phase }, { on := 3, ground := Ground.phase }, { on := 4, ground := Ground.phase }, { on := 5, ground := Ground.phase }, { on := 6, ground := Ground.phase }, { on := 7, ground := Ground.phase }, { on := 8, ground := Ground.phase }, { on := 9, ground := Ground.phase }, { on := 10, ground := Ground.phase }, { on := 11, ground := Ground.phase }, { on := 12, ground := Ground.phase }, { on := 13, ground := Ground.phase }, { on := 14, ground := Ground.phase }, { on := 15, ground := Ground.phase }, { on := 16, ground := Ground.phase }], guard := none }
abbrev R_RCr6_2 : Oper := { dst := some 34, op := Op.nilCheck (Operand.tmp 33), type := 0, pos := "drum.go:91", after := #[{ on := 1, ground := Ground.data }], guard := none }
abbrev R_RCr6_3 : Oper := { dst := some 35, op := Op.fieldAddr 84 (Operand.tmp 34) 2, type := 0, pos := "drum.go:91", after := #[{ on := 2, ground := Ground.data }], guard := none }
abbrev R_RCr6_4 : Oper := { dst := some 36, op := Op.load 82 (Operand.tmp 35), type := 82, pos := "drum.go:91", after := #[{ on := 3, ground := Ground.data }], guard := none }
abbrev R_RCr6_5 : Oper := { dst := some 37, op := Op.move (Operand.tmp 6), type := 3, pos := "drum.go:91", after := #[], guard := none }
abbrev R_RCr6_6 : Oper := { dst := some 38, op := Op.indexAddr 82 (Operand.tmp 36) (Operand.tmp 37), type := 0, pos := "drum.go:91", after := #[{ on := 4, ground := Ground.data }, { on := 5, ground := Ground.data }], guard := none }
abbrev R_RCr6_7 : Oper := { dst := some 39, op := Op.fieldAddr 92 (Operand.tmp 38) 0, type := 0, pos := "drum.go:91", after := #[{ on := 6, ground := Ground.data }], guard := none }
abbrev R_RCr6_8 : Oper := { dst := some 40, op := Op.load 3 (Operand.tmp 39), type := 3, pos := "drum.go:91", after := #[{ on := 7, ground := Ground.data }], guard := none }
abbrev R_RCr6_9 : Oper := { dst := some 41, op := Op.move (Operand.tmp 0), type := 45, pos := "drum.go:91", after := #[], guard := none }
abbrev R_RNw5_0 : Oper := { dst := some 16, op := Op.move (Operand.tmp 3), type := 45, pos := "drum.go:32", after := #[], guard := none }
abbrev R_RNw5_1 : Oper := { dst := some 17, op := Op.move (Operand.tmp 3), type := 45, pos := "drum.go:32", after := #[], guard := none }
abbrev R_RNw5_2 : Oper := { dst := some 18, op := Op.nilCheck (Operand.tmp 17), type := 0, pos := "drum.go:32", after := #[{ on := 1, ground := Ground.data }], guard := none }
abbrev R_RNw5_3 : Oper := { dst := some 19, op := Op.fieldAddr 84 (Operand.tmp 18) 1, type := 0, pos := "drum.go:32", after := #[{ on := 2, ground := Ground.data }], guard := none }
abbrev R_RNw5_4 : Oper := { dst := some 20, op := Op.load 81 (Operand.tmp 19), type := 81, pos := "drum.go:32", after := #[{ on := 3, ground := Ground.data }], guard := none }
abbrev R_RNw5_5 : Oper := { dst := some 21, op := Op.call { callee := Callee.value (Operand.func 42), args := #[Operand.const (Value.slice none 0 0)], argTypes := #[30] }, type := 9, pos := "drum.go:32", after := #[], guard := none }
abbrev R_RNw5_6 : Oper := { dst := some 22, op := Op.buildSlice 81 1 #[(0, Operand.tmp 21)], type := 81, pos := "drum.go:32", after := #[{ on := 5, ground := Ground.data }], guard := none }
abbrev R_RNw5_7 : Oper := { dst := some 23, op := Op.call { callee := Callee.builtin Builtin.append, args := #[Operand.tmp 20, Operand.tmp 22], argTypes := #[81, 81] }, type := 81, pos := "drum.go:32", after := #[{ on := 4, ground := Ground.data }, { on := 6, ground := Ground.data }, { on := 5, ground := Ground.chain }], guard := none }
abbrev R_RNw5_8 : Oper := { dst := some 24, op := Op.nilCheck (Operand.tmp 16), type := 0, pos := "drum.go:32", after := #[{ on := 0, ground := Ground.data }, { on := 0, ground := Ground.phase }, { on := 1, ground := Ground.phase }, { on := 2, ground := Ground.phase }, { on := 3, ground := Ground.phase }, { on := 4, ground := Ground.phase }, { on := 5, ground := Ground.phase }, { on := 6, ground := Ground.phase }, { on := 7, ground := Ground.phase }], guard := none }
abbrev R_RNw5_9 : Oper := { dst := some 25, op := Op.fieldAddr 84 (Operand.tmp 24) 1, type := 0, pos := "drum.go:32", after := #[{ on := 8, ground := Ground.data }, { on := 0, ground := Ground.phase }, { on := 1, ground := Ground.phase }, { on := 2, ground := Ground.phase }, { on := 3, ground := Ground.phase }, { on := 4, ground := Ground.phase }, { on := 5, ground := Ground.phase }, { on := 6, ground := Ground.phase }, { on := 7, ground := Ground.phase }], guard := none }

theorem strs_zero (n : Nat) : strsOf (List.replicate (64 * n) 0) n = List.replicate n (strV zero64) := by
  apply List.ext_getElem?
  intro j
  by_cases hj : j < n
  · rw [strs_get hj, List.getElem?_replicate, if_pos hj, sec_zero n j hj]; rfl
  · rw [List.getElem?_eq_none (by rw [strs_len]; omega), List.getElem?_eq_none (by simp; omega)]
def RNewTo (w : World) (n : Nat) (e : Ending) (w' : World) : Prop := ∃ X ov sv wv left, e = .returned (.pointer (some ⟨X, 0, none⟩)) ∧ RDAt w.heap.size w' X ov sv wv (newP n) left ∧ Below w.heap.size w w'
theorem elemSK : ElemK 81 9 1 16 [.string ⟨#[]⟩] := elemK_of (z := .string ⟨#[]⟩) Tryd.underlying81 (by kernel_rfl) rfl rfl
set_option maxRecDepth 20000 in
set_option maxHeartbeats 4000000 in
theorem RNew_c (w : World) (n : Nat) (hn : n ≤ 200) : Calls Tryd.prog 22 #[.int .i64 (n : Int)] w (RNewTo w n) := by
  have HP := Lib.hid (fun W => padded_c W [] (.slice none 0 0) (RowAt.nil W) (by decide))
  rw [pad_nil] at HP
  go_enter Tryd.func22, Tryd.ntmps22
  go_wp2_with fail
  have HB := Lib.hid (BlkT.new w [.slice none 0 0, .slice none 0 0, .slice none 0 0, .int .i64 (-1), .bool false] tX)
  have HBel := Lib.hid ((Below.refl _ w).alloc (Nat.le_refl _) (.cells ([.slice none 0 0, .slice none 0 0, .slice none 0 0, .int .i64 (-1), .bool false] : List Value).toArray tX))
  go_loopw [4] (fun i wr => ∃ (j : Nat) (sa : Option Addr) (sc : Nat), i = .int .i64 (j : Int) ∧ j ≤ n ∧ BlkT wr w.heap.size [.slice none 0 0, .slice sa j sc, .slice none 0 0, .int .i64 (-1), .bool false] tX ∧ wr.ownsRow w.heap.size tStr 1 (.slice sa j sc) j (List.replicate j (strV zero64)) ∧ Below w.heap.size w wr) (fun i _ => n - (intOf i).toNat)
  case atStart => exact ⟨0, none, 0, rfl, Nat.zero_le _, HB.out, World.ownsRow_nil _ _ _ _, HBel.out⟩
  case round =>
    obtain ⟨j, sa, sc, rfl, hjn, hb, ho, hbel⟩ := hrel
    have H1 := Lib.hid hb
    have H2 := Lib.hid ho
    have H3 := Lib.hid hbel
    by_cases hj : j < n
    · have hj1 : (j : Int) < (n : Int) := by omega
      have hj2 : (j : Int) < 200 := by omega
      have c1 := hb.blk.cell 1 _ rfl
      have HKc := Lib.hid (fun W (hb' : Below wr.heap.size wr W) => (hb.below hb').blk.cell 1 _ rfl)
      clear hb ho hbel
      go_wp2_with fail
      refine wp_region_last (n := 10) (S := (fun W => W.cell? ⟨w.heap.size, 1, none⟩ = some (.slice sa j sc))) (by kernel_rfl) (by kernel_rfl) (by kernel_rfl) ?_ (fun hHeld => ?_)
      · (first | exact c1 | exact HKc.out _ HB5.out | exact HKc.out _ HB6.out | exact c7)
      (refine wpAnyH_take (i := 0) (oi := R_RNw5_0) (v := ?_) rfl (by kernel_rfl) (by kernel_rfl) (by kernel_rfl) (fun _ _ _ h => h) (Or.inl ⟨by rfl, ?_⟩) (by assumption) ?_; rotate_left; next => (intro w hSw; (try dsimp only at hSw); (try delta R_RNw5_0); go_simp; try with_reducible rfl))
      (try simp only [Act.put, List.setIfInBounds_toArray, List.set_cons_zero, List.set_cons_succ])
      (refine wpAnyH_take (i := 1) (oi := R_RNw5_1) (v := ?_) rfl (by kernel_rfl) (by kernel_rfl) (by kernel_rfl) (fun _ _ _ h => h) (Or.inl ⟨by rfl, ?_⟩) (by assumption) ?_; rotate_left; next => (intro w hSw; (try dsimp only at hSw); (try delta R_RNw5_1); go_simp; try with_reducible rfl))
      (try simp only [Act.put, List.setIfInBounds_toArray, List.set_cons_zero, List.set_cons_succ])
      (refine wpAnyH_take (i := 2) (oi := R_RNw5_2) (v := ?_) rfl (by kernel_rfl) (by kernel_rfl) (by kernel_rfl) (fun _ _ _ h => h) (Or.inl ⟨by rfl, ?_⟩) (by assumption) ?_; rotate_left; next => (intro w hSw; (try dsimp only at hSw); (try delta R_RNw5_2); go_simp; try with_reducible rfl))
      (try simp only [Act.put, List.setIfInBounds_toArray, List.set_cons_zero, List.set_cons_succ])
      (refine wpAnyH_take (i := 3) (oi := R_RNw5_3) (v := ?_) rfl (by kernel_rfl) (by kernel_rfl) (by kernel_rfl) (fun _ _ _ h => h) (Or.inl ⟨by rfl, ?_⟩) (by assumption) ?_; rotate_left; next => (intro w hSw; (try dsimp only at hSw); (try delta R_RNw5_3); go_simp; try with_reducible rfl))
      (try simp only [Act.put, List.setIfInBounds_toArray, List.set_cons_zero, List.set_cons_succ])
      (refine wpAnyH_take (i := 4) (oi := R_RNw5_4) (v := ?_) rfl (by kernel_rfl) (by kernel_rfl) (by kernel_rfl) (fun _ _ _ h => h) (Or.inl ⟨by rfl, ?_⟩) (by assumption) ?_; rotate_left; next => (intro w hSw; (try dsimp only at hSw); (try delta R_RNw5_4); go_simp; try with_reducible rfl))
      (try simp only [Act.put, List.setIfInBounds_toArray, List.set_cons_zero, List.set_cons_succ])
      refine wpAnyH_ready (rs := [5]) (by kernel_rfl) (by simp) ?_
      refine AllReadyH.cons (o := R_RNw5_5) rfl (fun K hK => ?_) AllReadyH.nil
      (try delta R_RNw5_5)
      (go_simp; (with_reducible refine (HP.out wr.drew).mono ?_); rintro e w5 ⟨rfl, hb5⟩; have HB5 := Lib.hid ((Below.refl _ wr).drew.trans (hb5.mono (Nat.le_refl _))); have HB6 := Lib.hid (HB5.out.alloc HB5.out.size (.cells ([.string ⟨zero64.toArray⟩] : List Value).toArray tStr)); clear hb5; (try go_wp2_with fail))
      refine hK.out _ _ ?_ (fun hHeld => ?_)
      · (first | exact c1 | exact HKc.out _ HB5.out | exact HKc.out _ HB6.out | exact c7)
      clear hK K
      (try simp only [Act.put, List.setIfInBounds_toArray, List.set_cons_zero, List.set_cons_succ])
      refine wpAnyH_ready (rs := [6]) (by kernel_rfl) (by simp) ?_
      refine AllReadyH.cons (o := R_RNw5_6) rfl (fun K hK => ?_) AllReadyH.nil
      (try delta R_RNw5_6)
      go_simp
      refine hK.out _ _ ?_ (fun hHeld => ?_)
      · (first | exact c1 | exact HKc.out _ HB5.out | exact HKc.out _ HB6.out | exact c7)
      clear hK K
      (try simp only [Act.put, List.setIfInBounds_toArray, List.set_cons_zero, List.set_cons_succ])
      refine wpAnyH_ready (rs := [7]) (by kernel_rfl) (by simp) ?_
      refine AllReadyH.cons (o := R_RNw5_7) rfl (fun K hK => ?_) AllReadyH.nil
      (try delta R_RNw5_7)
      (refine step_appK elemSK (by decide) rfl _ _ rfl w.heap.size j _ (List.replicate j (strV zero64)) (by rfl) (own_belowE H2.out HB6.out) ⟨w5.heap.size, 0, none⟩ 1 [.string ⟨zero64.toArray⟩] rfl rfl (fun j' u hu => by rw [addr_add, Nat.zero_add]; exact (Blk.new w5 [.string ⟨zero64.toArray⟩] tStr).cell j' u hu) (by intro u hu; rw [List.mem_singleton.1 hu]; rfl) (by omega) (by omega) (Nat.le_trans H3.out.size HB6.out.size) ?_; intro va7 vc7 w7 hown hgr; have hb7 := blk_grown (H1.out.below HB6.out) hgr ((H1.out.below HB6.out).apartO (own_belowE H2.out HB6.out) (by decide)); have c7 := hb7.blk.cell 1 _ rfl; have HX7 := Lib.hid hb7; have HO7 := Lib.hid hown; have HZ7 := Lib.hid ((H3.out.trans (HB6.out.mono H3.out.size)).grown hgr (Nat.le_trans H3.out.size HB6.out.size) (fun q hq => (H2.out.lt q hq).1)); clear hown hgr hb7)
      refine hK.out _ _ ?_ (fun hHeld => ?_)
      · (first | exact c1 | exact HKc.out _ HB5.out | exact HKc.out _ HB6.out | exact c7)
      clear hK K
      (try simp only [Act.put, List.setIfInBounds_toArray, List.set_cons_zero, List.set_cons_succ])
      (refine wpAnyH_take (i := 8) (oi := R_RNw5_8) (v := ?_) rfl (by kernel_rfl) (by kernel_rfl) (by kernel_rfl) (fun _ _ _ h => h) (Or.inl ⟨by rfl, ?_⟩) (by assumption) ?_; rotate_left; next => (intro w hSw; (try dsimp only at hSw); (try delta R_RNw5_8); go_simp; try with_reducible rfl))
      (try simp only [Act.put, List.setIfInBounds_toArray, List.set_cons_zero, List.set_cons_succ])
      (refine wpAnyH_take (i := 9) (oi := R_RNw5_9) (v := ?_) rfl (by kernel_rfl) (by kernel_rfl) (by kernel_rfl) (fun _ _ _ h => h) (Or.inl ⟨by rfl, ?_⟩) (by assumption) ?_; rotate_left; next => (intro w hSw; (try dsimp only at hSw); (try delta R_RNw5_9); go_simp; try with_reducible rfl))
      (try simp only [Act.put, List.setIfInBounds_toArray, List.set_cons_zero, List.set_cons_succ])
      refine wpAnyH_done (by kernel_rfl) ?_ _
      (have f7 := HX7.out.blk.thaw 1; refine last_do (o := { dst := none, op := Op.store 81 (Operand.tmp 25) (Operand.tmp 23), type := 0, pos := "drum.go:32", after := #[{ on := 9, ground := Ground.data }, { on := 7, ground := Ground.data }, { on := 7, ground := Ground.chain }, { on := 0, ground := Ground.phase }, { on := 1, ground := Ground.phase }, { on := 2, ground := Ground.phase }, { on := 3, ground := Ground.phase }, { on := 4, ground := Ground.phase }, { on := 5, ground := Ground.phase }, { on := 6, ground := Ground.phase }, { on := 7, ground := Ground.phase }], guard := none }) rfl (fun K hK => ?_); go_simp; refine hK.out _ _ ?_; clear hK K; go_wp2_with fail; refine ⟨⟨j + 1, va7, vc7, rfl, hj, HX7.out.set 1 _, ?_, Below.setCell (p := (⟨w.heap.size, 1, none⟩ : Addr)) HZ7.out (Nat.le_refl _) _⟩, (by simp [intOf]; omega)⟩; (have q := Go.ownsRow_setCell_other (a := (⟨w.heap.size, 1, none⟩ : Addr)) HO7.out (HX7.out.apartO HO7.out (by decide)) (.slice va7 (j + 1) vc7); rw [List.replicate_succ']; exact q))
    · have hj1 : ¬ (j : Int) < (n : Int) := by omega
      have hjn' : j = n := by omega
      subst hjn'
      have c1 := fun o => (hb.below ((Below.refl _ wr).alloc (Nat.le_refl _) o)).blk.cell 1 _ rfl
      clear hb ho hbel
      go_wp2_with (first | (at_builtin; refine wp_app0 elemS1 rfl _ _ rfl wr.heap.size _ rfl (owns_empty wr _) (.slice sa j sc) (List.replicate j (strV zero64)) j (by simp) rfl ((RowAt.ofOwns H2.out).below ((Below.refl _ wr).alloc (Nat.le_refl _) _)) (by intro u hu; rw [List.eq_of_mem_replicate hu]; rfl) (by omega) (by omega) (by simp) ?_; intro va5 vc5 w5 hown5 hb5; have HO5 := Lib.hid hown5; have HB5 := Lib.hid (((Below.refl _ wr).alloc (Nat.le_refl _) (.cells #[] 9)).trans hb5); have HX5 := Lib.hid (H1.out.below HB5.out); have e0 := HX5.out.blk.cell 0 _ rfl; have f0 := HX5.out.blk.thaw 0; clear hown5 hb5) | fail)
      go_ret
      have hs5 := own_belowE H2.out HB5.out
      have hlo := H3.out.size
      refine ⟨w.heap.size, .slice va5 j vc5, .slice sa j sc, .slice none 0 0, -1, rfl, ⟨HX5.out.set 0 _, ?_, ?_, World.ownsRow_nil _ _ _ _, ?_, Nat.le_refl _, ⟨hn, by simp [newP], by simp [newP], by simp [newP], ⟨by show (-1 : Int) ≤ -1; decide, by show (-1 : Int) ≤ 9223372036854775807; decide⟩⟩, ⟨.inl rfl, by decide, by decide⟩⟩, Below.setCell (p := (⟨w.heap.size, 0, none⟩ : Addr)) (H3.out.trans (HB5.out.mono H3.out.size)) (Nat.le_refl _) _⟩
      · have q := Go.ownsRow_setCell_other (a := (⟨w.heap.size, 0, none⟩ : Addr)) (own_mono HO5.out hlo) (HX5.out.apartO (own_mono HO5.out hlo) (by decide)) (.slice va5 j vc5)
        show World.ownsRow _ _ _ _ _ j (strsOf (List.replicate (64 * j) 0) j)
        rw [strs_zero]
        exact q
      · have q := Go.ownsRow_setCell_other (a := (⟨w.heap.size, 0, none⟩ : Addr)) hs5 (HX5.out.apartO hs5 (by decide)) (.slice va5 j vc5)
        show World.ownsRow _ _ _ _ _ j (strsOf (List.replicate (64 * j) 0) j)
        rw [strs_zero]
        exact q
      · rcases hv : (Value.slice va5 j vc5).ownBlock with _ | g
        · exact .inl rfl
        · right
          intro e
          have h1 := (HO5.out.lt g hv).1
          have h2 := (H2.out.lt g (by rw [← e])).2
          omega
theorem wait_get : ∀ (ws : List (Int × List UInt8)) (j : Nat) (x : Int × List UInt8), ws[j]? = some x → (ws.flatMap rcell)[2 * j]? = some (.int .i64 x.1) ∧ (ws.flatMap rcell)[2 * j + 1]? = some (strV x.2)
  | [], j, x, h => by simp at h
  | y :: r, 0, x, h => by simp at h; subst h; exact ⟨rfl, rfl⟩
  | y :: r, j + 1, x, h => by
    have ih := wait_get r j x (by simpa using h)
    have e : (y :: r).flatMap rcell = rcell y ++ r.flatMap rcell := rfl
    rw [e, List.getElem?_append_right (by simp [rcell]; omega), List.getElem?_append_right (by simp [rcell]; omega)]
    have l2 : (rcell y).length = 2 := rfl
    rw [l2, show 2 * (j + 1) - 2 = 2 * j by omega, show 2 * (j + 1) + 1 - 2 = 2 * j + 1 by omega]
    exact ih
theorem own_cellK {W : World} {lo e k n g c i : Nat} {xs : List Value} {v : Value} (h : W.ownsRow lo e k (.slice (some ⟨g, 0, none⟩) n c) n xs) (hx : xs[i]? = some v) : W.cell? ⟨g, i, none⟩ = some v := by
  rcases h.2 with ⟨h', _⟩ | ⟨g', cap, cur, hv, hB, hg, _, _, _, ht⟩
  · cases h'
  · injection hv with e1 _ _
    injection e1 with e1
    injection e1 with e1 _ _
    subst e1
    have hb : BlkT W g cur.toList e := by unfold BlkT; simpa using hg
    refine hb.blk.cell i v ?_
    rw [← ht, List.getElem?_take] at hx
    split at hx
    · exact hx
    · cases hx
theorem crash_step {d : PD} {keep : List Bool} {j : Nat} {x : Int × List UInt8} (hx : d.wait[j]? = some x) : crashS d.good (d.wait.take (j + 1)) keep = if keeps keep j then upd (crashS d.good (d.wait.take j) keep) x.1.toNat x.2 else crashS d.good (d.wait.take j) keep := by
  have hj := (List.getElem?_eq_some_iff.1 hx).1
  rw [List.take_add_one, hx]
  show crashS d.good (d.wait.take j ++ [x]) keep = _
  rw [crashS_snoc, List.length_take, Nat.min_eq_left (by omega)]
theorem crash_rest {keep : List Bool} : ∀ (ws : List (Int × List UInt8)) (s : List UInt8) (j : Nat), keep.length ≤ j → crashS s (ws.take j) keep = crashS s ws keep := by
  intro ws
  induction ws generalizing keep with
  | nil => intro s j _; rw [List.take_nil]
  | cons x r ih =>
    intro s j hj
    cases keep with
    | nil => cases j <;> rfl
    | cons b ks =>
      cases j with
      | zero => simp at hj
      | succ j => simp only [List.take_succ_cons, crashS]; exact ih _ _ (by simpa using hj)
def RCrashTo (w : World) (d : PD) (keep : List Bool) (e : Ending) (w' : World) : Prop := ∃ X ov sv wv left, e = .returned (.pointer (some ⟨X, 0, none⟩)) ∧ RDAt w.heap.size w' X ov sv wv (crashP d keep) left ∧ Below w.heap.size w w'
theorem crash_end {w wr w8 : World} {d : PD} {keep : List Bool} {va5 va8 : Option Addr} {vc5 vc8 : Nat} (hn : d.n ≤ 200) (hl : (crashS d.good d.wait keep).length = 64 * d.n) (hbe : Below w.heap.size w wr) (hs : wr.ownsRow w.heap.size tStr 1 (.slice va5 d.n vc5) d.n (strsOf (crashS d.good d.wait keep) d.n))
    (hb : Below wr.heap.size wr w8) (ho : w8.ownsRow wr.heap.size tStr 1 (.slice va8 d.n vc8) d.n (strsOf (crashS d.good d.wait keep) d.n)) :
    RCrashTo w d keep (.returned (.pointer (some ⟨w8.heap.size, 0, none⟩))) (w8.alloc (.cells #[.slice va8 d.n vc8, .slice va5 d.n vc5, .slice none 0 0, .int .i64 (-1), .bool false] tX)) := by
  have hba := (Below.refl _ w8).alloc (Nat.le_refl _) (.cells #[.slice va8 d.n vc8, .slice va5 d.n vc5, .slice none 0 0, .int .i64 (-1), .bool false] tX)
  refine ⟨w8.heap.size, _, _, _, -1, rfl, ⟨BlkT.new w8 [.slice va8 d.n vc8, .slice va5 d.n vc5, .slice none 0 0, .int .i64 (-1), .bool false] tX, own_belowE (own_mono ho hbe.size) hba, own_belowE (own_belowE hs hb) hba, World.ownsRow_nil _ _ _ _, ?_, Nat.le_trans hbe.size hb.size, ⟨hn, hl, hl, (by intro x hx; cases hx), ⟨by show (-1 : Int) ≤ -1; decide, by show (-1 : Int) ≤ 9223372036854775807; decide⟩⟩, ⟨.inl rfl, by decide, by decide⟩⟩, ((hbe.trans (hb.mono hbe.size)).trans (hba.mono (Nat.le_trans hbe.size hb.size)))⟩
  rcases hv : (Value.slice va8 d.n vc8).ownBlock with _ | g
  · exact .inl rfl
  · right
    intro e
    have h1 := (ho.lt g hv).1
    have h2 := (hs.lt g (by rw [← e])).2
    omega
set_option maxRecDepth 20000 in
set_option maxHeartbeats 4000000 in
theorem RCrash_c {lo X : Nat} {ov sv wv : Value} {d : PD} {left : Int} {w : World} (h : RDAt lo w X ov sv wv d left) (keep : List Bool) (b : Option Addr) (c : Nat) (hk : RowAt w (.slice b keep.length c) (boolR keep)) :
    Calls Tryd.prog 29 #[.pointer (some ⟨X, 0, none⟩), .slice b keep.length c] w (RCrashTo w d keep) := by
  obtain ⟨wa, wc, rfl⟩ := owns_shape h.w
  obtain ⟨oa, oc, rfl⟩ := owns_shape h.old
  have H := Lib.hid h
  have HK := Lib.hid hk
  have hn := h.ok.n
  have c0 := fun o => (h.below ((Below.refl _ w).alloc (Nat.le_refl _) o)).blk.blk.cell 0 _ rfl
  have hkm : (keep.length : Int) ≤ 9223372036854775807 := by have := hk.1; rw [show maxLen = 9223372036854775807 by decide] at this; simp [boolR] at this; omega
  clear h hk
  go_enter Tryd.func29, Tryd.ntmps29
  go_wp2_with (first | (at_builtin; refine wp_app0 elemS1 rfl _ _ rfl w.heap.size _ rfl (owns_empty w _) (.slice oa d.n oc) (strsOf d.good d.n) d.n (strs_len _ _) rfl ((RowAt.ofOwns H.out.old).below ((Below.refl _ w).alloc (Nat.le_refl _) _)) (strs_one _ _) (by omega) (by omega) (by simp) ?_; intro va5 vc5 w5 hown5 hb5; have HO5 := Lib.hid hown5; have HB5 := Lib.hid (((Below.refl _ w).alloc (Nat.le_refl _) (.cells #[] 9)).trans hb5); clear hown5 hb5) | fail)
  have hws : WsOk d.n d.wait := fun x hx => by have := H.out.ok.wait x hx; exact ⟨this.1, by omega⟩
  have HLN : Hid (∀ j, (crashS d.good (d.wait.take j) keep).length = 64 * d.n) := Lib.hid (fun j => mix_len _ _ _ (fun x hx => hws x (List.mem_of_mem_take hx)) H.out.ok.good)
  have HLN0 : Hid ((crashS d.good d.wait keep).length = 64 * d.n) := Lib.hid (mix_len _ _ _ hws H.out.ok.good)
  clear hws
  go_loopw [6] (fun i wr => ∃ (j : Nat), i = .int .i64 (j : Int) ∧ j ≤ d.wait.length ∧ wr.ownsRow w.heap.size tStr 1 (.slice va5 d.n vc5) d.n (strsOf (crashS d.good (d.wait.take j) keep) d.n) ∧ Below w.heap.size w wr) (fun i _ => d.wait.length - (intOf i).toNat)
  case atStart => exact ⟨0, rfl, Nat.zero_le _, by rw [List.take_zero]; (have e : crashS d.good [] keep = d.good := by cases keep <;> rfl); rw [e]; exact HO5.out, HB5.out⟩
  case round =>
    obtain ⟨j, rfl, hjn, ho, hbel⟩ := hrel
    have HS := Lib.hid ho
    have HBE := Lib.hid hbel
    have HX := Lib.hid (H.out.below hbel)
    have c2 := HX.out.blk.blk.cell 2 _ rfl
    clear ho hbel
    by_cases hj : j < d.wait.length
    · have hj1 : (j : Int) < (d.wait.length : Int) := by omega
      by_cases hkl : j < keep.length
      · have hkl1 : (j : Int) < (keep.length : Int) := by omega
        obtain ⟨KB, ko, rfl, hKB, hkx⟩ := (HK.out.below HBE.out).cellAt j (by simpa [boolR] using hkl)
        obtain ⟨gw, rfl, hgw⟩ : ∃ g, wa = some ⟨g, 0, none⟩ ∧ lo ≤ g := by
          rcases HX.out.w.2 with ⟨h', h0⟩ | ⟨g', cap, cur, hv, hB, _⟩
          · omega
          · injection hv with e1 _ _; exact ⟨g', e1, hB⟩
        have hxj : d.wait[j]? = some (d.wait[j]'hj) := List.getElem?_eq_getElem _
        have HST := crash_step (keep := keep) hxj
        have hwok := H.out.ok.wait (d.wait[j]'hj) (List.getElem_mem _)
        have hwg := wait_get d.wait j _ hxj
        have hkk : keeps keep j = keep[j]'hkl := by unfold keeps; rw [List.getElem?_eq_getElem hkl]; rfl
        rw [hkk] at HST
        simp only [boolR, List.getElem_map] at hkx
        generalize keep[j]'hkl = kb at *
        generalize d.wait[j]'hj = x at *
        obtain ⟨xi, xp⟩ := x
        simp only at hwok hwg HST
        obtain ⟨ik, rfl⟩ : ∃ ik : Nat, xi = (ik : Int) := ⟨xi.toNat, by omega⟩
        have hik : ik < d.n := by omega
        have k1 : wr.cell? ⟨gw, j * 2, none⟩ = some (.int .i64 (ik : Int)) := by rw [Nat.mul_comm]; exact own_cellK HX.out.w hwg.1
        have k2 : wr.cell? ⟨gw, j * 2 + 1, none⟩ = some (.string ⟨xp.toArray⟩) := by rw [Nat.mul_comm]; exact own_cellK HX.out.w hwg.2
        have HWK := Lib.hid hwok
        have HSTh := Lib.hid HST
        clear hxj HST hwok hwg hkk
        cases kb
        · go_wp2_with fail
          refine ⟨⟨j + 1, rfl, hj, ?_, HBE.out⟩, by simp [intOf]; omega⟩
          rw [HSTh.out, if_neg (by decide)]
          exact HS.out
        · obtain ⟨gs, rfl, hgs, scs, hsb⟩ := own_some HS.out (by omega)
          have s1 := own_cell HS.out hik
          have s2 := own_thaw HS.out hik
          go_wp2_with fail
          refine wp_region_last (n := 18) (S := (fun W => W.cell? ⟨X, 2, none⟩ = some (.slice (some ⟨gw, 0, none⟩) d.wait.length wc) ∧ W.cell? ⟨gw, j * 2, none⟩ = some (.int .i64 (ik : Int)) ∧ W.cell? ⟨gw, j * 2 + 1, none⟩ = some (.string ⟨xp.toArray⟩))) (by kernel_rfl) (by kernel_rfl) (by kernel_rfl) ?_ (fun hHeld => ?_)
          · (exact ⟨c2, k1, k2⟩)
          (refine wpAnyH_take (i := 0) (oi := R_RCr6_0) (v := ?_) rfl (by kernel_rfl) (by kernel_rfl) (by kernel_rfl) (fun _ _ _ h => h) (Or.inl ⟨by rfl, ?_⟩) (by assumption) ?_; rotate_left; next => (intro w hSw; (try dsimp only at hSw); (try delta R_RCr6_0); go_simp; try with_reducible rfl))
          (try simp only [Act.put, List.setIfInBounds_toArray, List.set_cons_zero, List.set_cons_succ])
          (refine wpAnyH_take (i := 1) (oi := R_RCr6_1) (v := ?_) rfl (by kernel_rfl) (by kernel_rfl) (by kernel_rfl) (fun _ _ _ h => h) (Or.inl ⟨by rfl, ?_⟩) (by assumption) ?_; rotate_left; next => (intro w hSw; (try dsimp only at hSw); (try delta R_RCr6_1); go_simp; try with_reducible rfl))
          (try simp only [Act.put, List.setIfInBounds_toArray, List.set_cons_zero, List.set_cons_succ])
          (refine wpAnyH_take (i := 2) (oi := R_RCr6_2) (v := ?_) rfl (by kernel_rfl) (by kernel_rfl) (by kernel_rfl) (fun _ _ _ h => h) (Or.inl ⟨by rfl, ?_⟩) (by assumption) ?_; rotate_left; next => (intro w hSw; (try dsimp only at hSw); (try delta R_RCr6_2); go_simp; try with_reducible rfl))
          (try simp only [Act.put, List.setIfInBounds_toArray, List.set_cons_zero, List.set_cons_succ])
          (refine wpAnyH_take (i := 3) (oi := R_RCr6_3) (v := ?_) rfl (by kernel_rfl) (by kernel_rfl) (by kernel_rfl) (fun _ _ _ h => h) (Or.inl ⟨by rfl, ?_⟩) (by assumption) ?_; rotate_left; next => (intro w hSw; (try dsimp only at hSw); (try delta R_RCr6_3); go_simp; try with_reducible rfl))
          (try simp only [Act.put, List.setIfInBounds_toArray, List.set_cons_zero, List.set_cons_succ])
          (refine wpAnyH_take (i := 4) (oi := R_RCr6_4) (v := ?_) rfl (by kernel_rfl) (by kernel_rfl) (by kernel_rfl) (fun _ _ _ h => h) (Or.inl ⟨by rfl, ?_⟩) (by assumption) ?_; rotate_left; next => (intro w hSw; (try dsimp only at hSw); (try delta R_RCr6_4); go_simp; try with_reducible rfl))
          (try simp only [Act.put, List.setIfInBounds_toArray, List.set_cons_zero, List.set_cons_succ])
          (refine wpAnyH_take (i := 5) (oi := R_RCr6_5) (v := ?_) rfl (by kernel_rfl) (by kernel_rfl) (by kernel_rfl) (fun _ _ _ h => h) (Or.inl ⟨by rfl, ?_⟩) (by assumption) ?_; rotate_left; next => (intro w hSw; (try dsimp only at hSw); (try delta R_RCr6_5); go_simp; try with_reducible rfl))
          (try simp only [Act.put, List.setIfInBounds_toArray, List.set_cons_zero, List.set_cons_succ])
          (refine wpAnyH_take (i := 6) (oi := R_RCr6_6) (v := ?_) rfl (by kernel_rfl) (by kernel_rfl) (by kernel_rfl) (fun _ _ _ h => h) (Or.inl ⟨by rfl, ?_⟩) (by assumption) ?_; rotate_left; next => (intro w hSw; (try dsimp only at hSw); (try delta R_RCr6_6); go_simp; try with_reducible rfl))
          (try simp only [Act.put, List.setIfInBounds_toArray, List.set_cons_zero, List.set_cons_succ])
          (refine wpAnyH_take (i := 7) (oi := R_RCr6_7) (v := ?_) rfl (by kernel_rfl) (by kernel_rfl) (by kernel_rfl) (fun _ _ _ h => h) (Or.inl ⟨by rfl, ?_⟩) (by assumption) ?_; rotate_left; next => (intro w hSw; (try dsimp only at hSw); (try delta R_RCr6_7); go_simp; try with_reducible rfl))
          (try simp only [Act.put, List.setIfInBounds_toArray, List.set_cons_zero, List.set_cons_succ])
          (refine wpAnyH_take (i := 8) (oi := R_RCr6_8) (v := ?_) rfl (by kernel_rfl) (by kernel_rfl) (by kernel_rfl) (fun _ _ _ h => h) (Or.inl ⟨by rfl, ?_⟩) (by assumption) ?_; rotate_left; next => (intro w hSw; (try dsimp only at hSw); (try delta R_RCr6_8); go_simp; try with_reducible rfl))
          (try simp only [Act.put, List.setIfInBounds_toArray, List.set_cons_zero, List.set_cons_succ])
          (refine wpAnyH_take (i := 9) (oi := R_RCr6_9) (v := ?_) rfl (by kernel_rfl) (by kernel_rfl) (by kernel_rfl) (fun _ _ _ h => h) (Or.inl ⟨by rfl, ?_⟩) (by assumption) ?_; rotate_left; next => (intro w hSw; (try dsimp only at hSw); (try delta R_RCr6_9); go_simp; try with_reducible rfl))
          (try simp only [Act.put, List.setIfInBounds_toArray, List.set_cons_zero, List.set_cons_succ])
          (refine wpAnyH_take (i := 10) (oi := R_RCr6_10) (v := ?_) rfl (by kernel_rfl) (by kernel_rfl) (by kernel_rfl) (fun _ _ _ h => h) (Or.inl ⟨by rfl, ?_⟩) (by assumption) ?_; rotate_left; next => (intro w hSw; (try dsimp only at hSw); (try delta R_RCr6_10); go_simp; try with_reducible rfl))
          (try simp only [Act.put, List.setIfInBounds_toArray, List.set_cons_zero, List.set_cons_succ])
          (refine wpAnyH_take (i := 11) (oi := R_RCr6_11) (v := ?_) rfl (by kernel_rfl) (by kernel_rfl) (by kernel_rfl) (fun _ _ _ h => h) (Or.inl ⟨by rfl, ?_⟩) (by assumption) ?_; rotate_left; next => (intro w hSw; (try dsimp only at hSw); (try delta R_RCr6_11); go_simp; try with_reducible rfl))
          (try simp only [Act.put, List.setIfInBounds_toArray, List.set_cons_zero, List.set_cons_succ])
          (refine wpAnyH_take (i := 12) (oi := R_RCr6_12) (v := ?_) rfl (by kernel_rfl) (by kernel_rfl) (by kernel_rfl) (fun _ _ _ h => h) (Or.inl ⟨by rfl, ?_⟩) (by assumption) ?_; rotate_left; next => (intro w hSw; (try dsimp only at hSw); (try delta R_RCr6_12); go_simp; try with_reducible rfl))
          (try simp only [Act.put, List.setIfInBounds_toArray, List.set_cons_zero, List.set_cons_succ])
          (refine wpAnyH_take (i := 13) (oi := R_RCr6_13) (v := ?_) rfl (by kernel_rfl) (by kernel_rfl) (by kernel_rfl) (fun _ _ _ h => h) (Or.inl ⟨by rfl, ?_⟩) (by assumption) ?_; rotate_left; next => (intro w hSw; (try dsimp only at hSw); (try delta R_RCr6_13); go_simp; try with_reducible rfl))
          (try simp only [Act.put, List.setIfInBounds_toArray, List.set_cons_zero, List.set_cons_succ])
          (refine wpAnyH_take (i := 14) (oi := R_RCr6_14) (v := ?_) rfl (by kernel_rfl) (by kernel_rfl) (by kernel_rfl) (fun _ _ _ h => h) (Or.inl ⟨by rfl, ?_⟩) (by assumption) ?_; rotate_left; next => (intro w hSw; (try dsimp only at hSw); (try delta R_RCr6_14); go_simp; try with_reducible rfl))
          (try simp only [Act.put, List.setIfInBounds_toArray, List.set_cons_zero, List.set_cons_succ])
          (refine wpAnyH_take (i := 15) (oi := R_RCr6_15) (v := ?_) rfl (by kernel_rfl) (by kernel_rfl) (by kernel_rfl) (fun _ _ _ h => h) (Or.inl ⟨by rfl, ?_⟩) (by assumption) ?_; rotate_left; next => (intro w hSw; (try dsimp only at hSw); (try delta R_RCr6_15); go_simp; try with_reducible rfl))
          (try simp only [Act.put, List.setIfInBounds_toArray, List.set_cons_zero, List.set_cons_succ])
          (refine wpAnyH_take (i := 16) (oi := R_RCr6_16) (v := ?_) rfl (by kernel_rfl) (by kernel_rfl) (by kernel_rfl) (fun _ _ _ h => h) (Or.inl ⟨by rfl, ?_⟩) (by assumption) ?_; rotate_left; next => (intro w hSw; (try dsimp only at hSw); (try delta R_RCr6_16); go_simp; try with_reducible rfl))
          (try simp only [Act.put, List.setIfInBounds_toArray, List.set_cons_zero, List.set_cons_succ])
          (refine wpAnyH_take (i := 17) (oi := R_RCr6_17) (v := ?_) rfl (by kernel_rfl) (by kernel_rfl) (by kernel_rfl) (fun _ _ _ h => h) (Or.inl ⟨by rfl, ?_⟩) (by assumption) ?_; rotate_left; next => (intro w hSw; (try dsimp only at hSw); (try delta R_RCr6_17); go_simp; try with_reducible rfl))
          (try simp only [Act.put, List.setIfInBounds_toArray, List.set_cons_zero, List.set_cons_succ])
          refine wpAnyH_done (by kernel_rfl) ?_ _
          (refine last_do (o := { dst := none, op := Op.store 9 (Operand.tmp 49) (Operand.tmp 48), type := 0, pos := "drum.go:91", after := #[{ on := 17, ground := Ground.data }, { on := 16, ground := Ground.data }, { on := 0, ground := Ground.phase }, { on := 1, ground := Ground.phase }, { on := 2, ground := Ground.phase }, { on := 3, ground := Ground.phase }, { on := 4, ground := Ground.phase }, { on := 5, ground := Ground.phase }, { on := 6, ground := Ground.phase }, { on := 7, ground := Ground.phase }, { on := 8, ground := Ground.phase }, { on := 9, ground := Ground.phase }, { on := 10, ground := Ground.phase }, { on := 11, ground := Ground.phase }, { on := 12, ground := Ground.phase }, { on := 13, ground := Ground.phase }, { on := 14, ground := Ground.phase }, { on := 15, ground := Ground.phase }, { on := 16, ground := Ground.phase }], guard := none }) rfl (fun K hK => ?_); go_simp; refine hK.out _ _ ?_; clear hK K; go_wp2_with fail; refine ⟨⟨j + 1, rfl, hj, ?_, Below.setCell (p := (⟨gs, ik, none⟩ : Addr)) HBE.out.drew hgs _⟩, (by simp [intOf]; omega)⟩; (have q := own_setAt HS.out.drew hik (strV xp); rw [HSTh.out]; simp only [if_true, Int.toNat_natCast]; rw [strs_upd (HLN.out j) hik HWK.out.1]; exact q))
      · have hkl1 : ¬ (j : Int) < (keep.length : Int) := by omega
        have he : crashS d.good (d.wait.take j) keep = crashS d.good d.wait keep := crash_rest _ _ _ (by omega)
        rw [he] at HS
        go_wp2_with (first | (at_builtin; refine wp_app0 elemS1 rfl _ _ rfl wr.heap.size _ rfl (owns_empty wr _) (.slice va5 d.n vc5) (strsOf (crashS d.good d.wait keep) d.n) d.n (strs_len _ _) rfl ((RowAt.ofOwns HS.out).below ((Below.refl _ wr).alloc (Nat.le_refl _) _)) (strs_one _ _) (by omega) (by omega) (by simp) ?_; intro va8 vc8 w8 hown8 hb8; have HO8 := Lib.hid hown8; have HB8 := Lib.hid (((Below.refl _ wr).alloc (Nat.le_refl _) (.cells #[] 9)).trans hb8); clear hown8 hb8) | fail)
        go_ret
        exact crash_end hn (HLN0.out) HBE.out HS.out HB8.out HO8.out
    · have hj1 : ¬ (j : Int) < (d.wait.length : Int) := by omega
      have he : crashS d.good (d.wait.take j) keep = crashS d.good d.wait keep := by rw [List.take_of_length_le (by omega)]
      rw [he] at HS
      go_wp2_with (first | (at_builtin; refine wp_app0 elemS1 rfl _ _ rfl wr.heap.size _ rfl (owns_empty wr _) (.slice va5 d.n vc5) (strsOf (crashS d.good d.wait keep) d.n) d.n (strs_len _ _) rfl ((RowAt.ofOwns HS.out).below ((Below.refl _ wr).alloc (Nat.le_refl _) _)) (strs_one _ _) (by omega) (by omega) (by simp) ?_; intro va8 vc8 w8 hown8 hb8; have HO8 := Lib.hid hown8; have HB8 := Lib.hid (((Below.refl _ wr).alloc (Nat.le_refl _) (.cells #[] 9)).trans hb8); clear hown8 hb8) | fail)
      go_ret
      exact crash_end hn (HLN0.out) HBE.out HS.out HB8.out HO8.out
end Go.Proofs.YtlllbacjdjllbaaDoor
