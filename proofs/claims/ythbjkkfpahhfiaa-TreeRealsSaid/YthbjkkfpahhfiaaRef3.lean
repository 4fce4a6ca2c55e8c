
/- Contracts of package ligatureref9: Add, Del. -/
import Derived.Test.YthbjkkfpahhfiaaRef2
namespace Go.Proofs.Ythbjkkfpahhfiaa
open Go Go.Proofs Go.RowKit
set_option linter.unusedVariables false
set_option linter.unusedSimpArgs false

set_option maxRecDepth 100000 in
set_option maxHeartbeats 4000000 in
theorem Add9_c (B xb : Nat) (es : List E6) (x : E6) (v : Value) (w : World) (hT : TreeAt B xb w v es) (hB : B ≤ w.heap.size) (hlen : es.length ≤ 1099511627776) (hf : ∀ e ∈ es, okF e) (hx : okF x) :
    Calls Try.prog 14 #[.pointer (some ⟨xb, 0, none⟩), x.val] w (TreeTo B xb w v (.bool (!foundE es x)) (addE es x)) := by
  obtain ⟨va, vc, rfl⟩ := owns_shape hT.2
  have H0 : Hid (Keep w (fun W => TreeAt B xb W (.slice va es.length vc) es ∧ Blk W w.heap.size x.cells) (w.alloc (.cells x.cells.toArray 37))) :=
    Lib.hid ⟨⟨hT.below ((Below.refl _ w).alloc (Nat.le_refl _) _), Blk.new w _ _⟩, (Below.refl _ w).alloc (Nat.le_refl _) _, fun w' hb => ⟨(hT.below ((Below.refl _ w).alloc (Nat.le_refl _) _)).below hb, (Blk.new w _ _).below hb⟩⟩
  have HBS := Lib.hid (fun W (h : TreeAt B xb W (.slice va es.length vc) es) => at9_c xb es x _ W h.1 h.2.row hf hx hlen)
  have HT0 := Lib.hid hT
  have HLE := Lib.hid (lbE_le es x)
  have HIN : Hid (foundE es x = false → addE es x = es.take (lbE es x) ++ x :: es.drop (lbE es x)) := Lib.hid (fun h => by unfold addE; rw [if_neg (by simp [h])]; rfl)
  have HFO : Hid (foundE es x = true → addE es x = es) := Lib.hid (fun h => if_pos h)
  clear hT hf hx
  generalize addE es x = es2 at *
  generalize lbE es x = lb at *
  generalize foundE es x = fd at *
  generalize hX : x = xx at H0 HT0 HBS ⊢
  obtain ⟨⟨k, b, n, f, t⟩, i⟩ := xx
  have HX := Lib.hid hX
  clear hX
  unfold E6.val at HBS ⊢
  unfold E6.cells at H0
  dsimp only at H0 HBS
  have hk := E6.facts H0.out.facts.2
  cases fd
  case true =>
    rw [HFO.out rfl]
    go_enter Try.func14, Try.ntmps14
    go_wp2_with (first | (go_at_call 32; (with_reducible refine (HBS.out _ H0.out.facts.1).mono ?_); rintro e wq ⟨rfl, hq⟩; have HT := Lib.hid (Keep.on (Hid.out (by assumption)) hq); clear hq; skip))
    go_ret
    exact ⟨_, rfl, HT.out.facts.1, .inl rfl, Chg.ofBelow HT.out.below⟩
  case false =>
    rw [HIN.out rfl]
    go_enter Try.func14, Try.ntmps14
    go_wp2_with (first | (go_at_call 32; (with_reducible refine (HBS.out _ H0.out.facts.1).mono ?_); rintro e wq ⟨rfl, hq⟩; have HT := Lib.hid (Keep.on (Hid.out (by assumption)) hq); clear hq; skip))
    obtain ⟨v, hv⟩ : ∃ v, v = Value.slice va es.length vc := ⟨_, rfl⟩
    have hrow := HT.out.facts.1.2.row
    have HV := Lib.hid hv
    obtain ⟨v1, hh1, hr1⟩ := RowE.hi hrow lb HLE.out
    obtain ⟨v2, hh2, hr2⟩ := RowE.lo hrow lb HLE.out
    rw [← hv] at hh1 hr1 hh2 hr2
    have HR1 := Lib.hid hr1
    have HR2 := Lib.hid hr2
    have HF : Hid (∀ W, Below wq.heap.size wq W → TreeAt B xb W v es) := Lib.hid (fun W hb => by rw [hv]; exact (HT.out.stable W hb).1)
    have HF2 : Hid (∀ W, Below wq.heap.size wq W → _) := Lib.hid (fun W hb => E6.facts (HT.out.stable W hb).2)
    have HW : Hid (Below wq.heap.size wq wq.drew) := Lib.hid (Below.refl _ wq).drew
    have HXR : Hid (∀ W g, Blk W g [.int .i64 k, .bool b, .int .i64 n, .float .f64 f, .string ⟨t.toArray⟩, .int .i64 i] → RowK 6 W (.slice (some ⟨g, 0, none⟩) 1 1) (([x] : List E6).map E6.cells)) := Lib.hid (fun W g hb => by
      rw [HX.out]
      exact RowK.ofBlk (xs := [[.int .i64 k, .bool b, .int .i64 n, .float .f64 f, .string ⟨t.toArray⟩, .int .i64 i]]) hb (by simp) (by simp) (by simp [maxLen]) (by simp))
    have c0 := (HF.out wq (Below.refl _ wq)).1.cell 0 _ rfl
    have c1 := HF2.out wq (Below.refl _ wq)
    clear hv hrow hr1 hr2 hk
    go_wp2_with fail
    refine wp_region_last (n := 21) (S := (fun w' => w'.cell? ⟨xb, 0, none⟩ = some v ∧ (w'.cell? ⟨w.heap.size, 0, none⟩ = some (.int .i64 k) ∧ w'.cell? ⟨w.heap.size, 1, none⟩ = some (.bool b) ∧ w'.cell? ⟨w.heap.size, 2, none⟩ = some (.int .i64 n) ∧ w'.cell? ⟨w.heap.size, 3, none⟩ = some (.float .f64 f) ∧ w'.cell? ⟨w.heap.size, 4, none⟩ = some (.string ⟨t.toArray⟩) ∧ w'.cell? ⟨w.heap.size, 5, none⟩ = some (.int .i64 i)))) (by kernel_rfl) (by kernel_rfl) (by kernel_rfl) ?_ (fun hHeld => ?_)
    · (exact ⟨(HF.out _ HW.out).1.cell 0 _ rfl, HF2.out _ HW.out⟩)
    (refine wpAnyH_take (i := 0) (oi := { dst := some 15, op := Op.move (Operand.tmp 0), type := 26, pos := "tree.go:41", after := #[], guard := none }) (v := ?_) rfl (by kernel_rfl) (by kernel_rfl) (by kernel_rfl) (fun _ _ _ h => h) (Or.inl ⟨by rfl, ?_⟩) (by assumption) ?_; rotate_left; next => (intro w hSw; (try dsimp only at hSw); go_simp; try with_reducible rfl))
    (try simp only [Act.put, List.setIfInBounds_toArray, List.set_cons_zero, List.set_cons_succ])
    (refine wpAnyH_take (i := 2) (oi := { dst := some 17, op := Op.move (Operand.tmp 0), type := 26, pos := "tree.go:41", after := #[], guard := none }) (v := ?_) rfl (by kernel_rfl) (by kernel_rfl) (by kernel_rfl) (fun _ _ _ h => h) (Or.inl ⟨by rfl, ?_⟩) (by assumption) ?_; rotate_left; next => (intro w hSw; (try dsimp only at hSw); go_simp; try with_reducible rfl))
    (try simp only [Act.put, List.setIfInBounds_toArray, List.set_cons_zero, List.set_cons_succ])
    (refine wpAnyH_take (i := 3) (oi := { dst := some 18, op := Op.nilCheck (Operand.tmp 17), type := 0, pos := "tree.go:41", after := #[{ on := 2, ground := Ground.data }], guard := none }) (v := ?_) rfl (by kernel_rfl) (by kernel_rfl) (by kernel_rfl) (fun _ _ _ h => h) (Or.inl ⟨by rfl, ?_⟩) (by assumption) ?_; rotate_left; next => (intro w hSw; (try dsimp only at hSw); go_simp; try with_reducible rfl))
    (try simp only [Act.put, List.setIfInBounds_toArray, List.set_cons_zero, List.set_cons_succ])
    (refine wpAnyH_take (i := 4) (oi := { dst := some 19, op := Op.fieldAddr 29 (Operand.tmp 18) 0, type := 0, pos := "tree.go:41", after := #[{ on := 3, ground := Ground.data }], guard := none }) (v := ?_) rfl (by kernel_rfl) (by kernel_rfl) (by kernel_rfl) (fun _ _ _ h => h) (Or.inl ⟨by rfl, ?_⟩) (by assumption) ?_; rotate_left; next => (intro w hSw; (try dsimp only at hSw); go_simp; try with_reducible rfl))
    (try simp only [Act.put, List.setIfInBounds_toArray, List.set_cons_zero, List.set_cons_succ])
    (refine wpAnyH_take (i := 5) (oi := { dst := some 20, op := Op.load 27 (Operand.tmp 19), type := 27, pos := "tree.go:41", after := #[{ on := 4, ground := Ground.data }], guard := none }) (v := ?_) rfl (by kernel_rfl) (by kernel_rfl) (by kernel_rfl) (fun _ _ _ h => h) (Or.inl ⟨by rfl, ?_⟩) (by assumption) ?_; rotate_left; next => (intro w hSw; (try dsimp only at hSw); go_simp; try with_reducible rfl))
    (try simp only [Act.put, List.setIfInBounds_toArray, List.set_cons_zero, List.set_cons_succ])
    (refine wpAnyH_take (i := 6) (oi := { dst := some 21, op := Op.move (Operand.tmp 5), type := 3, pos := "tree.go:41", after := #[], guard := none }) (v := ?_) rfl (by kernel_rfl) (by kernel_rfl) (by kernel_rfl) (fun _ _ _ h => h) (Or.inl ⟨by rfl, ?_⟩) (by assumption) ?_; rotate_left; next => (intro w hSw; (try dsimp only at hSw); go_simp; try with_reducible rfl))
    (try simp only [Act.put, List.setIfInBounds_toArray, List.set_cons_zero, List.set_cons_succ])
    (refine wpAnyH_take (i := 7) (oi := { dst := some 22, op := Op.slice 27 (Operand.tmp 20) none (some (Operand.tmp 21)) none, type := 27, pos := "tree.go:41", after := #[{ on := 5, ground := Ground.data }, { on := 6, ground := Ground.data }], guard := none }) (v := ?_) rfl (by kernel_rfl) (by kernel_rfl) (by kernel_rfl) (fun _ _ _ h => h) (Or.inl ⟨by rfl, ?_⟩) (by assumption) ?_; rotate_left; next => (intro w hSw; (try dsimp only at hSw); go_simp; try with_reducible rfl))
    (try simp only [Act.put, List.setIfInBounds_toArray, List.set_cons_zero, List.set_cons_succ])
    (refine wpAnyH_take (i := 9) (oi := { dst := some 24, op := Op.load 37 (Operand.tmp 3), type := 37, pos := "tree.go:41", after := #[], guard := none }) (v := ?_) rfl (by kernel_rfl) (by kernel_rfl) (by kernel_rfl) (fun _ _ _ h => h) (Or.inl ⟨by rfl, ?_⟩) (by assumption) ?_; rotate_left; next => (intro w hSw; (try dsimp only at hSw); go_simp; try with_reducible rfl))
    (try simp only [Act.put, List.setIfInBounds_toArray, List.set_cons_zero, List.set_cons_succ])
    (refine wpAnyH_take (i := 12) (oi := { dst := some 27, op := Op.move (Operand.tmp 0), type := 26, pos := "tree.go:41", after := #[], guard := none }) (v := ?_) rfl (by kernel_rfl) (by kernel_rfl) (by kernel_rfl) (fun _ _ _ h => h) (Or.inl ⟨by rfl, ?_⟩) (by assumption) ?_; rotate_left; next => (intro w hSw; (try dsimp only at hSw); go_simp; try with_reducible rfl))
    (try simp only [Act.put, List.setIfInBounds_toArray, List.set_cons_zero, List.set_cons_succ])
    (refine wpAnyH_take (i := 13) (oi := { dst := some 28, op := Op.nilCheck (Operand.tmp 27), type := 0, pos := "tree.go:41", after := #[{ on := 12, ground := Ground.data }], guard := none }) (v := ?_) rfl (by kernel_rfl) (by kernel_rfl) (by kernel_rfl) (fun _ _ _ h => h) (Or.inl ⟨by rfl, ?_⟩) (by assumption) ?_; rotate_left; next => (intro w hSw; (try dsimp only at hSw); go_simp; try with_reducible rfl))
    (try simp only [Act.put, List.setIfInBounds_toArray, List.set_cons_zero, List.set_cons_succ])
    (refine wpAnyH_take (i := 14) (oi := { dst := some 29, op := Op.fieldAddr 29 (Operand.tmp 28) 0, type := 0, pos := "tree.go:41", after := #[{ on := 13, ground := Ground.data }], guard := none }) (v := ?_) rfl (by kernel_rfl) (by kernel_rfl) (by kernel_rfl) (fun _ _ _ h => h) (Or.inl ⟨by rfl, ?_⟩) (by assumption) ?_; rotate_left; next => (intro w hSw; (try dsimp only at hSw); go_simp; try with_reducible rfl))
    (try simp only [Act.put, List.setIfInBounds_toArray, List.set_cons_zero, List.set_cons_succ])
    (refine wpAnyH_take (i := 15) (oi := { dst := some 30, op := Op.load 27 (Operand.tmp 29), type := 27, pos := "tree.go:41", after := #[{ on := 14, ground := Ground.data }], guard := none }) (v := ?_) rfl (by kernel_rfl) (by kernel_rfl) (by kernel_rfl) (fun _ _ _ h => h) (Or.inl ⟨by rfl, ?_⟩) (by assumption) ?_; rotate_left; next => (intro w hSw; (try dsimp only at hSw); go_simp; try with_reducible rfl))
    (try simp only [Act.put, List.setIfInBounds_toArray, List.set_cons_zero, List.set_cons_succ])
    (refine wpAnyH_take (i := 16) (oi := { dst := some 31, op := Op.move (Operand.tmp 5), type := 3, pos := "tree.go:41", after := #[], guard := none }) (v := ?_) rfl (by kernel_rfl) (by kernel_rfl) (by kernel_rfl) (fun _ _ _ h => h) (Or.inl ⟨by rfl, ?_⟩) (by assumption) ?_; rotate_left; next => (intro w hSw; (try dsimp only at hSw); go_simp; try with_reducible rfl))
    (try simp only [Act.put, List.setIfInBounds_toArray, List.set_cons_zero, List.set_cons_succ])
    (refine wpAnyH_take (i := 17) (oi := { dst := some 32, op := Op.slice 27 (Operand.tmp 30) (some (Operand.tmp 31)) none none, type := 27, pos := "tree.go:41", after := #[{ on := 15, ground := Ground.data }, { on := 16, ground := Ground.data }], guard := none }) (v := ?_) rfl (by kernel_rfl) (by kernel_rfl) (by kernel_rfl) (fun _ _ _ h => h) (Or.inl ⟨by rfl, ?_⟩) (by assumption) ?_; rotate_left; next => (intro w hSw; (try dsimp only at hSw); go_simp; try with_reducible rfl))
    (try simp only [Act.put, List.setIfInBounds_toArray, List.set_cons_zero, List.set_cons_succ])
    refine wpAnyH_ready (rs := [1, 10]) (by kernel_rfl) (by simp) ?_
    refine AllReadyH.cons (o := { dst := some 16, op := Op.buildSlice 27 0 #[], type := 27, pos := "tree.go:41", after := #[], guard := none }) rfl (fun K hK => ?_) ?_
    · go_simp
      (have hWq := HW.out; have HO := Lib.hid (own_of hWq); (try (have HX := Lib.hid (HX.out.alloc (.cells #[] 37)))); have HW := Lib.hid (hWq.alloc hWq.size (.cells #[] 37)); clear hWq)
      refine hK.out _ _ ?_ (fun hHeld => ?_)
      · (exact ⟨(HF.out _ HW.out).1.cell 0 _ rfl, HF2.out _ HW.out⟩)
      clear hK K
      (try simp only [Act.put, List.setIfInBounds_toArray, List.set_cons_zero, List.set_cons_succ])
      refine wpAnyH_ready (rs := [8, 10]) (by kernel_rfl) (by simp) ?_
      refine AllReadyH.cons (o := { dst := some 23, op := Op.call { callee := Callee.builtin Builtin.append, args := #[Operand.tmp 16, Operand.tmp 22], argTypes := #[27, 27] }, type := 27, pos := "tree.go:41", after := #[{ on := 1, ground := Ground.data }, { on := 7, ground := Ground.data }], guard := none }) rfl (fun K hK => ?_) ?_
      · (refine step_appE rfl _ _ rfl (by first | rfl | (show Value.slice (some ⟨wq.heap.size + 1, 0, none⟩) 0 0 = _; simp)) (by first | rfl | (show Value.slice (some ⟨wq.heap.size + 1, 0, none⟩) 1 1 = _; simp)) HO.out (HR1.out _ (HF.out _ HW.out).2.row) (by simp; omega) HW.out.size ?_; intro va1 nn1 vc1 w1 hown hgr hne; (try (have HX := Lib.hid (HX.out.grown hgr (by simp [Value.ownBlock])))); have HW := Lib.hid (HW.out.grown hgr HW.out.size (fun q hq => (HO.out.lt q hq).1)); have HO := Lib.hid hown; have HNE := Lib.hid (hne (by simp)); clear hown hgr hne)
        refine hK.out _ _ ?_ (fun hHeld => ?_)
        · (exact ⟨(HF.out _ HW.out).1.cell 0 _ rfl, HF2.out _ HW.out⟩)
        clear hK K
        (try simp only [Act.put, List.setIfInBounds_toArray, List.set_cons_zero, List.set_cons_succ])
        refine wpAnyH_ready (rs := [10]) (by kernel_rfl) (by simp) ?_
        refine AllReadyH.cons (o := { dst := some 25, op := Op.buildSlice 27 1 #[(0, Operand.tmp 24)], type := 27, pos := "tree.go:41", after := #[{ on := 9, ground := Ground.data }], guard := none }) rfl (fun K hK => ?_) ?_
        · go_simp
          (have hWq := HW.out; (try (have HO := Lib.hid (HO.out.alloc (.cells #[.int .i64 k, .bool b, .int .i64 n, .float .f64 f, .string ⟨t.toArray⟩, .int .i64 i] 37)))); have HX := Lib.hid (blk_of hWq [.int .i64 k, .bool b, .int .i64 n, .float .f64 f, .string ⟨t.toArray⟩, .int .i64 i] 37); have HW := Lib.hid (hWq.alloc hWq.size (.cells #[.int .i64 k, .bool b, .int .i64 n, .float .f64 f, .string ⟨t.toArray⟩, .int .i64 i] 37)); clear hWq)
          refine hK.out _ _ ?_ (fun hHeld => ?_)
          · (exact ⟨(HF.out _ HW.out).1.cell 0 _ rfl, HF2.out _ HW.out⟩)
          clear hK K
          (try simp only [Act.put, List.setIfInBounds_toArray, List.set_cons_zero, List.set_cons_succ])
          refine wpAnyH_ready (rs := [11]) (by kernel_rfl) (by simp) ?_
          refine AllReadyH.cons (o := { dst := some 26, op := Op.call { callee := Callee.builtin Builtin.append, args := #[Operand.tmp 23, Operand.tmp 25], argTypes := #[27, 27] }, type := 27, pos := "tree.go:41", after := #[{ on := 8, ground := Ground.data }, { on := 10, ground := Ground.data }, { on := 8, ground := Ground.chain }], guard := none }) rfl (fun K hK => ?_) ?_
          · (refine step_appE rfl _ _ rfl (by first | rfl | (show Value.slice (some ⟨wq.heap.size + 1, 0, none⟩) 0 0 = _; simp)) (by first | rfl | (show Value.slice (some ⟨wq.heap.size + 1, 0, none⟩) 1 1 = _; simp)) HO.out (HXR.out _ _ HX.out) (by simp; omega) HW.out.size ?_; intro va2 nn2 vc2 w2 hown hgr hne; have HW := Lib.hid (HW.out.grown hgr HW.out.size (fun q hq => (HO.out.lt q hq).1)); have HO := Lib.hid hown; have HNE := Lib.hid (hne (fun h => HNE.out (by simp only [Value.slice.injEq] at h; exact h.1))); clear hown hgr hne)
            refine hK.out _ _ ?_ (fun hHeld => ?_)
            · (exact ⟨(HF.out _ HW.out).1.cell 0 _ rfl, HF2.out _ HW.out⟩)
            clear hK K
            (try simp only [Act.put, List.setIfInBounds_toArray, List.set_cons_zero, List.set_cons_succ])
            refine wpAnyH_ready (rs := [18]) (by kernel_rfl) (by simp) ?_
            refine AllReadyH.cons (o := { dst := some 33, op := Op.call { callee := Callee.builtin Builtin.append, args := #[Operand.tmp 26, Operand.tmp 32], argTypes := #[27, 27] }, type := 27, pos := "tree.go:41", after := #[{ on := 11, ground := Ground.data }, { on := 17, ground := Ground.data }, { on := 11, ground := Ground.chain }], guard := none }) rfl (fun K hK => ?_) ?_
            · (refine step_appE rfl _ _ rfl (by first | rfl | (show Value.slice (some ⟨wq.heap.size + 1, 0, none⟩) 0 0 = _; simp)) (by first | rfl | (show Value.slice (some ⟨wq.heap.size + 1, 0, none⟩) 1 1 = _; simp)) HO.out (HR2.out _ (HF.out _ HW.out).2.row) (by simp; omega) HW.out.size ?_; intro va3 nn3 vc3 w3 hown hgr hne; have HW := Lib.hid (HW.out.grown hgr HW.out.size (fun q hq => (HO.out.lt q hq).1)); have HO := Lib.hid hown; have HNE := Lib.hid (hne (fun h => HNE.out (by simp only [Value.slice.injEq] at h; exact h.1))); clear hown hgr hne)
              refine hK.out _ _ ?_ (fun hHeld => ?_)
              · (exact ⟨(HF.out _ HW.out).1.cell 0 _ rfl, HF2.out _ HW.out⟩)
              clear hK K
              (try simp only [Act.put, List.setIfInBounds_toArray, List.set_cons_zero, List.set_cons_succ])
              (refine wpAnyH_take (i := 19) (oi := { dst := some 34, op := Op.nilCheck (Operand.tmp 15), type := 0, pos := "tree.go:41", after := #[{ on := 0, ground := Ground.data }, { on := 0, ground := Ground.phase }, { on := 1, ground := Ground.phase }, { on := 2, ground := Ground.phase }, { on := 3, ground := Ground.phase }, { on := 4, ground := Ground.phase }, { on := 5, ground := Ground.phase }, { on := 6, ground := Ground.phase }, { on := 7, ground := Ground.phase }, { on := 8, ground := Ground.phase }, { on := 9, ground := Ground.phase }, { on := 10, ground := Ground.phase }, { on := 11, ground := Ground.phase }, { on := 12, ground := Ground.phase }, { on := 13, ground := Ground.phase }, { on := 14, ground := Ground.phase }, { on := 15, ground := Ground.phase }, { on := 16, ground := Ground.phase }, { on := 17, ground := Ground.phase }, { on := 18, ground := Ground.phase }], guard := none }) (v := ?_) rfl (by kernel_rfl) (by kernel_rfl) (by kernel_rfl) (fun _ _ _ h => h) (Or.inl ⟨by rfl, ?_⟩) (by assumption) ?_; rotate_left; next => (intro w hSw; (try dsimp only at hSw); go_simp; try with_reducible rfl))
              (try simp only [Act.put, List.setIfInBounds_toArray, List.set_cons_zero, List.set_cons_succ])
              (refine wpAnyH_take (i := 20) (oi := { dst := some 35, op := Op.fieldAddr 29 (Operand.tmp 34) 0, type := 0, pos := "tree.go:41", after := #[{ on := 19, ground := Ground.data }, { on := 0, ground := Ground.phase }, { on := 1, ground := Ground.phase }, { on := 2, ground := Ground.phase }, { on := 3, ground := Ground.phase }, { on := 4, ground := Ground.phase }, { on := 5, ground := Ground.phase }, { on := 6, ground := Ground.phase }, { on := 7, ground := Ground.phase }, { on := 8, ground := Ground.phase }, { on := 9, ground := Ground.phase }, { on := 10, ground := Ground.phase }, { on := 11, ground := Ground.phase }, { on := 12, ground := Ground.phase }, { on := 13, ground := Ground.phase }, { on := 14, ground := Ground.phase }, { on := 15, ground := Ground.phase }, { on := 16, ground := Ground.phase }, { on := 17, ground := Ground.phase }, { on := 18, ground := Ground.phase }], guard := none }) (v := ?_) rfl (by kernel_rfl) (by kernel_rfl) (by kernel_rfl) (fun _ _ _ h => h) (Or.inl ⟨by rfl, ?_⟩) (by assumption) ?_; rotate_left; next => (intro w hSw; (try dsimp only at hSw); go_simp; try with_reducible rfl))
              (try simp only [Act.put, List.setIfInBounds_toArray, List.set_cons_zero, List.set_cons_succ])
              refine wpAnyH_done (by kernel_rfl) ?_ _
              ((obtain ⟨e0, e1, hN⟩ := ref_store (v := v) (by rw [HV.out]; exact HT0.out) hB HT.out.below HW.out HNE.out HO.out); have HN := Lib.hid hN; clear hN; refine last_do rfl (fun K hK => ?_); go_simp; refine hK.out _ _ ?_; clear hK K; go_wp2_with fail; go_ret; have hfin := HN.out; rw [HV.out] at hfin; exact ⟨_, rfl, by simpa using hfin.1, hfin.2.1, hfin.2.2⟩)
            exact AllReadyH.nil
          exact AllReadyH.nil
        exact AllReadyH.nil
      refine AllReadyH.cons (o := { dst := some 25, op := Op.buildSlice 27 1 #[(0, Operand.tmp 24)], type := 27, pos := "tree.go:41", after := #[{ on := 9, ground := Ground.data }], guard := none }) rfl (fun K hK => ?_) ?_
      · go_simp
        (have hWq := HW.out; (try (have HO := Lib.hid (HO.out.alloc (.cells #[.int .i64 k, .bool b, .int .i64 n, .float .f64 f, .string ⟨t.toArray⟩, .int .i64 i] 37)))); have HX := Lib.hid (blk_of hWq [.int .i64 k, .bool b, .int .i64 n, .float .f64 f, .string ⟨t.toArray⟩, .int .i64 i] 37); have HW := Lib.hid (hWq.alloc hWq.size (.cells #[.int .i64 k, .bool b, .int .i64 n, .float .f64 f, .string ⟨t.toArray⟩, .int .i64 i] 37)); clear hWq)
        refine hK.out _ _ ?_ (fun hHeld => ?_)
        · (exact ⟨(HF.out _ HW.out).1.cell 0 _ rfl, HF2.out _ HW.out⟩)
        clear hK K
        (try simp only [Act.put, List.setIfInBounds_toArray, List.set_cons_zero, List.set_cons_succ])
        refine wpAnyH_ready (rs := [8]) (by kernel_rfl) (by simp) ?_
        refine AllReadyH.cons (o := { dst := some 23, op := Op.call { callee := Callee.builtin Builtin.append, args := #[Operand.tmp 16, Operand.tmp 22], argTypes := #[27, 27] }, type := 27, pos := "tree.go:41", after := #[{ on := 1, ground := Ground.data }, { on := 7, ground := Ground.data }], guard := none }) rfl (fun K hK => ?_) ?_
        · (refine step_appE rfl _ _ rfl (by first | rfl | (show Value.slice (some ⟨wq.heap.size + 1, 0, none⟩) 0 0 = _; simp)) (by first | rfl | (show Value.slice (some ⟨wq.heap.size + 1, 0, none⟩) 1 1 = _; simp)) HO.out (HR1.out _ (HF.out _ HW.out).2.row) (by simp; omega) HW.out.size ?_; intro va1 nn1 vc1 w1 hown hgr hne; (try (have HX := Lib.hid (HX.out.grown hgr (by simp [Value.ownBlock])))); have HW := Lib.hid (HW.out.grown hgr HW.out.size (fun q hq => (HO.out.lt q hq).1)); have HO := Lib.hid hown; have HNE := Lib.hid (hne (by simp)); clear hown hgr hne)
          refine hK.out _ _ ?_ (fun hHeld => ?_)
          · (exact ⟨(HF.out _ HW.out).1.cell 0 _ rfl, HF2.out _ HW.out⟩)
          clear hK K
          (try simp only [Act.put, List.setIfInBounds_toArray, List.set_cons_zero, List.set_cons_succ])
          refine wpAnyH_ready (rs := [11]) (by kernel_rfl) (by simp) ?_
          refine AllReadyH.cons (o := { dst := some 26, op := Op.call { callee := Callee.builtin Builtin.append, args := #[Operand.tmp 23, Operand.tmp 25], argTypes := #[27, 27] }, type := 27, pos := "tree.go:41", after := #[{ on := 8, ground := Ground.data }, { on := 10, ground := Ground.data }, { on := 8, ground := Ground.chain }], guard := none }) rfl (fun K hK => ?_) ?_
          · (refine step_appE rfl _ _ rfl (by first | rfl | (show Value.slice (some ⟨wq.heap.size + 1, 0, none⟩) 0 0 = _; simp)) (by first | rfl | (show Value.slice (some ⟨wq.heap.size + 1, 0, none⟩) 1 1 = _; simp)) HO.out (HXR.out _ _ HX.out) (by simp; omega) HW.out.size ?_; intro va2 nn2 vc2 w2 hown hgr hne; have HW := Lib.hid (HW.out.grown hgr HW.out.size (fun q hq => (HO.out.lt q hq).1)); have HO := Lib.hid hown; have HNE := Lib.hid (hne (fun h => HNE.out (by simp only [Value.slice.injEq] at h; exact h.1))); clear hown hgr hne)
            refine hK.out _ _ ?_ (fun hHeld => ?_)
            · (exact ⟨(HF.out _ HW.out).1.cell 0 _ rfl, HF2.out _ HW.out⟩)
            clear hK K
            (try simp only [Act.put, List.setIfInBounds_toArray, List.set_cons_zero, List.set_cons_succ])
            refine wpAnyH_ready (rs := [18]) (by kernel_rfl) (by simp) ?_
            refine AllReadyH.cons (o := { dst := some 33, op := Op.call { callee := Callee.builtin Builtin.append, args := #[Operand.tmp 26, Operand.tmp 32], argTypes := #[27, 27] }, type := 27, pos := "tree.go:41", after := #[{ on := 11, ground := Ground.data }, { on := 17, ground := Ground.data }, { on := 11, ground := Ground.chain }], guard := none }) rfl (fun K hK => ?_) ?_
            · (refine step_appE rfl _ _ rfl (by first | rfl | (show Value.slice (some ⟨wq.heap.size + 1, 0, none⟩) 0 0 = _; simp)) (by first | rfl | (show Value.slice (some ⟨wq.heap.size + 1, 0, none⟩) 1 1 = _; simp)) HO.out (HR2.out _ (HF.out _ HW.out).2.row) (by simp; omega) HW.out.size ?_; intro va3 nn3 vc3 w3 hown hgr hne; have HW := Lib.hid (HW.out.grown hgr HW.out.size (fun q hq => (HO.out.lt q hq).1)); have HO := Lib.hid hown; have HNE := Lib.hid (hne (fun h => HNE.out (by simp only [Value.slice.injEq] at h; exact h.1))); clear hown hgr hne)
              refine hK.out _ _ ?_ (fun hHeld => ?_)
              · (exact ⟨(HF.out _ HW.out).1.cell 0 _ rfl, HF2.out _ HW.out⟩)
              clear hK K
              (try simp only [Act.put, List.setIfInBounds_toArray, List.set_cons_zero, List.set_cons_succ])
              (refine wpAnyH_take (i := 19) (oi := { dst := some 34, op := Op.nilCheck (Operand.tmp 15), type := 0, pos := "tree.go:41", after := #[{ on := 0, ground := Ground.data }, { on := 0, ground := Ground.phase }, { on := 1, ground := Ground.phase }, { on := 2, ground := Ground.phase }, { on := 3, ground := Ground.phase }, { on := 4, ground := Ground.phase }, { on := 5, ground := Ground.phase }, { on := 6, ground := Ground.phase }, { on := 7, ground := Ground.phase }, { on := 8, ground := Ground.phase }, { on := 9, ground := Ground.phase }, { on := 10, ground := Ground.phase }, { on := 11, ground := Ground.phase }, { on := 12, ground := Ground.phase }, { on := 13, ground := Ground.phase }, { on := 14, ground := Ground.phase }, { on := 15, ground := Ground.phase }, { on := 16, ground := Ground.phase }, { on := 17, ground := Ground.phase }, { on := 18, ground := Ground.phase }], guard := none }) (v := ?_) rfl (by kernel_rfl) (by kernel_rfl) (by kernel_rfl) (fun _ _ _ h => h) (Or.inl ⟨by rfl, ?_⟩) (by assumption) ?_; rotate_left; next => (intro w hSw; (try dsimp only at hSw); go_simp; try with_reducible rfl))
              (try simp only [Act.put, List.setIfInBounds_toArray, List.set_cons_zero, List.set_cons_succ])
              (refine wpAnyH_take (i := 20) (oi := { dst := some 35, op := Op.fieldAddr 29 (Operand.tmp 34) 0, type := 0, pos := "tree.go:41", after := #[{ on := 19, ground := Ground.data }, { on := 0, ground := Ground.phase }, { on := 1, ground := Ground.phase }, { on := 2, ground := Ground.phase }, { on := 3, ground := Ground.phase }, { on := 4, ground := Ground.phase }, { on := 5, ground := Ground.phase }, { on := 6, ground := Ground.phase }, { on := 7, ground := Ground.phase }, { on := 8, ground := Ground.phase }, { on := 9, ground := Ground.phase }, { on := 10, ground := Ground.phase }, { on := 11, ground := Ground.phase }, { on := 12, ground := Ground.phase }, { on := 13, ground := Ground.phase }, { on := 14, ground := Ground.phase }, { on := 15, ground := Ground.phase }, { on := 16, ground := Ground.phase }, { on := 17, ground := Ground.phase }, { on := 18, ground := Ground.phase }], guard := none }) (v := ?_) rfl (by kernel_rfl) (by kernel_rfl) (by kernel_rfl) (fun _ _ _ h => h) (Or.inl ⟨by rfl, ?_⟩) (by assumption) ?_; rotate_left; next => (intro w hSw; (try dsimp only at hSw); go_simp; try with_reducible rfl))
              (try simp only [Act.put, List.setIfInBounds_toArray, List.set_cons_zero, List.set_cons_succ])
              refine wpAnyH_done (by kernel_rfl) ?_ _
              ((obtain ⟨e0, e1, hN⟩ := ref_store (v := v) (by rw [HV.out]; exact HT0.out) hB HT.out.below HW.out HNE.out HO.out); have HN := Lib.hid hN; clear hN; refine last_do rfl (fun K hK => ?_); go_simp; refine hK.out _ _ ?_; clear hK K; go_wp2_with fail; go_ret; have hfin := HN.out; rw [HV.out] at hfin; exact ⟨_, rfl, by simpa using hfin.1, hfin.2.1, hfin.2.2⟩)
            exact AllReadyH.nil
          exact AllReadyH.nil
        exact AllReadyH.nil
      exact AllReadyH.nil
    refine AllReadyH.cons (o := { dst := some 25, op := Op.buildSlice 27 1 #[(0, Operand.tmp 24)], type := 27, pos := "tree.go:41", after := #[{ on := 9, ground := Ground.data }], guard := none }) rfl (fun K hK => ?_) ?_
    · go_simp
      (have hWq := HW.out; (try (have HO := Lib.hid (HO.out.alloc (.cells #[.int .i64 k, .bool b, .int .i64 n, .float .f64 f, .string ⟨t.toArray⟩, .int .i64 i] 37)))); have HX := Lib.hid (blk_of hWq [.int .i64 k, .bool b, .int .i64 n, .float .f64 f, .string ⟨t.toArray⟩, .int .i64 i] 37); have HW := Lib.hid (hWq.alloc hWq.size (.cells #[.int .i64 k, .bool b, .int .i64 n, .float .f64 f, .string ⟨t.toArray⟩, .int .i64 i] 37)); clear hWq)
      refine hK.out _ _ ?_ (fun hHeld => ?_)
      · (exact ⟨(HF.out _ HW.out).1.cell 0 _ rfl, HF2.out _ HW.out⟩)
      clear hK K
      (try simp only [Act.put, List.setIfInBounds_toArray, List.set_cons_zero, List.set_cons_succ])
      refine wpAnyH_ready (rs := [1]) (by kernel_rfl) (by simp) ?_
      refine AllReadyH.cons (o := { dst := some 16, op := Op.buildSlice 27 0 #[], type := 27, pos := "tree.go:41", after := #[], guard := none }) rfl (fun K hK => ?_) ?_
      · go_simp
        (have hWq := HW.out; have HO := Lib.hid (own_of hWq); (try (have HX := Lib.hid (HX.out.alloc (.cells #[] 37)))); have HW := Lib.hid (hWq.alloc hWq.size (.cells #[] 37)); clear hWq)
        refine hK.out _ _ ?_ (fun hHeld => ?_)
        · (exact ⟨(HF.out _ HW.out).1.cell 0 _ rfl, HF2.out _ HW.out⟩)
        clear hK K
        (try simp only [Act.put, List.setIfInBounds_toArray, List.set_cons_zero, List.set_cons_succ])
        refine wpAnyH_ready (rs := [8]) (by kernel_rfl) (by simp) ?_
        refine AllReadyH.cons (o := { dst := some 23, op := Op.call { callee := Callee.builtin Builtin.append, args := #[Operand.tmp 16, Operand.tmp 22], argTypes := #[27, 27] }, type := 27, pos := "tree.go:41", after := #[{ on := 1, ground := Ground.data }, { on := 7, ground := Ground.data }], guard := none }) rfl (fun K hK => ?_) ?_
        · (refine step_appE rfl _ _ rfl (by first | rfl | (show Value.slice (some ⟨wq.heap.size + 1, 0, none⟩) 0 0 = _; simp)) (by first | rfl | (show Value.slice (some ⟨wq.heap.size + 1, 0, none⟩) 1 1 = _; simp)) HO.out (HR1.out _ (HF.out _ HW.out).2.row) (by simp; omega) HW.out.size ?_; intro va1 nn1 vc1 w1 hown hgr hne; (try (have HX := Lib.hid (HX.out.grown hgr (by simp [Value.ownBlock])))); have HW := Lib.hid (HW.out.grown hgr HW.out.size (fun q hq => (HO.out.lt q hq).1)); have HO := Lib.hid hown; have HNE := Lib.hid (hne (by simp)); clear hown hgr hne)
          refine hK.out _ _ ?_ (fun hHeld => ?_)
          · (exact ⟨(HF.out _ HW.out).1.cell 0 _ rfl, HF2.out _ HW.out⟩)
          clear hK K
          (try simp only [Act.put, List.setIfInBounds_toArray, List.set_cons_zero, List.set_cons_succ])
          refine wpAnyH_ready (rs := [11]) (by kernel_rfl) (by simp) ?_
          refine AllReadyH.cons (o := { dst := some 26, op := Op.call { callee := Callee.builtin Builtin.append, args := #[Operand.tmp 23, Operand.tmp 25], argTypes := #[27, 27] }, type := 27, pos := "tree.go:41", after := #[{ on := 8, ground := Ground.data }, { on := 10, ground := Ground.data }, { on := 8, ground := Ground.chain }], guard := none }) rfl (fun K hK => ?_) ?_
          · (refine step_appE rfl _ _ rfl (by first | rfl | (show Value.slice (some ⟨wq.heap.size + 1, 0, none⟩) 0 0 = _; simp)) (by first | rfl | (show Value.slice (some ⟨wq.heap.size + 1, 0, none⟩) 1 1 = _; simp)) HO.out (HXR.out _ _ HX.out) (by simp; omega) HW.out.size ?_; intro va2 nn2 vc2 w2 hown hgr hne; have HW := Lib.hid (HW.out.grown hgr HW.out.size (fun q hq => (HO.out.lt q hq).1)); have HO := Lib.hid hown; have HNE := Lib.hid (hne (fun h => HNE.out (by simp only [Value.slice.injEq] at h; exact h.1))); clear hown hgr hne)
            refine hK.out _ _ ?_ (fun hHeld => ?_)
            · (exact ⟨(HF.out _ HW.out).1.cell 0 _ rfl, HF2.out _ HW.out⟩)
            clear hK K
            (try simp only [Act.put, List.setIfInBounds_toArray, List.set_cons_zero, List.set_cons_succ])
            refine wpAnyH_ready (rs := [18]) (by kernel_rfl) (by simp) ?_
            refine AllReadyH.cons (o := { dst := some 33, op := Op.call { callee := Callee.builtin Builtin.append, args := #[Operand.tmp 26, Operand.tmp 32], argTypes := #[27, 27] }, type := 27, pos := "tree.go:41", after := #[{ on := 11, ground := Ground.data }, { on := 17, ground := Ground.data }, { on := 11, ground := Ground.chain }], guard := none }) rfl (fun K hK => ?_) ?_
            · (refine step_appE rfl _ _ rfl (by first | rfl | (show Value.slice (some ⟨wq.heap.size + 1, 0, none⟩) 0 0 = _; simp)) (by first | rfl | (show Value.slice (some ⟨wq.heap.size + 1, 0, none⟩) 1 1 = _; simp)) HO.out (HR2.out _ (HF.out _ HW.out).2.row) (by simp; omega) HW.out.size ?_; intro va3 nn3 vc3 w3 hown hgr hne; have HW := Lib.hid (HW.out.grown hgr HW.out.size (fun q hq => (HO.out.lt q hq).1)); have HO := Lib.hid hown; have HNE := Lib.hid (hne (fun h => HNE.out (by simp only [Value.slice.injEq] at h; exact h.1))); clear hown hgr hne)
              refine hK.out _ _ ?_ (fun hHeld => ?_)
              · (exact ⟨(HF.out _ HW.out).1.cell 0 _ rfl, HF2.out _ HW.out⟩)
              clear hK K
              (try simp only [Act.put, List.setIfInBounds_toArray, List.set_cons_zero, List.set_cons_succ])
              (refine wpAnyH_take (i := 19) (oi := { dst := some 34, op := Op.nilCheck (Operand.tmp 15), type := 0, pos := "tree.go:41", after := #[{ on := 0, ground := Ground.data }, { on := 0, ground := Ground.phase }, { on := 1, ground := Ground.phase }, { on := 2, ground := Ground.phase }, { on := 3, ground := Ground.phase }, { on := 4, ground := Ground.phase }, { on := 5, ground := Ground.phase }, { on := 6, ground := Ground.phase }, { on := 7, ground := Ground.phase }, { on := 8, ground := Ground.phase }, { on := 9, ground := Ground.phase }, { on := 10, ground := Ground.phase }, { on := 11, ground := Ground.phase }, { on := 12, ground := Ground.phase }, { on := 13, ground := Ground.phase }, { on := 14, ground := Ground.phase }, { on := 15, ground := Ground.phase }, { on := 16, ground := Ground.phase }, { on := 17, ground := Ground.phase }, { on := 18, ground := Ground.phase }], guard := none }) (v := ?_) rfl (by kernel_rfl) (by kernel_rfl) (by kernel_rfl) (fun _ _ _ h => h) (Or.inl ⟨by rfl, ?_⟩) (by assumption) ?_; rotate_left; next => (intro w hSw; (try dsimp only at hSw); go_simp; try with_reducible rfl))
              (try simp only [Act.put, List.setIfInBounds_toArray, List.set_cons_zero, List.set_cons_succ])
              (refine wpAnyH_take (i := 20) (oi := { dst := some 35, op := Op.fieldAddr 29 (Operand.tmp 34) 0, type := 0, pos := "tree.go:41", after := #[{ on := 19, ground := Ground.data }, { on := 0, ground := Ground.phase }, { on := 1, ground := Ground.phase }, { on := 2, ground := Ground.phase }, { on := 3, ground := Ground.phase }, { on := 4, ground := Ground.phase }, { on := 5, ground := Ground.phase }, { on := 6, ground := Ground.phase }, { on := 7, ground := Ground.phase }, { on := 8, ground := Ground.phase }, { on := 9, ground := Ground.phase }, { on := 10, ground := Ground.phase }, { on := 11, ground := Ground.phase }, { on := 12, ground := Ground.phase }, { on := 13, ground := Ground.phase }, { on := 14, ground := Ground.phase }, { on := 15, ground := Ground.phase }, { on := 16, ground := Ground.phase }, { on := 17, ground := Ground.phase }, { on := 18, ground := Ground.phase }], guard := none }) (v := ?_) rfl (by kernel_rfl) (by kernel_rfl) (by kernel_rfl) (fun _ _ _ h => h) (Or.inl ⟨by rfl, ?_⟩) (by assumption) ?_; rotate_left; next => (intro w hSw; (try dsimp only at hSw); go_simp; try with_reducible rfl))
              (try simp only [Act.put, List.setIfInBounds_toArray, List.set_cons_zero, List.set_cons_succ])
              refine wpAnyH_done (by kernel_rfl) ?_ _
              ((obtain ⟨e0, e1, hN⟩ := ref_store (v := v) (by rw [HV.out]; exact HT0.out) hB HT.out.below HW.out HNE.out HO.out); have HN := Lib.hid hN; clear hN; refine last_do rfl (fun K hK => ?_); go_simp; refine hK.out _ _ ?_; clear hK K; go_wp2_with fail; go_ret; have hfin := HN.out; rw [HV.out] at hfin; exact ⟨_, rfl, by simpa using hfin.1, hfin.2.1, hfin.2.2⟩)
            exact AllReadyH.nil
          exact AllReadyH.nil
        exact AllReadyH.nil
      exact AllReadyH.nil
    exact AllReadyH.nil
set_option maxRecDepth 100000 in
set_option maxHeartbeats 4000000 in
theorem Del9_c (B xb : Nat) (es : List E6) (x : E6) (v : Value) (w : World) (hT : TreeAt B xb w v es) (hB : B ≤ w.heap.size) (hlen : es.length ≤ 1099511627776) (hf : ∀ e ∈ es, okF e) (hx : okF x) :
    Calls Try.prog 25 #[.pointer (some ⟨xb, 0, none⟩), x.val] w (TreeTo B xb w v (.bool (foundE es x)) (remE es x)) := by
  obtain ⟨va, vc, rfl⟩ := owns_shape hT.2
  have H0 : Hid (Keep w (fun W => TreeAt B xb W (.slice va es.length vc) es ∧ Blk W w.heap.size x.cells) (w.alloc (.cells x.cells.toArray 37))) :=
    Lib.hid ⟨⟨hT.below ((Below.refl _ w).alloc (Nat.le_refl _) _), Blk.new w _ _⟩, (Below.refl _ w).alloc (Nat.le_refl _) _, fun w' hb => ⟨(hT.below ((Below.refl _ w).alloc (Nat.le_refl _) _)).below hb, (Blk.new w _ _).below hb⟩⟩
  have HBS := Lib.hid (fun W (h : TreeAt B xb W (.slice va es.length vc) es) => at9_c xb es x _ W h.1 h.2.row hf hx hlen)
  have HT0 := Lib.hid hT
  have HLE := Lib.hid (lbE_le es x)
  have HIN : Hid (foundE es x = true → remE es x = es.take (lbE es x) ++ es.drop (lbE es x + 1) ∧ lbE es x < es.length) := Lib.hid (fun h => ⟨by unfold remE; rw [if_pos h]; rfl, foundE_lt h⟩)
  have HFO : Hid (foundE es x = false → remE es x = es) := Lib.hid (fun h => if_neg (by simp [h]))
  clear hT hf hx
  generalize remE es x = es2 at *
  generalize lbE es x = lb at *
  generalize foundE es x = fd at *
  generalize hX : x = xx at H0 HT0 HBS ⊢
  obtain ⟨⟨k, b, n, f, t⟩, i⟩ := xx
  have HX := Lib.hid hX
  clear hX
  unfold E6.val at HBS ⊢
  unfold E6.cells at H0
  dsimp only at H0 HBS
  have hk := E6.facts H0.out.facts.2
  cases fd
  case false =>
    rw [HFO.out rfl]
    go_enter Try.func25, Try.ntmps25
    go_wp2_with (first | (go_at_call 32; (with_reducible refine (HBS.out _ H0.out.facts.1).mono ?_); rintro e wq ⟨rfl, hq⟩; have HT := Lib.hid (Keep.on (Hid.out (by assumption)) hq); clear hq; skip))
    go_ret
    exact ⟨_, rfl, HT.out.facts.1, .inl rfl, Chg.ofBelow HT.out.below⟩
  case true =>
    rw [(HIN.out rfl).1]
    go_enter Try.func25, Try.ntmps25
    go_wp2_with (first | (go_at_call 32; (with_reducible refine (HBS.out _ H0.out.facts.1).mono ?_); rintro e wq ⟨rfl, hq⟩; have HT := Lib.hid (Keep.on (Hid.out (by assumption)) hq); clear hq; skip))
    obtain ⟨v, hv⟩ : ∃ v, v = Value.slice va es.length vc := ⟨_, rfl⟩
    have hrow := HT.out.facts.1.2.row
    have HV := Lib.hid hv
    obtain ⟨v1, hh1, hr1⟩ := RowE.hi hrow lb (by have := (HIN.out (by first | rfl | trivial)).2; omega)
    obtain ⟨v2, hh2, hr2⟩ := RowE.lo hrow (lb + 1) (HIN.out (by first | rfl | trivial)).2
    rw [← hv] at hh1 hr1 hh2 hr2
    have HR1 := Lib.hid hr1
    have HR2 := Lib.hid hr2
    have HF : Hid (∀ W, Below wq.heap.size wq W → TreeAt B xb W v es) := Lib.hid (fun W hb => by rw [hv]; exact (HT.out.stable W hb).1)
    have HW : Hid (Below wq.heap.size wq wq.drew) := Lib.hid (Below.refl _ wq).drew
    have hlb := (HIN.out (by first | rfl | trivial)).2
    have hwr : IntKind.i64.wrap ((lb : Int) + 1) = (lb : Int) + 1 := by rw [IntKind.wrap_i64]; omega
    have hh2 : ∀ (w' : World) (kk : IntKind), (Instr.slice 27 v (some (.int kk ((lb : Int) + 1))) none none).run Try.prog w' = .ok v2 w' := hh2
    have c0 := (HF.out wq (Below.refl _ wq)).1.cell 0 _ rfl
    clear hv hrow hr1 hr2 hk
    go_wp2_with fail
    refine wp_region_last (n := 19) (S := (fun w' => w'.cell? ⟨xb, 0, none⟩ = some v)) (by kernel_rfl) (by kernel_rfl) (by kernel_rfl) ?_ (fun hHeld => ?_)
    · (exact (HF.out _ HW.out).1.cell 0 _ rfl)
    (refine wpAnyH_take (i := 0) (oi := { dst := some 14, op := Op.move (Operand.tmp 0), type := 26, pos := "tree.go:50", after := #[], guard := none }) (v := ?_) rfl (by kernel_rfl) (by kernel_rfl) (by kernel_rfl) (fun _ _ _ h => h) (Or.inl ⟨by rfl, ?_⟩) (by assumption) ?_; rotate_left; next => (intro w hSw; (try dsimp only at hSw); go_simp; try with_reducible rfl))
    (try simp only [Act.put, List.setIfInBounds_toArray, List.set_cons_zero, List.set_cons_succ])
    (refine wpAnyH_take (i := 2) (oi := { dst := some 16, op := Op.move (Operand.tmp 0), type := 26, pos := "tree.go:50", after := #[], guard := none }) (v := ?_) rfl (by kernel_rfl) (by kernel_rfl) (by kernel_rfl) (fun _ _ _ h => h) (Or.inl ⟨by rfl, ?_⟩) (by assumption) ?_; rotate_left; next => (intro w hSw; (try dsimp only at hSw); go_simp; try with_reducible rfl))
    (try simp only [Act.put, List.setIfInBounds_toArray, List.set_cons_zero, List.set_cons_succ])
    (refine wpAnyH_take (i := 3) (oi := { dst := some 17, op := Op.nilCheck (Operand.tmp 16), type := 0, pos := "tree.go:50", after := #[{ on := 2, ground := Ground.data }], guard := none }) (v := ?_) rfl (by kernel_rfl) (by kernel_rfl) (by kernel_rfl) (fun _ _ _ h => h) (Or.inl ⟨by rfl, ?_⟩) (by assumption) ?_; rotate_left; next => (intro w hSw; (try dsimp only at hSw); go_simp; try with_reducible rfl))
    (try simp only [Act.put, List.setIfInBounds_toArray, List.set_cons_zero, List.set_cons_succ])
    (refine wpAnyH_take (i := 4) (oi := { dst := some 18, op := Op.fieldAddr 29 (Operand.tmp 17) 0, type := 0, pos := "tree.go:50", after := #[{ on := 3, ground := Ground.data }], guard := none }) (v := ?_) rfl (by kernel_rfl) (by kernel_rfl) (by kernel_rfl) (fun _ _ _ h => h) (Or.inl ⟨by rfl, ?_⟩) (by assumption) ?_; rotate_left; next => (intro w hSw; (try dsimp only at hSw); go_simp; try with_reducible rfl))
    (try simp only [Act.put, List.setIfInBounds_toArray, List.set_cons_zero, List.set_cons_succ])
    (refine wpAnyH_take (i := 5) (oi := { dst := some 19, op := Op.load 27 (Operand.tmp 18), type := 27, pos := "tree.go:50", after := #[{ on := 4, ground := Ground.data }], guard := none }) (v := ?_) rfl (by kernel_rfl) (by kernel_rfl) (by kernel_rfl) (fun _ _ _ h => h) (Or.inl ⟨by rfl, ?_⟩) (by assumption) ?_; rotate_left; next => (intro w hSw; (try dsimp only at hSw); go_simp; try with_reducible rfl))
    (try simp only [Act.put, List.setIfInBounds_toArray, List.set_cons_zero, List.set_cons_succ])
    (refine wpAnyH_take (i := 6) (oi := { dst := some 20, op := Op.move (Operand.tmp 5), type := 3, pos := "tree.go:50", after := #[], guard := none }) (v := ?_) rfl (by kernel_rfl) (by kernel_rfl) (by kernel_rfl) (fun _ _ _ h => h) (Or.inl ⟨by rfl, ?_⟩) (by assumption) ?_; rotate_left; next => (intro w hSw; (try dsimp only at hSw); go_simp; try with_reducible rfl))
    (try simp only [Act.put, List.setIfInBounds_toArray, List.set_cons_zero, List.set_cons_succ])
    (refine wpAnyH_take (i := 7) (oi := { dst := some 21, op := Op.slice 27 (Operand.tmp 19) none (some (Operand.tmp 20)) none, type := 27, pos := "tree.go:50", after := #[{ on := 5, ground := Ground.data }, { on := 6, ground := Ground.data }], guard := none }) (v := ?_) rfl (by kernel_rfl) (by kernel_rfl) (by kernel_rfl) (fun _ _ _ h => h) (Or.inl ⟨by rfl, ?_⟩) (by assumption) ?_; rotate_left; next => (intro w hSw; (try dsimp only at hSw); go_simp; try with_reducible rfl))
    (try simp only [Act.put, List.setIfInBounds_toArray, List.set_cons_zero, List.set_cons_succ])
    (refine wpAnyH_take (i := 9) (oi := { dst := some 23, op := Op.move (Operand.tmp 0), type := 26, pos := "tree.go:50", after := #[], guard := none }) (v := ?_) rfl (by kernel_rfl) (by kernel_rfl) (by kernel_rfl) (fun _ _ _ h => h) (Or.inl ⟨by rfl, ?_⟩) (by assumption) ?_; rotate_left; next => (intro w hSw; (try dsimp only at hSw); go_simp; try with_reducible rfl))
    (try simp only [Act.put, List.setIfInBounds_toArray, List.set_cons_zero, List.set_cons_succ])
    (refine wpAnyH_take (i := 10) (oi := { dst := some 24, op := Op.nilCheck (Operand.tmp 23), type := 0, pos := "tree.go:50", after := #[{ on := 9, ground := Ground.data }], guard := none }) (v := ?_) rfl (by kernel_rfl) (by kernel_rfl) (by kernel_rfl) (fun _ _ _ h => h) (Or.inl ⟨by rfl, ?_⟩) (by assumption) ?_; rotate_left; next => (intro w hSw; (try dsimp only at hSw); go_simp; try with_reducible rfl))
    (try simp only [Act.put, List.setIfInBounds_toArray, List.set_cons_zero, List.set_cons_succ])
    (refine wpAnyH_take (i := 11) (oi := { dst := some 25, op := Op.fieldAddr 29 (Operand.tmp 24) 0, type := 0, pos := "tree.go:50", after := #[{ on := 10, ground := Ground.data }], guard := none }) (v := ?_) rfl (by kernel_rfl) (by kernel_rfl) (by kernel_rfl) (fun _ _ _ h => h) (Or.inl ⟨by rfl, ?_⟩) (by assumption) ?_; rotate_left; next => (intro w hSw; (try dsimp only at hSw); go_simp; try with_reducible rfl))
    (try simp only [Act.put, List.setIfInBounds_toArray, List.set_cons_zero, List.set_cons_succ])
    (refine wpAnyH_take (i := 12) (oi := { dst := some 26, op := Op.load 27 (Operand.tmp 25), type := 27, pos := "tree.go:50", after := #[{ on := 11, ground := Ground.data }], guard := none }) (v := ?_) rfl (by kernel_rfl) (by kernel_rfl) (by kernel_rfl) (fun _ _ _ h => h) (Or.inl ⟨by rfl, ?_⟩) (by assumption) ?_; rotate_left; next => (intro w hSw; (try dsimp only at hSw); go_simp; try with_reducible rfl))
    (try simp only [Act.put, List.setIfInBounds_toArray, List.set_cons_zero, List.set_cons_succ])
    (refine wpAnyH_take (i := 13) (oi := { dst := some 27, op := Op.move (Operand.tmp 5), type := 3, pos := "tree.go:50", after := #[], guard := none }) (v := ?_) rfl (by kernel_rfl) (by kernel_rfl) (by kernel_rfl) (fun _ _ _ h => h) (Or.inl ⟨by rfl, ?_⟩) (by assumption) ?_; rotate_left; next => (intro w hSw; (try dsimp only at hSw); go_simp; try with_reducible rfl))
    (try simp only [Act.put, List.setIfInBounds_toArray, List.set_cons_zero, List.set_cons_succ])
    (refine wpAnyH_take (i := 14) (oi := { dst := some 28, op := Op.binOp BinOp.add 3 (Operand.tmp 27) (Operand.const (Value.int IntKind.i64 1)) 3, type := 3, pos := "tree.go:50", after := #[{ on := 13, ground := Ground.data }], guard := none }) (v := ?_) rfl (by kernel_rfl) (by kernel_rfl) (by kernel_rfl) (fun _ _ _ h => h) (Or.inl ⟨by rfl, ?_⟩) (by assumption) ?_; rotate_left; next => (intro w hSw; (try dsimp only at hSw); go_simp; try with_reducible rfl))
    (try simp only [Act.put, List.setIfInBounds_toArray, List.set_cons_zero, List.set_cons_succ])
    (refine wpAnyH_take (i := 15) (oi := { dst := some 29, op := Op.slice 27 (Operand.tmp 26) (some (Operand.tmp 28)) none none, type := 27, pos := "tree.go:50", after := #[{ on := 12, ground := Ground.data }, { on := 14, ground := Ground.data }], guard := none }) (v := ?_) rfl (by kernel_rfl) (by kernel_rfl) (by kernel_rfl) (fun _ _ _ h => h) (Or.inl ⟨by rfl, ?_⟩) (by assumption) ?_; rotate_left; next => (intro w hSw; (try dsimp only at hSw); go_simp; try with_reducible rfl))
    (try simp only [Act.put, List.setIfInBounds_toArray, List.set_cons_zero, List.set_cons_succ])
    refine wpAnyH_ready (rs := [1]) (by kernel_rfl) (by simp) ?_
    refine AllReadyH.cons (o := { dst := some 15, op := Op.buildSlice 27 0 #[], type := 27, pos := "tree.go:50", after := #[], guard := none }) rfl (fun K hK => ?_) ?_
    · go_simp
      (have HO := Lib.hid (own_empty wq.drew); have HW := Lib.hid (HW.out.alloc HW.out.size (.cells #[] 37)))
      refine hK.out _ _ ?_ (fun hHeld => ?_)
      · (exact (HF.out _ HW.out).1.cell 0 _ rfl)
      clear hK K
      (try simp only [Act.put, List.setIfInBounds_toArray, List.set_cons_zero, List.set_cons_succ])
      refine wpAnyH_ready (rs := [8]) (by kernel_rfl) (by simp) ?_
      refine AllReadyH.cons (o := { dst := some 22, op := Op.call { callee := Callee.builtin Builtin.append, args := #[Operand.tmp 15, Operand.tmp 21], argTypes := #[27, 27] }, type := 27, pos := "tree.go:50", after := #[{ on := 1, ground := Ground.data }, { on := 7, ground := Ground.data }], guard := none }) rfl (fun K hK => ?_) ?_
      · (refine step_appE rfl _ _ rfl (by first | rfl | (show Value.slice (some ⟨wq.heap.size + 1, 0, none⟩) 0 0 = _; simp)) (by first | rfl | (show Value.slice (some ⟨wq.heap.size + 1, 0, none⟩) 1 1 = _; simp)) HO.out (HR1.out _ (HF.out _ HW.out).2.row) (by simp; omega) (by simp) ?_; intro va1 nn1 vc1 w1 hown hgr hne; have HW := Lib.hid (HW.out.grown hgr HW.out.size (fun q hq => (HO.out.lt q hq).1)); have HO := Lib.hid hown; have HNE := Lib.hid (hne (by simp)); clear hown hgr hne)
        refine hK.out _ _ ?_ (fun hHeld => ?_)
        · (exact (HF.out _ HW.out).1.cell 0 _ rfl)
        clear hK K
        (try simp only [Act.put, List.setIfInBounds_toArray, List.set_cons_zero, List.set_cons_succ])
        refine wpAnyH_ready (rs := [16]) (by kernel_rfl) (by simp) ?_
        refine AllReadyH.cons (o := { dst := some 30, op := Op.call { callee := Callee.builtin Builtin.append, args := #[Operand.tmp 22, Operand.tmp 29], argTypes := #[27, 27] }, type := 27, pos := "tree.go:50", after := #[{ on := 8, ground := Ground.data }, { on := 15, ground := Ground.data }, { on := 8, ground := Ground.chain }], guard := none }) rfl (fun K hK => ?_) ?_
        · (refine step_appE rfl _ _ rfl (by first | rfl | (show Value.slice (some ⟨wq.heap.size + 1, 0, none⟩) 0 0 = _; simp)) (by first | rfl | (show Value.slice (some ⟨wq.heap.size + 1, 0, none⟩) 1 1 = _; simp)) HO.out (HR2.out _ (HF.out _ HW.out).2.row) (by simp; omega) (by have := HW.out.size; simpa using this) ?_; intro va2 nn2 vc2 w2 hown hgr hne; have HW := Lib.hid (HW.out.grown hgr HW.out.size (fun q hq => (HO.out.lt q hq).1)); have HO := Lib.hid hown; have HNE := Lib.hid (hne (fun h => HNE.out (by simp only [Value.slice.injEq] at h; exact h.1))); clear hown hgr hne)
          refine hK.out _ _ ?_ (fun hHeld => ?_)
          · (exact (HF.out _ HW.out).1.cell 0 _ rfl)
          clear hK K
          (try simp only [Act.put, List.setIfInBounds_toArray, List.set_cons_zero, List.set_cons_succ])
          (refine wpAnyH_take (i := 17) (oi := { dst := some 31, op := Op.nilCheck (Operand.tmp 14), type := 0, pos := "tree.go:50", after := #[{ on := 0, ground := Ground.data }, { on := 0, ground := Ground.phase }, { on := 1, ground := Ground.phase }, { on := 2, ground := Ground.phase }, { on := 3, ground := Ground.phase }, { on := 4, ground := Ground.phase }, { on := 5, ground := Ground.phase }, { on := 6, ground := Ground.phase }, { on := 7, ground := Ground.phase }, { on := 8, ground := Ground.phase }, { on := 9, ground := Ground.phase }, { on := 10, ground := Ground.phase }, { on := 11, ground := Ground.phase }, { on := 12, ground := Ground.phase }, { on := 13, ground := Ground.phase }, { on := 14, ground := Ground.phase }, { on := 15, ground := Ground.phase }, { on := 16, ground := Ground.phase }], guard := none }) (v := ?_) rfl (by kernel_rfl) (by kernel_rfl) (by kernel_rfl) (fun _ _ _ h => h) (Or.inl ⟨by rfl, ?_⟩) (by assumption) ?_; rotate_left; next => (intro w hSw; (try dsimp only at hSw); go_simp; try with_reducible rfl))
          (try simp only [Act.put, List.setIfInBounds_toArray, List.set_cons_zero, List.set_cons_succ])
          (refine wpAnyH_take (i := 18) (oi := { dst := some 32, op := Op.fieldAddr 29 (Operand.tmp 31) 0, type := 0, pos := "tree.go:50", after := #[{ on := 17, ground := Ground.data }, { on := 0, ground := Ground.phase }, { on := 1, ground := Ground.phase }, { on := 2, ground := Ground.phase }, { on := 3, ground := Ground.phase }, { on := 4, ground := Ground.phase }, { on := 5, ground := Ground.phase }, { on := 6, ground := Ground.phase }, { on := 7, ground := Ground.phase }, { on := 8, ground := Ground.phase }, { on := 9, ground := Ground.phase }, { on := 10, ground := Ground.phase }, { on := 11, ground := Ground.phase }, { on := 12, ground := Ground.phase }, { on := 13, ground := Ground.phase }, { on := 14, ground := Ground.phase }, { on := 15, ground := Ground.phase }, { on := 16, ground := Ground.phase }], guard := none }) (v := ?_) rfl (by kernel_rfl) (by kernel_rfl) (by kernel_rfl) (fun _ _ _ h => h) (Or.inl ⟨by rfl, ?_⟩) (by assumption) ?_; rotate_left; next => (intro w hSw; (try dsimp only at hSw); go_simp; try with_reducible rfl))
          (try simp only [Act.put, List.setIfInBounds_toArray, List.set_cons_zero, List.set_cons_succ])
          refine wpAnyH_done (by kernel_rfl) ?_ _
          ((obtain ⟨e0, e1, hN⟩ := ref_store (v := v) (by rw [HV.out]; exact HT0.out) hB HT.out.below HW.out HNE.out HO.out); have HN := Lib.hid hN; clear hN; refine last_do rfl (fun K hK => ?_); go_simp; refine hK.out _ _ ?_; clear hK K; go_wp2_with fail; go_ret; have hfin := HN.out; rw [HV.out] at hfin; exact ⟨_, rfl, by simpa using hfin.1, hfin.2.1, hfin.2.2⟩)
        exact AllReadyH.nil
      exact AllReadyH.nil
    exact AllReadyH.nil
end Go.Proofs.Ythbjkkfpahhfiaa
