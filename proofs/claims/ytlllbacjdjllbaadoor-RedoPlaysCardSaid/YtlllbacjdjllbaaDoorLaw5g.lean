
/- The laws on package redo: long. -/
import Derived.Test.YtlllbacjdjllbaaDoorMin5
import Derived.Test.YtlllbacjdjllbaaDoorOpenA
namespace Go.Proofs.YtlllbacjdjllbaaDoor
open Go Go.Proofs Go.Shelf Go.RowKit Go.Great
set_option linter.unusedVariables false
set_option linter.unusedSimpArgs false
abbrev R_RLong5_0 : Oper := { dst := some 15, op := Op.move (Operand.tmp 3), type := 3, pos := "law.go:27", after := #[], guard := none }
abbrev R_RLong5_1 : Oper := { dst := some 16, op := Op.binOp BinOp.add 3 (Operand.tmp 15) (Operand.const (Value.int IntKind.i64 1)) 3, type := 3, pos := "law.go:27", after := #[{ on := 0, ground := Ground.data }], guard := none }
abbrev R_RLong5_10 : Oper := { dst := some 25, op := Op.move (Operand.tmp 4), type := 3, pos := "law.go:27", after := #[], guard := none }
abbrev R_RLong5_11 : Oper := { dst := some 26, op := Op.indexAddr 43 (Operand.tmp 24) (Operand.tmp 25), type := 0, pos := "law.go:27", after := #[{ on := 9, ground := Ground.data }, { on := 10, ground := Ground.data }], guard := none }
abbrev R_RLong5_12 : Oper := { dst := some 27, op := Op.fieldAddr 51 (Operand.tmp 26) 3, type := 0, pos := "law.go:27", after := #[{ on := 11, ground := Ground.data }], guard := none }
abbrev R_RLong5_13 : Oper := { dst := some 28, op := Op.load 36 (Operand.tmp 27), type := 36, pos := "law.go:27", after := #[{ on := 12, ground := Ground.data }], guard := none }
abbrev R_RLong5_14 : Oper := { dst := some 29, op := Op.call { callee := Callee.builtin Builtin.len, args := #[Operand.tmp 28], argTypes := #[36] }, type := 3, pos := "law.go:27", after := #[{ on := 13, ground := Ground.data }], guard := none }
abbrev R_RLong5_15 : Oper := { dst := some 30, op := Op.binOp BinOp.add 3 (Operand.tmp 23) (Operand.tmp 29) 3, type := 3, pos := "law.go:27", after := #[{ on := 8, ground := Ground.data }, { on := 14, ground := Ground.data }], guard := none }
abbrev R_RLong5_16 : Oper := { dst := some 3, op := Op.assign (Operand.tmp 30), type := 3, pos := "law.go:27", after := #[{ on := 15, ground := Ground.data }, { on := 0, ground := Ground.phase }, { on := 1, ground := Ground.phase }, { on := 2, ground := Ground.phase }, { on := 3, ground := Ground.phase }, { on := 4, ground := Ground.phase }, { on := 5, ground := Ground.phase }, { on := 6, ground := Ground.phase }, { on := 7, ground := Ground.phase }, { on := 8, ground := Ground.phase }, { on := 9, ground := Ground.phase }, { on := 10, ground := Ground.phase }, { on := 11, ground := Ground.phase }, { on := 12, ground := Ground.phase }, { on := 13, ground := Ground.phase }, { on := 14, ground := Ground.phase }, { on := 15, ground := Ground.phase }], guard := none }
abbrev R_RLong5_2 : Oper := { dst := some 17, op := Op.move (Operand.tmp 0), type := 43, pos := "law.go:27", after := #[], guard := none }
abbrev R_RLong5_3 : Oper := { dst := some 18, op := Op.move (Operand.tmp 4), type := 3, pos := "law.go:27", after := #[], guard := none }
abbrev R_RLong5_4 : Oper := { dst := some 19, op := Op.indexAddr 43 (Operand.tmp 17) (Operand.tmp 18), type := 0, pos := "law.go:27", after := #[{ on := 2, ground := Ground.data }, { on := 3, ground := Ground.data }], guard := none }
abbrev R_RLong5_5 : Oper := { dst := some 20, op := Op.fieldAddr 51 (Operand.tmp 19) 2, type := 0, pos := "law.go:27", after := #[{ on := 4, ground := Ground.data }], guard := none }
abbrev R_RLong5_6 : Oper := { dst := some 21, op := Op.load 30 (Operand.tmp 20), type := 30, pos := "law.go:27", after := #[{ on := 5, ground := Ground.data }], guard := none }
abbrev R_RLong5_7 : Oper := { dst := some 22, op := Op.call { callee := Callee.builtin Builtin.len, args := #[Operand.tmp 21], argTypes := #[30] }, type := 3, pos := "law.go:27", after := #[{ on := 6, ground := Ground.data }], guard := none }
abbrev R_RLong5_8 : Oper := { dst := some 23, op := Op.binOp BinOp.add 3 (Operand.tmp 16) (Operand.tmp 22) 3, type := 3, pos := "law.go:27", after := #[{ on := 1, ground := Ground.data }, { on := 7, ground := Ground.data }], guard := none }
abbrev R_RLong5_9 : Oper := { dst := some 24, op := Op.move (Operand.tmp 0), type := 43, pos := "law.go:27", after := #[], guard := none }

theorem row_aa {W : World} {a : Option Addr} {c : Nat} {xs : List AA} (h : RowK 4 W (.slice a xs.length c) (xs.map AA.cells)) (j : Nat) (hj : j < xs.length) :
    ∃ B o, a = some ⟨B, o, none⟩ ∧ B < W.heap.size ∧ W.cell? ⟨B, o + j * 4, none⟩ = some (.int .i64 xs[j].k) ∧ W.cell? ⟨B, o + j * 4 + 1, none⟩ = some (.int .i64 xs[j].i) ∧ W.cell? ⟨B, o + j * 4 + 2, none⟩ = some xs[j].pv ∧ W.cell? ⟨B, o + j * 4 + 3, none⟩ = some xs[j].kv := by
  rcases h.2.2 with ⟨_, hn⟩ | ⟨a', c', hv, _, hc⟩
  · rw [List.map_eq_nil_iff] at hn
    subst hn
    simp at hj
  · injection hv with e1 _ _
    obtain ⟨B, o, rfl, hB, hx⟩ := hc j (by rw [List.length_map]; exact hj)
    have e : ∀ i (hi : i < 4), W.cell? ⟨B, o + j * 4 + i, none⟩ = some (xs[j].cells[i]'(by simpa [AA.cells] using hi)) := fun i hi => by
      have h2 := hx i (by rw [List.getElem_map]; simpa [AA.cells] using hi)
      rw [h2]
      simp [List.getElem_map]
    exact ⟨B, o, e1, hB, e 0 (by decide), e 1 (by decide), e 2 (by decide), e 3 (by decide)⟩
set_option maxRecDepth 100000 in
set_option maxHeartbeats 4000000 in
theorem long_c (v : Value) (xs : List AA) (w : World) (h : RowK 4 w v (xs.map AA.cells)) (ho : ∀ p ∈ xs, p.at w ∧ okAA p) : Calls Tryd.prog 21 #[v] w fun e w' => ∃ r, e = .returned (.bool r) ∧ (r = false → ∀ j (hj : j < xs.length), j < 30 → xs[j].p.length ≤ 6000 ∧ xs[j].keep.length ≤ 6000) ∧ Below w.heap.size w w' := by
  obtain ⟨a, c, rfl, _⟩ := h.shape
  rw [List.length_map] at *
  have HR := Lib.hid (fun W (hb : Below w.heap.size w W) => h.below hb)
  have HO := Lib.hid (fun j (hj : j < xs.length) => ho xs[j] (List.getElem_mem hj))
  clear h ho
  go_enter Tryd.func21, Tryd.ntmps21
  go_wp2_with fail
  go_loopw [3, 4] (fun n i wr => ∃ (j m : Nat), n = .int .i64 (m : Int) ∧ i = .int .i64 (j : Int) ∧ m ≤ 6000 ∧ j ≤ xs.length ∧ j ≤ 30 ∧ (∀ q (hq : q < xs.length), q < j → xs[q].p.length ≤ 6000 ∧ xs[q].keep.length ≤ 6000) ∧ Below w.heap.size w wr) (fun _ i _ => 30 - (intOf i).toNat)
  case atStart => exact ⟨0, 0, rfl, rfl, by omega, by omega, by omega, fun _ _ h => by omega, Below.refl _ _⟩
  case round =>
    obtain ⟨j, m, rfl, rfl, hm, hj, hj30, hall, hb⟩ := hrel
    have HA := Lib.hid hall
    have HB := Lib.hid hb
    clear hall
    by_cases hjl : j < xs.length
    case neg =>
      obtain rfl : j = xs.length := by omega
      clear hb
      go_wp2_with fail
      go_ret
      exact ⟨false, rfl, fun _ q hq _ => HA.out q hq hq, HB.out⟩
    by_cases hj3 : j < 30
    case neg =>
      obtain rfl : j = 30 := by omega
      clear hb
      go_wp2_with fail
      go_ret
      exact ⟨false, rfl, fun _ q hq h => HA.out q hq h, HB.out⟩
    obtain ⟨⟨hp, hk⟩, hok⟩ := HO.out j hjl
    obtain ⟨B, o, rfl, hB, t0, t1, t2, t3⟩ := row_aa (HR.out wr.drew hb.drew) j hjl
    obtain ⟨pa, pc, hpv⟩ := hp.shapeB
    obtain ⟨ka, kc, hkv⟩ := hk.shape
    rw [List.length_map] at hkv
    have HX : Hid (∀ s, s ≤ 6000 → s = m + 1 + xs[j].p.length + xs[j].keep.length → ∀ q (hq : q < xs.length), q < j + 1 → xs[q].p.length ≤ 6000 ∧ xs[q].keep.length ≤ 6000) := Lib.hid (fun s hs he q hq hqj => by
      by_cases hqq : q < j
      · exact HA.out q hq hqq
      · obtain rfl : q = j := by omega
        omega)
    obtain ⟨_, hp2, hk2⟩ := hok
    generalize xs[j].p.length = pl at *
    generalize xs[j].keep.length = kl at *
    rw [hpv] at t2
    rw [hkv] at t3
    obtain ⟨s1, hs1⟩ : ∃ s : Nat, s = m + 1 := ⟨_, rfl⟩
    obtain ⟨s2, hs2⟩ : ∃ s : Nat, s = s1 + pl := ⟨_, rfl⟩
    obtain ⟨s3, hs3⟩ : ∃ s : Nat, s = s2 + kl := ⟨_, rfl⟩
    have w1 : IntKind.i64.wrap ((m : Int) + 1) = (s1 : Int) := by rw [IntKind.wrap_i64]; omega
    have w2 : IntKind.i64.wrap ((s1 : Int) + (pl : Int)) = (s2 : Int) := by rw [IntKind.wrap_i64]; omega
    have w3 : IntKind.i64.wrap ((s2 : Int) + (kl : Int)) = (s3 : Int) := by rw [IntKind.wrap_i64]; omega
    have HS : Hid (s3 = m + 1 + pl + kl) := Lib.hid (by omega)
    have HBd := Lib.hid hb.drew
    clear hp hk hpv hkv hp2 hk2 hs1 hs2 hs3 hb t0 t1
    go_wp2_with fail
    refine wp_region_held_drew (S := (fun W => W.cell? ⟨B, o + j * 4 + 2, none⟩ = some (.slice pa pl pc) ∧ W.cell? ⟨B, o + j * 4 + 3, none⟩ = some (.slice ka kl kc))) (by kernel_rfl) ?_ (fun hHeld => ?_)
    · (exact ⟨t2, t3⟩)
    (refine wpAnyH_take (i := 0) (oi := R_RLong5_0) (v := ?_) rfl (by kernel_rfl) (by kernel_rfl) (by kernel_rfl) (fun _ _ _ h => h) (Or.inl ⟨by rfl, ?_⟩) (by assumption) ?_; rotate_left; next => (intro w hSw; (try dsimp only at hSw); (try delta R_RLong5_0); go_simp; try with_reducible rfl))
    (try simp only [Act.put, List.setIfInBounds_toArray, List.set_cons_zero, List.set_cons_succ])
    (refine wpAnyH_take (i := 1) (oi := R_RLong5_1) (v := ?_) rfl (by kernel_rfl) (by kernel_rfl) (by kernel_rfl) (fun _ _ _ h => h) (Or.inl ⟨by rfl, ?_⟩) (by assumption) ?_; rotate_left; next => (intro w hSw; (try dsimp only at hSw); (try delta R_RLong5_1); go_simp; try with_reducible rfl))
    (try simp only [Act.put, List.setIfInBounds_toArray, List.set_cons_zero, List.set_cons_succ])
    (refine wpAnyH_take (i := 2) (oi := R_RLong5_2) (v := ?_) rfl (by kernel_rfl) (by kernel_rfl) (by kernel_rfl) (fun _ _ _ h => h) (Or.inl ⟨by rfl, ?_⟩) (by assumption) ?_; rotate_left; next => (intro w hSw; (try dsimp only at hSw); (try delta R_RLong5_2); go_simp; try with_reducible rfl))
    (try simp only [Act.put, List.setIfInBounds_toArray, List.set_cons_zero, List.set_cons_succ])
    (refine wpAnyH_take (i := 3) (oi := R_RLong5_3) (v := ?_) rfl (by kernel_rfl) (by kernel_rfl) (by kernel_rfl) (fun _ _ _ h => h) (Or.inl ⟨by rfl, ?_⟩) (by assumption) ?_; rotate_left; next => (intro w hSw; (try dsimp only at hSw); (try delta R_RLong5_3); go_simp; try with_reducible rfl))
    (try simp only [Act.put, List.setIfInBounds_toArray, List.set_cons_zero, List.set_cons_succ])
    (refine wpAnyH_take (i := 4) (oi := R_RLong5_4) (v := ?_) rfl (by kernel_rfl) (by kernel_rfl) (by kernel_rfl) (fun _ _ _ h => h) (Or.inl ⟨by rfl, ?_⟩) (by assumption) ?_; rotate_left; next => (intro w hSw; (try dsimp only at hSw); (try delta R_RLong5_4); go_simp; try with_reducible rfl))
    (try simp only [Act.put, List.setIfInBounds_toArray, List.set_cons_zero, List.set_cons_succ])
    (refine wpAnyH_take (i := 5) (oi := R_RLong5_5) (v := ?_) rfl (by kernel_rfl) (by kernel_rfl) (by kernel_rfl) (fun _ _ _ h => h) (Or.inl ⟨by rfl, ?_⟩) (by assumption) ?_; rotate_left; next => (intro w hSw; (try dsimp only at hSw); (try delta R_RLong5_5); go_simp; try with_reducible rfl))
    (try simp only [Act.put, List.setIfInBounds_toArray, List.set_cons_zero, List.set_cons_succ])
    (refine wpAnyH_take (i := 6) (oi := R_RLong5_6) (v := ?_) rfl (by kernel_rfl) (by kernel_rfl) (by kernel_rfl) (fun _ _ _ h => h) (Or.inl ⟨by rfl, ?_⟩) (by assumption) ?_; rotate_left; next => (intro w hSw; (try dsimp only at hSw); (try delta R_RLong5_6); go_simp; try with_reducible rfl))
    (try simp only [Act.put, List.setIfInBounds_toArray, List.set_cons_zero, List.set_cons_succ])
    (refine wpAnyH_take (i := 7) (oi := R_RLong5_7) (v := ?_) rfl (by kernel_rfl) (by kernel_rfl) (by kernel_rfl) (fun _ _ _ h => h) (Or.inl ⟨by rfl, ?_⟩) (by assumption) ?_; rotate_left; next => (intro w hSw; (try dsimp only at hSw); (try delta R_RLong5_7); go_simp; try with_reducible rfl))
    (try simp only [Act.put, List.setIfInBounds_toArray, List.set_cons_zero, List.set_cons_succ])
    (refine wpAnyH_take (i := 8) (oi := R_RLong5_8) (v := ?_) rfl (by kernel_rfl) (by kernel_rfl) (by kernel_rfl) (fun _ _ _ h => h) (Or.inl ⟨by rfl, ?_⟩) (by assumption) ?_; rotate_left; next => (intro w hSw; (try dsimp only at hSw); (try delta R_RLong5_8); go_simp; try with_reducible rfl))
    (try simp only [Act.put, List.setIfInBounds_toArray, List.set_cons_zero, List.set_cons_succ])
    (refine wpAnyH_take (i := 9) (oi := R_RLong5_9) (v := ?_) rfl (by kernel_rfl) (by kernel_rfl) (by kernel_rfl) (fun _ _ _ h => h) (Or.inl ⟨by rfl, ?_⟩) (by assumption) ?_; rotate_left; next => (intro w hSw; (try dsimp only at hSw); (try delta R_RLong5_9); go_simp; try with_reducible rfl))
    (try simp only [Act.put, List.setIfInBounds_toArray, List.set_cons_zero, List.set_cons_succ])
    (refine wpAnyH_take (i := 10) (oi := R_RLong5_10) (v := ?_) rfl (by kernel_rfl) (by kernel_rfl) (by kernel_rfl) (fun _ _ _ h => h) (Or.inl ⟨by rfl, ?_⟩) (by assumption) ?_; rotate_left; next => (intro w hSw; (try dsimp only at hSw); (try delta R_RLong5_10); go_simp; try with_reducible rfl))
    (try simp only [Act.put, List.setIfInBounds_toArray, List.set_cons_zero, List.set_cons_succ])
    (refine wpAnyH_take (i := 11) (oi := R_RLong5_11) (v := ?_) rfl (by kernel_rfl) (by kernel_rfl) (by kernel_rfl) (fun _ _ _ h => h) (Or.inl ⟨by rfl, ?_⟩) (by assumption) ?_; rotate_left; next => (intro w hSw; (try dsimp only at hSw); (try delta R_RLong5_11); go_simp; try with_reducible rfl))
    (try simp only [Act.put, List.setIfInBounds_toArray, List.set_cons_zero, List.set_cons_succ])
    (refine wpAnyH_take (i := 12) (oi := R_RLong5_12) (v := ?_) rfl (by kernel_rfl) (by kernel_rfl) (by kernel_rfl) (fun _ _ _ h => h) (Or.inl ⟨by rfl, ?_⟩) (by assumption) ?_; rotate_left; next => (intro w hSw; (try dsimp only at hSw); (try delta R_RLong5_12); go_simp; try with_reducible rfl))
    (try simp only [Act.put, List.setIfInBounds_toArray, List.set_cons_zero, List.set_cons_succ])
    (refine wpAnyH_take (i := 13) (oi := R_RLong5_13) (v := ?_) rfl (by kernel_rfl) (by kernel_rfl) (by kernel_rfl) (fun _ _ _ h => h) (Or.inl ⟨by rfl, ?_⟩) (by assumption) ?_; rotate_left; next => (intro w hSw; (try dsimp only at hSw); (try delta R_RLong5_13); go_simp; try with_reducible rfl))
    (try simp only [Act.put, List.setIfInBounds_toArray, List.set_cons_zero, List.set_cons_succ])
    (refine wpAnyH_take (i := 14) (oi := R_RLong5_14) (v := ?_) rfl (by kernel_rfl) (by kernel_rfl) (by kernel_rfl) (fun _ _ _ h => h) (Or.inl ⟨by rfl, ?_⟩) (by assumption) ?_; rotate_left; next => (intro w hSw; (try dsimp only at hSw); (try delta R_RLong5_14); go_simp; try with_reducible rfl))
    (try simp only [Act.put, List.setIfInBounds_toArray, List.set_cons_zero, List.set_cons_succ])
    (refine wpAnyH_take (i := 15) (oi := R_RLong5_15) (v := ?_) rfl (by kernel_rfl) (by kernel_rfl) (by kernel_rfl) (fun _ _ _ h => h) (Or.inl ⟨by rfl, ?_⟩) (by assumption) ?_; rotate_left; next => (intro w hSw; (try dsimp only at hSw); (try delta R_RLong5_15); go_simp; try with_reducible rfl))
    (try simp only [Act.put, List.setIfInBounds_toArray, List.set_cons_zero, List.set_cons_succ])
    (refine wpAnyH_take (i := 16) (oi := R_RLong5_16) (v := ?_) rfl (by kernel_rfl) (by kernel_rfl) (by kernel_rfl) (fun _ _ _ h => h) (Or.inl ⟨by rfl, ?_⟩) (by assumption) ?_; rotate_left; next => (intro w hSw; (try dsimp only at hSw); (try delta R_RLong5_16); go_simp; try with_reducible rfl))
    (try simp only [Act.put, List.setIfInBounds_toArray, List.set_cons_zero, List.set_cons_succ])
    refine wpAnyH_done (by kernel_rfl) ?_ _
    by_cases hs : 6000 < s3
    · have hs' : (6000 : Int) < (s3 : Int) := by omega
      go_wp2_with fail
      go_ret
      exact ⟨true, rfl, (fun h => absurd h (by decide)), HBd.out⟩
    · have hs' : ¬ (6000 : Int) < (s3 : Int) := by omega
      go_wp2_with fail
      go_roundw
      case rel => exact ⟨j + 1, s3, rfl, by go_num, by omega, by omega, by omega, HX.out s3 (by omega) HS.out, HBd.out⟩
      case measure => simp [intOf]; omega
end Go.Proofs.YtlllbacjdjllbaaDoor
