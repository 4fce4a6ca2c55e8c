
/- The laws on package redo: RedoOrder. -/
import Derived.Test.YtlllbacjdjllbaaDoorWant5
import Derived.Test.YtlllbacjdjllbaaDoorLaw5c
namespace Go.Proofs.YtlllbacjdjllbaaDoor
open Go Go.Proofs Go.Shelf Go.RowKit Go.Great
set_option linter.unusedVariables false
set_option linter.unusedSimpArgs false
abbrev R_ROrd19_0 : Oper := { dst := some 75, op := Op.buildSlice 22 0 #[], type := 22, pos := "more.go:63", after := #[], guard := none }
abbrev R_ROrd19_1 : Oper := { dst := some 76, op := Op.move (Operand.tmp 10), type := 22, pos := "more.go:63", after := #[], guard := none }
abbrev R_ROrd19_2 : Oper := { dst := some 77, op := Op.call { callee := Callee.builtin Builtin.append, args := #[Operand.tmp 75, Operand.tmp 76], argTypes := #[22, 22] }, type := 22, pos := "more.go:63", after := #[{ on := 0, ground := Ground.data }, { on := 1, ground := Ground.data }], guard := none }
abbrev R_ROrd19_3 : Oper := { dst := some 78, op := Op.move (Operand.tmp 0), type := 22, pos := "more.go:63", after := #[], guard := none }
abbrev R_ROrd19_4 : Oper := { dst := some 79, op := Op.move (Operand.tmp 11), type := 3, pos := "more.go:63", after := #[], guard := none }
abbrev R_ROrd19_5 : Oper := { dst := some 80, op := Op.indexAddr 22 (Operand.tmp 78) (Operand.tmp 79), type := 0, pos := "more.go:63", after := #[{ on := 3, ground := Ground.data }, { on := 4, ground := Ground.data }], guard := none }
abbrev R_ROrd19_6 : Oper := { dst := some 81, op := Op.load 30 (Operand.tmp 80), type := 30, pos := "more.go:63", after := #[{ on := 5, ground := Ground.data }], guard := none }
abbrev R_ROrd19_7 : Oper := { dst := some 82, op := Op.buildSlice 22 1 #[(0, Operand.tmp 81)], type := 22, pos := "more.go:63", after := #[{ on := 6, ground := Ground.data }], guard := none }

theorem lebStr_len2 (s : List UInt8) (h : s.length < 8192) : (lebStr s).length ≤ 2 + s.length := by
  have h2 : (lebInt (s.length : Int)).length ≤ 2 := Lib.uvarint_length 1 _ (by unfold Lib.zigzag; split <;> omega)
  unfold lebStr
  rw [List.length_append]
  omega
/-- what RedoOrder holds of its log. -/
structure OrdAt (lo : Nat) (w0 w : World) (L D g m : Nat) (bv v : Value) (l : PL) (d : PD) (es : List (List UInt8)) (j q : Nat) : Prop where
  ld : LDAt lo w L D g m bv v l d
  gd : Gd l d es
  al : Alive d
  n : d.n = 120
  no : l.head.number ≤ j
  sz : (encs es).length ≤ q
  bel : Below w0.heap.size w0 w
  lo : w0.heap.size ≤ lo
def AlTo (lo L D g m : Nat) (w : World) (l : PL) (d : PD) (es' : List (List UInt8)) (e : Ending) (w' : World) : Prop :=
  ∃ l' d' bv' v', e = .returned (.int .i64 0) ∧ LDAt lo w' L D g m bv' v' l' d' ∧ ChL lo w w' ∧ Gd l' d' es' ∧ Alive d' ∧ d'.n = d.n ∧ l'.head.number = l.head.number + 1
theorem app_al {lo L D g m : Nat} {bv v : Value} {l : PL} {d : PD} {w : World} {es : List (List UInt8)} (h : LDAt lo w L D g m bv v l d) (hg : Gd l d es) (ha : Alive d) (p : List UInt8) (vp : Value) (hp : RowAt w vp (bytesV p)) (hb : (encs es ++ lebStr p).length ≤ 64 * bankP d) (hno : l.head.number < 1099511627776) :
    Calls Tryd.prog 13 #[.pointer (some ⟨L, 0, none⟩), vp] w (AlTo lo L D g m w l d (es ++ [p])) := by
  have hq : bankP d ≤ 99 := by unfold bankP; have := hg.view.rg.2; omega
  have hpl : p.length ≤ (lebStr p).length := by unfold lebStr; rw [List.length_append]; omega
  have hbk := hg.view.bank
  have s := lays_al ha hg.live hg.ok hg.view.rg.2 (k := l.head.bank.toNat) (by omega) (b := l.b) (p := p) (count := l.count + 1) (by rw [hg.b]; exact hb) hno
  have y := append_gd hg hb hno
  rw [List.length_append] at hb
  refine (RAppend_c h hg.ok p vp hp (by omega) (by rw [hg.sync.2]; exact Nat.zero_le _)).mono ?_
  rintro e w' ⟨bv', v', rfl, h1, h2⟩
  have s' : (appendP l d p).1 = 0 ∧ (appendP l d p).2.1 = _ ∧ Alive (appendP l d p).2.2 := s
  obtain ⟨y1, y2, ⟨y3, y4, y5⟩ | ⟨y3, _⟩⟩ := y
  · exact ⟨_, _, bv', v', by rw [y3], h1, h2, y5, s'.2.2, y1, y4⟩
  · rw [s'.1] at y3; cases y3
theorem res_al {lo L D g m : Nat} {bv v : Value} {l : PL} {d : PD} {w : World} {es : List (List UInt8)} (h : LDAt lo w L D g m bv v l d) (hg : Gd l d es) (ha : Alive d) (p : List UInt8) (vp : Value) (hp : RowAt w vp (bytesV p)) (hb : (lebStr p).length ≤ 64 * bankP d) (hno : l.head.number < 1099511627776) :
    Calls Tryd.prog 15 #[.pointer (some ⟨L, 0, none⟩), vp] w (AlTo lo L D g m w l d [p]) := by
  have hq : bankP d ≤ 99 := by unfold bankP; have := hg.view.rg.2; omega
  have hpl : p.length ≤ (lebStr p).length := by unfold lebStr; rw [List.length_append]; omega
  have hbk := hg.view.bank
  have s := lays_al ha hg.live hg.ok hg.view.rg.2 (k := (1 - l.head.bank).toNat) (by omega) (b := []) (p := p) (count := 1) (by simpa using hb) hno
  have y := reset_gd hg hb hno
  refine (RReset_c h hg.ok p vp hp (by omega) (by rw [hg.sync.2]; exact Nat.zero_le _)).mono ?_
  rintro e w' ⟨bv', v', rfl, h1, h2⟩
  have s' : (resetP l d p).1 = 0 ∧ (resetP l d p).2.1 = _ ∧ Alive (resetP l d p).2.2 := s
  obtain ⟨y1, y2, ⟨y3, y4, y5⟩ | ⟨y3, _⟩⟩ := y
  · exact ⟨_, _, bv', v', by rw [y3], h1, h2, y5, s'.2.2, y1, y4⟩
  · rw [s'.1] at y3; cases y3
theorem OrdAt.app {lo : Nat} {w0 w : World} {L D g m : Nat} {bv v : Value} {l : PL} {d : PD} {es : List (List UInt8)} {j q : Nat} (h : OrdAt lo w0 w L D g m bv v l d es j q) (hj : j < 60) (p : List UInt8) (hq : q + 2 + p.length ≤ 3000) (vp : Value) (hr : RowAt w vp (bytesV p)) :
    Calls Tryd.prog 13 #[.pointer (some ⟨L, 0, none⟩), vp] w fun e w' => ∃ bv' v' l' d', e = .returned (.int .i64 0) ∧ OrdAt lo w0 w' L D g m bv' v' l' d' (es ++ [p]) (j + 1) (q + 2 + p.length) ∧ ChL lo w w' := by
  have hls := lebStr_len2 p (by omega)
  have hsz := h.sz
  have hb : bankP d = 59 := by unfold bankP; rw [h.n]
  have hno := h.no
  refine (app_al h.ld h.gd h.al p vp hr (by rw [List.length_append, hb]; omega) (by omega)).mono ?_
  rintro e w' ⟨l', d', bv', v', rfl, h1, h2, h3, h4, h5, h6⟩
  exact ⟨bv', v', l', d', rfl, ⟨h1, h3, h4, h5.trans h.n, by omega, by rw [encs_snoc, List.length_append]; omega, h2.below h.bel h.lo, h.lo⟩, h2⟩
theorem OrdAt.res {lo : Nat} {w0 w : World} {L D g m : Nat} {bv v : Value} {l : PL} {d : PD} {es : List (List UInt8)} {j q : Nat} (h : OrdAt lo w0 w L D g m bv v l d es j q) (hj : j < 60) (p : List UInt8) (hq : q + 2 + p.length ≤ 3000) (vp : Value) (hr : RowAt w vp (bytesV p)) :
    Calls Tryd.prog 15 #[.pointer (some ⟨L, 0, none⟩), vp] w fun e w' => ∃ bv' v' l' d', e = .returned (.int .i64 0) ∧ OrdAt lo w0 w' L D g m bv' v' l' d' [p] (j + 1) (q + 2 + p.length) ∧ ChL lo w w' := by
  have hls := lebStr_len2 p (by omega)
  have hb : bankP d = 59 := by unfold bankP; rw [h.n]
  have hno := h.no
  refine (res_al h.ld h.gd h.al p vp hr (by rw [hb]; omega) (by omega)).mono ?_
  rintro e w' ⟨l', d', bv', v', rfl, h1, h2, h3, h4, h5, h6⟩
  exact ⟨bv', v', l', d', rfl, ⟨h1, h3, h4, h5.trans h.n, by omega, by simp [encs]; omega, h2.below h.bel h.lo, h.lo⟩, h2⟩
theorem OrdAt.below {lo : Nat} {w0 w w' : World} {L D g m : Nat} {bv v : Value} {l : PL} {d : PD} {es : List (List UInt8)} {j q : Nat} (h : OrdAt lo w0 w L D g m bv v l d es j q) (hb : Below w.heap.size w w') : OrdAt lo w0 w' L D g m bv v l d es j q :=
  ⟨h.ld.below hb, h.gd, h.al, h.n, h.no, h.sz, h.bel.trans (hb.mono h.bel.size), h.lo⟩
theorem wait_of {lo : Nat} {w0 w : World} {L D g m : Nat} {bv v : Value} {l : PL} {d : PD} {es : List (List UInt8)} {j q : Nat} (h : OrdAt lo w0 w L D g m bv v l d es j q) : Calls Tryd.prog 17 #[.pointer (some ⟨D, 0, none⟩)] w fun e w' => e = .returned (.int .i64 0) ∧ w = w' := by
  have q := Waiting_c h.ld.drum
  rw [h.gd.sync.2] at q
  exact q
theorem len_of {lo : Nat} {w0 w : World} {L D g m : Nat} {bv v : Value} {l : PL} {d : PD} {es : List (List UInt8)} {j q : Nat} (h : OrdAt lo w0 w L D g m bv v l d es j q) (M : Nat) (hM : es.length = M) : Calls Tryd.prog 14 #[.pointer (some ⟨L, 0, none⟩)] w fun e w' => e = .returned (.int .i64 (M : Int)) ∧ w = w' := by
  have q := RLen_c h.ld
  rw [h.gd.cnt, hM] at q
  exact q
theorem cellAll {w : World} {B o n c : Nat} {vs : List Value} (h : RowAt w (.slice (some ⟨B, o, none⟩) n c) vs) (i : Nat) (hi : i < vs.length) (W : World) (hb : Below w.heap.size w W) : W.cell? ⟨B, o + i, none⟩ = some vs[i] := by
  obtain ⟨B', o', e, _, h'⟩ := (h.below hb).cellAt i hi
  simp only [Option.some.injEq, Addr.mk.injEq] at e
  obtain ⟨rfl, rfl, _⟩ := e
  exact h'
set_option maxRecDepth 100000 in
set_option maxHeartbeats 8000000 in
theorem RedoOrder_core (v0 : Value) (x0 : List (List UInt8)) (v1 : Value) (x1 : List Bool) (w : World) (w0 : BRows w v0 x0) (y0 : ∀ x ∈ x0, x.length ≤ 140737488355328) (z0 : x0.length ≤ 5864062014805) (w1 : RowAt w v1 (x1.map Value.bool)) :
    Calls Tryd.prog 5 #[v0, v1] w fun e w' => e = .returned (.bool true) ∧ Below w.heap.size w w' := by
  obtain ⟨cells, hcr, hcl, hce⟩ := w0
  obtain ⟨va, vc, rfl⟩ := hcr.shape
  obtain ⟨ka, kc, e3⟩ := w1.shape
  rw [List.length_map] at e3
  subst e3
  have HK := Lib.hid w1
  have HR := Lib.hid hcr
  have HE := Lib.hid hce
  have HY := Lib.hid y0
  obtain ⟨N, hN, hxN⟩ : ∃ N : Nat, cells.length = N ∧ x0.length = N := ⟨_, rfl, hcl.symm⟩
  rw [hN] at HR ⊢
  clear hcr hce hcl w1 y0
  by_cases h1 : 60 < N
  · have h1' : 60 < (N : Int) := by omega
    go_enter Tryd.func5, Tryd.ntmps5
    go_wp2_with fail
    go_ret
    exact ⟨rfl, Below.refl _ _⟩
  have h1' : ¬ 60 < (N : Int) := by omega
  by_cases h2 : x1.length < N
  · have h2' : (x1.length : Int) < (N : Int) := by omega
    go_enter Tryd.func5, Tryd.ntmps5
    go_wp2_with fail
    go_ret
    exact ⟨rfl, Below.refl _ _⟩
  have h2' : ¬ (x1.length : Int) < (N : Int) := by omega
  have HA := Lib.hid (show N ≤ 60 ∧ N ≤ x1.length ∧ cells.length = N ∧ x0.length = N from ⟨by omega, by omega, hN, hxN⟩)
  have CN : Hid (Calls Tryd.prog 10 #[.int .i64 120] w (NewTo w 120)) := Lib.hid (New_c w 120 (by decide))
  clear h1 h2 hN hxN z0
  go_enter Tryd.func5, Tryd.ntmps5
  go_wp2_with (first | (go_at_call 10; (with_reducible refine CN.out.mono ?_); rintro e w1 ⟨D, g, m, rfl, hd, hb1⟩; have HD := Lib.hid hd; have HB := Lib.hid hb1; clear hd hb1) | (go_at_call 11; (with_reducible refine (Open_new HD.out (by decide)).mono ?_); rintro e w2 ⟨L, bv, va2, vc2, rfl, hl, hr, hb2⟩; have H := Lib.hid hl; replace HB := Lib.hid (HB.out.trans (hb2.mono HB.out.size)); clear hl hr hb2) | fail)
  have HT : Hid (OrdAt w.heap.size w w2 L D g m bv (.slice none 0 0) log0 (newP 120) [] 0 0) := Lib.hid ⟨H.out, Gd.new (by decide) (by decide) (-1), alive_new 120, rfl, by decide, by decide, HB.out, Nat.le_refl _⟩
  clear HD H HB CN
  go_loopw [8, 9, 10, 11] (fun ee nn ww i wr => ∃ (j q : Nat) (l : PL) (d : PD) (es : List (List UInt8)) (bv v : Value), ee = .int .i64 0 ∧ i = .int .i64 (j : Int) ∧ j ≤ N ∧ nn = .int .i64 (q : Int) ∧ q ≤ 3000 ∧ OrdAt w.heap.size w wr L D g m bv v l d es j q ∧ WantAt w.heap.size w wr ww es) (fun _ _ _ i _ => N - (intOf i).toNat)
  case atStart => exact ⟨0, 0, _, _, _, _, _, rfl, rfl, Nat.zero_le _, rfl, Nat.zero_le _, HT.out, WantAt.nil _ _ _⟩
  case round =>
    obtain ⟨j, q, l, d, es, bv', v', rfl, rfl, hjN, rfl, hq, hoa, hwa⟩ := hrel
    obtain ⟨wa, wc, rfl⟩ := hwa.shape
    have HOA := Lib.hid hoa
    have HWA := Lib.hid hwa
    by_cases hj : j < N
    · have hj' : (j : Int) < (N : Int) := by omega
      obtain ⟨B, o, rfl, hB, hx⟩ := (HR.out.below hoa.bel).cellAt j (by have := HA.out.2.2.1; omega)
      have HC := cellAll HR.out j (by have := HA.out.2.2.1; omega)
      have HPW := HE.out j (x0[j]'(by have := HA.out.2.2.2; omega)) (cells[j]'(by have := HA.out.2.2.1; omega)) (List.getElem?_eq_getElem _) (List.getElem?_eq_getElem _)
      have HPL := HY.out (x0[j]'(by have := HA.out.2.2.2; omega)) (List.getElem_mem _)
      generalize x0[j]'(by have := HA.out.2.2.2; omega) = p at *
      generalize cells[j]'(by have := HA.out.2.2.1; omega) = cp at *
      obtain ⟨pa, pc, rfl⟩ := HPW.shapeB
      replace HC := Lib.hid HC
      have HPR := Lib.hid (HPW.below hoa.bel)
      have HPQ := Lib.hid HPW
      clear HPW hwa
      by_cases hp : 3000 < q + 2 + p.length
      · have hp' : 3000 < (q : Int) + 2 + (p.length : Int) := by omega
        go_wp2_with fail
        go_ret
        exact ⟨rfl, HOA.out.bel⟩
      · have hp' : ¬ 3000 < (q : Int) + 2 + (p.length : Int) := by omega
        obtain ⟨KB, ko, rfl, hKB, hkx⟩ := (HK.out.below hoa.bel).cellAt j (by rw [List.length_map]; have := HA.out.2.1; omega)
        rw [List.getElem_map] at hkx
        generalize x1[j]'(by have := HA.out.2.1; omega) = rb at *
        clear hoa
        cases rb
        · have HAP := Lib.hid (HOA.out.app (by have := HA.out.1; omega) p (by omega) _ HPR.out)
          go_wp2_with (first | (go_at_call 13; (with_reducible refine (HAP.out).mono ?_); rintro e w5 ⟨bv5, v5, l5, d5, rfl, ho5, hc5⟩; have HO5 := Lib.hid ho5; have HW5 := Lib.hid (HWA.out.chl hc5); have hx5 := HC.out _ ho5.bel; clear ho5 hc5) | fail)
          obtain ⟨wcells, hwo, hwl, hwe⟩ := HW5.out
          have hec : es.length ≤ 3000 := by have := encs_count es; have := HOA.out.sz; omega
          have HRW : Hid (∀ W, Below w5.heap.size w5 W → RowAt W (.slice wa es.length wc) wcells) := Lib.hid (fun W hb => (RowAt.ofOwns hwo).below hb)
          have HC5 : Hid (∀ W, Below w5.heap.size w5 W → W.cell? ⟨B, o + j, none⟩ = some (.slice pa p.length pc)) := Lib.hid (fun W hb => HC.out W (HO5.out.bel.trans (hb.mono HO5.out.bel.size)))
          have HON : Hid (∀ u ∈ wcells, u.oneCell' = true) := Lib.hid (rows_one (w := w) (v := .slice none 0 0) (fun c hc => by
            obtain ⟨i, hi, rfl⟩ := List.getElem_of_mem hc
            exact ⟨_, hwe i (es[i]'(by omega)) _ (List.getElem?_eq_getElem _) (List.getElem?_eq_getElem _)⟩))
          have HW : Hid (Below w5.heap.size w5 w5.drew) := Lib.hid (Below.refl _ w5).drew
          have HWL := Lib.hid hwl
          have HWE := Lib.hid hwe
          clear hwo hwl hwe
          refine wp_region_last2 (n := 8) (S := (fun W => W.cell? ⟨B, o + j, none⟩ = some (.slice pa p.length pc))) (by kernel_rfl) (by kernel_rfl) (by kernel_rfl) (by kernel_rfl) ?_ (fun hHeld => ?_)
          · (first | exact hx5 | exact HC5.out _ HW.out)
          (refine wpAnyH_take (i := 1) (oi := R_ROrd19_1) (v := ?_) rfl (by kernel_rfl) (by kernel_rfl) (by kernel_rfl) (fun _ _ _ h => h) (Or.inl ⟨by rfl, ?_⟩) (by assumption) ?_; rotate_left; next => (intro w hSw; (try dsimp only at hSw); (try delta R_ROrd19_1); go_simp; try with_reducible rfl))
          (try simp only [Act.put, List.setIfInBounds_toArray, List.set_cons_zero, List.set_cons_succ])
          (refine wpAnyH_take (i := 3) (oi := R_ROrd19_3) (v := ?_) rfl (by kernel_rfl) (by kernel_rfl) (by kernel_rfl) (fun _ _ _ h => h) (Or.inl ⟨by rfl, ?_⟩) (by assumption) ?_; rotate_left; next => (intro w hSw; (try dsimp only at hSw); (try delta R_ROrd19_3); go_simp; try with_reducible rfl))
          (try simp only [Act.put, List.setIfInBounds_toArray, List.set_cons_zero, List.set_cons_succ])
          (refine wpAnyH_take (i := 4) (oi := R_ROrd19_4) (v := ?_) rfl (by kernel_rfl) (by kernel_rfl) (by kernel_rfl) (fun _ _ _ h => h) (Or.inl ⟨by rfl, ?_⟩) (by assumption) ?_; rotate_left; next => (intro w hSw; (try dsimp only at hSw); (try delta R_ROrd19_4); go_simp; try with_reducible rfl))
          (try simp only [Act.put, List.setIfInBounds_toArray, List.set_cons_zero, List.set_cons_succ])
          (refine wpAnyH_take (i := 5) (oi := R_ROrd19_5) (v := ?_) rfl (by kernel_rfl) (by kernel_rfl) (by kernel_rfl) (fun _ _ _ h => h) (Or.inl ⟨by rfl, ?_⟩) (by assumption) ?_; rotate_left; next => (intro w hSw; (try dsimp only at hSw); (try delta R_ROrd19_5); go_simp; try with_reducible rfl))
          (try simp only [Act.put, List.setIfInBounds_toArray, List.set_cons_zero, List.set_cons_succ])
          (refine wpAnyH_take (i := 6) (oi := R_ROrd19_6) (v := ?_) rfl (by kernel_rfl) (by kernel_rfl) (by kernel_rfl) (fun _ _ _ h => h) (Or.inl ⟨by rfl, ?_⟩) (by assumption) ?_; rotate_left; next => (intro w hSw; (try dsimp only at hSw); (try delta R_ROrd19_6); go_simp; try with_reducible rfl))
          (try simp only [Act.put, List.setIfInBounds_toArray, List.set_cons_zero, List.set_cons_succ])
          refine wpAnyH_ready (rs := [0, 7]) (by kernel_rfl) (by simp) ?_
          refine AllReadyH.cons (o := R_ROrd19_0) rfl (fun K hK => ?_) ?_
          · (try delta R_ROrd19_0)
            go_simp
            (have hWq := HW.out; have HO := Lib.hid (own_new (e := 30) hWq (Nat.le_refl _)); (try (have HX := Lib.hid (HX.out.alloc (.cells #[] 30)))); have HW := Lib.hid (hWq.alloc hWq.size (.cells #[] 30)); clear hWq)
            refine hK.out _ _ ?_ (fun hHeld => ?_)
            · (first | exact hx5 | exact HC5.out _ HW.out)
            clear hK K
            (try simp only [Act.put, List.setIfInBounds_toArray, List.set_cons_zero, List.set_cons_succ])
            refine wpAnyH_ready (rs := [2, 7]) (by kernel_rfl) (by simp) ?_
            refine AllReadyH.cons (o := R_ROrd19_2) rfl (fun K hK => ?_) ?_
            · (try delta R_ROrd19_2)
              (refine step_app0 elemR1 rfl _ _ rfl w5.heap.size _ (by first | rfl | (show Value.slice (some ⟨w5.heap.size + 1, 0, none⟩) 0 0 = _; simp)) HO.out (.slice wa es.length wc) wcells es.length HWL.out rfl (HRW.out _ HW.out) HON.out (by omega) (by omega) HW.out.size ?_; intro va1 vc1 w1 hown hgr; (try (have HX := Lib.hid (HX.out.grown hgr (by simp [Value.ownBlock])))); have HW := Lib.hid (HW.out.grown hgr HW.out.size (fun q hq => (HO.out.lt q hq).1)); have HO := Lib.hid hown; clear hown hgr)
              refine hK.out _ _ ?_ (fun hHeld => ?_)
              · (first | exact hx5 | exact HC5.out _ HW.out)
              clear hK K
              (try simp only [Act.put, List.setIfInBounds_toArray, List.set_cons_zero, List.set_cons_succ])
              refine wpAnyH_ready (rs := [7]) (by kernel_rfl) (by simp) ?_
              refine AllReadyH.cons (o := R_ROrd19_7) rfl (fun K hK => ?_) ?_
              · (try delta R_ROrd19_7)
                go_simp
                (have hWq := HW.out; (try (have HO := Lib.hid (HO.out.alloc (.cells #[.slice pa p.length pc] 30)))); have HX := Lib.hid (blk_new hWq [.slice pa p.length pc] 30); have HW := Lib.hid (hWq.alloc hWq.size (.cells #[.slice pa p.length pc] 30)); clear hWq)
                refine hK.out _ _ ?_ (fun hHeld => ?_)
                · (first | exact hx5 | exact HC5.out _ HW.out)
                clear hK K
                (try simp only [Act.put, List.setIfInBounds_toArray, List.set_cons_zero, List.set_cons_succ])
                refine wpAnyH_done (by kernel_rfl) ?_ _
                (refine last_do (o := { dst := some 83, op := Op.call { callee := Callee.builtin Builtin.append, args := #[Operand.tmp 77, Operand.tmp 82], argTypes := #[22, 22] }, type := 22, pos := "more.go:63", after := #[{ on := 2, ground := Ground.data }, { on := 7, ground := Ground.data }, { on := 2, ground := Ground.chain }], guard := none }) rfl (fun K hK => ?_); refine step_appK elemRs (by decide) rfl _ _ rfl w5.heap.size es.length _ wcells (by rfl) HO.out _ _ [.slice pa p.length pc] rfl rfl (fun j u hu => by rw [addr_add, Nat.zero_add]; first | exact HX.out.cell j u hu | (have := HX.out.cell j u hu; simpa using this)) (by intro u hu; rw [List.mem_singleton.1 hu]; rfl) (by omega) (by omega) HW.out.size ?_; intro va2 vc2 w7 hown hgr; have HW := Lib.hid (HW.out.grown hgr HW.out.size (fun q hq => (HO.out.lt q hq).1)); have HO := Lib.hid hown; clear hown hgr; refine hK.out _ _ ?_; clear hK K; refine last_do (o := { dst := some 10, op := Op.assign (Operand.tmp 83), type := 22, pos := "more.go:63", after := #[{ on := 8, ground := Ground.data }, { on := 8, ground := Ground.chain }, { on := 0, ground := Ground.phase }, { on := 1, ground := Ground.phase }, { on := 2, ground := Ground.phase }, { on := 3, ground := Ground.phase }, { on := 4, ground := Ground.phase }, { on := 5, ground := Ground.phase }, { on := 6, ground := Ground.phase }, { on := 7, ground := Ground.phase }, { on := 8, ground := Ground.phase }], guard := none }) rfl (fun K hK => ?_); go_simp; refine hK.out _ _ ?_; clear hK K; have HO7 := Lib.hid (HO5.out.below HW.out); have HLN := Lib.hid (len_of HO7.out (es.length + 1) (by simp)); go_wp2_with (first | (go_at_call 14; (with_reducible refine (HLN.out).mono ?_); rintro e w' ⟨rfl, rfl⟩) | fail); refine ⟨⟨j + 1, q + 2 + p.length, l5, d5, es ++ [p], bv5, v5, rfl, rfl, hj, (by congr 1), (by omega), HO7.out, WantAt.snoc HWL.out HWE.out HPQ.out HO.out HO5.out.bel.size⟩, (by simp [intOf]; omega)⟩)
              exact AllReadyH.nil
            refine AllReadyH.cons (o := R_ROrd19_7) rfl (fun K hK => ?_) ?_
            · (try delta R_ROrd19_7)
              go_simp
              (have hWq := HW.out; (try (have HO := Lib.hid (HO.out.alloc (.cells #[.slice pa p.length pc] 30)))); have HX := Lib.hid (blk_new hWq [.slice pa p.length pc] 30); have HW := Lib.hid (hWq.alloc hWq.size (.cells #[.slice pa p.length pc] 30)); clear hWq)
              refine hK.out _ _ ?_ (fun hHeld => ?_)
              · (first | exact hx5 | exact HC5.out _ HW.out)
              clear hK K
              (try simp only [Act.put, List.setIfInBounds_toArray, List.set_cons_zero, List.set_cons_succ])
              refine wpAnyH_ready (rs := [2]) (by kernel_rfl) (by simp) ?_
              refine AllReadyH.cons (o := R_ROrd19_2) rfl (fun K hK => ?_) ?_
              · (try delta R_ROrd19_2)
                (refine step_app0 elemR1 rfl _ _ rfl w5.heap.size _ (by first | rfl | (show Value.slice (some ⟨w5.heap.size + 1, 0, none⟩) 0 0 = _; simp)) HO.out (.slice wa es.length wc) wcells es.length HWL.out rfl (HRW.out _ HW.out) HON.out (by omega) (by omega) HW.out.size ?_; intro va1 vc1 w1 hown hgr; (try (have HX := Lib.hid (HX.out.grown hgr (by simp [Value.ownBlock])))); have HW := Lib.hid (HW.out.grown hgr HW.out.size (fun q hq => (HO.out.lt q hq).1)); have HO := Lib.hid hown; clear hown hgr)
                refine hK.out _ _ ?_ (fun hHeld => ?_)
                · (first | exact hx5 | exact HC5.out _ HW.out)
                clear hK K
                (try simp only [Act.put, List.setIfInBounds_toArray, List.set_cons_zero, List.set_cons_succ])
                refine wpAnyH_done (by kernel_rfl) ?_ _
                (refine last_do (o := { dst := some 83, op := Op.call { callee := Callee.builtin Builtin.append, args := #[Operand.tmp 77, Operand.tmp 82], argTypes := #[22, 22] }, type := 22, pos := "more.go:63", after := #[{ on := 2, ground := Ground.data }, { on := 7, ground := Ground.data }, { on := 2, ground := Ground.chain }], guard := none }) rfl (fun K hK => ?_); refine step_appK elemRs (by decide) rfl _ _ rfl w5.heap.size es.length _ wcells (by rfl) HO.out _ _ [.slice pa p.length pc] rfl rfl (fun j u hu => by rw [addr_add, Nat.zero_add]; first | exact HX.out.cell j u hu | (have := HX.out.cell j u hu; simpa using this)) (by intro u hu; rw [List.mem_singleton.1 hu]; rfl) (by omega) (by omega) HW.out.size ?_; intro va2 vc2 w7 hown hgr; have HW := Lib.hid (HW.out.grown hgr HW.out.size (fun q hq => (HO.out.lt q hq).1)); have HO := Lib.hid hown; clear hown hgr; refine hK.out _ _ ?_; clear hK K; refine last_do (o := { dst := some 10, op := Op.assign (Operand.tmp 83), type := 22, pos := "more.go:63", after := #[{ on := 8, ground := Ground.data }, { on := 8, ground := Ground.chain }, { on := 0, ground := Ground.phase }, { on := 1, ground := Ground.phase }, { on := 2, ground := Ground.phase }, { on := 3, ground := Ground.phase }, { on := 4, ground := Ground.phase }, { on := 5, ground := Ground.phase }, { on := 6, ground := Ground.phase }, { on := 7, ground := Ground.phase }, { on := 8, ground := Ground.phase }], guard := none }) rfl (fun K hK => ?_); go_simp; refine hK.out _ _ ?_; clear hK K; have HO7 := Lib.hid (HO5.out.below HW.out); have HLN := Lib.hid (len_of HO7.out (es.length + 1) (by simp)); go_wp2_with (first | (go_at_call 14; (with_reducible refine (HLN.out).mono ?_); rintro e w' ⟨rfl, rfl⟩) | fail); refine ⟨⟨j + 1, q + 2 + p.length, l5, d5, es ++ [p], bv5, v5, rfl, rfl, hj, (by congr 1), (by omega), HO7.out, WantAt.snoc HWL.out HWE.out HPQ.out HO.out HO5.out.bel.size⟩, (by simp [intOf]; omega)⟩)
              exact AllReadyH.nil
            exact AllReadyH.nil
          refine AllReadyH.cons (o := R_ROrd19_7) rfl (fun K hK => ?_) ?_
          · (try delta R_ROrd19_7)
            go_simp
            (have hWq := HW.out; (try (have HO := Lib.hid (HO.out.alloc (.cells #[.slice pa p.length pc] 30)))); have HX := Lib.hid (blk_new hWq [.slice pa p.length pc] 30); have HW := Lib.hid (hWq.alloc hWq.size (.cells #[.slice pa p.length pc] 30)); clear hWq)
            refine hK.out _ _ ?_ (fun hHeld => ?_)
            · (first | exact hx5 | exact HC5.out _ HW.out)
            clear hK K
            (try simp only [Act.put, List.setIfInBounds_toArray, List.set_cons_zero, List.set_cons_succ])
            refine wpAnyH_ready (rs := [0]) (by kernel_rfl) (by simp) ?_
            refine AllReadyH.cons (o := R_ROrd19_0) rfl (fun K hK => ?_) ?_
            · (try delta R_ROrd19_0)
              go_simp
              (have hWq := HW.out; have HO := Lib.hid (own_new (e := 30) hWq (Nat.le_refl _)); (try (have HX := Lib.hid (HX.out.alloc (.cells #[] 30)))); have HW := Lib.hid (hWq.alloc hWq.size (.cells #[] 30)); clear hWq)
              refine hK.out _ _ ?_ (fun hHeld => ?_)
              · (first | exact hx5 | exact HC5.out _ HW.out)
              clear hK K
              (try simp only [Act.put, List.setIfInBounds_toArray, List.set_cons_zero, List.set_cons_succ])
              refine wpAnyH_ready (rs := [2]) (by kernel_rfl) (by simp) ?_
              refine AllReadyH.cons (o := R_ROrd19_2) rfl (fun K hK => ?_) ?_
              · (try delta R_ROrd19_2)
                (refine step_app0 elemR1 rfl _ _ rfl w5.heap.size _ (by first | rfl | (show Value.slice (some ⟨w5.heap.size + 1, 0, none⟩) 0 0 = _; simp)) HO.out (.slice wa es.length wc) wcells es.length HWL.out rfl (HRW.out _ HW.out) HON.out (by omega) (by omega) HW.out.size ?_; intro va1 vc1 w1 hown hgr; (try (have HX := Lib.hid (HX.out.grown hgr (by simp [Value.ownBlock])))); have HW := Lib.hid (HW.out.grown hgr HW.out.size (fun q hq => (HO.out.lt q hq).1)); have HO := Lib.hid hown; clear hown hgr)
                refine hK.out _ _ ?_ (fun hHeld => ?_)
                · (first | exact hx5 | exact HC5.out _ HW.out)
                clear hK K
                (try simp only [Act.put, List.setIfInBounds_toArray, List.set_cons_zero, List.set_cons_succ])
                refine wpAnyH_done (by kernel_rfl) ?_ _
                (refine last_do (o := { dst := some 83, op := Op.call { callee := Callee.builtin Builtin.append, args := #[Operand.tmp 77, Operand.tmp 82], argTypes := #[22, 22] }, type := 22, pos := "more.go:63", after := #[{ on := 2, ground := Ground.data }, { on := 7, ground := Ground.data }, { on := 2, ground := Ground.chain }], guard := none }) rfl (fun K hK => ?_); refine step_appK elemRs (by decide) rfl _ _ rfl w5.heap.size es.length _ wcells (by rfl) HO.out _ _ [.slice pa p.length pc] rfl rfl (fun j u hu => by rw [addr_add, Nat.zero_add]; first | exact HX.out.cell j u hu | (have := HX.out.cell j u hu; simpa using this)) (by intro u hu; rw [List.mem_singleton.1 hu]; rfl) (by omega) (by omega) HW.out.size ?_; intro va2 vc2 w7 hown hgr; have HW := Lib.hid (HW.out.grown hgr HW.out.size (fun q hq => (HO.out.lt q hq).1)); have HO := Lib.hid hown; clear hown hgr; refine hK.out _ _ ?_; clear hK K; refine last_do (o := { dst := some 10, op := Op.assign (Operand.tmp 83), type := 22, pos := "more.go:63", after := #[{ on := 8, ground := Ground.data }, { on := 8, ground := Ground.chain }, { on := 0, ground := Ground.phase }, { on := 1, ground := Ground.phase }, { on := 2, ground := Ground.phase }, { on := 3, ground := Ground.phase }, { on := 4, ground := Ground.phase }, { on := 5, ground := Ground.phase }, { on := 6, ground := Ground.phase }, { on := 7, ground := Ground.phase }, { on := 8, ground := Ground.phase }], guard := none }) rfl (fun K hK => ?_); go_simp; refine hK.out _ _ ?_; clear hK K; have HO7 := Lib.hid (HO5.out.below HW.out); have HLN := Lib.hid (len_of HO7.out (es.length + 1) (by simp)); go_wp2_with (first | (go_at_call 14; (with_reducible refine (HLN.out).mono ?_); rintro e w' ⟨rfl, rfl⟩) | fail); refine ⟨⟨j + 1, q + 2 + p.length, l5, d5, es ++ [p], bv5, v5, rfl, rfl, hj, (by congr 1), (by omega), HO7.out, WantAt.snoc HWL.out HWE.out HPQ.out HO.out HO5.out.bel.size⟩, (by simp [intOf]; omega)⟩)
              exact AllReadyH.nil
            exact AllReadyH.nil
          exact AllReadyH.nil
        · have HAP := Lib.hid (HOA.out.res (by have := HA.out.1; omega) p (by omega) _ HPR.out)
          go_wp2_with (first | (go_at_call 15; (with_reducible refine (HAP.out).mono ?_); rintro e w5 ⟨bv5, v5, l5, d5, rfl, ho5, hc5⟩; have HO5 := Lib.hid ho5; have HW5 := Lib.hid (HWA.out.chl hc5); have hx5 := HC.out _ ho5.bel; clear ho5 hc5) | fail)
          have HB6 : Hid (Below w5.heap.size w5 (w5.alloc (.cells #[.slice pa p.length pc] 30))) := Lib.hid ((Below.refl _ w5).alloc (Nat.le_refl _) _)
          have HO6 := Lib.hid (HO5.out.below HB6.out)
          have HLN : Hid (Calls Tryd.prog 14 #[.pointer (some ⟨L, 0, none⟩)] (w5.alloc (.cells #[.slice pa p.length pc] 30)) (fun e w' => e = .returned (.int .i64 1) ∧ (w5.alloc (.cells #[.slice pa p.length pc] 30)) = w')) := Lib.hid (by
            have q := RLen_c HO6.out.ld
            rw [HO6.out.gd.cnt] at q
            exact q)
          go_wp2_with (first | (go_at_call 14; (with_reducible refine (HLN.out).mono ?_); rintro e w' ⟨rfl, rfl⟩) | fail)
          refine ⟨⟨j + 1, q + 2 + p.length, l5, d5, [p], bv5, v5, rfl, rfl, hj, ?_, by omega, HO6.out, WantAt.one HPQ.out HO5.out.bel.size⟩, ?_⟩
          · congr 1
          · simp [intOf]; omega
    · have hj' : ¬ (j : Int) < (N : Int) := by omega
      have HOP := Lib.hid (open_of HOA.out.ld.drum HOA.out.gd.view)
      clear hoa hwa
      go_wp2_with fail
      with_reducible refine (HOP.out).mono ?_
      rintro e w6 ⟨L6, bv6, va6, vc6, rfl, hl6, hr6, hb6⟩
      have HO6 := Lib.hid (HOA.out.below hb6)
      have HROW := Lib.hid (rows_same hr6.b ((HWA.out.below hb6).b HO6.out.bel))
      clear hl6 hr6 hb6
      go_wp2_with (first | (go_at_call 19; (with_reducible refine (HROW.out).mono ?_); rintro e w7 ⟨rfl, hq⟩; have HO7 := Lib.hid (HO6.out.below hq); have HWT := Lib.hid (wait_of HO7.out); clear hq) | (go_at_call 17; (with_reducible refine (HWT.out).mono ?_); rintro e w' ⟨rfl, rfl⟩) | (go_at_call 16; (with_reducible refine (known5_c _).mono ?_); rintro e w8 ⟨rfl, hq⟩; have HB8 := Lib.hid (HO7.out.below hq).bel; clear hq) | fail)
      go_ret
      exact ⟨rfl, HB8.out⟩
end Go.Proofs.YtlllbacjdjllbaaDoor
