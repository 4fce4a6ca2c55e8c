
/- Contracts of package record: rows of writes. -/
import Derived.Test.YthfckbiciddfdaaDoorDec3
namespace Go.Proofs.YthfckbiciddfdaaDoor
open Go Go.Proofs Go.RowKit
set_option linter.unusedVariables false
set_option linter.unusedSimpArgs false

theorem elemWr : ElemK 31 30 9 112 (cells9 false 0 false (.slice none 0 0) (.slice none 0 0) 0 0 [] 0) := elemK_of (z := .agg #[.bool false, .int .i64 0, .bool false, .slice none 0 0, .slice none 0 0, .int .i64 0, .int .i64 0, .string ⟨#[]⟩, .float .f64 0]) Tryd.underlying31 (by kernel_rfl) rfl rfl
theorem curWr_pf (l : List UInt8) : pot (curWr (some l)).2 + 1 ≤ l.length + 1 := by
  have h := curWr_p (some l)
  rcases h.2.2 with h | h
  · rw [h]; simp [pot]
  · unfold roomWr at h; simp only [pot] at h ⊢; omega
set_option maxRecDepth 100000 in
set_option maxHeartbeats 8000000 in
theorem rowsW_c (R : Option Nat) (B : Nat) (c : Cur) (w : World) (h : CurAt R w B c) (hR : ∀ r, R = some r → r < w.heap.size) (hp : pot c ≤ 10000001) :
    Calls Tryd.prog 38 #[.agg #[.pointer (some ⟨B, 0, none⟩)], .func (.func 39) #[.agg #[.pointer (some ⟨B, 0, none⟩)]] #[]] w (RowsB R B 30 9 WV.cells WV.x extW (rowsC curWr c) w) := by
  have hlt : B < w.heap.size := by obtain ⟨v, h0, _⟩ := h; exact World.block_lt_of_cell? w ⟨B, 0, none⟩ h0
  have CI := Lib.hid (fun W (h : CurAt R W B c) => CInt_c B c W h)
  have CG := Lib.hid (fun c W (h : CurAt R W B c) => Good_c B c W h)
  have TK := Lib.hid (fun W c (h : CurAt R W B c) hR hp => write_c R B c W h hR hp)
  have HC : Hid (rowsC curWr c = rowsN curWr (curInt c).1.toNat (curInt c).2) := Lib.hid rfl
  have HP := Lib.hid (curInt_p c)
  generalize rowsC curWr c = rc at *
  generalize curInt c = p1 at *
  obtain ⟨n, c1⟩ := p1
  dsimp only at HC CI HP
  have H0 := Lib.hid (h.below ((Below.refl _ w).alloc (Nat.le_refl _) (.cells #[.pointer (some ⟨B, 0, none⟩)] 72)))
  have b1 : Blk (w.alloc (.cells #[.pointer (some ⟨B, 0, none⟩)] 72)) w.heap.size [.pointer (some ⟨B, 0, none⟩)] := Blk.new w [.pointer (some ⟨B, 0, none⟩)] _
  have hb0 := b1.cell 0 _ rfl
  have HX := Lib.hid extW_ok
  have HRS : Hid (∀ w1, CurAt R w1 B c1 → (w.alloc (.cells #[.pointer (some ⟨B, 0, none⟩)] 72)).grownBy w1 (some B) → RS R B 30 9 WV.cells extW w (.slice none 0 0) [] c1 w1) := Lib.hid (fun w1 hc hg =>
    ⟨hc, b1.grown hg (by simp; omega), World.ownsRow_nil _ _ _ _, grownBy_trans (World.grownBy_alloc w _ _) hg, hlt, hR, by have := hg.size; simpa using this, by simp⟩)
  have hpc : pot c1 ≤ 10000001 := by have := HP.out.2.1; omega
  clear b1 h hR HP hp
  go_enter Tryd.func38, Tryd.ntmps38
  go_wp2_with (first | (go_at_call 37; (with_reducible refine (CI.out _ H0.out).mono ?_); rintro e w1 ⟨rfl, hc, hg⟩; have H := Lib.hid (HRS.out w1 hc hg); clear hc hg hb0 H0 HRS CI) | fail)
  go_loopw [5, 7] (fun l i wr => ∃ (ys : List WV) (cj : Cur) (va : Option Addr) (vc : Nat), i = .int .i64 (ys.length : Int) ∧ ys.length ≤ n.toNat ∧ l = .slice va ys.length vc ∧ RS R B 30 9 WV.cells extW w (.slice va ys.length vc) ys cj wr ∧ rc = (ys.map WV.x ++ (rowsN curWr (n.toNat - ys.length) cj).1, (rowsN curWr (n.toNat - ys.length) cj).2) ∧ ys.length + pot cj ≤ pot c1) (fun _ i _ => n.toNat - (intOf i).toNat)
  case atStart => exact ⟨[], c1, none, 0, rfl, by simp, rfl, H.out, by rw [HC.out]; simp, by simp⟩
  case round =>
    clear H
    obtain ⟨ys, cj, va, vc, rfl, hle, rfl, hrs, hrc, hpt⟩ := hrel
    have H := Lib.hid hrs
    have HRC := Lib.hid hrc
    have hb1 := H.out.box.cell 0 _ rfl
    clear hrs hrc
    by_cases hltn : ys.length < n.toNat
    · have hi1 : (ys.length : Int) < n := by omega
      cases cj with
      | none =>
        have CGN := Lib.hid (CG.out none _ H.out.cur)
        obtain ⟨m, hm⟩ : ∃ m, n.toNat - ys.length = m + 1 := ⟨n.toNat - ys.length - 1, by omega⟩
        have HZ : Hid (rc = (ys.map WV.x, none)) := Lib.hid (by rw [HRC.out, hm]; simp [rowsN])
        clear hm CG
        go_wp2_with (first | (go_at_call 63; (with_reducible refine CGN.out.mono ?_); rintro e w1 ⟨rfl, rfl⟩) | fail)
        go_ret
        refine ⟨va, vc, ys, rfl, ownsRow_mono H.out.own (by omega), by rw [HZ.out], by rw [HZ.out]; exact H.out.cur, H.out.grown, fun y hy => HX.out.mono (w.heap.size + 1) w.heap.size wr y (by omega) (H.out.ext y hy)⟩
      | some l =>
        have CGN := Lib.hid (CG.out (some l) _ H.out.cur)
        have hpe : pot (some l) = l.length + 1 := rfl
        rw [hpe] at hpt
        have hlp : pot (some l) ≤ 10000001 := by rw [hpe]; omega
        clear hpe
        have TKN := Lib.hid (TK.out _ _ H.out.cur (fun r hr => by have := H.out.far r hr; have := H.out.size; omega) hlp)
        obtain ⟨m, hm⟩ : ∃ m, n.toNat - ys.length = m + 1 := ⟨n.toNat - ys.length - 1, by omega⟩
        have HZ : Hid (rc = (ys.map WV.x ++ ((curWr (some l)).1 :: (rowsN curWr m (curWr (some l)).2).1), (rowsN curWr m (curWr (some l)).2).2)) := Lib.hid (by rw [HRC.out, hm]; rfl)
        have hpf := curWr_pf l
        clear HRC CG
        unfold TakeB at TKN
        generalize curWr (some l) = pz at *
        obtain ⟨x, cz⟩ := pz
        dsimp only at TKN HZ hpf
        go_wp2_with (first | (go_at_call 63; (with_reducible refine CGN.out.mono ?_); rintro e w1 ⟨rfl, rfl⟩) | (go_at_call 39; (with_reducible refine TKN.out.mono ?_); rintro e wq ⟨y, rfl, hpl, hc, hg, hx⟩; have HPL := Lib.hid hpl; have HXY := Lib.hid (HX.out.mono wr.heap.size (w.heap.size + 1) wq y H.out.size hx); replace H := Lib.hid (H.out.call HX.out hc hg); clear hpl hc hg hx; obtain ⟨⟨we, id, g, ss, pr, ⟨ea, eb, et, ew⟩⟩, sa, sc, pa, pc⟩ := y; dsimp only [WV.val]) | (at_builtin; refine wp_appK1 elemWr (by decide) rfl _ _ rfl (w.heap.size + 1) ys.length _ _ rfl H.out.own (WV.cells ⟨⟨we, id, g, ss, pr, ⟨ea, eb, et, ew⟩⟩, sa, sc, pa, pc⟩) rfl rfl (by simp [WV.cells, cells9, Value.oneCell']) ?_ ?_ ?_ ?_))
        · omega
        · omega
        · exact H.out.size
        intro v' w6 hown6 hgr hb6
        have HN := Lib.hid (H.out.push HX.out hown6 hgr HXY.out)
        obtain ⟨va', vc', rfl⟩ := owns_shape hown6
        clear hown6 hgr hb6
        go_wp2_with fail
        go_roundw
        case rel => exact ⟨ys ++ [⟨⟨we, id, g, ss, pr, ⟨ea, eb, et, ew⟩⟩, sa, sc, pa, pc⟩], cz, va', vc', by simp, by simp; omega, by simp, by simpa using HN.out, by rw [HZ.out, ← HPL.out]; simp only [List.length_append, List.length_cons, List.length_nil, Nat.zero_add, show n.toNat - (ys.length + 1) = m by omega, List.map_append, List.map_cons, List.map_nil, List.append_assoc, List.cons_append, List.nil_append], by simp; omega⟩
        case measure => simp [intOf]; omega
    · have hi1 : ¬ (ys.length : Int) < n := by omega
      have HZ : Hid (rc = (ys.map WV.x, cj)) := Lib.hid (by rw [HRC.out, show n.toNat - ys.length = 0 by omega]; simp [rowsN])
      go_wp2_with fail
      go_ret
      refine ⟨va, vc, ys, rfl, ownsRow_mono H.out.own (by omega), by rw [HZ.out], by rw [HZ.out]; exact H.out.cur, H.out.grown, fun y hy => HX.out.mono (w.heap.size + 1) w.heap.size wr y (by omega) (H.out.ext y hy)⟩
end Go.Proofs.YthfckbiciddfdaaDoor
