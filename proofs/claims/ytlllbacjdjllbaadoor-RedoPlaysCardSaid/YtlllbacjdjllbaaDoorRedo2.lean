
/- Contracts of package redo: newest. -/
import Derived.Test.YtlllbacjdjllbaaDoorRedo1
namespace Go.Proofs.YtlllbacjdjllbaaDoor
open Go Go.Proofs Go.Shelf Go.RowKit Go.Great
set_option linter.unusedVariables false
set_option linter.unusedSimpArgs false

def newestOf (a b : HD3 × Bool) : HD3 := if a.2 && (!b.2 || decide (b.1.number ≤ a.1.number)) then a.1 else if b.2 then b.1 else ⟨0, 0, 0⟩
def newestP (d : PD) : HD3 := newestOf (headOfP d 0) (headOfP d 1)
theorem headEnd2 {w w7 : World} {n1 n2 n3 : Int} (h : BlkT w7 w.heap.size [.int .i64 0, .int .i64 0, .int .i64 0] 67) (hb : Below w.heap.size w w7) :
    BlkT (((w7.setCell ⟨w.heap.size, 0, none⟩ (.int .i64 n1)).setCell ⟨w.heap.size, 1, none⟩ (.int .i64 n2)).setCell ⟨w.heap.size, 2, none⟩ (.int .i64 n3)) w.heap.size [.int .i64 n1, .int .i64 n2, .int .i64 n3] 67 ∧
    Below w.heap.size w (((w7.setCell ⟨w.heap.size, 0, none⟩ (.int .i64 n1)).setCell ⟨w.heap.size, 1, none⟩ (.int .i64 n2)).setCell ⟨w.heap.size, 2, none⟩ (.int .i64 n3)) := by
  have g1 : ∀ {W : World} (j : Nat) (u : Value), Below w.heap.size w W → Below w.heap.size w (W.setCell ⟨w.heap.size, j, none⟩ u) := fun {W} j u hb => hb.grown (grownBy_set W w.heap.size j u) hb.size (fun k hk => by cases hk; exact Nat.le_refl _)
  exact ⟨((h.set 0 _).set 1 _).set 2 _, g1 2 _ (g1 1 _ (g1 0 _ hb))⟩
theorem headEnd3 {w w7 : World} {n1 n2 n3 : Int} (h : BlkT w7 w.heap.size [.int .i64 0, .int .i64 0, .int .i64 0] 67) (hb : Below w.heap.size w w7) (o : Obj) :
    BlkT ((((w7.setCell ⟨w.heap.size, 0, none⟩ (.int .i64 n1)).setCell ⟨w.heap.size, 1, none⟩ (.int .i64 n2)).setCell ⟨w.heap.size, 2, none⟩ (.int .i64 n3)).alloc o) w.heap.size [.int .i64 n1, .int .i64 n2, .int .i64 n3] 67 ∧
    Below w.heap.size w ((((w7.setCell ⟨w.heap.size, 0, none⟩ (.int .i64 n1)).setCell ⟨w.heap.size, 1, none⟩ (.int .i64 n2)).setCell ⟨w.heap.size, 2, none⟩ (.int .i64 n3)).alloc o) := by
  obtain ⟨h1, h2⟩ := headEnd2 (n1 := n1) (n2 := n2) (n3 := n3) h hb
  exact ⟨h1.alloc o, h2.alloc h2.size o⟩
section
variable {lo D g m : Nat} {v : Value} {d : PD} {w : World}
set_option maxRecDepth 100000 in
set_option maxHeartbeats 8000000 in
theorem newest_c (h : DrumAt lo w D g m v d) (hn : 4 ≤ d.n) : Calls Tryd.prog 33 #[.pointer (some ⟨D, 0, none⟩)] w fun e w' => e = .returned (newestP d).val ∧ Below w.heap.size w w' := by
  have C0 := Lib.hid (fun W (hb : Below w.heap.size w W) => headOf_c (h.below hb) hn 0 (by omega))
  have C1 := Lib.hid (fun W (hb : Below w.heap.size w W) => headOf_c (h.below hb) hn 1 (by omega))
  have HP : Hid (newestP d = newestOf (headOfP d 0) (headOfP d 1)) := Lib.hid rfl
  rw [HP.out]
  clear h HP
  generalize headOfP d 0 = pa at *
  generalize headOfP d 1 = pb at *
  obtain ⟨⟨a1, a2, a3⟩, ba⟩ := pa
  obtain ⟨⟨b1, b2, b3⟩, bb⟩ := pb
  simp only [HD3.val, Int.natCast_zero, Int.cast_ofNat_Int] at C0 C1
  go_enter Tryd.func33, Tryd.ntmps33
  go_wp2_with fail
  with_reducible refine (C0.out _ ((Below.refl _ w).alloc (Nat.le_refl _) _)).mono ?_
  rintro e w1 ⟨rfl, hb1⟩
  have h0 := (BlkT.new w [.int .i64 0, .int .i64 0, .int .i64 0] 67).below hb1
  have hW1 : Below w.heap.size w w1 := ((Below.refl _ w).alloc (Nat.le_refl _) _).trans (hb1.mono (by simp))
  have hs1 : w.heap.size < w1.heap.size := by have := hb1.size; simp at this; omega
  have HS1 := Lib.hid hs1
  have H1 := Lib.hid (h0.below ((Below.refl _ w1).alloc (Nat.le_refl _) (.cells #[.int .i64 a1, .int .i64 a2, .int .i64 a3] 67)))
  have HA := Lib.hid (BlkT.new w1 [.int .i64 a1, .int .i64 a2, .int .i64 a3] 67)
  have HB := Lib.hid (hW1.alloc hW1.size (.cells #[.int .i64 a1, .int .i64 a2, .int .i64 a3] 67))
  have HS2 : Hid (w1.heap.size < (w1.alloc (.cells #[.int .i64 a1, .int .i64 a2, .int .i64 a3] 67)).heap.size) := Lib.hid (by simp)
  clear hb1 h0 hW1 hs1
  go_wp2_with fail
  generalize (w1.alloc (.cells #[.int .i64 a1, .int .i64 a2, .int .i64 a3] 67)) = w2 at *
  with_reducible refine (C1.out _ HB.out).mono ?_
  rintro e w3 ⟨rfl, hb3⟩
  have H3 := Lib.hid ((H1.out.below hb3).below ((Below.refl _ w3).alloc (Nat.le_refl _) (.cells #[.int .i64 b1, .int .i64 b2, .int .i64 b3] 67)))
  have HA3 := Lib.hid ((HA.out.below hb3).below ((Below.refl _ w3).alloc (Nat.le_refl _) (.cells #[.int .i64 b1, .int .i64 b2, .int .i64 b3] 67)))
  have HB3 := Lib.hid (BlkT.new w3 [.int .i64 b1, .int .i64 b2, .int .i64 b3] 67)
  have hbw := HB.out.trans (hb3.mono HB.out.size)
  have HW3 := Lib.hid (hbw.alloc hbw.size (.cells #[.int .i64 b1, .int .i64 b2, .int .i64 b3] 67))
  have HN : Hid (w.heap.size < w3.heap.size ∧ w1.heap.size < w3.heap.size ∧ w.heap.size < w1.heap.size) := Lib.hid (by have := hb3.size; have := HS1.out; have := HS2.out; omega)
  have hr := H1.out.below hb3
  have ha := HA.out.below hb3
  have r0 := hr.blk.cell 0 _ rfl
  have r1 := hr.blk.cell 1 _ rfl
  have r2 := hr.blk.cell 2 _ rfl
  have q0 := hr.blk.thaw 0
  have q1 := hr.blk.thaw 1
  have q2 := hr.blk.thaw 2
  have s0 := ha.blk.cell 0 _ rfl
  have s1 := ha.blk.cell 1 _ rfl
  have s2 := ha.blk.cell 2 _ rfl
  obtain ⟨n1, n2, n3⟩ := HN.out
  have HEA := Lib.hid (headEnd3 (n1 := a1) (n2 := a2) (n3 := a3) hr hbw (.cells #[.int .i64 b1, .int .i64 b2, .int .i64 b3] 67))
  have HEB := Lib.hid (headEnd3 (n1 := b1) (n2 := b2) (n3 := b3) hr hbw (.cells #[.int .i64 b1, .int .i64 b2, .int .i64 b3] 67))
  have HEZ := Lib.hid (headEnd3 (n1 := 0) (n2 := 0) (n3 := 0) hr hbw (.cells #[.int .i64 b1, .int .i64 b2, .int .i64 b3] 67))
  clear hb3 hbw hr ha
  cases ba
  · cases bb
    · go_wp2_with fail
      refine bodyPost_ret (results_cell_row rfl _ _ w.heap.size 67 #[_, _, _] (0, 0) _ rfl HEZ.out.1 Tryd.underlying67 rfl infoHead) rfl ?_
      exact ⟨by simp [newestOf, HD3.val], HEZ.out.2⟩
    · go_wp2_with fail
      refine bodyPost_ret (results_cell_row rfl _ _ w.heap.size 67 #[_, _, _] (0, 0) _ rfl HEB.out.1 Tryd.underlying67 rfl infoHead) rfl ?_
      exact ⟨by simp [newestOf, HD3.val], HEB.out.2⟩
  · cases bb
    · go_wp2_with fail
      refine bodyPost_ret (results_cell_row rfl _ _ w.heap.size 67 #[_, _, _] (0, 0) _ rfl HEA.out.1 Tryd.underlying67 rfl infoHead) rfl ?_
      exact ⟨by simp [newestOf, HD3.val], HEA.out.2⟩
    · by_cases hk : b1 ≤ a1
      · have HK := Lib.hid hk
        go_wp2_with fail
        refine bodyPost_ret (results_cell_row rfl _ _ w.heap.size 67 #[_, _, _] (0, 0) _ rfl HEA.out.1 Tryd.underlying67 rfl infoHead) rfl ?_
        exact ⟨by simp [newestOf, HD3.val, HK.out], HEA.out.2⟩
      · have hk2 : a1 < b1 := by omega
        have HK := Lib.hid hk
        clear hk
        go_wp2_with fail
        refine bodyPost_ret (results_cell_row rfl _ _ w.heap.size 67 #[_, _, _] (0, 0) _ rfl HEB.out.1 Tryd.underlying67 rfl infoHead) rfl ?_
        exact ⟨by unfold newestOf; rw [if_neg (by simpa using hk2)]; rfl, HEB.out.2⟩
end
end Go.Proofs.YtlllbacjdjllbaaDoor
