/- The laws on package shape: ShapeBounds. -/
import Derived.Test.YtlgglkkafcbikaaDoorShape3
import Derived.Test.YtlgglkkafcbikaaDoorRowM
import Derived.Test.YtlgglkkafcbikaaDoorNode
namespace Go.Proofs.YtlgglkkafcbikaaDoor
open Go Go.Proofs Go.RowKit
set_option linter.unusedVariables false
set_option linter.unusedSimpArgs false

theorem elemPN : ElemK 22 48 12 128 zPN.cells := elemK_of (z := zPN.v) Tryd.underlying22 (by kernel_rfl) rfl rfl
theorem elemPE : ElemK 23 34 4 40 (⟨0, 0, [], false⟩ : PE).cells := elemK_of (z := (⟨0, 0, [], false⟩ : PE).v) Tryd.underlying23 (by kernel_rfl) rfl rfl
theorem rep_flat (cs : List Value) (j : Nat) : (List.replicate j cs).flatten ++ cs = (List.replicate (j + 1) cs).flatten := by
  rw [List.replicate_succ', List.flatten_append]; simp
/-- j edges laid. -/
def FB (w : World) (n : Nat) (f t : Int) (j : Nat) (wr : World) : Prop := ∃ v, wr.ownsRow (w.heap.size + 2) 34 4 v j (List.replicate j (⟨f, t, [], false⟩ : PE).cells).flatten ∧ Blk wr (w.heap.size + 1) [.slice (some ⟨w.heap.size, 0, none⟩) n n, v] ∧ Blk wr w.heap.size (List.replicate n zPN.cells).flatten ∧ Below w.heap.size w wr ∧ w.heap.size + 2 ≤ wr.heap.size
theorem bounds_pat (n m : Nat) (f t : Int) : patB (List.replicate n zPN) (List.replicate m ⟨f, t, [], false⟩) = decide ((1 ≤ n ∧ n ≤ 4 ∧ m ≤ 4) ∧ (m = 0 ∨ ((0 ≤ f ∧ f < n) ∧ (0 ≤ t ∧ t < n)))) := by
  have h0 : okPN zPN = true := by decide +kernel
  have h1 : (List.replicate n zPN).any (fun p => !okPN p) = false := by
    rw [List.any_eq_false]; intro x hx; rw [(List.mem_replicate.1 hx).2, h0]; simp
  have h2 : (List.replicate m (⟨f, t, [], false⟩ : PE)).any (fun p => !okPE n p) = (decide (m ≠ 0) && !(decide (0 ≤ f ∧ f < n) && decide (0 ≤ t ∧ t < n))) := by
    cases m with
    | zero => simp
    | succ m =>
      rw [Bool.eq_iff_iff, List.any_eq_true]
      constructor
      · rintro ⟨x, hx, hy⟩
        rw [(List.mem_replicate.1 hx).2] at hy
        simp [okPE, optB] at hy ⊢
        omega
      · intro h
        refine ⟨⟨f, t, [], false⟩, by simp, ?_⟩
        simp [okPE, optB] at h ⊢
        omega
  unfold patB
  simp only [List.length_replicate, h1, h2, Bool.not_false, Bool.and_true]
  rw [Bool.eq_iff_iff]
  simp
  omega
theorem FB.row {w : World} {n : Nat} {f t : Int} {j : Nat} {wr : World} {v : Value} (h : wr.ownsRow (w.heap.size + 2) 34 4 v j (List.replicate j (⟨f, t, [], false⟩ : PE).cells).flatten) :
    RowK 4 wr v ((List.replicate j (⟨f, t, [], false⟩ : PE)).map PE.cells) := by
  have := (RowK.ofOwns (xs := List.replicate j (⟨f, t, [], false⟩ : PE).cells) (by decide) (by intro x hx; rw [(List.mem_replicate.1 hx).2]; rfl) h).2
  rw [List.map_replicate]
  exact this
theorem FB.nodes {n : Nat} {wr : World} {g : Nat} (h : Blk wr g (List.replicate n zPN.cells).flatten) (hn : n ≤ 8) : RowK 12 wr (.slice (some ⟨g, 0, none⟩) n n) ((List.replicate n zPN).map PN.cells) := by
  have := RowK.ofBlk (k := 12) (c := n) (xs := List.replicate n zPN.cells) h (by intro x hx; rw [(List.mem_replicate.1 hx).2]; rfl) rfl (by rw [List.length_replicate]; unfold maxLen; omega) (by simp)
  rw [List.map_replicate]
  rw [List.length_replicate] at this
  exact this
set_option maxRecDepth 100000 in
set_option maxHeartbeats 4000000 in
theorem ShapeBounds_core (a0 : Int) (a1 : Int) (a2 : Int) (a3 : Int) (w : World) (w0 : (Lit.int .i64 a0).wf = true) (w1 : (Lit.int .i64 a1).wf = true) (w2 : (Lit.int .i64 a2).wf = true) (w3 : (Lit.int .i64 a3).wf = true) :
    Calls Tryd.prog 5 #[.int .i64 a0, .int .i64 a1, .int .i64 a2, .int .i64 a3] w fun e w' => e = .returned (.bool true) ∧ Below w.heap.size w w' := by
  clear w0 w1 w2 w3
  by_cases hg : (0 ≤ a0 ∧ a0 ≤ 8) ∧ (0 ≤ a1 ∧ a1 ≤ 8)
  · obtain ⟨⟨g0, g1⟩, ⟨g2, g3⟩⟩ := hg
    obtain ⟨n, rfl⟩ : ∃ n : Nat, a0 = n := ⟨a0.toNat, by omega⟩
    obtain ⟨m, rfl⟩ : ∃ n : Nat, a1 = n := ⟨a1.toNat, by omega⟩
    have hn8 : n ≤ 8 := by omega
    have hm8 : m ≤ 8 := by omega
    have hmk := fun w => make_rowK elemPN .i64 .i64 n (by omega) (by omega) w
    have HSt : Hid (FB w n a2 a3 0 ((w.alloc (.cells (madeCells zPN.cells.toArray (n * 12)) 48)).alloc (.cells #[.slice (some ⟨w.heap.size, 0, none⟩) n n, .slice none 0 0] 25))) := Lib.hid (by
      refine ⟨.slice none 0 0, ⟨by simp, .inl ⟨rfl, rfl⟩⟩, ?_, (made_blk elemPN (by decide) w n _).alloc _, ((Below.refl _ w).alloc (Nat.le_refl _) _).alloc (by simp) _, by simp⟩
      have := Blk.new (w.alloc (.cells (madeCells zPN.cells.toArray (n * 12)) 48)) [.slice (some ⟨w.heap.size, 0, none⟩) n n, .slice none 0 0] 25
      simpa using this)
    go_enter Tryd.func5, Tryd.ntmps5
    go_wp2_with fail
    clear hmk
    go_loopw [10] (fun i wr => ∃ j : Nat, j ≤ m ∧ i = .int .i64 (j : Int) ∧ FB w n a2 a3 j wr) (fun i _ => m - (intOf i).toNat)
    case atStart => exact ⟨0, by omega, rfl, HSt.out⟩
    case round =>
      obtain ⟨j, hj, rfl, ⟨v, hown, hb1, hb0, hbl, hsz⟩⟩ := hrel
      clear HSt
      obtain ⟨va, vc, rfl⟩ := owns_shape hown
      by_cases hlt : j < m
      · have d1 := hb1.cell 1 _ rfl
        go_wp2_with (at_builtin; refine wp_appK1 elemPE (by decide) rfl _ _ rfl (w.heap.size + 2) j _ _ rfl hown (⟨a2, a3, [], false⟩ : PE).cells rfl rfl ?_ ?_ ?_ ?_ ?_)
        · simp [PE.cells, Value.oneCell']
        · omega
        · omega
        · exact hsz
        intro v' w6 hown6 hgr hb6
        rw [rep_flat] at hown6
        have hrow : Value.ownBlock (.slice va j vc) ≠ some (w.heap.size + 1) ∧ Value.ownBlock (.slice va j vc) ≠ some w.heap.size := by
          constructor <;> (intro h; have := (hown.lt _ h).1; omega)
        have hb1' := (hb1.alloc (.cells (⟨a2, a3, [], false⟩ : PE).cells.toArray 34)).grown hgr hrow.1
        have hb0' := (hb0.alloc (.cells (⟨a2, a3, [], false⟩ : PE).cells.toArray 34)).grown hgr hrow.2
        have e1 := hb1'.thaw 1
        have e0 := hb1'.cell 1 _ rfl
        have hbl' := hbl.trans (hb6.mono (by omega))
        have hsz' := Nat.le_trans hsz hb6.size
        obtain ⟨va', vc', rfl⟩ := owns_shape hown6
        have HN : Hid (FB w n a2 a3 (j + 1) (w6.setCell ⟨w.heap.size + 1, 1, none⟩ (.slice va' (j + 1) vc'))) :=
          Lib.hid ⟨_, ownsRow_setCell_below hown6 (by show w.heap.size + 1 < w.heap.size + 2; omega) _, hb1'.set 1 _, hb0'.other (by omega) 1 _, hbl'.setCell (by show w.heap.size ≤ w.heap.size + 1; omega) _, by simpa [World.setCell] using hsz'⟩
        clear hown hown6 hb1 hb0 hb1' hb0' hbl hbl' hgr hb6 hrow d1 hsz hsz'
        go_wp2_with fail
        go_roundw
        case rel => exact ⟨j + 1, by omega, by go_num, HN.out⟩
        case measure => simp [intOf]; omega
      · obtain rfl : j = m := by omega
        have HI := Lib.hid (PIs_c (List.replicate n zPN) (List.replicate j ⟨a2, a3, [], false⟩) _ _ wr (FB.nodes hb0 hn8) (FB.row (n := n) hown) (by intro p hp; rw [(List.mem_replicate.1 hp).2]; exact ⟨by decide, by decide⟩) (by intro p hp; rw [(List.mem_replicate.1 hp).2]; simp))
        rw [bounds_pat] at HI
        have d0 := hb1.cell 0 _ rfl
        have d1 := hb1.cell 1 _ rfl
        have HBL := Lib.hid hbl
        have hc : ((1 ≤ n ∧ n ≤ 4 ∧ j ≤ 4) ∧ (j = 0 ∨ ((0 ≤ a2 ∧ a2 < n) ∧ (0 ≤ a3 ∧ a3 < n)))) ∨ ¬ ((1 ≤ n ∧ n ≤ 4 ∧ j ≤ 4) ∧ (j = 0 ∨ ((0 ≤ a2 ∧ a2 < n) ∧ (0 ≤ a3 ∧ a3 < n)))) := Classical.em _
        have hc2 : (1 ≤ n ∧ n ≤ 4 ∧ j ≤ 4 ∧ j ≤ 0) ∨ (1 ≤ n ∧ n ≤ 4 ∧ j ≤ 4 ∧ 0 < j ∧ 0 ≤ a2 ∧ a2 < n ∧ 0 ≤ a3 ∧ a3 < n) ∨ n < 1 ∨ (1 ≤ n ∧ 4 < n) ∨ (1 ≤ n ∧ n ≤ 4 ∧ 4 < j) ∨ (1 ≤ n ∧ n ≤ 4 ∧ j ≤ 4 ∧ 0 < j ∧ a2 < 0) ∨ (1 ≤ n ∧ n ≤ 4 ∧ j ≤ 4 ∧ 0 < j ∧ 0 ≤ a2 ∧ n ≤ a2) ∨ (1 ≤ n ∧ n ≤ 4 ∧ j ≤ 4 ∧ 0 < j ∧ 0 ≤ a2 ∧ a2 < n ∧ a3 < 0) ∨ (1 ≤ n ∧ n ≤ 4 ∧ j ≤ 4 ∧ 0 < j ∧ 0 ≤ a2 ∧ a2 < n ∧ 0 ≤ a3 ∧ n ≤ a3) := by omega
        clear hc hown hb1 hb0 hbl hsz hn8 hm8
        rcases hc2 with ⟨c1, c2, c3, c4⟩ | ⟨c1, c2, c3, c4, c5, c6, c7, c8⟩ | c1 | ⟨c1, c2⟩ | ⟨c1, c2, c3⟩ | ⟨c1, c2, c3, c4, c5⟩ | ⟨c1, c2, c3, c4, c5, c6⟩ | ⟨c1, c2, c3, c4, c5, c6, c7⟩ | ⟨c1, c2, c3, c4, c5, c6, c7, c8⟩
        all_goals
          first
          | rw [decide_eq_true (by omega)] at HI
          | rw [decide_eq_false (by omega)] at HI
          (try (have q0 : ((j : Int) == 0) = true := by simp; omega))
          (try (have q0 : ((j : Int) == 0) = false := by simp; omega))
          go_wp2_with (first | (go_at_call 11; (with_reducible refine HI.out.mono ?_); rintro e wq ⟨rfl, hq⟩; have HQ := Lib.hid (HBL.out.trans (hq.mono HBL.out.size)); clear hq) | (go_at_call 13; (with_reducible refine (known12_c _).mono ?_); rintro e wq ⟨rfl, hq⟩; have HQ := Lib.hid (HQ.out.trans (hq.mono HQ.out.size)); clear hq))
          go_ret
          exact ⟨by first | rfl | (refine congrArg (fun b => Ending.returned (Value.bool b)) ?_; simp; omega), HQ.out⟩
  · go_enter Tryd.func5, Tryd.ntmps5
    go_wp2_with fail
    all_goals first | (exfalso; omega) | (go_ret; exact ⟨rfl, Below.refl _ w⟩)
end Go.Proofs.YtlgglkkafcbikaaDoor
