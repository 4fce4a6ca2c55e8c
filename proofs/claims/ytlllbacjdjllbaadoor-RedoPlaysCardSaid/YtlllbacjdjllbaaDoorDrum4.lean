
/- Contracts of package drum: New, Crash. -/
import Derived.Test.YtlllbacjdjllbaaDoorDrum3
namespace Go.Proofs.YtlllbacjdjllbaaDoor
open Go Go.Proofs Go.RowKit Go.Great
set_option linter.unusedVariables false
set_option linter.unusedSimpArgs false
abbrev R_New4_0 : Oper := { dst := some 6, op := Op.move (Operand.tmp 0), type := 3, pos := "drum.go:28", after := #[], guard := none }
abbrev R_New4_1 : Oper := { dst := some 7, op := Op.makeSlice 62 (Operand.tmp 6) (Operand.tmp 6), type := 62, pos := "drum.go:28", after := #[{ on := 0, ground := Ground.data }, { on := 0, ground := Ground.data }], guard := none }
abbrev R_New4_2 : Oper := { dst := some 8, op := Op.move (Operand.tmp 0), type := 3, pos := "drum.go:28", after := #[], guard := none }
abbrev R_New4_3 : Oper := { dst := some 9, op := Op.makeSlice 62 (Operand.tmp 8) (Operand.tmp 8), type := 62, pos := "drum.go:28", after := #[{ on := 2, ground := Ground.data }, { on := 2, ground := Ground.data }], guard := none }
abbrev R_New4_4 : Oper := { dst := some 10, op := Op.build 65 #[(0, Operand.tmp 7), (1, Operand.tmp 9), (4, Operand.const (Value.int IntKind.i64 (-1)))], type := 65, pos := "drum.go:28", after := #[{ on := 1, ground := Ground.data }, { on := 3, ground := Ground.data }], guard := none }
abbrev R_New4_5 : Oper := { dst := some 11, op := Op.box 65 (Operand.tmp 10), type := 23, pos := "drum.go:28", after := #[{ on := 4, ground := Ground.data }], guard := none }

def newP (n : Nat) : PD := ⟨n, List.replicate (64 * n) 0, List.replicate (64 * n) 0, [], false, -1⟩
theorem elemSec : ElemK 62 78 64 64 (bytesV zero64) := elemK_of (z := .agg (bytesV zero64).toArray) Tryd.underlying62 (by kernel_rfl) rfl rfl
theorem zeroRow (n : Nat) : (List.replicate n (bytesV zero64)).flatten = bytesV (List.replicate (64 * n) 0) := by
  unfold zero64 bytesV
  rw [List.map_replicate, List.map_replicate, List.flatten_replicate_replicate, Nat.mul_comm]
theorem newRow (w : World) (n : Nat) : BlkT (w.alloc (.cells (madeCells (bytesV zero64).toArray (n * 64)) tS)) w.heap.size (bytesV (List.replicate (64 * n) 0)) tS := by
  have e : (madeCells (bytesV zero64).toArray (n * 64)) = (bytesV (List.replicate (64 * n) 0)).toArray := by
    apply Array.ext'
    have := madeCells_flat (bytesV zero64) n (by rw [bytesV_length]; decide)
    rw [bytesV_length, show zero64.length = 64 from List.length_replicate] at this
    rw [this, zeroRow]
  rw [e]
  exact BlkT.new _ _ _
theorem BlkT.alloc {w : World} {g : Nat} {cs : List Value} {t : TypeId} (h : BlkT w g cs t) (o : Obj) : BlkT (w.alloc o) g cs t := by
  unfold BlkT at h ⊢
  rw [← h]
  show (w.heap.push o)[g]? = _
  rw [Array.getElem?_push, if_neg (by have := BlkT.lt h; omega)]
theorem newAt {lo : Nat} {w : World} {D g m n : Nat} (hn : n ≤ 200) (hl : lo ≤ D ∧ lo ≤ g ∧ lo ≤ m) (hne : g ≠ m) (hD : BlkT w D [.slice (some ⟨g, 0, none⟩) n n, .slice (some ⟨m, 0, none⟩) n n, .slice none 0 0, .bool false, .int .i64 (-1)] tD)
    (hg : BlkT w g (bytesV (List.replicate (64 * n) 0)) tS) (hm : BlkT w m (bytesV (List.replicate (64 * n) 0)) tS) : DrumAt lo w D g m (.slice none 0 0) (newP n) :=
  ⟨hD, hg, hm, World.ownsRow_nil _ _ _ _, ⟨hne, hl⟩, ⟨hn, List.length_replicate, List.length_replicate, by simp [newP], by simp [newP]⟩⟩
def NewTo (w : World) (n : Nat) (e : Ending) (w' : World) : Prop := ∃ D g m, e = .returned (.pointer (some ⟨D, 0, none⟩)) ∧ DrumAt w.heap.size w' D g m (.slice none 0 0) (newP n) ∧ Below w.heap.size w w'
theorem newEndA (w : World) (n : Nat) (hn : n ≤ 200) : NewTo w n (.returned (.pointer (some ⟨w.heap.size + 1 + 1, 0, none⟩))) (((w.alloc (.cells (madeCells (bytesV zero64).toArray (n * 64)) 78)).alloc (.cells (madeCells (bytesV zero64).toArray (n * 64)) 78)).alloc (.cells #[.slice (some ⟨w.heap.size, 0, none⟩) n n, .slice (some ⟨w.heap.size + 1, 0, none⟩) n n, .slice none 0 0, .bool false, .int .i64 (-1)] 65)) := by
  have h1 := (newRow w n).alloc (.cells (madeCells (bytesV zero64).toArray (n * 64)) 78)
  have h2 := newRow (w.alloc (.cells (madeCells (bytesV zero64).toArray (n * 64)) 78)) n
  refine ⟨_, _, _, rfl, newAt hn (g := w.heap.size) (m := w.heap.size + 1) (by omega) (by omega) ?_ (h1.alloc _) ?_, ?_⟩
  · have := BlkT.new ((w.alloc (.cells (madeCells (bytesV zero64).toArray (n * 64)) 78)).alloc (.cells (madeCells (bytesV zero64).toArray (n * 64)) 78)) [.slice (some ⟨w.heap.size, 0, none⟩) n n, .slice (some ⟨w.heap.size + 1, 0, none⟩) n n, .slice none 0 0, .bool false, .int .i64 (-1)] tD
    simp at this
    exact this
  · have := h2.alloc (.cells #[.slice (some ⟨w.heap.size, 0, none⟩) n n, .slice (some ⟨w.heap.size + 1, 0, none⟩) n n, .slice none 0 0, .bool false, .int .i64 (-1)] 65)
    simp at this
    exact this
  · exact (((Below.refl _ w).alloc (Nat.le_refl _) _).alloc (by simp) _).alloc (by simp; omega) _
theorem newEndB (w : World) (n : Nat) (hn : n ≤ 200) : NewTo w n (.returned (.pointer (some ⟨w.heap.size + 1 + 1, 0, none⟩))) (((w.alloc (.cells (madeCells (bytesV zero64).toArray (n * 64)) 78)).alloc (.cells (madeCells (bytesV zero64).toArray (n * 64)) 78)).alloc (.cells #[.slice (some ⟨w.heap.size + 1, 0, none⟩) n n, .slice (some ⟨w.heap.size, 0, none⟩) n n, .slice none 0 0, .bool false, .int .i64 (-1)] 65)) := by
  have h1 := (newRow w n).alloc (.cells (madeCells (bytesV zero64).toArray (n * 64)) 78)
  have h2 := newRow (w.alloc (.cells (madeCells (bytesV zero64).toArray (n * 64)) 78)) n
  refine ⟨_, _, _, rfl, newAt hn (g := w.heap.size + 1) (m := w.heap.size) (by omega) (by omega) ?_ ?_ (h1.alloc _), ?_⟩
  · have := BlkT.new ((w.alloc (.cells (madeCells (bytesV zero64).toArray (n * 64)) 78)).alloc (.cells (madeCells (bytesV zero64).toArray (n * 64)) 78)) [.slice (some ⟨w.heap.size + 1, 0, none⟩) n n, .slice (some ⟨w.heap.size, 0, none⟩) n n, .slice none 0 0, .bool false, .int .i64 (-1)] tD
    simp at this
    exact this
  · have := h2.alloc (.cells #[.slice (some ⟨w.heap.size + 1, 0, none⟩) n n, .slice (some ⟨w.heap.size, 0, none⟩) n n, .slice none 0 0, .bool false, .int .i64 (-1)] 65)
    simp at this
    exact this
  · exact (((Below.refl _ w).alloc (Nat.le_refl _) _).alloc (by simp) _).alloc (by simp; omega) _
theorem NewTo.drew {w W : World} {n : Nat} {e : Ending} (h : NewTo w n e W) : NewTo w n e W.drew := by
  obtain ⟨D, g, m, h1, h2, h3⟩ := h
  exact ⟨D, g, m, h1, h2.below (Below.refl _ W).drew, h3.drew⟩
set_option maxRecDepth 100000 in
set_option maxHeartbeats 4000000 in
theorem New_c (w : World) (n : Nat) (hn : n ≤ 200) : Calls Tryd.prog 10 #[.int .i64 (n : Int)] w (NewTo w n) := by
  have h1 : ¬ ((n : Int) < 0) := by omega
  have h2 : ¬ (200 < (n : Int)) := by omega
  have HM := fun W => make_rowK elemSec .i64 .i64 n (by omega) (by omega) W
  have HA := Lib.hid (newEndA w n hn).drew
  have HB := Lib.hid (newEndB w n hn).drew
  go_enter Tryd.func10, Tryd.ntmps10
  go_wp2_with fail
  refine wp_region_last (n := 6) (S := (fun _ => True)) (by kernel_rfl) (by kernel_rfl) (by kernel_rfl) ?_ (fun hHeld => ?_)
  · (exact trivial)
  (refine wpAnyH_take (i := 0) (oi := R_New4_0) (v := ?_) rfl (by kernel_rfl) (by kernel_rfl) (by kernel_rfl) (fun _ _ _ h => h) (Or.inl ⟨by rfl, ?_⟩) (by assumption) ?_; rotate_left; next => (intro w hSw; (try dsimp only at hSw); (try delta R_New4_0); go_simp; try with_reducible rfl))
  (try simp only [Act.put, List.setIfInBounds_toArray, List.set_cons_zero, List.set_cons_succ])
  (refine wpAnyH_take (i := 2) (oi := R_New4_2) (v := ?_) rfl (by kernel_rfl) (by kernel_rfl) (by kernel_rfl) (fun _ _ _ h => h) (Or.inl ⟨by rfl, ?_⟩) (by assumption) ?_; rotate_left; next => (intro w hSw; (try dsimp only at hSw); (try delta R_New4_2); go_simp; try with_reducible rfl))
  (try simp only [Act.put, List.setIfInBounds_toArray, List.set_cons_zero, List.set_cons_succ])
  refine wpAnyH_ready (rs := [1, 3]) (by kernel_rfl) (by simp) ?_
  refine AllReadyH.cons (o := R_New4_1) rfl (fun K hK => ?_) ?_
  · (try delta R_New4_1)
    go_simp
    refine hK.out _ _ ?_ (fun hHeld => ?_)
    · (exact trivial)
    clear hK K
    (try simp only [Act.put, List.setIfInBounds_toArray, List.set_cons_zero, List.set_cons_succ])
    refine wpAnyH_ready (rs := [3]) (by kernel_rfl) (by simp) ?_
    refine AllReadyH.cons (o := R_New4_3) rfl (fun K hK => ?_) AllReadyH.nil
    (try delta R_New4_3)
    go_simp
    refine hK.out _ _ ?_ (fun hHeld => ?_)
    · (exact trivial)
    clear hK K
    (try simp only [Act.put, List.setIfInBounds_toArray, List.set_cons_zero, List.set_cons_succ])
    refine wpAnyH_ready (rs := [4]) (by kernel_rfl) (by simp) ?_
    refine AllReadyH.cons (o := R_New4_4) rfl (fun K hK => ?_) AllReadyH.nil
    (try delta R_New4_4)
    go_simp
    refine hK.out _ _ ?_ (fun hHeld => ?_)
    · (exact trivial)
    clear hK K
    (try simp only [Act.put, List.setIfInBounds_toArray, List.set_cons_zero, List.set_cons_succ])
    refine wpAnyH_ready (rs := [5]) (by kernel_rfl) (by simp) ?_
    refine AllReadyH.cons (o := R_New4_5) rfl (fun K hK => ?_) AllReadyH.nil
    (try delta R_New4_5)
    go_simp
    refine hK.out _ _ ?_ (fun hHeld => ?_)
    · (exact trivial)
    clear hK K
    (try simp only [Act.put, List.setIfInBounds_toArray, List.set_cons_zero, List.set_cons_succ])
    refine wpAnyH_done (by kernel_rfl) ?_ _
    (refine last_do (o := { dst := some 2, op := Op.assign (Operand.tmp 11), type := 23, pos := "drum.go:28", after := #[{ on := 5, ground := Ground.data }, { on := 0, ground := Ground.phase }, { on := 1, ground := Ground.phase }, { on := 2, ground := Ground.phase }, { on := 3, ground := Ground.phase }, { on := 4, ground := Ground.phase }, { on := 5, ground := Ground.phase }], guard := none }) rfl (fun K hK => ?_); go_simp; refine hK.out _ _ ?_; clear hK K; go_wp2_with fail; go_ret; first | exact HA.out | exact HB.out)
  refine AllReadyH.cons (o := R_New4_3) rfl (fun K hK => ?_) ?_
  · (try delta R_New4_3)
    go_simp
    refine hK.out _ _ ?_ (fun hHeld => ?_)
    · (exact trivial)
    clear hK K
    (try simp only [Act.put, List.setIfInBounds_toArray, List.set_cons_zero, List.set_cons_succ])
    refine wpAnyH_ready (rs := [1]) (by kernel_rfl) (by simp) ?_
    refine AllReadyH.cons (o := R_New4_1) rfl (fun K hK => ?_) AllReadyH.nil
    (try delta R_New4_1)
    go_simp
    refine hK.out _ _ ?_ (fun hHeld => ?_)
    · (exact trivial)
    clear hK K
    (try simp only [Act.put, List.setIfInBounds_toArray, List.set_cons_zero, List.set_cons_succ])
    refine wpAnyH_ready (rs := [4]) (by kernel_rfl) (by simp) ?_
    refine AllReadyH.cons (o := R_New4_4) rfl (fun K hK => ?_) AllReadyH.nil
    (try delta R_New4_4)
    go_simp
    refine hK.out _ _ ?_ (fun hHeld => ?_)
    · (exact trivial)
    clear hK K
    (try simp only [Act.put, List.setIfInBounds_toArray, List.set_cons_zero, List.set_cons_succ])
    refine wpAnyH_ready (rs := [5]) (by kernel_rfl) (by simp) ?_
    refine AllReadyH.cons (o := R_New4_5) rfl (fun K hK => ?_) AllReadyH.nil
    (try delta R_New4_5)
    go_simp
    refine hK.out _ _ ?_ (fun hHeld => ?_)
    · (exact trivial)
    clear hK K
    (try simp only [Act.put, List.setIfInBounds_toArray, List.set_cons_zero, List.set_cons_succ])
    refine wpAnyH_done (by kernel_rfl) ?_ _
    (refine last_do (o := { dst := some 2, op := Op.assign (Operand.tmp 11), type := 23, pos := "drum.go:28", after := #[{ on := 5, ground := Ground.data }, { on := 0, ground := Ground.phase }, { on := 1, ground := Ground.phase }, { on := 2, ground := Ground.phase }, { on := 3, ground := Ground.phase }, { on := 4, ground := Ground.phase }, { on := 5, ground := Ground.phase }], guard := none }) rfl (fun K hK => ?_); go_simp; refine hK.out _ _ ?_; clear hK K; go_wp2_with fail; go_ret; first | exact HA.out | exact HB.out)
  exact AllReadyH.nil
end Go.Proofs.YtlllbacjdjllbaaDoor
