
/- Package record: the key of a map: a struct of a bool and an int. -/
import Derived.Test.YtmbffncmogpkfaaGreatDoorRec3
import Derived.Test.YtmbffncmogpkfaaGreatDoorOpen
import Derived.Maps.OwnSet
import Derived.Maps.Views
import Derived.DeepKeys4
namespace Go.Proofs.YtmbffncmogpkfaaGreatDoor
open Go Go.Proofs Go.RowKit
set_option linter.unusedVariables false
set_option linter.unusedSimpArgs false

theorem subj_laidOut : laidOutB Tryz.prog = true := by kernel_rfl
theorem subj_law : WideMaps.KeyLaw Tryz.prog 82 := deep_law_laid subj_laidOut (m := 2) (by omega) (of_decide_eq_true (by kernel_rfl)) (by kernel_rfl) (by rw [Tryz.underlying82])
theorem subj_keyed : Maps.Keyed Tryz.prog 82 := Maps.Keyed.of_law subj_law
theorem subj_key (e : Bool) (id : Int) (hi : i64R id) : keyOf Tryz.prog 82 (.agg #[.bool e, .int .i64 id]) = some (.string (keyBytes [.bool e, .int .i64 id])) := by
  have hw : (Lit.int .i64 id).wf = true := by
    obtain ⟨h1, h2⟩ := hi
    simp [Lit.wf, IntKind.min, IntKind.max, IntKind.signed, IntKind.bits]; omega
  have h1 : Tryz.prog.keyType 82 = true := by kernel_rfl
  have h2 : Tryz.prog.cellsOf 82 = 2 := by kernel_rfl
  have h3 : Tryz.prog.cellsOf 3 = 1 := by kernel_rfl
  have h4 : Tryz.prog.cellsOf 4 = 1 := by kernel_rfl
  have h5 : ∃ n, Tryz.prog.types.size = n + 1 := ⟨Tryz.prog.types.size - 1, by kernel_rfl⟩
  obtain ⟨n, hn⟩ := h5
  unfold keyOf
  rw [Tryz.underlying82, hn]
  simp [h1, h2, h3, h4, hw, Value.formed, Value.cells, Program.keyLits, Tryz.underlying82, Tryz.underlying3, Tryz.underlying4]
def subjL (e : Bool) (id : Int) : Lit := .string (keyBytes [.bool e, .int .i64 id])
/-- the map in block mb reads as the subjects ks. -/
def SeenS (W : World) (mb n : Nat) (ks : List (Bool × Int)) : Prop :=
  ∃ D : DataW Unit, W.ownsMap Tryz.prog 82 (plainElem Tryz.prog 4) mb n D ∧ (∀ e id, i64R id → D.atKey (subjL e id) (.lit (.bool false)) = .lit (.bool (ks.contains (e, id))))
theorem SeenS.start (w : World) : SeenS (w.alloc (.map #[] 0)) w.heap.size 0 [] := ⟨.map [], World.ownsMap_made w _ _ _, fun e i _ => Maps.atKey_of_not_has rfl _⟩
theorem SeenS.held {W W' : World} {mb n : Nat} {ks : List (Bool × Int)} (h : SeenS W mb n ks) (hh : W'.heap[mb]? = W.heap[mb]?) : SeenS W' mb n ks := by
  obtain ⟨D, ⟨es', clock, hb, rest⟩, h2⟩ := h
  exact ⟨D, ⟨es', clock, hh.trans hb, rest⟩, h2⟩
theorem SeenS.lt {W : World} {mb n : Nat} {ks : List (Bool × Int)} (h : SeenS W mb n ks) : mb < W.heap.size := by
  obtain ⟨D, h1, _⟩ := h
  exact h1.lt
set_option maxRecDepth 100000 in
theorem subj_bool_inv {v : Value} {z : DataW Unit × List MemPlace} (h : plainElem Tryz.prog 4 v = some z) : ∃ b, v = .bool b ∧ z.1 = .lit (.bool b) := by
  unfold plainElem at h
  rw [Tryz.underlying4] at h
  cases v <;> simp at h
  subst h
  exact ⟨_, rfl, rfl⟩
set_option maxRecDepth 100000 in
theorem SeenS.look {W : World} {mb n : Nat} {ks : List (Bool × Int)} (h : SeenS W mb n ks) (e : Bool) (i : Int) (hi : i64R i) : (Instr.lookup 80 (.map (some mb)) (.agg #[.bool e, .int .i64 i]) false).run Tryz.prog W = .ok (.bool (ks.contains (e, i))) W := by
  obtain ⟨D, h1, hat⟩ := h
  obtain ⟨v, ps, hr, hv⟩ := h1.lookup subj_keyed Tryz.underlying80 (z := .bool false) (by kernel_rfl) (plainElem_bool Tryz.underlying4 false) (subj_key e i hi)
  obtain ⟨b, rfl, hz⟩ := subj_bool_inv hv
  have := hat e i hi
  unfold subjL at this
  simp only at hz
  rw [hz] at this
  simp only [DataW.lit.injEq, Lit.bool.injEq] at this
  rw [hr, this]
theorem i64_wf {i : Int} (hi : i64R i) : (Lit.int .i64 i).wf = true := by
  obtain ⟨h1, h2⟩ := hi
  simp [Lit.wf, IntKind.min, IntKind.max, IntKind.signed, IntKind.bits]; omega
theorem subjL_inj {e e' : Bool} {i i' : Int} (hi : i64R i) (hi' : i64R i') (h : subjL e i = subjL e' i') : (e, i) = (e', i') := by
  unfold subjL at h
  rw [Lit.string.injEq] at h
  have := keyBytes_inj (l := [.bool e, .int .i64 i]) (l' := [.bool e', .int .i64 i']) ⟨by simp [Lit.sameKind], by simp [Lit.sameKind], trivial⟩
    (by intro a ha; simp at ha; rcases ha with rfl | rfl; exact trivial; exact i64_wf hi) (by intro a ha; simp at ha; rcases ha with rfl | rfl; exact trivial; exact i64_wf hi') h
  simpa using this
theorem SeenS.put {W1 : World} {mb n : Nat} {ks : List (Bool × Int)} {e : Bool} {i : Int} {D : DataW Unit} (hi : i64R i) (h1 : W1.ownsMap Tryz.prog 82 (plainElem Tryz.prog 4) mb (n + 1) (D.put (subjL e i) (.lit (.bool true))))
    (hm : Maps.IsMap D) (hat : ∀ e id, i64R id → D.atKey (subjL e id) (.lit (.bool false)) = .lit (.bool (ks.contains (e, id)))) : SeenS W1 mb (n + 1) ((e, i) :: ks) := by
  refine ⟨_, h1, fun e' i' hi' => ?_⟩
  by_cases hk : (e', i') = (e, i)
  · simp only [Prod.mk.injEq] at hk
    obtain ⟨rfl, rfl⟩ := hk
    rw [Maps.atKey_put_same hm (show WideAt.IsKeyLit (subjL e' i') from trivial)]; simp
  · rw [Maps.atKey_put_other (fun h => hk (subjL_inj hi' hi h)), hat e' i' hi']
    have : ((e', i') == (e, i)) = false := by simpa using hk
    rw [List.contains_cons, this, Bool.false_or]
end Go.Proofs.YtmbffncmogpkfaaGreatDoor
