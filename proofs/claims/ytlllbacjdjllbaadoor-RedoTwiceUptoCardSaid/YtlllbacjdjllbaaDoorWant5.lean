
/- The laws on package redo: the row of what is wanted, in memory; appended to. -/
import Derived.Test.YtlllbacjdjllbaaDoorRows5
namespace Go.Proofs.YtlllbacjdjllbaaDoor
open Go Go.Proofs Go.Shelf Go.RowKit Go.Great
set_option linter.unusedVariables false
set_option linter.unusedSimpArgs false

/-- a row of the call's own, of rows that were there at w0. -/
def WantAt (lo : Nat) (w0 W : World) (v : Value) (es : List (List UInt8)) : Prop :=
  ∃ cells : List Value, W.ownsRow lo 30 1 v es.length cells ∧ cells.length = es.length ∧ ∀ (i : Nat) e c, es[i]? = some e → cells[i]? = some c → RowAt w0 c (bytesV e)
theorem WantAt.nil (lo : Nat) (w0 W : World) : WantAt lo w0 W (.slice none 0 0) [] := ⟨[], World.ownsRow_nil _ _ _ _, rfl, by intro i e c h; simp at h⟩
theorem WantAt.chl {lo lo' : Nat} {w0 W W' : World} {v : Value} {es : List (List UInt8)} (h : WantAt lo w0 W v es) (hc : ChL lo' W W') : WantAt lo w0 W' v es := by
  obtain ⟨cells, h1, h2, h3⟩ := h
  exact ⟨cells, own_chl h1 hc (by decide), h2, h3⟩
theorem WantAt.below {lo : Nat} {w0 W W' : World} {v : Value} {es : List (List UInt8)} (h : WantAt lo w0 W v es) (hb : Below W.heap.size W W') : WantAt lo w0 W' v es := by
  obtain ⟨cells, h1, h2, h3⟩ := h
  exact ⟨cells, own_belowE h1 hb, h2, h3⟩
theorem WantAt.b {lo : Nat} {w0 W : World} {v : Value} {es : List (List UInt8)} (h : WantAt lo w0 W v es) (hb : Below w0.heap.size w0 W) : BRows W v es := by
  obtain ⟨cells, h1, h2, h3⟩ := h
  exact ⟨cells, RowAt.ofOwns h1, h2, fun i e c he hc => (h3 i e c he hc).below hb⟩
theorem WantAt.shape {lo : Nat} {w0 W : World} {v : Value} {es : List (List UInt8)} (h : WantAt lo w0 W v es) : ∃ va vc, v = .slice va es.length vc := by
  obtain ⟨cells, h1, _⟩ := h
  exact owns_shape h1
/-- '[]row{x}'. -/
theorem WantAt.one {lo : Nat} {w0 W : World} {cp : Value} {p : List UInt8} (hp : RowAt w0 cp (bytesV p)) (hlo : lo ≤ W.heap.size) : WantAt lo w0 (W.alloc (.cells #[cp] 30)) (.slice (some ⟨W.heap.size, 0, none⟩) 1 1) [p] := by
  refine ⟨[cp], ⟨rfl, .inr ⟨W.heap.size, 1, #[cp], rfl, hlo, ?_, Nat.le_refl 1, by decide, rfl, rfl⟩⟩, rfl, fun i e c he hc => ?_⟩
  · show (W.heap.push _)[W.heap.size]? = _
    simp
  · cases i with
    | zero => simp at he hc; subst he hc; exact hp
    | succ i => simp at he
/-- 'append(s, x...)' at a step of a region that draws its order. -/
theorem step_appRow {ops : Array Oper} {o : Oper} {a : Act} {w : World} {Q : Exit → Act → World → Prop} {K : Act → World → Prop} {E : Prop} {t e : TypeId} {bytes : Nat} (he : Elem1 t e bytes) (hgd : o.guard = none) (s x : Operand) (ho : o.op = .call { callee := .builtin .append, args := #[s, x], argTypes := #[t, t] })
    (B n : Nat) (v : Value) (xs : List Value) (hs : a.eval s = v) (hown : w.ownsRow B e 1 v n xs) (vx : Value) (us : List Value) (hx : a.eval x = vx) (hr : RowAt w vx us) (h1 : ∀ u ∈ us, u.oneCell' = true)
    (hn : (n + us.length) * bytes ≤ 140737488355328) (hm : n + us.length ≤ 140737488355328) (hB : B ≤ w.heap.size)
    (h : ∀ va vc w', w'.ownsRow B e 1 (.slice va (n + us.length) vc) (n + us.length) (xs ++ us) → w.grownBy w' v.ownBlock → K (a.put o.dst (.slice va (n + us.length) vc)) w') :
    if Region.wanted o (yielded ops a.tmps) = true then Oper.wp Tryd.prog o a w K Q else E := by
  have hw : Region.wanted o (yielded ops a.tmps) = true := by simp [Region.wanted, hgd]
  rw [if_pos hw]
  obtain ⟨i, z, ht, hi, hz, hs1, hb1, hz1⟩ := he
  rcases hr.2 with ⟨rfl, rfl⟩ | ⟨ad, c, rfl, _, hc⟩
  · have hrun := run_append_owned_none (P := Tryd.prog) (w := w) B t o.type e i 1 ht hi v n xs hown
    unfold Oper.wp
    simp [execOp, ho, resolve, invoke, builtin, hs, hx, hrun, Result.andThen]
    obtain ⟨va, vc, rfl⟩ := owns_shape hown
    exact h va vc w (by simpa using hown) (grownBy_refl _ _)
  · refine wp_append_own _ s x t ho B e i z 1 bytes ht hi hz hs1 hb1 hz1 (by decide) v n xs hs hown ad us.length c us hx (by rw [Nat.mul_one]) ?_ h1 (by unfold maxLen; omega) hn hB ?_
    · intro j u hu
      have hj := (List.getElem?_eq_some_iff.1 hu).1
      rw [hc j hj]
      rw [List.getElem?_eq_getElem hj] at hu
      exact hu
    · intro v' w' h2 h3 _
      obtain ⟨va, vc, rfl⟩ := owns_shape h2
      exact h va vc w' h2 h3
theorem step_app0 {ops : Array Oper} {o : Oper} {a : Act} {w : World} {Q : Exit → Act → World → Prop} {K : Act → World → Prop} {E : Prop} {t e : TypeId} {bytes : Nat} (he : Elem1 t e bytes) (hgd : o.guard = none) (s x : Operand) (ho : o.op = .call { callee := .builtin .append, args := #[s, x], argTypes := #[t, t] })
    (B : Nat) (v : Value) (hs : a.eval s = v) (hown : w.ownsRow B e 1 v 0 []) (vx : Value) (us : List Value) (M : Nat) (hM : us.length = M) (hx : a.eval x = vx) (hr : RowAt w vx us) (h1 : ∀ u ∈ us, u.oneCell' = true)
    (hn : M * bytes ≤ 140737488355328) (hm : M ≤ 140737488355328) (hB : B ≤ w.heap.size)
    (h : ∀ va vc w', w'.ownsRow B e 1 (.slice va M vc) M us → w.grownBy w' v.ownBlock → K (a.put o.dst (.slice va M vc)) w') :
    if Region.wanted o (yielded ops a.tmps) = true then Oper.wp Tryd.prog o a w K Q else E := by
  subst hM
  refine step_appRow he hgd s x ho B 0 v [] hs hown vx us hx hr h1 (by rw [Nat.zero_add]; exact hn) (by rw [Nat.zero_add]; exact hm) hB ?_
  intro va vc w' h2 h3
  rw [Nat.zero_add, List.nil_append] at h2
  rw [Nat.zero_add]
  exact h va vc w' h2 h3
theorem elemR1 : Elem1 22 30 24 := elem1_of (z := .slice none 0 0) Tryd.underlying22 (by kernel_rfl) rfl
theorem own_new {b : Nat} {w W : World} {e : TypeId} (h : Below b w W) (hb : b ≤ w.heap.size) : (W.alloc (.cells #[] e)).ownsRow b e 1 (.slice (some ⟨W.heap.size, 0, none⟩) 0 0) 0 [] := own_mono (owns_empty W e) (Nat.le_trans hb h.size)
theorem blk_new {b : Nat} {w W : World} (h : Below b w W) (cs : List Value) (t : TypeId) : Blk (W.alloc (.cells cs.toArray t)) W.heap.size cs := Blk.new W cs t
theorem rows_one {w : World} {v : Value} {cs : List Value} (h : ∀ c ∈ cs, ∃ l, RowAt w c (bytesV l)) : ∀ u ∈ cs, u.oneCell' = true := by
  intro u hu
  obtain ⟨l, hl⟩ := h u hu
  obtain ⟨a, c, rfl⟩ := hl.shape
  rfl
theorem WantAt.snoc {lo lo' : Nat} {w0 W : World} {v cp : Value} {es : List (List UInt8)} {p : List UInt8} {cells : List Value} (hl : cells.length = es.length) (hc : ∀ (i : Nat) e c, es[i]? = some e → cells[i]? = some c → RowAt w0 c (bytesV e)) (hp : RowAt w0 cp (bytesV p)) (ho : W.ownsRow lo' 30 1 v (es.length + 1) (cells ++ [cp])) (hlo : lo ≤ lo') : WantAt lo w0 W v (es ++ [p]) := by
  refine ⟨cells ++ [cp], by rw [List.length_append]; exact own_mono ho hlo, by simp [hl], fun i e c he hc' => ?_⟩
  rcases Nat.lt_trichotomy i es.length with hi | rfl | hi
  · rw [List.getElem?_append_left hi] at he
    rw [List.getElem?_append_left (by omega)] at hc'
    exact hc i e c he hc'
  · rw [List.getElem?_append_right (Nat.le_refl _)] at he
    rw [List.getElem?_append_right (by omega)] at hc'
    simp [hl] at he hc'
    subst he hc'
    exact hp
  · rw [List.getElem?_eq_none (by simp; omega)] at he
    cases he
end Go.Proofs.YtlllbacjdjllbaaDoor
