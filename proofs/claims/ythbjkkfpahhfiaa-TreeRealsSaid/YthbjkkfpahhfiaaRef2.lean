
/- Rows of entries: parts of them, appended. -/
import Derived.Test.YthbjkkfpahhfiaaRef1
import Derived.Test.YthbjkkfpahhfiaaReg
namespace Go.Proofs.Ythbjkkfpahhfiaa
open Go Go.Proofs Go.RowKit
set_option linter.unusedVariables false
set_option linter.unusedSimpArgs false

theorem cells6 (es : List E6) : ∀ x ∈ es.map E6.cells, x.length = 6 := by intro y hy; obtain ⟨x, _, rfl⟩ := List.mem_map.1 hy; rfl
theorem addr_e (x : Addr) (h : ∃ B o, x = ⟨B, o, none⟩) : ∃ B o, x = ⟨B, o, none⟩ := h
/-- 'x[k:]'. -/
theorem RowE.lo {w : World} {v : Value} {es : List E6} (h : RowK 6 w v (es.map E6.cells)) (k : Nat) (hk : k ≤ es.length) :
    ∃ v', (∀ w' kk, (Instr.slice 27 v (some (.int kk (k : Int))) none none).run Try.prog w' = .ok v' w') ∧ ∀ W, RowK 6 W v (es.map E6.cells) → RowK 6 W v' ((es.drop k).map E6.cells) := by
  rcases h.2.2 with ⟨rfl, h0⟩ | ⟨x, c, rfl, hcc, hc⟩
  · have : es = [] := by simpa using h0
    subst this
    obtain rfl : k = 0 := by simpa using hk
    refine ⟨.slice none 0 0, fun w' kk => ?_, fun W _ => RowK.nil 6 W⟩
    have := run_slice_l (P := Try.prog) (w := w') 27 none 0 0 Try.underlying27 kk 0 (by omega) (by omega)
    rw [sizeE] at this
    exact this
  · rw [List.length_map] at hcc ⊢
    refine ⟨Go.sliced (some x) k es.length c 6, fun w' kk => ?_, fun W hW => ?_⟩
    · have := run_slice_l (P := Try.prog) (w := w') 27 (some x) es.length c Try.underlying27 kk (k : Int) (by omega) (by omega)
      rw [sizeE, Int.toNat_natCast] at this
      exact this
    · unfold Go.sliced
      refine ⟨by have := hW.1; simp at this ⊢; omega, cells6 _, .inr ?_⟩
      refine ⟨if c = k then x else x.add (k * 6), c - k, ?_, by simp; omega, fun i hi => ?_⟩
      · simp only [List.length_map, List.length_drop]
        by_cases hcl : c = k <;> simp [hcl]
      · have hi' : k + i < es.length := by simp at hi; omega
        obtain ⟨B, o, hx, hB, hce⟩ := hW.cells (k + i) (by simpa using hi')
        simp only [Option.some.injEq] at hx
        subst hx
        refine ⟨B, o + k * 6, ?_, hB, ?_⟩
        · rw [if_neg (by omega), addr_add]
        · rw [show o + k * 6 + i * 6 = o + (k + i) * 6 by omega]
          simpa using hce
/-- 'x[:k]'. -/
theorem RowE.hi {w : World} {v : Value} {es : List E6} (h : RowK 6 w v (es.map E6.cells)) (k : Nat) (hk : k ≤ es.length) :
    ∃ v', (∀ w' kk, (Instr.slice 27 v none (some (.int kk (k : Int))) none).run Try.prog w' = .ok v' w') ∧ ∀ W, RowK 6 W v (es.map E6.cells) → RowK 6 W v' ((es.take k).map E6.cells) := by
  rcases h.2.2 with ⟨rfl, h0⟩ | ⟨x, c, rfl, hcc, hc⟩
  · have : es = [] := by simpa using h0
    subst this
    obtain rfl : k = 0 := by simpa using hk
    refine ⟨.slice none 0 0, fun w' kk => ?_, fun W _ => RowK.nil 6 W⟩
    have := run_slice_h (P := Try.prog) (w := w') 27 none 0 0 Try.underlying27 kk 0 (by omega) (by omega)
    rw [sizeE] at this
    exact this
  · rw [List.length_map] at hcc ⊢
    refine ⟨Go.sliced (some x) 0 k c 6, fun w' kk => ?_, fun W hW => ?_⟩
    · have := run_slice_h (P := Try.prog) (w := w') 27 (some x) es.length c Try.underlying27 kk (k : Int) (by omega) (by omega)
      rw [sizeE, Int.toNat_natCast] at this
      exact this
    · unfold Go.sliced
      refine ⟨by have := hW.1; simp at this ⊢; omega, cells6 _, .inr ?_⟩
      refine ⟨if c = 0 then x else x.add (0 * 6), c - 0, ?_, by simp; omega, fun i hi => ?_⟩
      · simp only [List.length_map, List.length_take, Nat.min_eq_left hk]
        by_cases hcl : c = 0 <;> simp [hcl]
      · have hi' : i < k ∧ i < es.length := by simp at hi; omega
        obtain ⟨B, o, hx, hB, hce⟩ := hW.cells i (by simpa using hi'.2)
        simp only [Option.some.injEq] at hx
        subst hx
        refine ⟨B, o, ?_, hB, ?_⟩
        · by_cases hcl : c = 0
          · rw [if_pos hcl]
          · rw [if_neg hcl, addr_add]; simp
        · simpa using hce
theorem run_append_none (w : World) (ty : TypeId) (b : Option Addr) (n c : Nat) (h : n ≤ c) : (Builtin.append_ #[27, 27] ty #[.slice b n c, .slice none 0 0]).run Try.prog w = .ok (.slice b n c) w := by
  obtain ⟨i, z, ht, hi, hz, hs, hby, hzc, hl⟩ := elemE
  have hst : ∀ (a : Addr) (w : World), (storeCells a []).run Try.prog w = .ok () w := fun a w => by kernel_rfl
  cases b <;> simp [Builtin.append_, run_underlying ht, sizeOf, typeInfo, hi, Builtin.lenOf, Builtin.firstCells, h, hst]
theorem app_run {B : Nat} {w : World} {v u : Value} {es bs : List E6} (ty : TypeId) (hv : OwnE B w v es) (hu : RowK 6 w u (bs.map E6.cells)) (hm : es.length + bs.length ≤ 1099511627777) (hB : B ≤ w.heap.size) :
    ∃ va vc w', (Builtin.append_ #[27, 27] ty #[v, u]).run Try.prog w = .ok (.slice va (es.length + bs.length) vc) w' ∧ OwnE B w' (.slice va (es.length + bs.length) vc) (es ++ bs) ∧ w.grownBy w' v.ownBlock ∧ (v ≠ .slice none 0 0 → va ≠ none) := by
  rcases hu.2.2 with ⟨rfl, h0⟩ | ⟨x, c, rfl, hcc, hc⟩
  · have : bs = [] := by simpa using h0
    subst this
    obtain ⟨va, vc, rfl⟩ := owns_shape hv
    have hc : es.length ≤ vc := by have := hv.row.shape; obtain ⟨_, _, e, h⟩ := this; simp at e h; omega
    refine ⟨va, vc, w, run_append_none w ty va _ vc hc, by simpa using hv, World.grownBy.refl w _, fun hne hva => hne ?_⟩
    subst hva
    rcases hv.2 with ⟨h1, _⟩ | ⟨g, cap, cur, h1, _⟩
    · exact h1
    · cases h1
  · rw [List.length_map] at hu ⊢
    obtain ⟨i, z, ht, hi, hz, hs, hby, hzc, hl⟩ := elemE
    obtain ⟨v', w', h1, h2, h3, h4⟩ := run_append_own (P := Try.prog) w B 27 ty 37 i z 6 56 ht hi hz hs hby (by rw [hzc]; simpa using hl) (by decide) v es.length (flatE es) hv x bs.length c (flatE bs) (flatE_len bs) (RowK.flat (by decide) hu) (flatE_one bs) (by unfold maxLen; omega) (by omega) hB
    obtain ⟨va, vc, rfl⟩ := owns_shape h2
    refine ⟨va, vc, w', h1, ?_, h3, fun hne hva => ?_⟩
    rotate_left
    · subst hva
      rcases h2.2 with ⟨h5, _⟩ | ⟨g, cap, cur, h5, _⟩
      · exact hne (h4.1 h5).1
      · cases h5
    unfold OwnE
    rw [List.length_append, flatE_append]
    exact h2
/-- 'append(s, x...)' at a step of a region. -/
theorem step_appE {ops : Array Oper} {o : Oper} {a : Go.Act} {w : World} {K : Go.Act → World → Prop} {Q : Exit → Go.Act → World → Prop} {E : Prop} (hg : o.guard = none) (s x : Operand) (ho : o.op = .call { callee := .builtin .append, args := #[s, x], argTypes := #[27, 27] })
    {B : Nat} {v u : Value} {es bs : List E6} (hs : a.eval s = v) (hx : a.eval x = u) (hv : OwnE B w v es) (hu : RowK 6 w u (bs.map E6.cells)) (hm : es.length + bs.length ≤ 1099511627777) (hB : B ≤ w.heap.size)
    (h : ∀ va n vc w', OwnE B w' (.slice va n vc) (es ++ bs) → w.grownBy w' v.ownBlock → (v ≠ .slice none 0 0 → va ≠ none) → K (a.put o.dst (.slice va n vc)) w') :
    if Region.wanted o (yielded ops a.tmps) = true then Oper.wp Try.prog o a w K Q else E := by
  obtain ⟨va, vc, w', h1, h2, h3, h4⟩ := app_run o.type hv hu hm hB
  exact step_appR hg s x _ _ ho v u hs hx h1 (h va _ vc w' h2 h3 h4)
/-- the last operation of a region. -/
theorem last_do {P : Program} {full : Array Oper} {Q : Exit → Go.Act → World → Prop} {n : Nat} {o : Oper} {a : Go.Act} {w : World} (ho : full[n]? = some o)
    (h : ∀ K : Go.Act → World → Prop, Hid (∀ a w, Q .normal a w → K a w) → if Region.wanted o (yielded full a.tmps) = true then Oper.wp P o a w K Q else K (a.put o.dst undef) w) : lastQ P full Q n .normal a w :=
  wpOp_step ho (fun K hK => h K (Lib.hid hK))
/-- an empty row of the call's own. -/
theorem own_empty (w : World) : OwnE w.heap.size (w.alloc (.cells #[] 37)) (.slice (some ⟨w.heap.size, 0, none⟩) 0 0) [] := ⟨rfl, .inr ⟨w.heap.size, 0, #[], rfl, Nat.le_refl _, heap_alloc_new w _, Nat.le_refl _, Nat.zero_le _, rfl, rfl⟩⟩
theorem OwnE.mono {B B' : Nat} {w : World} {v : Value} {es : List E6} (h : OwnE B w v es) (hb : B' ≤ B) : OwnE B' w v es := ownsRow_mono h hb
theorem below_grown {w w' : World} (h : Below w.heap.size w w') (row : Option Nat) : w.grownBy w' row := ⟨h.os, h.tape, h.output, h.size, fun k hk _ => h.block k hk⟩
/-- the new row is stored. -/
theorem ref_store {B xb n vc : Nat} {va : Option Addr} {w wq W : World} {v : Value} {es es' : List E6} (h : TreeAt B xb w v es) (hB : B ≤ w.heap.size) (hq : Below w.heap.size w wq) (hW : Below wq.heap.size wq W) (hne : va ≠ none) (hown : OwnE wq.heap.size W (.slice va n vc) es') :
    W.cell? ⟨xb, 0, none⟩ = some v ∧ W.frozen? ⟨xb, 0, none⟩ = false ∧ TreeAt B xb (W.setCell ⟨xb, 0, none⟩ (.slice va n vc)) (.slice va n vc) es' ∧ Lies w v (.slice va n vc) ∧ Chg xb v.ownBlock w (W.setCell ⟨xb, 0, none⟩ (.slice va n vc)) := by
  refine TreeAt.store (X := wq) h hq (hown.mono (by have := hq.size; omega)) (below_grown hW _) (.inr ?_)
  cases va with
  | none => exact absurd rfl hne
  | some ad => exact ⟨ad.block, rfl, (hown.lt _ rfl).1⟩
theorem own_of {wq W : World} (h : Below wq.heap.size wq W) : OwnE wq.heap.size (W.alloc (.cells #[] 37)) (.slice (some ⟨W.heap.size, 0, none⟩) 0 0) [] := (own_empty W).mono h.size
theorem blk_of {wq W : World} (h : Below wq.heap.size wq W) (cs : List Value) (t : TypeId) : Blk (W.alloc (.cells cs.toArray t)) W.heap.size cs := Blk.new W cs t
theorem OwnE.alloc {B : Nat} {w : World} {v : Value} {es : List E6} (h : OwnE B w v es) (o : Obj) : OwnE B (w.alloc o) v es := owns_below' h ((Below.refl _ w).alloc (Nat.le_refl _) o)
end Go.Proofs.Ythbjkkfpahhfiaa
