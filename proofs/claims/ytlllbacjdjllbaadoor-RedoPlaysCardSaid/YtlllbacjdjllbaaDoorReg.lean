
/- A region that draws its order, and whose last operation waits for all others: the others first, that one last. -/
import Derived.Test.YtlllbacjdjllbaaDoorKeep
import Derived.Deep.RegionHeld3
namespace Go.Proofs.YtlllbacjdjllbaaDoor
open Go Go.Proofs Go.RowKit
set_option linter.unusedVariables false
set_option linter.unusedSimpArgs false

section
variable {P : Program} {md : Region.Mode} {ops full : Array Oper} {Q : Exit → Go.Act → World → Prop}
/-- behind the others: the last one. -/
def lastQ (P : Program) (full : Array Oper) (Q : Exit → Go.Act → World → Prop) (n : Nat) : Exit → Go.Act → World → Prop
  | .normal, a, w => wpOp P full Q n (fun a' w' => Q .normal a' w') a w
  | e, a, w => Q e a w
theorem lets_last {n : Nat} (h : LetsOut (lastQ P full Q n)) : LetsOut Q := h
theorem oper_wpQ {o : Oper} {a : Go.Act} {w : World} {K K' : Go.Act → World → Prop} {n : Nat} (hK : ∀ a w, K a w → K' a w) (h : o.wp P a w K (lastQ P full Q n)) : o.wp P a w K' Q := by
  unfold Oper.wp at *
  generalize (execOp a.eval o).run P w = r at *
  cases r with
  | ok x w' =>
    cases x <;> simp only [Oper.upon] at h ⊢
    case value u => exact hK _ _ h
    case skip => exact hK _ _ h
    case defer d => exact hK _ _ h
    case enter f args =>
      refine Calls.mono h fun e w'' he => ?_
      cases e with
      | returned u => exact hK _ _ he
      | panicked c => exact he
      | outgrown => exact he
    case row row args => exact Rows.mono h fun u w'' he => hK _ _ he
  | halt x w' =>
    cases x <;> simp only [Oper.upon] at h ⊢
    case panic u => exact h
theorem wpOpQ {i n : Nat} {a : Go.Act} {w : World} {K K' : Go.Act → World → Prop} (hi : ops[i]? = full[i]?) (hg : ∀ o, ops[i]? = some o → o.guard = none) (hK : ∀ a w, K a w → K' a w) (h : wpOp P ops (lastQ P full Q n) i K a w) : wpOp P full Q i K' a w := by
  unfold wpOp at *
  rw [← hi]
  cases ho : ops[i]? with
  | none => rw [ho] at h; exact hK _ _ h
  | some o =>
    rw [ho] at h
    have g := hg o ho
    simp only [Region.wanted, g, if_true] at h ⊢
    rcases h with h | ⟨h1, h2⟩
    · exact .inl (oper_wpQ hK h)
    · exact .inr ⟨h1, lets_last h2⟩
/-- what the law asks of the region, as one Bool. -/
def lastOk (md : Region.Mode) (full : Array Oper) : Bool :=
  full.all (fun o => o.guard.isNone) &&
  (List.range full.size).all (fun i => ((full[i]?).map (fun o => o.after.all (fun e => !Region.binds md e || decide (e.on < i)))).getD true) &&
  (List.range (full.size - 1)).all (fun i => (List.range full.size).any (fun j => decide (i < j) && ((full[j]?).map (fun o => o.after.any (fun e => Region.binds md e && decide (e.on = i)))).getD false))
def Closed (md : Region.Mode) (ops : Array Oper) (listed : Array Bool) : Prop := ∀ i o, ops[i]? = some o → listed.getD i false = true → ∀ e ∈ o.after, Region.binds md e = true → listed.getD e.on false = true
theorem getD_push (l : Array Bool) (i : Nat) (d : Bool) (h : i < l.size) : (l.push false).getD i d = l.getD i d := by
  simp [Array.getD, h, Nat.lt_succ_of_lt h, Array.getElem_push_lt]
theorem lastOk_spec (h : lastOk md full = true) :
    (∀ (i : Nat) (o : Oper), full[i]? = some o → o.guard = none) ∧ (∀ (i : Nat) (o : Oper), full[i]? = some o → ∀ e ∈ o.after, Region.binds md e = true → e.on < i) ∧
    (∀ i, i < full.size - 1 → ∃ (j : Nat) (o : Oper), full[j]? = some o ∧ i < j ∧ ∃ e ∈ o.after, Region.binds md e = true ∧ e.on = i) := by
  unfold lastOk at h
  rw [Bool.and_eq_true, Bool.and_eq_true] at h
  obtain ⟨⟨h1, h2⟩, h3⟩ := h
  refine ⟨fun i o ho => ?_, fun i o ho e he hb => ?_, fun i hi => ?_⟩
  · have := Array.all_eq_true_iff_forall_mem.1 h1 o (Array.mem_of_getElem? ho)
    simpa using this
  · rw [List.all_eq_true] at h2
    have := h2 i (List.mem_range.2 (Array.getElem?_eq_some_iff.1 ho).1)
    rw [ho] at this
    simp only [Option.map_some, Option.getD_some] at this
    have := Array.all_eq_true_iff_forall_mem.1 this e he
    rw [hb] at this
    simpa using this
  · rw [List.all_eq_true] at h3
    have := h3 i (List.mem_range.2 hi)
    rw [List.any_eq_true] at this
    obtain ⟨j, hj, h4⟩ := this
    rw [Bool.and_eq_true] at h4
    obtain ⟨h5, h6⟩ := h4
    cases ho : full[j]? with
    | none => rw [ho] at h6; simp at h6
    | some o =>
      rw [ho] at h6
      simp only [Option.map_some, Option.getD_some] at h6
      obtain ⟨k, hk, h7⟩ := Array.any_eq_true.1 h6
      have he := Array.getElem_mem hk
      generalize o.after[k] = e at h7 he
      rw [Bool.and_eq_true] at h7
      exact ⟨j, o, ho, by simpa using h5, e, he, h7.1, by simpa using h7.2⟩
theorem wp_last {n : Nat} (hf : full.size = n + 1) (hops : ∀ i, i < n → ops[i]? = full[i]?) (hn : ops.size = n) (hok : lastOk md full = true) :
    ∀ (fuel : Nat) (listed : Array Bool) (a : Go.Act) (w : World), listed.size = n → Closed md ops listed → wpAny P md ops (lastQ P full Q n) fuel listed a w → wpAny P md full Q (fuel + 1) (listed.push false) a w := by
  obtain ⟨hg, hd, hsucc⟩ := lastOk_spec hok
  rw [hf, Nat.add_sub_cancel] at hsucc
  have hsm : ∀ i o, ops[i]? = some o → i < n := fun i o h => by rw [← hn]; exact (Array.getElem?_eq_some_iff.1 h).1
  -- ready, of those ahead of the last
  have hrd : ∀ (listed : Array Bool), listed.size = n → ∀ i, i < n → (i ∈ Region.ready md full (listed.push false) ↔ i ∈ Region.ready md ops listed) := fun listed hl i hi => by
    rw [mem_ready, mem_ready, getD_push _ _ _ (by omega), hops i hi]
    constructor
    · rintro ⟨h1, o, ho, h2⟩
      refine ⟨h1, o, ho, fun e he hb => ?_⟩
      have := hd i o ho e he hb
      rw [← getD_push _ _ _ (by omega)]; exact h2 e he hb
    · rintro ⟨h1, o, ho, h2⟩
      refine ⟨h1, o, ho, fun e he hb => ?_⟩
      have := hd i o ho e he hb
      rw [getD_push _ _ _ (by omega)]; exact h2 e he hb
  -- nothing ready: all listed
  have hnone : ∀ (listed : Array Bool), listed.size = n → Region.ready md ops listed = [] → ∀ k, k ≤ n → ∀ i, i < k → listed.getD i false = true := fun listed hl hr k => by
    induction k with
    | zero => intro _ i hi; omega
    | succ k ih =>
      intro hk i hi
      rcases Nat.lt_or_ge i k with h | h
      · exact ih (by omega) i h
      · obtain rfl : i = k := by omega
        cases hb : listed.getD i false with
        | true => rfl
        | false =>
          exfalso
          have hlt : i < full.size := by omega
          have : i ∈ Region.ready md ops listed := by
            rw [mem_ready]
            refine ⟨by simp [Array.getD, show i < listed.size by omega] at hb ⊢; exact hb, full[i], by rw [hops i (by omega), Array.getElem?_eq_getElem hlt], fun e he hbd => ?_⟩
            exact ih (by omega) _ (hd i _ (Array.getElem?_eq_getElem hlt) e he hbd)
          rw [hr] at this
          cases this
  -- the last is ready once all are listed
  have hlast : ∀ (listed : Array Bool), listed.size = n → (∀ i, i < n → listed.getD i false = true) → n ∈ Region.ready md full (listed.push false) := fun listed hl hall => by
    have hlt : n < full.size := by omega
    rw [mem_ready]
    refine ⟨by simp [Array.getD, hl, Array.getElem_push], full[n], Array.getElem?_eq_getElem hlt, fun e he hb => ?_⟩
    have := hd n _ (Array.getElem?_eq_getElem hlt) e he hb
    rw [getD_push _ _ _ (by omega)]
    exact hall _ this
  -- and no sooner
  have hdown : ∀ (listed : Array Bool), listed.size = n → Closed md ops listed → n ∈ Region.ready md full (listed.push false) → ∀ d i, i < n → n - i ≤ d → listed.getD i false = true := fun listed hl hc hr d => by
    induction d with
    | zero => intro i hi h; omega
    | succ d ih =>
      intro i hi h
      obtain ⟨j, o, ho, hij, e, he, hb, rfl⟩ := hsucc i hi
      have hj : j < n + 1 := by rw [← hf]; exact (Array.getElem?_eq_some_iff.1 ho).1
      rcases Nat.lt_or_ge j n with hjn | hjn
      · exact hc j o (by rw [hops j hjn]; exact ho) (ih j hjn (by omega)) e he hb
      · obtain rfl : j = n := by omega
        obtain ⟨_, o', ho', h2⟩ := mem_ready.1 hr
        rw [ho] at ho'
        simp only [Option.some.injEq] at ho'
        subst ho'
        have := h2 e he hb
        rwa [getD_push _ _ _ (by omega)] at this
  -- all listed: nothing is ready
  have hnil : ∀ (listed : Array Bool), (∀ i, i < n → listed.getD i false = true) → listed.size = n → Region.ready md ops listed = [] := fun listed hall hl => by
    rw [List.eq_nil_iff_forall_not_mem]
    intro i hi
    obtain ⟨h1, o, ho, _⟩ := mem_ready.1 hi
    have hin := hsm i o ho
    have := hall i hin
    simp [Array.getD, show i < listed.size by omega] at h1 this
    rw [h1] at this
    cases this
  have hnilF : ∀ (listed : Array Bool), (∀ i, i < n → listed.getD i false = true) → listed.size = n → Region.ready md full ((listed.push false).setIfInBounds n true) = [] := fun listed hall hl => by
    rw [List.eq_nil_iff_forall_not_mem]
    intro i hi
    obtain ⟨h1, o, ho, _⟩ := mem_ready.1 hi
    have hin : i < n + 1 := by rw [← hf]; exact (Array.getElem?_eq_some_iff.1 ho).1
    rcases Nat.lt_or_ge i n with h | h
    · rw [getD_set_ne true (by omega), getD_push _ _ _ (by omega)] at h1
      have := hall i h
      simp [Array.getD, show i < listed.size by omega] at h1 this
      rw [h1] at this
      cases this
    · obtain rfl : i = n := by omega
      simp [Array.getD, hl] at h1
  intro fuel
  induction fuel with
  | zero =>
    intro listed a w hl hc h
    have hall := hnone listed hl h.1 n (Nat.le_refl _)
    refine ⟨fun h0 => ?_, fun i hi => ?_⟩
    · have := hlast listed hl hall
      rw [h0] at this
      cases this
    · have hin : i < n + 1 := by
        obtain ⟨_, o, ho, _⟩ := mem_ready.1 hi
        rw [← hf]; exact (Array.getElem?_eq_some_iff.1 ho).1
      rcases Nat.lt_or_ge i n with h' | h'
      · have := (hrd listed hl i h').1 hi
        rw [h.1] at this
        cases this
      · obtain rfl : i = n := by omega
        exact wpOp_mono (fun a' w' hq => ⟨hnilF listed hall hl, hq⟩) h.2
  | succ fuel ih =>
    intro listed a w hl hc h
    refine ⟨fun h0 => ?_, fun i hi => ?_⟩
    · exfalso
      by_cases hr : Region.ready md ops listed = []
      · have := hlast listed hl (hnone listed hl hr n (Nat.le_refl _))
        rw [h0] at this
        cases this
      · obtain ⟨i, hi⟩ := List.exists_mem_of_ne_nil _ hr
        obtain ⟨_, o, ho, _⟩ := mem_ready.1 hi
        have := (hrd listed hl i (hsm i o ho)).2 hi
        rw [h0] at this
        cases this
    · have hin : i < n + 1 := by
        obtain ⟨_, o, ho, _⟩ := mem_ready.1 hi
        rw [← hf]; exact (Array.getElem?_eq_some_iff.1 ho).1
      rcases Nat.lt_or_ge i n with h' | h'
      · have hi' := (hrd listed hl i h').1 hi
        have eset : (listed.push false).setIfInBounds i true = (listed.setIfInBounds i true).push false := by
          apply Array.ext_getElem?
          intro q
          simp only [Array.getElem?_setIfInBounds, Array.getElem?_push, Array.size_push, Array.size_setIfInBounds]
          split <;> split <;> simp_all <;> omega
        rw [eset]
        clear eset
        refine wpOpQ (hops i h') (fun o ho => hg i o (by rw [← hops i h']; exact ho)) (fun a' w' hk => ih _ a' w' (by simpa using hl) ?_ hk) (h.2 i hi')
        intro k o ho hk e he hb
        obtain ⟨_, oi, hoi, hall⟩ := mem_ready.1 hi'
        by_cases hki : k = i
        · subst hki
          rw [hoi] at ho
          simp only [Option.some.injEq] at ho
          subst ho
          exact getD_set_true (hall e he hb)
        · rw [getD_set_ne false (fun e => hki e.symm)] at hk
          exact getD_set_true (hc k o ho hk e he hb)
      · obtain rfl : i = n := by omega
        have hall := fun q hq => hdown listed hl hc hi i q hq (by omega)
        have hq := h.1 (hnil listed hall hl)
        exact wpOp_mono (fun a' w' hq' => ⟨fun _ => hq', fun k hk => by rw [hnilF listed hall hl] at hk; cases hk⟩) hq
/-- **THE BEGINNING**: all but the last in whatever order; then the last. -/
theorem wp_region_last {id n : Nat} {a : Go.Act} {w : World} {S : World → Prop} (hm : P.follows .mixedOrders = true) (hf : full.size = n + 1) (hok : lastOk .any full = true) (hS : S w.drew)
    (h : S w.drew → wpAnyH P .any full.pop (lastQ P full Q n) S n (Array.replicate n false) a w.drew) : (Code.region id full true).wp P Q a w := by
  refine wp_region_any hm ?_
  have h1 := wpAny_of_held _ _ _ _ (h hS)
  have h2 := wp_last (P := P) (Q := Q) (md := .any) (ops := full.pop) (full := full) hf (fun i hi => by rw [Array.getElem?_pop]; rw [if_pos (by omega)]) (by simp; omega) hok n (Array.replicate n false) a w.drew (by simp) (fun i o ho hl => by
    exfalso
    by_cases hin : i < n
    · simp [Array.getD, hin] at hl
    · simp [Array.getD, hin] at hl) h1
  rw [hf]
  have e : Array.replicate (n + 1) false = (Array.replicate n false).push false := by
    apply Array.ext_getElem?
    intro q
    simp only [Array.getElem?_replicate, Array.getElem?_push, Array.size_replicate]
    split <;> split <;> simp_all <;> omega
  rw [e]
  exact h2
end
theorem last_do {P : Program} {full : Array Oper} {Q : Exit → Go.Act → World → Prop} {n : Nat} {o : Oper} {a : Go.Act} {w : World} (ho : full[n]? = some o)
    (h : ∀ K : Go.Act → World → Prop, Hid (∀ a w, Q .normal a w → K a w) → if Region.wanted o (yielded full a.tmps) = true then Oper.wp P o a w K Q else K (a.put o.dst undef) w) : lastQ P full Q n .normal a w :=
  wpOp_step ho (fun K hK => h K (Lib.hid hK))
end Go.Proofs.YtlllbacjdjllbaaDoor
