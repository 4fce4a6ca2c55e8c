
/- One value with many numbers: a tree and a map beside it. -/
import Derived.Test.YthbjkkfpahhfiaaTree7
import Derived.Maps.OwnSet
import Derived.Maps.Views
namespace Go.Proofs.Ythbjkkfpahhfiaa
open Go Go.Proofs Go.RowKit
set_option linter.unusedVariables false
set_option linter.unusedSimpArgs false

def idIn (es : List E6) (i : Int) : Bool := es.any (fun e => e.id == i)
def AllV (v : V5) (es : List E6) : Prop := ∀ e ∈ es, e.v = v ∧ i64R e.id
theorem ord_same {v : V5} {e x : E6} (he : e.v = v) (hx : x.v = v) : ordE e x = cmpI e.id x.id := by
  unfold ordE
  rw [he, hx, if_pos (cmpV_self v)]
theorem found_id {v : V5} {es : List E6} (hs : Sorted es) (ha : AllV v es) (i : Int) : foundE es ⟨v, i⟩ = idIn es i := by
  cases h : idIn es i
  · cases hf : foundE es ⟨v, i⟩
    · rfl
    · exfalso
      have hlt := foundE_lt hf
      unfold foundE at hf
      rw [List.getElem?_eq_getElem hlt] at hf
      have hm := List.getElem_mem hlt
      have hf : (ordE es[lbE es ⟨v, i⟩] ⟨v, i⟩ == 0) = true := hf
      rw [ord_same (ha _ hm).1 rfl] at hf
      have e1 : cmpI es[lbE es ⟨v, i⟩].id i = 0 := by simpa using hf
      rw [cmpI_eq0] at e1
      unfold idIn at h
      rw [List.any_eq_false] at h
      exact h _ hm (by simpa using e1)
  · unfold idIn at h
    rw [List.any_eq_true] at h
    obtain ⟨e, he, h2⟩ := h
    obtain ⟨k, hk, rfl⟩ := List.getElem_of_mem he
    have e1 : es[k].id = i := by simpa using h2
    have h0 : ordE es[k] ⟨v, i⟩ = 0 := by
      rw [ord_same (ha _ he).1 rfl, cmpI_eq0]; exact e1
    have hle : lbE es ⟨v, i⟩ ≤ k := by
      rcases Nat.lt_or_ge k (lbE es ⟨v, i⟩) with h' | h'
      · have := lb_before es ⟨v, i⟩ k hk h'; omega
      · exact h'
    have hlb := lb_at es ⟨v, i⟩ (by omega)
    have hek : lbE es ⟨v, i⟩ = k := by
      rcases Nat.lt_or_ge (lbE es ⟨v, i⟩) k with h' | h'
      · exfalso
        have := List.pairwise_iff_getElem.1 hs _ _ (by omega) hk h'
        exact hlb (ordE_lt_trans this (by omega))
      · omega
    unfold foundE
    rw [hek, List.getElem?_eq_getElem hk]
    simpa using h0
theorem AllV.add {v : V5} {es : List E6} (ha : AllV v es) {i : Int} (hi : i64R i) : AllV v (addE es ⟨v, i⟩) := fun y hy => by
  rcases addE_mem hy with hy | rfl
  · exact ha y hy
  · exact ⟨rfl, hi⟩
theorem id_add {v : V5} {es : List E6} (hs : Sorted es) (ha : AllV v es) (i k : Int) : idIn (addE es ⟨v, i⟩) k = (idIn es k || (i == k)) := by
  cases hf : foundE es ⟨v, i⟩
  · have e : addE es ⟨v, i⟩ = insE es ⟨v, i⟩ := by simp [addE, hf]
    rw [e]
    unfold insE idIn
    rw [List.any_append, List.any_cons]
    conv => rhs; rw [← List.take_append_drop (lbE es ⟨v, i⟩) es, List.any_append]
    simp only [List.take_append_drop]
    cases (es.take (lbE es ⟨v, i⟩)).any (fun e => e.id == k) <;> cases (es.drop (lbE es ⟨v, i⟩)).any (fun e => e.id == k) <;> simp
  · have e : addE es ⟨v, i⟩ = es := by simp [addE, hf]
    rw [e]
    rw [found_id hs ha] at hf
    by_cases hik : i = k
    · subst hik; simp [hf]
    · have : (i == k) = false := by simpa using hik
      rw [this, Bool.or_false]
theorem range_same {v : V5} {es : List E6} (ha : AllV v es) : es.filter (inE v v) = es := by
  rw [List.filter_eq_self]
  intro e he
  unfold inE
  rw [(ha e he).1, cmpV_self]
  rfl
theorem rising_id {v : V5} {es : List E6} (hs : Sorted es) (ha : AllV v es) (k : Nat) (hk : k + 1 < es.length) : es[k].id < es[k + 1].id := by
  have h := List.pairwise_iff_getElem.1 hs k (k + 1) (by omega) hk (by omega)
  rw [ord_same (ha _ (List.getElem_mem _)).1 (ha _ (List.getElem_mem _)).1] at h
  unfold cmpI at h
  split at h
  · assumption
  · split at h <;> omega
/-- the map in block mb reads as the numbers of es. -/
def SeenL (W : World) (mb n : Nat) (es : List E6) : Prop :=
  ∃ D : DataW Unit, W.ownsMap Try.prog 3 (plainElem Try.prog 4) mb n D ∧ Maps.size D = es.length ∧ (∀ i, D.atKey (.int .i64 i) (.lit (.bool false)) = .lit (.bool (idIn es i))) ∧ (∀ i, Maps.has D (.int .i64 i) = idIn es i)
theorem keyInt : Maps.Keyed Try.prog 3 := Maps.int_keyed Try.underlying3
theorem SeenL.held {W W' : World} {mb n : Nat} {es : List E6} (h : SeenL W mb n es) (hh : W'.heap[mb]? = W.heap[mb]?) : SeenL W' mb n es := by
  obtain ⟨D, ⟨es', clock, hb, rest⟩, h2⟩ := h
  exact ⟨D, ⟨es', clock, hh.trans hb, rest⟩, h2⟩
theorem SeenL.lt {W : World} {mb n : Nat} {es : List E6} (h : SeenL W mb n es) : mb < W.heap.size := by
  obtain ⟨D, h1, _⟩ := h
  exact h1.lt
theorem SeenL.start (w : World) : SeenL (w.alloc (.map #[] 0)) w.heap.size 0 [] :=
  ⟨.map [], World.ownsMap_made w _ _ _, rfl, fun i => rfl, fun i => rfl⟩
theorem keyOfI {i : Int} (hi : i64R i) : keyOf Try.prog 3 (.int .i64 i) = some (.int .i64 i) := Maps.keyOf_int_mk Try.underlying3 (by
  obtain ⟨h1, h2⟩ := hi
  simp [Lit.wf, IntKind.min, IntKind.max, IntKind.signed, IntKind.bits]; omega)
theorem plain_bool_inv {v : Value} {z : DataW Unit × List MemPlace} (h : plainElem Try.prog 4 v = some z) : ∃ b, v = .bool b ∧ z.1 = .lit (.bool b) := by
  unfold plainElem at h
  rw [Try.underlying4] at h
  cases v <;> simp at h
  subst h
  exact ⟨_, rfl, rfl⟩
/-- 'seen[i]'. -/
theorem SeenL.look {W : World} {mb n : Nat} {es : List E6} (h : SeenL W mb n es) (i : Int) (hi : i64R i) : (Instr.lookup 45 (.map (some mb)) (.int .i64 i) false).run Try.prog W = .ok (.bool (idIn es i)) W := by
  obtain ⟨D, h1, _, hat, _⟩ := h
  obtain ⟨v, ps, hr, hv⟩ := h1.lookup keyInt Try.underlying45 (z := .bool false) (by kernel_rfl) (plainElem_bool Try.underlying4 false) (keyOfI hi)
  obtain ⟨b, rfl, hz⟩ := plain_bool_inv hv
  have := hat i
  simp only at hz
  rw [hz] at this
  simp only [DataW.lit.injEq, Lit.bool.injEq] at this
  rw [hr, this]
theorem SeenL.len {W : World} {mb n : Nat} {es : List E6} (h : SeenL W mb n es) (ty : TypeId) : (Builtin.len_ #[45] ty #[.map (some mb)]).run Try.prog W = .ok (.int .i64 es.length) W := by
  obtain ⟨D, h1, hs, _⟩ := h
  rw [h1.len Try.underlying45 ty, hs]
theorem SeenL.put {W1 : World} {mb n : Nat} {es : List E6} {v : V5} {i : Int} {D : DataW Unit} (hs : Sorted es) (ha : AllV v es) (h1 : W1.ownsMap Try.prog 3 (plainElem Try.prog 4) mb (n + 1) (D.put (.int .i64 i) (.lit (.bool true))))
    (ht : Maps.Tidy D) (hsz : Maps.size D = es.length) (hat : ∀ i, D.atKey (.int .i64 i) (.lit (.bool false)) = .lit (.bool (idIn es i))) (hh : ∀ i, Maps.has D (.int .i64 i) = idIn es i) : SeenL W1 mb (n + 1) (addE es ⟨v, i⟩) := by
  have hk : WideAt.IsKeyLit (.int .i64 i) := trivial
  refine ⟨_, h1, ?_, fun k => ?_, fun k => ?_⟩
  · rw [Maps.size_put ht, hh, addE_len, found_id hs ha, hsz]
    cases idIn es i <;> simp
  · rw [id_add hs ha]
    by_cases hki : i = k
    · subst hki
      rw [Maps.atKey_put_same ht.isMap hk]; simp
    · have : (i == k) = false := by simpa using hki
      rw [Maps.atKey_put_other (by simp; exact fun e => hki e.symm), hat, this, Bool.or_false]
  · rw [id_add hs ha]
    by_cases hki : i = k
    · subst hki
      rw [Maps.has_put_same ht.isMap hk]; simp
    · have : (i == k) = false := by simpa using hki
      rw [Maps.has_put_other (by simp; exact fun e => hki e.symm), hh, this, Bool.or_false]
/-- a tree of one value in tb, a map in mb. -/
def ALS (w0 : World) (tb mb n : Nat) (v : V5) (es ms : List E6) (W : World) : Prop :=
  ∃ u, TreeAt w0.heap.size tb W u es ∧ Below w0.heap.size w0 W ∧ w0.heap.size ≤ tb ∧ w0.heap.size ≤ mb ∧ Sorted es ∧ AllV v es ∧ (∀ e ∈ es, okF e) ∧ mb ≠ tb ∧ u.ownBlock ≠ some mb ∧ SeenL W mb n ms
theorem ALS.bel {w0 : World} {tb mb n : Nat} {v : V5} {es ms : List E6} {W : World} (h : ALS w0 tb mb n v es ms W) : Below w0.heap.size w0 W := by obtain ⟨u, _, h, _⟩ := h; exact h
theorem ALS.seen {w0 : World} {tb mb n : Nat} {v : V5} {es ms : List E6} {W : World} (h : ALS w0 tb mb n v es ms W) : SeenL W mb n ms := by obtain ⟨u, _, _, _, _, _, _, _, _, _, h⟩ := h; exact h
theorem ALS.tr {w0 : World} {tb mb n : Nat} {v : V5} {es ms : List E6} {W : World} (h : ALS w0 tb mb n v es ms W) : TrAt w0 tb es W := by obtain ⟨u, h1, h2, h3, h4, h5, h6, h7, _⟩ := h; exact ⟨⟨u, h1⟩, h2, h3, h5, h7⟩
theorem ALS.all {w0 : World} {tb mb n : Nat} {v : V5} {es ms : List E6} {W : World} (h : ALS w0 tb mb n v es ms W) : Sorted es ∧ AllV v es := by obtain ⟨u, h1, h2, h3, h4, h5, h6, h7, _⟩ := h; exact ⟨h5, h6⟩
theorem ALS.below {w0 : World} {tb mb n : Nat} {v : V5} {es ms : List E6} {X Y : World} (h : ALS w0 tb mb n v es ms X) (hb : Below X.heap.size X Y) : ALS w0 tb mb n v es ms Y := by
  obtain ⟨u, h1, h2, h3, h4, h5, h6, h7, h8, h9, h10⟩ := h
  exact ⟨u, h1.below hb, h2.trans (hb.mono h2.size), h3, h4, h5, h6, h7, h8, h9, h10.held (hb.block mb h10.lt)⟩
theorem ALS.start (w : World) (v : V5) : ALS w w.heap.size (w.heap.size + 1) 0 v [] [] ((w.alloc (.cells #[.slice none 0 0] 58)).alloc (.map #[] 0)) := by
  have hsz : (w.alloc (.cells #[.slice none 0 0] 58)).heap.size = w.heap.size + 1 := by simp
  refine ⟨.slice none 0 0, ⟨(Blk.new w [.slice none 0 0] _).alloc _, ⟨by simp [flatE], .inl ⟨rfl, rfl⟩⟩⟩, ((Below.refl _ w).alloc (Nat.le_refl _) _).alloc (by simp) _, Nat.le_refl _, by omega, List.Pairwise.nil, by simp [AllV], by simp, by omega, by simp [Value.ownBlock], ?_⟩
  have := SeenL.start (w.alloc (.cells #[.slice none 0 0] 58))
  rwa [hsz] at this
theorem AddL_c (w0 : World) (tb mb n : Nat) (v : V5) (es ms : List E6) (i : Int) (w : World) (h : ALS w0 tb mb n v es ms w) (hlen : es.length ≤ 1099511627776) (hv : v.f < W64) (hi : i64R i) :
    Calls Try.prog 13 #[.pointer (some ⟨tb, 0, none⟩), (⟨v, i⟩ : E6).val] w fun e w' => e = .returned (.bool (!idIn es i)) ∧ ALS w0 tb mb n v (addE es ⟨v, i⟩) ms w' := by
  obtain ⟨u, h1, h2, h3, h4, h5, h6, h7, h8, h9, h10⟩ := h
  refine (Add_c w0.heap.size tb es ⟨v, i⟩ u w h1 h2.size hlen h7 hv (h5.mono _)).mono fun e w' h' => ?_
  have h0 := TrAt.of h' h1 h2 h3 (h5.add _) (fun y hy => by rcases addE_mem hy with hy | rfl; exact h7 y hy; exact hv)
  obtain ⟨u', rfl, g1, gl, gc⟩ := h'
  refine ⟨by rw [found_id h5 h6], u', g1, h0.2.2.1, h3, h4, h5.add _, h6.add hi, (fun y hy => by rcases addE_mem hy with hy | rfl; exact h7 y hy; exact hv), h8, ?_, h10.held (gc.block mb h10.lt h8 (fun e => h9 e.symm))⟩
  rcases gl with gl | ⟨q, hq, hq2⟩
  · rw [gl]; exact h9
  · rw [hq]; intro e; simp only [Option.some.injEq] at e; have := h10.lt; omega
/-- the map is written. -/
theorem ALS.upd {w0 : World} {tb mb n n' : Nat} {v : V5} {es ms ms' : List E6} {W W1 : World} (h : ALS w0 tb mb n v es ms W) (hg : W.grownBy W1 (some mb)) (hs : SeenL W1 mb n' ms') : ALS w0 tb mb n' v es ms' W1 := by
  obtain ⟨u, h1, h2, h3, h4, h5, h6, h7, h8, h9, h10⟩ := h
  refine ⟨u, ⟨h1.1.grown hg (fun e => h8 (by simpa using e)), h1.2.held (fun k hk => hg.block k (h1.2.lt k hk.symm).2 (fun e => h9 (by rw [← hk, e])))⟩, h2.grown hg h2.size (fun k hk => by simp only [Option.some.injEq] at hk; omega), h3, h4, h5, h6, h7, h8, h9, hs⟩
end Go.Proofs.Ythbjkkfpahhfiaa
