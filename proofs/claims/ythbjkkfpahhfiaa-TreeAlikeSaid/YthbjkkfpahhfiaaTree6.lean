
/- Plain facts: entries in order. The tree alone: its state through the methods. The laws' num, known. -/
import Derived.Test.YthbjkkfpahhfiaaTree5
namespace Go.Proofs.Ythbjkkfpahhfiaa
open Go Go.Proofs Go.RowKit
set_option linter.unusedVariables false
set_option linter.unusedSimpArgs false

theorem ordE_turn (x y : E6) : ordE y x = -ordE x y := by
  unfold ordE
  have h := cmpV_turn x.v y.v
  have h2 := cmpI_turn x.id y.id
  by_cases hc : cmpV x.v y.v = 0
  · rw [if_pos hc, if_pos (by omega)]; exact h2
  · rw [if_neg hc, if_neg (by omega)]; exact h
theorem ordE_self (x : E6) : ordE x x = 0 := by have := ordE_turn x x; omega
theorem ordE_trans {x y z : E6} (h1 : ordE x y ≤ 0) (h2 : ordE y z ≤ 0) : ordE x z ≤ 0 := by
  unfold ordE at *
  have t1 := cmpV_turn x.v y.v
  have t2 := cmpV_turn y.v z.v
  have t3 := cmpV_turn x.v z.v
  have a1 : cmpV x.v y.v ≤ 0 := by split at h1 <;> omega
  have a2 : cmpV y.v z.v ≤ 0 := by split at h2 <;> omega
  have a3 := cmpV_trans a1 a2
  by_cases hc : cmpV x.v z.v = 0
  · have b1 : cmpV z.v y.v ≤ 0 := cmpV_trans (by omega : cmpV z.v x.v ≤ 0) a1
    have b2 : cmpV y.v x.v ≤ 0 := cmpV_trans a2 (by omega : cmpV z.v x.v ≤ 0)
    rw [if_pos hc]
    rw [if_pos (by omega)] at h1 h2
    rw [cmpI_le] at *
    omega
  · rw [if_neg hc]; exact a3
theorem ordE_lt_trans {x y z : E6} (h1 : ordE x y < 0) (h2 : ordE y z ≤ 0) : ordE x z < 0 := by
  have h3 := ordE_trans (by omega : ordE x y ≤ 0) h2
  rcases Int.lt_or_eq_of_le h3 with h | h
  · exact h
  · have t1 := ordE_turn x y
    have t2 := ordE_turn x z
    have := ordE_trans h2 (by omega : ordE z x ≤ 0)
    omega
theorem ordE_lt_trans' {x y z : E6} (h1 : ordE x y ≤ 0) (h2 : ordE y z < 0) : ordE x z < 0 := by
  have h3 := ordE_trans h1 (by omega : ordE y z ≤ 0)
  rcases Int.lt_or_eq_of_le h3 with h | h
  · exact h
  · have t1 := ordE_turn y z
    have t2 := ordE_turn x z
    have := ordE_trans (by omega : ordE z x ≤ 0) h1
    omega
/-- in order, none twice. -/
def Sorted (es : List E6) : Prop := es.Pairwise (fun a b => ordE a b < 0)
theorem Sorted.mono {es : List E6} (h : Sorted es) (x : E6) : Mono es x := fun a b ha hb hab hlt => by
  rcases Nat.lt_or_ge a b with h' | h'
  · have := List.pairwise_iff_getElem.1 h a b ha hb h'
    exact ordE_lt_trans this (by omega)
  · obtain rfl : a = b := by omega
    exact hlt
theorem mem_tw {α : Type} (p : α → Bool) : ∀ (l : List α) (a : α), a ∈ l.takeWhile p → p a = true
  | [], a, h => by simp at h
  | b :: l, a, h => by
    cases hp : p b
    · simp [List.takeWhile_cons, hp] at h
    · simp only [List.takeWhile_cons, hp, if_true, List.mem_cons] at h
      rcases h with rfl | h
      · exact hp
      · exact mem_tw p l a h
theorem lb_before (es : List E6) (x : E6) (k : Nat) (hk : k < es.length) (h : k < lbE es x) : ordE es[k] x < 0 := by
  have h1 : es[k] ∈ es.takeWhile (fun e => decide (ordE e x < 0)) := by
    have e : es[k] = (es.takeWhile (fun e => decide (ordE e x < 0)))[k]'h := by
      have := List.takeWhile_prefix (fun e => decide (ordE e x < 0)) (l := es)
      exact (this.getElem h).symm
    rw [e]; exact List.getElem_mem _
  simpa using mem_tw _ _ _ h1
theorem lb_at (es : List E6) (x : E6) (h : lbE es x < es.length) : ¬ ordE es[lbE es x] x < 0 := by
  intro hlt
  have := tw_len (fun e => decide (ordE e x < 0)) es (lbE es x)
  have hm : ∀ (p : E6 → Bool) (l : List E6) (hh : (l.takeWhile p).length < l.length), p (l[(l.takeWhile p).length]) = false := by
    intro p l
    induction l with
    | nil => intro hh; simp at hh
    | cons a l ih =>
      intro hh
      cases hp : p a
      · simp [List.takeWhile_cons, hp]
      · simp only [List.takeWhile_cons, hp, if_true, List.length_cons] at hh ⊢
        simpa using ih (by omega)
  have h2 := hm (fun e => decide (ordE e x < 0)) es h
  simp only [decide_eq_false_iff_not] at h2
  exact h2 hlt
theorem lb_after {es : List E6} (hs : Sorted es) (x : E6) (k : Nat) (hk : k < es.length) (h : lbE es x ≤ k) : ¬ ordE es[k] x < 0 := fun hlt => lb_at es x (by omega) (hs.mono x _ _ (by omega) hk h hlt)
theorem notfound_after {es : List E6} (hs : Sorted es) (x : E6) (hf : foundE es x = false) (k : Nat) (hk : k < es.length) (h : lbE es x ≤ k) : ordE x es[k] < 0 := by
  have h1 := lb_at es x (by omega)
  have h2 : ordE es[lbE es x] x ≠ 0 := by
    unfold foundE at hf
    rw [List.getElem?_eq_getElem (by omega)] at hf
    simpa using hf
  have t := ordE_turn es[lbE es x] x
  rcases Nat.lt_or_ge (lbE es x) k with h' | h'
  · have := List.pairwise_iff_getElem.1 hs _ _ (by omega) hk h'
    exact ordE_lt_trans (y := es[lbE es x]'(by omega)) (by omega) (by omega)
  · have e : k = lbE es x := by omega
    subst e
    omega
theorem Sorted.ins {es : List E6} (hs : Sorted es) (x : E6) (hf : foundE es x = false) : Sorted (insE es x) := by
  unfold insE Sorted
  rw [List.pairwise_append]
  refine ⟨hs.sublist (List.take_sublist _ _), ?_, ?_⟩
  · rw [List.pairwise_cons]
    refine ⟨fun y hy => ?_, hs.sublist (List.drop_sublist _ _)⟩
    obtain ⟨k, hk, rfl⟩ := List.getElem_of_mem hy
    rw [List.length_drop] at hk
    rw [List.getElem_drop]
    exact notfound_after hs x hf _ (by omega) (by omega)
  · intro a ha b hb
    obtain ⟨k, hk, rfl⟩ := List.getElem_of_mem ha
    rw [List.length_take] at hk
    rw [List.getElem_take]
    have h1 := lb_before es x k (by omega) (by omega)
    rcases List.mem_cons.1 hb with rfl | hb
    · exact h1
    · obtain ⟨q, hq, rfl⟩ := List.getElem_of_mem hb
      rw [List.length_drop] at hq
      rw [List.getElem_drop]
      exact List.pairwise_iff_getElem.1 hs _ _ (by omega) (by omega) (by omega)
theorem Sorted.del {es : List E6} (hs : Sorted es) (x : E6) : Sorted (delE es x) := by
  unfold delE
  have h : (es.take (lbE es x) ++ es.drop (lbE es x + 1)).Sublist es := by
    have e : es = es.take (lbE es x) ++ es.drop (lbE es x) := (List.take_append_drop _ _).symm
    conv => rhs; rw [e]
    exact (List.Sublist.refl _).append (List.drop_sublist_drop_left _ (Nat.le_succ _))
  exact hs.sublist h
/-- what Add leaves. -/
def addE (es : List E6) (x : E6) : List E6 := if foundE es x then es else insE es x
def remE (es : List E6) (x : E6) : List E6 := if foundE es x then delE es x else es
theorem Sorted.add {es : List E6} (hs : Sorted es) (x : E6) : Sorted (addE es x) := by
  unfold addE; cases h : foundE es x
  · exact hs.ins x h
  · exact hs
theorem Sorted.rem {es : List E6} (hs : Sorted es) (x : E6) : Sorted (remE es x) := by
  unfold remE; cases h : foundE es x
  · exact hs
  · exact hs.del x
theorem addE_mem {es : List E6} {x y : E6} (h : y ∈ addE es x) : y ∈ es ∨ y = x := by
  unfold addE insE at h
  split at h
  · exact .inl h
  · rcases List.mem_append.1 h with h | h
    · exact .inl (List.mem_of_mem_take h)
    · rcases List.mem_cons.1 h with h | h
      · exact .inr h
      · exact .inl (List.mem_of_mem_drop h)
theorem remE_mem {es : List E6} {x y : E6} (h : y ∈ remE es x) : y ∈ es := by
  unfold remE delE at h
  split at h
  · rcases List.mem_append.1 h with h | h
    · exact List.mem_of_mem_take h
    · exact List.mem_of_mem_drop h
  · exact h
theorem addE_len (es : List E6) (x : E6) : (addE es x).length = es.length + if foundE es x then 0 else 1 := by
  unfold addE insE; cases foundE es x
  · have := lbE_le es x; simp; omega
  · simp
theorem remE_len (es : List E6) (x : E6) : (remE es x).length = es.length - if foundE es x then 1 else 0 := by
  unfold remE
  cases h : foundE es x
  · simp
  · have := foundE_lt h
    unfold delE; simp; omega
/-- the tree in block tb, since the world w0. -/
def TrAt (w0 : World) (tb : Nat) (es : List E6) (W : World) : Prop := (∃ v, TreeAt w0.heap.size tb W v es) ∧ Below w0.heap.size w0 W ∧ w0.heap.size ≤ tb ∧ Sorted es ∧ (∀ e ∈ es, okF e)
theorem TrAt.below {w0 : World} {tb : Nat} {es : List E6} {X Y : World} (h : TrAt w0 tb es X) (hb : Below X.heap.size X Y) : TrAt w0 tb es Y := by
  obtain ⟨⟨v, h1⟩, h2, h3⟩ := h
  exact ⟨⟨v, h1.below hb⟩, h2.trans (hb.mono h2.size), h3⟩
theorem TrAt.of {w0 w w' : World} {tb : Nat} {v r : Value} {es es' : List E6} {e : Ending} (h : TreeTo w0.heap.size tb w v r es' e w') (h1 : TreeAt w0.heap.size tb w v es) (h2 : Below w0.heap.size w0 w) (h3 : w0.heap.size ≤ tb) (h4 : Sorted es') (h5 : ∀ e ∈ es', okF e) : e = .returned r ∧ TrAt w0 tb es' w' := by
  obtain ⟨v', rfl, g1, _, g2⟩ := h
  refine ⟨rfl, ⟨v', g1⟩, h2.trans ⟨g2.os, g2.tape, g2.output, g2.size, fun k hk => g2.block k (by have := h2.size; omega) (by omega) (fun he => ?_)⟩, h3, h4, h5⟩
  have := (h1.2.lt _ he.symm).1
  omega
theorem AddT_c (w0 : World) (tb : Nat) (es : List E6) (x : E6) (w : World) (h : TrAt w0 tb es w) (hlen : es.length ≤ 1099511627776) (hx : okF x) :
    Calls Try.prog 13 #[.pointer (some ⟨tb, 0, none⟩), x.val] w fun e w' => e = .returned (.bool (!foundE es x)) ∧ TrAt w0 tb (addE es x) w' := by
  obtain ⟨⟨v, h1⟩, h2, h3, h4, h5⟩ := h
  refine (Add_c w0.heap.size tb es x v w h1 h2.size hlen h5 hx (h4.mono x)).mono fun e w' h => ?_
  exact TrAt.of h h1 h2 h3 (h4.add x) (fun y hy => by rcases addE_mem hy with hy | rfl; exact h5 y hy; exact hx)
theorem DelT_c (w0 : World) (tb : Nat) (es : List E6) (x : E6) (w : World) (h : TrAt w0 tb es w) (hlen : es.length ≤ 1099511627776) (hx : okF x) :
    Calls Try.prog 24 #[.pointer (some ⟨tb, 0, none⟩), x.val] w fun e w' => e = .returned (.bool (foundE es x)) ∧ TrAt w0 tb (remE es x) w' := by
  obtain ⟨⟨v, h1⟩, h2, h3, h4, h5⟩ := h
  refine (Del_c w0.heap.size tb es x v w h1 h2.size hlen h5 hx (h4.mono x)).mono fun e w' h => ?_
  exact TrAt.of h h1 h2 h3 (h4.rem x) (fun y hy => h5 y (remE_mem hy))
theorem TrAt.new (w : World) : TrAt w w.heap.size [] (w.alloc (.cells #[.slice none 0 0] 58)) :=
  ⟨⟨_, Blk.new w [.slice none 0 0] _, by simp [flatE], .inl ⟨rfl, rfl⟩⟩, (Below.refl _ w).alloc (Nat.le_refl _) _, Nat.le_refl _, List.Pairwise.nil, by simp⟩
theorem AllT_c (w0 : World) (tb : Nat) (es : List E6) (w : World) (h : TrAt w0 tb es w) (hlen : es.length ≤ 1099511627776) : Calls Try.prog 16 #[.pointer (some ⟨tb, 0, none⟩)] w (NewE w es) := by
  obtain ⟨⟨v, h1⟩, _⟩ := h
  exact All_c _ tb es v w h1 hlen
theorem LenT_c (w0 : World) (tb : Nat) (es : List E6) (w : World) (h : TrAt w0 tb es w) : Calls Try.prog 21 #[.pointer (some ⟨tb, 0, none⟩)] w fun e w' => e = .returned (.int .i64 es.length) ∧ w = w' := by
  obtain ⟨⟨v, h1⟩, _⟩ := h
  exact Len_c _ tb es v w h1
def numV (n : Int) : V5 := ⟨2, false, n, 0, []⟩
theorem num_c (n : Int) (w : World) : Calls Try.prog 20 #[.int .i64 n] w (Gives w (.agg #[.int .i64 2, .bool false, .int .i64 n, .float .f64 0, .string ⟨#[]⟩])) := by
  go_enter Try.func20, Try.ntmps20
  go_wp2_with fail
  (try simp only [Exit.inBlock, Exit.then])
  refine bodyPost_ret (results_cell_row rfl _ _ w.heap.size 32 #[_, _, _, _, _] (0, 0) _ rfl (by rw [alloc_at, if_pos (by simp)]) Try.underlying32 rfl infoVal) rfl ?_
  exact ⟨rfl, (Below.refl _ w).alloc (Nat.le_refl _) _⟩
set_option maxRecDepth 100000 in
set_option maxHeartbeats 4000000 in
theorem known9_c (w : World) : Calls Try.prog 19 #[] w (Gives w (.bool true)) := by
  have HN := Lib.hid (TrAt.new w)
  have HA1 : Hid (∀ W, TrAt w w.heap.size [] W → Calls Try.prog 13 #[.pointer (some ⟨w.heap.size, 0, none⟩), .agg #[.int .i64 2, .bool false, .int .i64 2, .float .f64 0, .string ⟨#[]⟩, .int .i64 1]] W fun e w' => e = .returned (.bool true) ∧ TrAt w w.heap.size [⟨numV 2, 1⟩] w') :=
    Lib.hid (fun W h => AddT_c w w.heap.size [] ⟨numV 2, 1⟩ W h (by decide) (show (0 : Nat) < W64 by decide))
  have HA2 : Hid (∀ W, TrAt w w.heap.size [⟨numV 2, 1⟩] W → Calls Try.prog 13 #[.pointer (some ⟨w.heap.size, 0, none⟩), .agg #[.int .i64 2, .bool false, .int .i64 1, .float .f64 0, .string ⟨#[]⟩, .int .i64 9]] W fun e w' => e = .returned (.bool true) ∧ TrAt w w.heap.size [⟨numV 1, 9⟩, ⟨numV 2, 1⟩] w') :=
    Lib.hid (fun W h => AddT_c w w.heap.size [⟨numV 2, 1⟩] ⟨numV 1, 9⟩ W h (by decide) (show (0 : Nat) < W64 by decide))
  have HA3 : Hid (∀ W, TrAt w w.heap.size [⟨numV 1, 9⟩, ⟨numV 2, 1⟩] W → Calls Try.prog 13 #[.pointer (some ⟨w.heap.size, 0, none⟩), .agg #[.int .i64 2, .bool false, .int .i64 2, .float .f64 0, .string ⟨#[]⟩, .int .i64 0]] W fun e w' => e = .returned (.bool true) ∧ TrAt w w.heap.size [⟨numV 1, 9⟩, ⟨numV 2, 0⟩, ⟨numV 2, 1⟩] w') :=
    Lib.hid (fun W h => AddT_c w w.heap.size [⟨numV 1, 9⟩, ⟨numV 2, 1⟩] ⟨numV 2, 0⟩ W h (by decide) (show (0 : Nat) < W64 by decide))
  have HAL := Lib.hid (fun W (h : TrAt w w.heap.size [⟨numV 1, 9⟩, ⟨numV 2, 0⟩, ⟨numV 2, 1⟩] W) => AllT_c w _ _ W h (by decide))
  go_enter Try.func19, Try.ntmps19
  go_wp2_with (first | (go_at_call 9; (with_reducible refine (New_c _).mono ?_); rintro e wq ⟨rfl, rfl⟩))
  generalize w.alloc (.cells #[.slice none 0 0] 58) = W0 at *
  have HT := Lib.hid HN.out
  clear HN
  go_wp2_with (first | (go_at_call 20; (with_reducible refine (num_c _ _).mono ?_); rintro e wq ⟨rfl, hq⟩; have HT := Lib.hid (HT.out.below hq); clear hq) | (go_at_call 13; (with_reducible refine (HA1.out _ HT.out).mono ?_); rintro e wq ⟨rfl, hq⟩; have HT := Lib.hid hq; clear hq) | (go_at_call 13; (with_reducible refine (HA2.out _ HT.out).mono ?_); rintro e wq ⟨rfl, hq⟩; have HT := Lib.hid hq; clear hq) | (go_at_call 13; (with_reducible refine (HA3.out _ HT.out).mono ?_); rintro e wq ⟨rfl, hq⟩; have HT := Lib.hid hq; clear hq) | (go_at_call 16; (with_reducible refine (HAL.out _ HT.out).mono ?_); rintro e wz ⟨v', rfl, hown, hb⟩; obtain ⟨g, cap, cur, rfl, hBg, hg, _, _, _, _⟩ := hown.open (by decide); have f1 := E6.factsAt (e6_at hown.row 0 (by decide)); have f2 := E6.factsAt (e6_at hown.row 1 (by decide)); have f3 := E6.factsAt (e6_at hown.row 2 (by decide)); simp only [Nat.zero_add, Nat.zero_mul, Nat.one_mul, List.length_cons, List.length_nil, numV] at f1 f2 f3 hg; have HB := Lib.hid (HT.out.2.1.trans (hb.mono HT.out.2.1.size)); clear hown hg hb))
  go_ret
  exact ⟨rfl, HB.out⟩
end Go.Proofs.Ythbjkkfpahhfiaa
