
/- Two trees side by side. -/
import Derived.Test.YthbjkkfpahhfiaaRef4
namespace Go.Proofs.Ythbjkkfpahhfiaa
open Go Go.Proofs Go.RowKit
set_option linter.unusedVariables false
set_option linter.unusedSimpArgs false

/-- two trees, apart. -/
def Two (B tb xb : Nat) (es xs : List E6) (W : World) : Prop :=
  ∃ v u, TreeAt B tb W v es ∧ TreeAt B xb W u xs ∧ tb ≠ xb ∧ v.ownBlock ≠ some xb ∧ u.ownBlock ≠ some tb ∧ (∀ q, v.ownBlock = some q → u.ownBlock ≠ some q)
theorem Two.swap {B tb xb : Nat} {es xs : List E6} {W : World} (h : Two B tb xb es xs W) : Two B xb tb xs es W := by
  obtain ⟨v, u, h1, h2, h3, h4, h5, h6⟩ := h
  exact ⟨u, v, h2, h1, fun e => h3 e.symm, h5, h4, fun q hq hv => h6 q hv hq⟩
theorem Two.below {B tb xb : Nat} {es xs : List E6} {X Y : World} (h : Two B tb xb es xs X) (hb : Below X.heap.size X Y) : Two B tb xb es xs Y := by
  obtain ⟨v, u, h1, h2, h3⟩ := h
  exact ⟨v, u, h1.below hb, h2.below hb, h3⟩
theorem Two.step {B tb xb : Nat} {es xs : List E6} {W : World} (h : Two B tb xb es xs W) : ∃ v, TreeAt B tb W v es ∧ ∀ r es' e w', TreeTo B tb W v r es' e w' → e = .returned r ∧ Two B tb xb es' xs w' ∧ ∀ w0 : World, Below B w0 W → B ≤ w0.heap.size → B ≤ tb → Below B w0 w' := by
  obtain ⟨v, u, h1, h2, h3, h4, h5, h6⟩ := h
  refine ⟨v, h1, fun r es' e w' h => ?_⟩
  obtain ⟨v', rfl, g1, gl, gc⟩ := h
  have hkb : Blk w' xb [u] := by
    obtain ⟨q1, t, q2⟩ := h2.1
    exact ⟨Nat.lt_of_lt_of_le q1 gc.size, t, (gc.block xb q1 (fun e => h3 e.symm) (fun e => h4 e.symm)).trans q2⟩
  have hu : OwnE B w' u xs := h2.2.held (fun k hk => gc.block k (h2.2.lt k hk.symm).2 (fun e => h5 (by rw [← hk, e])) (fun e => h6 k e.symm hk.symm))
  refine ⟨rfl, ⟨v', u, g1, ⟨hkb, hu⟩, h3, ?_, h5, ?_⟩, fun w0 hb h0 ht => ?_⟩
  · rcases gl with gl | ⟨q, hq, hq2⟩
    · rw [gl]; exact h4
    · rw [hq]; intro e; simp only [Option.some.injEq] at e; have := h2.1.1; omega
  · intro k hk hk2
    rcases gl with gl | ⟨q, hq, hq2⟩
    · exact h6 k (by rw [← gl]; exact hk) hk2
    · rw [hq] at hk; simp only [Option.some.injEq] at hk; have := (h2.2.lt k hk2).2; omega
  · refine hb.trans ⟨gc.os, gc.tape, gc.output, gc.size, fun k hk => gc.block k (by have := hb.size; omega) (by omega) (fun he => ?_)⟩
    have := (h1.2.lt _ he.symm).1
    omega
/-- since the world w0. -/
structure TwoS (w0 : World) (tb xb : Nat) (es xs : List E6) (W : World) : Prop where
  two : Two w0.heap.size tb xb es xs W
  bel : Below w0.heap.size w0 W
  ht : w0.heap.size ≤ tb
  hx : w0.heap.size ≤ xb
  so : Sorted es
  oe : ∀ e ∈ es, okF e
  ox : ∀ e ∈ xs, okF e
theorem TwoS.below {w0 : World} {tb xb : Nat} {es xs : List E6} {X Y : World} (h : TwoS w0 tb xb es xs X) (hb : Below X.heap.size X Y) : TwoS w0 tb xb es xs Y :=
  ⟨h.two.below hb, h.bel.trans (hb.mono h.bel.size), h.ht, h.hx, h.so, h.oe, h.ox⟩
theorem TwoS.start (w : World) : TwoS w w.heap.size (w.heap.size + 1) [] [] ((w.alloc (.cells #[.slice none 0 0] 58)).alloc (.cells #[.slice none 0 0] 29)) := by
  have hn : ∀ W, OwnE w.heap.size W (.slice none 0 0) [] := fun W => ⟨by simp [flatE], .inl ⟨rfl, rfl⟩⟩
  refine ⟨⟨.slice none 0 0, .slice none 0 0, ⟨(Blk.new w [.slice none 0 0] _).alloc _, hn _⟩, ⟨Blk.newAtT _ [.slice none 0 0] _ _ (by simp), hn _⟩, by omega, by simp [Value.ownBlock], by simp [Value.ownBlock], by simp [Value.ownBlock]⟩, ((Below.refl _ w).alloc (Nat.le_refl _) _).alloc (by simp) _, Nat.le_refl _, by omega, List.Pairwise.nil, by simp, by simp⟩
theorem TwoS.one {w0 : World} {tb xb : Nat} {es xs : List E6} {W : World} (h : TwoS w0 tb xb es xs W) : TrAt w0 tb es W := by
  obtain ⟨v, u, h1, _⟩ := h.two
  exact ⟨⟨v, h1⟩, h.bel, h.ht, h.so, h.oe⟩
theorem TwoS.other {w0 : World} {tb xb : Nat} {es xs : List E6} {W : World} (h : TwoS w0 tb xb es xs W) : ∃ u, TreeAt w0.heap.size xb W u xs := by
  obtain ⟨v, u, _, h1, _⟩ := h.two
  exact ⟨u, h1⟩
theorem AddA_c (w0 : World) (tb xb : Nat) (es xs : List E6) (x : E6) (w : World) (h : TwoS w0 tb xb es xs w) (hlen : es.length ≤ 1099511627776) (hx : okF x) :
    Calls Try.prog 13 #[.pointer (some ⟨tb, 0, none⟩), x.val] w fun e w' => e = .returned (.bool (!foundE es x)) ∧ TwoS w0 tb xb (addE es x) xs w' := by
  obtain ⟨v, h1, hs⟩ := h.two.step
  refine (Add_c w0.heap.size tb es x v w h1 h.bel.size hlen h.oe hx (h.so.mono x)).mono fun e w' h' => ?_
  obtain ⟨r1, r2, r3⟩ := hs _ _ _ _ h'
  exact ⟨r1, r2, r3 w0 h.bel (Nat.le_refl _) h.ht, h.ht, h.hx, h.so.add x, fun y hy => by rcases addE_mem hy with hy | rfl; exact h.oe y hy; exact hx, h.ox⟩
theorem AddB_c (w0 : World) (tb xb : Nat) (es xs : List E6) (x : E6) (w : World) (h : TwoS w0 tb xb es xs w) (hlen : xs.length ≤ 1099511627776) (hx : okF x) :
    Calls Try.prog 14 #[.pointer (some ⟨xb, 0, none⟩), x.val] w fun e w' => e = .returned (.bool (!foundE xs x)) ∧ TwoS w0 tb xb es (addE xs x) w' := by
  obtain ⟨v, h1, hs⟩ := h.two.swap.step
  refine (Add9_c w0.heap.size xb xs x v w h1 h.bel.size hlen h.ox hx).mono fun e w' h' => ?_
  obtain ⟨r1, r2, r3⟩ := hs _ _ _ _ h'
  exact ⟨r1, r2.swap, r3 w0 h.bel (Nat.le_refl _) h.hx, h.ht, h.hx, h.so, h.oe, fun y hy => by rcases addE_mem hy with hy | rfl; exact h.ox y hy; exact hx⟩
theorem DelA_c (w0 : World) (tb xb : Nat) (es xs : List E6) (x : E6) (w : World) (h : TwoS w0 tb xb es xs w) (hlen : es.length ≤ 1099511627776) (hx : okF x) :
    Calls Try.prog 24 #[.pointer (some ⟨tb, 0, none⟩), x.val] w fun e w' => e = .returned (.bool (foundE es x)) ∧ TwoS w0 tb xb (remE es x) xs w' := by
  obtain ⟨v, h1, hs⟩ := h.two.step
  refine (Del_c w0.heap.size tb es x v w h1 h.bel.size hlen h.oe hx (h.so.mono x)).mono fun e w' h' => ?_
  obtain ⟨r1, r2, r3⟩ := hs _ _ _ _ h'
  exact ⟨r1, r2, r3 w0 h.bel (Nat.le_refl _) h.ht, h.ht, h.hx, h.so.rem x, fun y hy => h.oe y (remE_mem hy), h.ox⟩
theorem DelB_c (w0 : World) (tb xb : Nat) (es xs : List E6) (x : E6) (w : World) (h : TwoS w0 tb xb es xs w) (hlen : xs.length ≤ 1099511627776) (hx : okF x) :
    Calls Try.prog 25 #[.pointer (some ⟨xb, 0, none⟩), x.val] w fun e w' => e = .returned (.bool (foundE xs x)) ∧ TwoS w0 tb xb es (remE xs x) w' := by
  obtain ⟨v, h1, hs⟩ := h.two.swap.step
  refine (Del9_c w0.heap.size xb xs x v w h1 h.bel.size hlen h.ox hx).mono fun e w' h' => ?_
  obtain ⟨r1, r2, r3⟩ := hs _ _ _ _ h'
  exact ⟨r1, r2.swap, r3 w0 h.bel (Nat.le_refl _) h.hx, h.ht, h.hx, h.so, h.oe, fun y hy => h.ox y (remE_mem hy)⟩
theorem RangeA_c (w0 : World) (tb xb : Nat) (es xs : List E6) (lo hi : V5) (w : World) (h : TwoS w0 tb xb es xs w) (hlen : es.length ≤ 1099511627776) (hlo : lo.f < W64) (hhi : hi.f < W64) :
    Calls Try.prog 17 #[.pointer (some ⟨tb, 0, none⟩), lo.v, hi.v] w (NewE w (es.filter (inE lo hi))) := by
  obtain ⟨v, h1, _⟩ := h.two.step
  exact Range_c _ tb es lo hi v w h1 hlen h.oe hlo hhi
theorem RangeB_c (w0 : World) (tb xb : Nat) (es xs : List E6) (lo hi : V5) (w : World) (h : TwoS w0 tb xb es xs w) (hlen : xs.length ≤ 1099511627776) (hlo : lo.f < W64) (hhi : hi.f < W64) :
    Calls Try.prog 18 #[.pointer (some ⟨xb, 0, none⟩), lo.v, hi.v] w (NewE w (xs.filter (inE lo hi))) := by
  obtain ⟨v, h1, _⟩ := h.two.swap.step
  exact Range9_c _ xb xs lo hi v w h1 hlen h.ox hlo hhi
end Go.Proofs.Ythbjkkfpahhfiaa
