
/- Contracts: slices.Clone at rows of entries; the methods of tree.Tree. -/
import Derived.Test.YthbjkkfpahhfiaaTree2
import Derived.WalkSpells
namespace Go.Proofs.Ythbjkkfpahhfiaa
open Go Go.Proofs Go.RowKit
set_option linter.unusedVariables false
set_option linter.unusedSimpArgs false

theorem owns_below' {w w' : World} {B : Nat} {e : TypeId} {k n : Nat} {v : Value} {xs : List Value} (h : w.ownsRow B e k v n xs) (hb : Below w.heap.size w w') : w'.ownsRow B e k v n xs := by
  refine ⟨h.1, ?_⟩
  rcases h.2 with h' | ⟨g, cap, cur, rfl, hbg, hg, rest⟩
  · exact .inl h'
  · exact .inr ⟨g, cap, cur, rfl, hbg, (hb.block g (Array.getElem?_eq_some_iff.1 hg).1).trans hg, rest⟩
theorem RowK.flat {k : Nat} {w : World} {x : Addr} {n c : Nat} {xs : List (List Value)} (hk : 0 < k) (h : RowK k w (.slice (some x) n c) xs) : ∀ j u, xs.flatten[j]? = some u → w.cell? (x.add j) = some u := fun j u hj => by
  have hjl := (List.getElem?_eq_some_iff.1 hj).1
  rw [flat_len h.2.1] at hjl
  have hq : j / k < xs.length := Nat.div_lt_of_lt_mul (by rw [Nat.mul_comm]; exact hjl)
  have hr : j % k < k := Nat.mod_lt _ hk
  have e : j = j / k * k + j % k := by rw [Nat.mul_comm]; exact (Nat.div_add_mod j k).symm
  have h2 := flat_get h.2.1 (j / k) hq (j % k) hr
  rw [← e, hj] at h2
  obtain ⟨B, o, hx, _, hc⟩ := h.cells (j / k) hq
  simp only [Option.some.injEq] at hx
  subst hx
  have := hc.at (j % k) u h2.symm
  rw [addr_add, show o + j = o + j / k * k + j % k by omega]
  exact this
/-- a new row of entries. -/
def NewE (w : World) (es : List E6) (e : Ending) (w' : World) : Prop := ∃ v', e = .returned v' ∧ OwnE w.heap.size w' v' es ∧ Below w.heap.size w w'
set_option maxHeartbeats 1000000 in
theorem CloneE_c (es : List E6) (v : Value) (w : World) (hlen : es.length ≤ 1099511627776) (hr : RowK 6 w v (es.map E6.cells)) : Calls Try.prog 34 #[v] w (NewE w es) := by
  have hnil := fun (w : World) (a : Option Addr) (n c n' c' : Nat) => Lib.run_eql_slice_nil (P := Try.prog) w 27 37 a n c n' c' Try.underlying27
  rcases hr.2.2 with ⟨rfl, h0⟩ | ⟨x, c, rfl, hl, hc⟩
  · have : es = [] := by simpa using h0
    subst this
    go_enter Try.func34, Try.ntmps34
    go_wp2_with fail
    go_ret
    exact ⟨_, rfl, ⟨by simp [flatE], .inl ⟨rfl, rfl⟩⟩, Below.refl _ w⟩
  · rw [List.length_map] at hr hl ⊢
    have HR := Lib.hid hr
    have hown0 : (w.alloc (.cells #[] 37)).ownsRow w.heap.size 37 6 (.slice (some ⟨w.heap.size, 0, none⟩) 0 0) 0 [] := ⟨rfl, .inr ⟨w.heap.size, 0, #[], rfl, Nat.le_refl _, heap_alloc_new w _, Nat.le_refl _, Nat.zero_le _, rfl, rfl⟩⟩
    have hnews : ∀ j u, (flatE es)[j]? = some u → (w.alloc (.cells #[] 37)).cell? (x.add j) = some u := fun j u hj => by
      have h2 := RowK.flat (by decide) HR.out j u hj
      have hlt : (x.add j).block < w.heap.size := World.block_lt_of_cell? w _ h2
      rw [((Below.refl _ w).alloc (Nat.le_refl _) _).cell hlt, h2]
    clear hr hl hc
    go_enter Try.func34, Try.ntmps34
    go_wp2_with (at_builtin; refine wp_appK elemE (by decide) rfl _ _ rfl w.heap.size 0 _ [] rfl hown0 x es.length c (flatE es) rfl (by rw [flatE_len]) hnews (flatE_one es) ?_ ?_ ?_ ?_)
    · omega
    · omega
    · simp
    intro v' w' hown hgr _
    have hb : Below w.heap.size w w' := ((Below.refl _ w).alloc (Nat.le_refl _) _).grown hgr (by simp) (fun q hq => by simp [Value.ownBlock] at hq; omega)
    go_wp2_with fail
    go_ret
    exact ⟨_, rfl, by simpa [OwnE] using hown, hb⟩
/-- w' is w but for block tb, the row's block, and new blocks. -/
structure Chg (tb : Nat) (ob : Option Nat) (w w' : World) : Prop where
  os : w'.os = w.os
  tape : w'.tape = w.tape
  output : w'.output = w.output
  size : w.heap.size ≤ w'.heap.size
  block : ∀ k, k < w.heap.size → k ≠ tb → some k ≠ ob → w'.heap[k]? = w.heap[k]?
/-- the Tree in block tb holds the slice v, of the entries es. -/
def TreeAt (B tb : Nat) (w : World) (v : Value) (es : List E6) : Prop := Blk w tb [v] ∧ OwnE B w v es
theorem TreeAt.apart {B tb : Nat} {w : World} {v : Value} {es : List E6} (h : TreeAt B tb w v es) : v.ownBlock ≠ some tb := by
  intro he
  obtain ⟨⟨h1, t, h2⟩, h3⟩ := h
  rcases h3.2 with ⟨rfl, _⟩ | ⟨g, cap, cur, rfl, _, hg, _, _, hs, _⟩
  · simp [Value.ownBlock] at he
  · simp only [Value.ownBlock, Option.some.injEq] at he
    subst he
    rw [hg] at h2
    simp only [Option.some.injEq, Obj.cells.injEq] at h2
    have := congrArg Array.size h2.1
    rw [hs] at this
    simp at this
    omega
theorem TreeAt.below {B tb : Nat} {w w' : World} {v : Value} {es : List E6} (h : TreeAt B tb w v es) (hb : Below w.heap.size w w') : TreeAt B tb w' v es := ⟨h.1.below hb, owns_below' h.2 hb⟩
/-- where a new slice lies. -/
def Lies (w : World) (v v' : Value) : Prop := v'.ownBlock = v.ownBlock ∨ ∃ q, v'.ownBlock = some q ∧ w.heap.size ≤ q
/-- a method of the tree has run. -/
def TreeTo (B tb : Nat) (w : World) (v r : Value) (es : List E6) (e : Ending) (w' : World) : Prop := ∃ v', e = .returned r ∧ TreeAt B tb w' v' es ∧ Lies w v v' ∧ Chg tb v.ownBlock w w'
theorem Chg.ofBelow {tb : Nat} {ob : Option Nat} {w w' : World} (h : Below w.heap.size w w') : Chg tb ob w w' := ⟨h.os, h.tape, h.output, h.size, fun k hk _ _ => h.block k hk⟩
/-- the new slice is stored. -/
theorem TreeAt.store {B tb : Nat} {w X w6 : World} {v v' : Value} {es es' : List E6} (h : TreeAt B tb w v es) (hX : Below w.heap.size w X) (hown : OwnE B w6 v' es') (hgr : X.grownBy w6 v.ownBlock) (hl : Lies X v v') :
    w6.cell? ⟨tb, 0, none⟩ = some v ∧ w6.frozen? ⟨tb, 0, none⟩ = false ∧ TreeAt B tb (w6.setCell ⟨tb, 0, none⟩ v') v' es' ∧ Lies w v v' ∧ Chg tb v.ownBlock w (w6.setCell ⟨tb, 0, none⟩ v') := by
  have ht := h.1.1
  have hb := (h.1.below hX).grown hgr h.apart
  have hne : v'.ownBlock ≠ some tb := by
    rcases hl with hl | ⟨q, hq, hq2⟩
    · rw [hl]; exact h.apart
    · rw [hq]; intro e; simp only [Option.some.injEq] at e; have := hX.size; omega
  refine ⟨hb.cell 0 _ rfl, hb.thaw 0, ⟨hb.set 0 v', ?_⟩, ?_, ?_⟩
  · refine ⟨hown.1, ?_⟩
    rcases hown.2 with hn | ⟨g, cap, cur, rfl, hbg, hg, rest⟩
    · exact .inl hn
    · refine .inr ⟨g, cap, cur, rfl, hbg, ?_, rest⟩
      rw [← hg]
      exact Below.heap_setCell w6 ⟨tb, 0, none⟩ _ g (fun e => hne (by simp [Value.ownBlock, e]))
  · rcases hl with hl | ⟨q, hq, hq2⟩
    · exact .inl hl
    · exact .inr ⟨q, hq, by have := hX.size; omega⟩
  · refine ⟨hgr.os.trans hX.os, hgr.tape.trans hX.tape, hgr.output.trans hX.output, by have := hX.size; have := hgr.size; simp [World.setCell]; omega, fun k hk hkt hkv => ?_⟩
    rw [Below.heap_setCell w6 ⟨tb, 0, none⟩ _ k hkt, hgr.block k (by have := hX.size; omega) hkv, hX.block k hk]
end Go.Proofs.Ythbjkkfpahhfiaa
