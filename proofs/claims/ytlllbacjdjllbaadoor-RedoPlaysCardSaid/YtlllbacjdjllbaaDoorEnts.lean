
/- Rows of bytes in a row: the entries of a log, as they lie in memory, and as they are read. -/
import Derived.Test.YtlllbacjdjllbaaDoorRedo1
import Derived.OneCell
namespace Go.Proofs.YtlllbacjdjllbaaDoor
open Go Go.Proofs Go.Shelf Go.RowKit Go.Great
set_option linter.unusedVariables false
set_option linter.unusedSimpArgs false

/-- the entries that a cursor gives, at most n; true: to the end. -/
def entF : Nat → Cur → List (List UInt8) × Bool
  | _, none => ([], false)
  | _, some [] => ([], true)
  | 0, some (_ :: _) => ([], false)
  | n + 1, some (x :: r) => ((curStr (some (x :: r))).1 :: (entF n (curStr (some (x :: r))).2).1, (entF n (curStr (some (x :: r))).2).2)
def entP (l : List UInt8) : List (List UInt8) × Bool := entF l.length (some l)
/-- what is left behind an entry is shorter. -/
def curLen : Cur → Nat
  | none => 0
  | some l => l.length
theorem curStr_len (x : UInt8) (r : List UInt8) : curLen (curStr (some (x :: r))).2 ≤ r.length ∧ (curStr (some (x :: r))).1.length ≤ r.length := by
  have hd := decU_dec (x :: r)
  unfold curStr
  cases h : decU (x :: r) with
  | none => rw [show curInt (some (x :: r)) = (0, none) from by simp only [curInt, h]]; exact ⟨Nat.zero_le _, Nat.zero_le _⟩
  | some p =>
    obtain ⟨q, r'⟩ := p
    rw [show curInt (some (x :: r)) = (unzig q, some r') from by simp only [curInt, h]]
    rw [h] at hd
    obtain ⟨h1, h2⟩ := hd
    have h3 := Lib.uvarint_pos q
    have h4 : r'.length ≤ r.length := by have := congrArg List.length h2; simp at this; omega
    simp only [curTake]
    split
    · simp only [curLen, List.length_drop, List.length_take]; omega
    · exact ⟨Nat.zero_le _, Nat.zero_le _⟩
/-- a row of bytes that lies in a block of bytes. -/
def RowU (lo : Nat) (W : World) (v : Value) (l : List UInt8) : Prop := RowAt W v (bytesV l) ∧ ∃ g cur fr, v.ownBlock = some g ∧ lo ≤ g ∧ W.heap[g]? = some (.cells cur 5 fr)
theorem RowU.below {lo : Nat} {W W' : World} {v : Value} {l : List UInt8} (h : RowU lo W v l) (hb : Below W.heap.size W W') : RowU lo W' v l := by
  obtain ⟨hr, g, cur, fr, hg, hl, hh⟩ := h
  exact ⟨hr.below hb, g, cur, fr, hg, hl, (hb.block g (Array.getElem?_eq_some_iff.1 hh).1).trans hh⟩
theorem RowU.grown {lo e k n B : Nat} {W W' : World} {v u : Value} {l : List UInt8} {xs : List Value} (h : RowU lo W v l) (ho : W.ownsRow B e k u n xs) (he : e ≠ 5) (hg : W.grownBy W' u.ownBlock) : RowU lo W' v l := by
  obtain ⟨hr, g, cur, fr, hg', hl, hh⟩ := h
  have hne : v.ownBlock ≠ u.ownBlock := by
    rw [hg']
    intro e'
    rcases ho.2 with ⟨rfl, _⟩ | ⟨g2, _, cur2, rfl, _, h2, _⟩
    · cases e'
    · simp only [Value.ownBlock, Option.some.injEq] at e'
      subst e'
      rw [hh] at h2
      simp only [Option.some.injEq, Obj.cells.injEq] at h2
      exact he h2.2.1.symm
  exact ⟨hr.grown hg (.inr hne), g, cur, fr, hg', hl, (hg.block g (Array.getElem?_eq_some_iff.1 hh).1 (by rw [← hg']; exact hne)).trans hh⟩
/-- a row of rows of bytes, all of the call's own. -/
def RowsU (lo : Nat) (W : World) (v : Value) (es : List (List UInt8)) : Prop :=
  ∃ cells : List Value, W.ownsRow lo 30 1 v es.length cells ∧ ∀ (i : Nat) e c, es[i]? = some e → cells[i]? = some c → RowU lo W c e
theorem RowsU.nil (lo : Nat) (W : World) : RowsU lo W (.slice none 0 0) [] := ⟨[], World.ownsRow_nil _ _ _ _, by intro i e c h; simp at h⟩
theorem own_belowE {w w' : World} {B e k n : Nat} {v : Value} {xs : List Value} (h : w.ownsRow B e k v n xs) (hb : Below w.heap.size w w') : w'.ownsRow B e k v n xs := by
  refine ⟨h.1, ?_⟩
  rcases h.2 with h' | ⟨g, cap, cur, rfl, hB, hg, rest⟩
  · exact .inl h'
  · exact .inr ⟨g, cap, cur, rfl, hB, (hb.block g (Array.getElem?_eq_some_iff.1 hg).1).trans hg, rest⟩
theorem RowsU.below {lo : Nat} {W W' : World} {v : Value} {es : List (List UInt8)} (h : RowsU lo W v es) (hb : Below W.heap.size W W') : RowsU lo W' v es := by
  obtain ⟨cells, ho, hc⟩ := h
  exact ⟨cells, own_belowE ho hb, fun i e c h1 h2 => (hc i e c h1 h2).below hb⟩
theorem RowsU.snoc {lo : Nat} {W W' : World} {v v' u : Value} {es : List (List UInt8)} {e : List UInt8} {cells : List Value} (ho : W.ownsRow lo 30 1 v es.length cells) (hc : ∀ (i : Nat) e c, es[i]? = some e → cells[i]? = some c → RowU lo W c e) (hu : RowU lo W u e)
    (ho' : W'.ownsRow lo 30 1 v' (es.length + 1) (cells ++ [u])) (hg : W.grownBy W' v.ownBlock) : RowsU lo W' v' (es ++ [e]) := by
  refine ⟨cells ++ [u], by rw [List.length_append]; exact ho', fun i x c h1 h2 => ?_⟩
  have hl : cells.length = es.length := by simpa using ho.1
  rcases Nat.lt_trichotomy i es.length with hi | rfl | hi
  · rw [List.getElem?_append_left hi] at h1
    rw [List.getElem?_append_left (by omega)] at h2
    exact (hc i x c h1 h2).grown ho (by decide) hg
  · rw [List.getElem?_append_right (Nat.le_refl _)] at h1
    rw [List.getElem?_append_right (by omega)] at h2
    simp [hl] at h1 h2
    subst h1 h2
    exact hu.grown ho (by decide) hg
  · rw [List.getElem?_eq_none (by simp; omega)] at h1
    cases h1
theorem own_grown {w w' : World} {B e k n : Nat} {v : Value} {xs : List Value} {r : Nat} (h : w.ownsRow B e k v n xs) (hg : w.grownBy w' (some r)) (hr : r < B) : w'.ownsRow B e k v n xs := by
  refine ⟨h.1, ?_⟩
  rcases h.2 with h' | ⟨g, cap, cur, rfl, hB, hh, rest⟩
  · exact .inl h'
  · exact .inr ⟨g, cap, cur, rfl, hB, (hg.block g (Array.getElem?_eq_some_iff.1 hh).1 (by simp; omega)).trans hh, rest⟩
theorem own_mono {w : World} {B B' e k n : Nat} {v : Value} {xs : List Value} (h : w.ownsRow B e k v n xs) (hB : B' ≤ B) : w.ownsRow B' e k v n xs := by
  refine ⟨h.1, ?_⟩
  rcases h.2 with h' | ⟨g, cap, cur, rfl, hg, rest⟩
  · exact .inl h'
  · exact .inr ⟨g, cap, cur, rfl, Nat.le_trans hB hg, rest⟩
theorem RowU.low {lo r : Nat} {W W' : World} {v : Value} {l : List UInt8} (h : RowU lo W v l) (hg : W.grownBy W' (some r)) (hr : r < lo) : RowU lo W' v l := by
  obtain ⟨h1, g, cur, fr, hg', hl, hh⟩ := h
  exact ⟨h1.grown hg (.inr (by rw [hg']; simp; omega)), g, cur, fr, hg', hl, (hg.block g (Array.getElem?_eq_some_iff.1 hh).1 (by simp; omega)).trans hh⟩
theorem RowsU.low {lo r : Nat} {W W' : World} {v : Value} {es : List (List UInt8)} (h : RowsU lo W v es) (hg : W.grownBy W' (some r)) (hr : r < lo) : RowsU lo W' v es := by
  obtain ⟨cells, ho, hc⟩ := h
  exact ⟨cells, own_grown ho hg hr, fun i e c h1 h2 => (hc i e c h1 h2).low hg hr⟩
theorem RowsU.mono {lo lo' : Nat} {W : World} {v : Value} {es : List (List UInt8)} (h : RowsU lo W v es) (hl : lo' ≤ lo) : RowsU lo' W v es := by
  obtain ⟨cells, ho, hc⟩ := h
  refine ⟨cells, own_mono ho hl, fun i e c h1 h2 => ?_⟩
  obtain ⟨h1, g, cur, fr, hg', hl', hh⟩ := hc i e c h1 h2
  exact ⟨h1, g, cur, fr, hg', Nat.le_trans hl hl', hh⟩
theorem CS.grownO {R : Option Nat} {B base e k n : Nat} {w1 W W' : World} {c : Cur} {v : Value} {xs : List Value} (h : CS R B w1 c W) (ho : W.ownsRow base e k v n xs) (hg : W.grownBy W' v.ownBlock) (hB : B < base) (hR : ∀ r, R = some r → r < base) (hw : w1.heap.size ≤ base) : CS R B w1 c W' := by
  rcases hv : v.ownBlock with _ | g
  · rw [hv] at hg
    exact h.below ⟨hg.os, hg.tape, hg.output, hg.size, fun i hi => hg.block i hi (by simp)⟩
  · rw [hv] at hg
    have hge := (ho.lt g hv).1
    exact ⟨h.cur.grown hg (by omega) (fun e => by have := hR g e; omega), h.bel.grown hg h.bel.size (fun j hj => by cases hj; omega), h.ge⟩
/-- '[]byte(s)' as a row in a block of bytes. -/
theorem conv_rowU (s : List UInt8) (hl : s.length ≤ maxLen) (w : World) (lo : Nat) (hlo : lo ≤ w.heap.size) :
    ∃ c w', (convert 9 30 (.string ⟨s.toArray⟩)).run Tryd.prog w = .ok (.slice (some ⟨w.heap.size, 0, none⟩) s.length c) w' ∧ RowU lo w' (.slice (some ⟨w.heap.size, 0, none⟩) s.length c) s ∧ Below w.heap.size w w' := by
  refine ⟨_, _, Lib.run_convert_string_bytes w 9 30 5 ⟨s.toArray⟩ Tryd.underlying9 Tryd.underlying30 Tryd.underlying5, ⟨⟨by simpa using hl, .inr ⟨⟨w.heap.size, 0, none⟩, _, by rw [bytesV_length], by rw [bytesV_length]; exact grownCap_ge .., fun i hi => ?_⟩⟩, w.heap.size, _, _, rfl, hlo, Lib.bytesWorld_at_new w 5 ⟨s.toArray⟩⟩, ?_⟩
  · have hi' : i < s.length := by simpa using hi
    rw [addr_add, Nat.zero_add, Lib.bytesWorld_cell w 5 ⟨s.toArray⟩ i (by simpa [ByteArray.size] using hi')]
    simp [bytesV, byteV, List.getD, hi']
  · exact ⟨rfl, rfl, rfl, by rw [Lib.bytesWorld_size]; omega, fun k hk => Lib.bytesWorld_at_old w 5 _ k hk⟩
theorem elemRs : ElemK 22 30 1 24 [.slice none 0 0] := elemK_of (z := .slice none 0 0) Tryd.underlying22 (by kernel_rfl) rfl rfl
end Go.Proofs.YtlllbacjdjllbaaDoor
