
/- What a slice value reads as in a world: its cells, one a place; how that stays. -/
import Derived.Test.YtmbffncmogpkfaaGreatDoorRows
import Derived.WalkKit
import Derived.WalkSpells
import Derived.WalkLawsBesides
import Derived.Below
import Derived.Lib.Hide
import Derived.Handy
import Derived.Deep.Draws
import Derived.Laws.AppendOwnNone
import Derived.Lib.ConvBytes
import Derived.Test.YtmbffncmogpkfaaGreatDoorBase
namespace Go.Proofs.YtmbffncmogpkfaaGreatDoor
open Go Go.RowKit

/-- the slice v reads as the cells vs (nil, or a row that is there). -/
def RowAt (w : World) (v : Value) (vs : List Value) : Prop :=
  vs.length ≤ maxLen ∧ ((v = .slice none 0 0 ∧ vs = []) ∨
  ∃ x c, v = .slice (some x) vs.length c ∧ vs.length ≤ c ∧ ∀ i (h : i < vs.length), w.cell? (x.add i) = some vs[i])

theorem addr_add (b o i : Nat) : (⟨b, o, none⟩ : Addr).add i = ⟨b, o + i, none⟩ := by cases i <;> simp [Addr.add]
theorem RowAt.nil (w : World) : RowAt w (.slice none 0 0) [] := ⟨Nat.zero_le _, .inl ⟨rfl, rfl⟩⟩
/-- the address of a row that has a cell. -/
theorem spot_none {w : World} {x : Addr} {v : Value} (h : w.cell? (x.add 0) = some v) : ∃ b o, x = ⟨b, o, none⟩ := by
  obtain ⟨b, o, spot⟩ := x
  have : spot = none := by simpa [Addr.add] using World.cell?_spot h
  exact ⟨b, o, by rw [this]⟩
theorem RowAt.plain {w : World} {x : Addr} {n c : Nat} {vs : List Value} (h : RowAt w (.slice (some x) n c) vs) (hp : 0 < vs.length) : ∃ b o, x = ⟨b, o, none⟩ ∧ b < w.heap.size := by
  rcases h.2 with ⟨hv, _⟩ | ⟨x', c', hv, _, hc⟩
  · simp at hv
  · simp only [Value.slice.injEq, Option.some.injEq] at hv
    obtain ⟨rfl, _, _⟩ := hv
    have h0 := hc 0 hp
    obtain ⟨b, o, rfl⟩ := spot_none h0
    rw [addr_add] at h0
    exact ⟨b, o, rfl, World.block_lt_of_cell? w _ h0⟩
/-- what holds of every cell's block. -/
theorem RowAt.move {w w' : World} {v : Value} {vs : List Value} (h : RowAt w v vs) (hk : ∀ b o u, v.ownBlock = some b → b < w.heap.size → w.cell? ⟨b, o, none⟩ = some u → w'.cell? ⟨b, o, none⟩ = some u) : RowAt w' v vs := by
  refine ⟨h.1, ?_⟩
  rcases h.2 with h' | ⟨x, c, rfl, hl, hc⟩
  · exact .inl h'
  · refine .inr ⟨x, c, rfl, hl, fun i hi => ?_⟩
    obtain ⟨b, o, rfl, hlt⟩ := h.plain (by omega)
    have := hc i hi
    rw [addr_add] at this ⊢
    exact hk b _ _ rfl hlt this
/-- nothing below the heap's end has turned. -/
theorem RowAt.below {w w' : World} {v : Value} {vs : List Value} (h : RowAt w v vs) (hb : Below w.heap.size w w') : RowAt w' v vs :=
  h.move fun b o u _ hlt hc => by rw [hb.cell hlt]; exact hc
theorem RowAt.belowB {w w' : World} {B : Nat} {v : Value} {vs : List Value} (h : RowAt w v vs) (hB : w.heap.size ≤ B) (hb : Below B w w') : RowAt w' v vs := h.below (hb.mono hB)
/-- through a world that has one block of its own written. -/
theorem RowAt.grown {w w' : World} {row : Option Nat} {v : Value} {vs : List Value} (h : RowAt w v vs) (hg : w.grownBy w' row) (hne : v.ownBlock = none ∨ v.ownBlock ≠ row) : RowAt w' v vs :=
  h.move fun b o u hb hlt hc => hg.cell hc (by rcases hne with hne | hne <;> rw [hb] at hne; cases hne; exact hne)
theorem RowAt.shape {w : World} {v : Value} {vs : List Value} (h : RowAt w v vs) : ∃ a c, v = .slice a vs.length c := by
  rcases h.2 with ⟨rfl, rfl⟩ | ⟨x, c, rfl, _⟩
  · exact ⟨none, 0, rfl⟩
  · exact ⟨_, c, rfl⟩
theorem RowAt.cellAt {w : World} {a : Option Addr} {n c : Nat} {vs : List Value} (h : RowAt w (.slice a n c) vs) (i : Nat) (hi : i < vs.length) :
    ∃ b o, a = some ⟨b, o, none⟩ ∧ b < w.heap.size ∧ w.cell? ⟨b, o + i, none⟩ = some vs[i] := by
  cases a with
  | none =>
    rcases h.2 with ⟨_, rfl⟩ | ⟨x, c', hv, _⟩
    · simp at hi
    · simp at hv
  | some x =>
    obtain ⟨b, o, rfl, hlt⟩ := h.plain (by omega)
    refine ⟨b, o, rfl, hlt, ?_⟩
    rcases h.2 with ⟨_, rfl⟩ | ⟨x', c', hv, _, hc⟩
    · simp at hi
    · simp only [Value.slice.injEq, Option.some.injEq] at hv
      have := hc i hi
      rw [← hv.1, addr_add] at this
      exact this
theorem RowAt.len {w : World} {a : Option Addr} {n c : Nat} {vs : List Value} (h : RowAt w (.slice a n c) vs) : n = vs.length := by
  rcases h.2 with ⟨hv, rfl⟩ | ⟨x, c', hv, _⟩
  · simp only [Value.slice.injEq] at hv; exact hv.2.1
  · simp only [Value.slice.injEq] at hv; exact hv.2.1
/-- an owned row reads as its cells. -/
theorem RowAt.ofOwns {w : World} {base e n : Nat} {v : Value} {xs : List Value} (h : w.ownsRow base e 1 v n xs) : RowAt w v xs := by
  have hl := h.1
  rw [Nat.mul_one] at hl
  rcases h.2 with ⟨rfl, rfl⟩ | ⟨g, cap, cur, rfl, hb, hg, hn, hm, hs, ht⟩
  · exact ⟨by omega, .inl ⟨rfl, List.length_eq_zero_iff.1 hl⟩⟩
  · refine ⟨by omega, .inr ⟨⟨g, 0, none⟩, cap, by rw [hl], by omega, fun i hi => ?_⟩⟩
    rw [addr_add, Nat.zero_add]
    have := World.ownsRow.cellAt ⟨h.1, .inr ⟨g, cap, cur, rfl, hb, hg, hn, hm, hs, ht⟩⟩ i (by omega)
    rw [this, List.getElem?_eq_getElem hi]
/-- a part of a row, as 'x[i:j]' reads. -/
theorem RowAt.cut {w : World} {b o n c : Nat} {vs : List Value} (h : RowAt w (.slice (some ⟨b, o, none⟩) n c) vs) (i j : Nat) (hij : i ≤ j) (hj : j ≤ vs.length) (c' : Nat) (hc' : j - i ≤ c') :
    RowAt w (.slice (some ⟨b, o + i, none⟩) (j - i) c') ((vs.drop i).take (j - i)) := by
  have hl : ((vs.drop i).take (j - i)).length = j - i := by simp; omega
  refine ⟨by have := h.1; omega, .inr ⟨⟨b, o + i, none⟩, c', by rw [hl], by omega, fun k hk => ?_⟩⟩
  rw [hl] at hk
  obtain ⟨b', o', hv, _, hc⟩ := h.cellAt (i + k) (by omega)
  simp only [Option.some.injEq, Addr.mk.injEq, and_true] at hv
  obtain ⟨rfl, rfl⟩ := hv
  rw [addr_add, show o + i + k = o + (i + k) from by omega, hc]
  simp

/-- a new block reads as its cells. -/
theorem RowAt.new (w : World) (cs : List Value) (t : TypeId) (c : Nat) (hl : cs.length ≤ Go.maxLen) (hc : cs.length ≤ c := by decide) : RowAt (w.alloc (.cells cs.toArray t)) (.slice (some ⟨w.heap.size, 0, none⟩) cs.length c) cs := by
  refine ⟨hl, .inr ⟨⟨w.heap.size, 0, none⟩, c, rfl, hc, fun i hi => ?_⟩⟩
  rw [addr_add, Nat.zero_add, World.cell?_alloc_mark]
  simp [hi]
theorem RowAt.alloc {w : World} {v : Value} {vs : List Value} (h : RowAt w v vs) (o : Obj) : RowAt (w.alloc o) v vs := h.below ((Below.refl _ w).alloc (Nat.le_refl _) o)
theorem RowAt.drewN {w : World} {v : Value} {vs : List Value} (h : RowAt w v vs) (n : Nat) : RowAt (w.drewN n) v vs := h
/-- an owned row from a lower base on. -/
theorem ownsRow_mono {w : World} {B B' e size n : Nat} {v : Value} {xs : List Value} (h : w.ownsRow B e size v n xs) (hB : B' ≤ B) : w.ownsRow B' e size v n xs := by
  refine ⟨h.1, ?_⟩
  rcases h.2 with h' | ⟨g, cap, cur, hv, hb, rest⟩
  · exact .inl h'
  · exact .inr ⟨g, cap, cur, hv, Nat.le_trans hB hb, rest⟩
/-- a byte as a cell. -/
def byteV (b : UInt8) : Value := .int .u8 (b.toNat : Int)
def bytesV (l : List UInt8) : List Value := l.map byteV
@[simp] theorem bytesV_length (l : List UInt8) : (bytesV l).length = l.length := by simp [bytesV]
theorem bytesV_append (a b : List UInt8) : bytesV (a ++ b) = bytesV a ++ bytesV b := by simp [bytesV]
theorem bytesV_get (l : List UInt8) (i : Nat) (h : i < (bytesV l).length) : (bytesV l)[i] = byteV (l[i]'(by simpa using h)) := by simp [bytesV]
theorem bytesV_one : ∀ l : List UInt8, ∀ u ∈ bytesV l, u.oneCell' = true := by
  intro l u hu
  simp only [bytesV, List.mem_map] at hu
  obtain ⟨b, _, rfl⟩ := hu
  rfl
/-- 'string(b)'. -/
theorem RowAt.toStr {P : Program} {w : World} {v : Value} {l : List UInt8} (h : RowAt w v (bytesV l)) (src dst e : TypeId) (hs : P.underlying src = some (.slice e)) (he : P.underlying e = some (.int .u8)) (hd : P.underlying dst = some .string) :
    (convert src dst v).run P w = .ok (.string ⟨l.toArray⟩) w := by
  rcases h.2 with ⟨rfl, h0⟩ | ⟨x, c, rfl, _, hc⟩
  · have : l = [] := by simpa [bytesV] using h0
    subst this
    rw [run_convert_bytes_nil w src e hs he 0 0 dst hd]
    rfl
  · rw [bytesV_length]
    exact run_convert_bytes_back w src dst e x c l hs he hd (fun j hj => by
      rw [hc j (by simpa using hj), bytesV_get]; rfl)
/-- a row that came in, as the shells tell it. -/
theorem RowAt.ofIsRow {k : IntKind} {w : World} {a : Option Addr} {len cap : Nat} {zs : List Int} (h : IsRow k w a len cap zs) : RowAt w (.slice a len cap) ((zs.take len).map (Value.int k)) ∧ ((zs.take len).length = len ∧ ∀ n ∈ zs.take len, (Lit.int k n).wf = true) := by
  rcases h with ⟨rfl, rfl, rfl, rfl⟩ | ⟨x, rfl, hl, hm, hz, hc, hwz⟩
  · exact ⟨RowAt.nil w, by simp⟩
  · have hlen : (zs.take len).length = len := by simp; omega
    refine ⟨⟨by rw [List.length_map, hlen]; omega, .inr ⟨x, cap, by rw [List.length_map, hlen], by rw [List.length_map, hlen]; exact hl, fun i hi => ?_⟩⟩, hlen, fun n hn => hwz n (List.mem_of_mem_take hn)⟩
    rw [List.length_map, hlen] at hi
    rw [hc i (by omega)]
    simp [List.getD, List.getElem?_eq_getElem (show i < zs.length by omega)]
/-- '[]byte(s)'. -/
theorem conv_bytes (src dst e : TypeId) {u : TypeDesc} (hs : Tryz.prog.underlying src = some u) (hd : Tryz.prog.underlying dst = some (.slice e)) (he : Tryz.prog.underlying e = some (.int .u8)) (s : List UInt8) (hl : s.length ≤ maxLen) (w : World) :
    ∃ c w', (convert src dst (.string ⟨s.toArray⟩)).run Tryz.prog w = .ok (.slice (some ⟨w.heap.size, 0, none⟩) s.length c) w' ∧ RowAt w' (.slice (some ⟨w.heap.size, 0, none⟩) s.length c) (bytesV s) ∧ Below w.heap.size w w' := by
  refine ⟨_, _, Lib.run_convert_string_bytes w src dst e ⟨s.toArray⟩ hs hd he, ?_, ?_⟩
  · refine ⟨by simpa using hl, .inr ⟨⟨w.heap.size, 0, none⟩, _, by rw [bytesV_length], by rw [bytesV_length]; exact grownCap_ge .., fun i hi => ?_⟩⟩
    have hi' : i < s.length := by simpa using hi
    rw [addr_add, Nat.zero_add, Lib.bytesWorld_cell w e ⟨s.toArray⟩ i (by simpa [ByteArray.size] using hi')]
    simp [bytesV, byteV, List.getD, hi']
  · exact ⟨rfl, rfl, rfl, by rw [Lib.bytesWorld_size]; omega, fun k hk => Lib.bytesWorld_at_old w e _ k hk⟩
/-- the slice type t has elements e of one cell and so many bytes. -/
def Elem1 (t e : TypeId) (bytes : Nat) : Prop := ∃ i z, Tryz.prog.underlying t = some (.slice e) ∧ Tryz.prog.info? e = some i ∧ i.zero = some z ∧ i.size = 1 ∧ i.bytes = bytes ∧ z.cells.size = 1
theorem elem1_of {t e : TypeId} {z : Value} {bytes : Nat} (ht : Tryz.prog.underlying t = some (.slice e)) (h : (Tryz.prog.info? e).map (fun i => (i.zero, i.size, i.bytes)) = some (some z, 1, bytes)) (hz : z.cells.size = 1) : Elem1 t e bytes := by
  obtain ⟨i, h1, h2, h3, h4⟩ := info_parts h
  exact ⟨i, z, ht, h1, h2, h3, h4, hz⟩
section
variable {ops : Array Oper} {rest : List Oper} {o : Oper} {a : Act} {Q : Exit → Act → World → Prop} {w : World}
/-- an operation whose guard, if it has one, lets it by. -/
theorem wpList_wanted (hw : Region.wanted o (yielded ops a.tmps) = true) (h : ∀ K : Act → World → Prop, (∀ a w, wpList Tryz.prog ops Q rest a w → K a w) → o.wp Tryz.prog a w K Q) : wpList Tryz.prog ops Q (o :: rest) a w :=
  wpList_step fun K hK => by rw [if_pos hw]; exact h K hK
/-- 'append(s, x)' of one element onto a row of the call's own. -/
theorem wp_app1 {t e : TypeId} {bytes : Nat} (he : Elem1 t e bytes) (hgd : Region.wanted o (yielded ops a.tmps) = true) (s x : Operand) (ho : o.op = .call { callee := .builtin .append, args := #[s, x], argTypes := #[t, t] })
    (B n : Nat) (v : Value) (xs : List Value) (hs : a.eval s = v) (hown : w.ownsRow B e 1 v n xs) (u : Value) (h1 : u.oneCell' = true)
    (hx : a.eval x = .slice (some ⟨w.heap.size, 0, none⟩) 1 1) (hn : (n + 1) * bytes ≤ 140737488355328) (hm : n + 1 ≤ 140737488355328) (hB : B ≤ w.heap.size)
    (h : ∀ v' w', w'.ownsRow B e 1 v' (n + 1) (xs ++ [u]) → Below B w w' → (v' = .slice none 0 0 → False) → wpList Tryz.prog ops Q rest (a.put o.dst v') w') : wpList Tryz.prog ops Q (o :: rest) a (w.alloc (.cells #[u] e)) := by
  obtain ⟨i, z, ht, hi, hz, hs1, hb1, hz1⟩ := he
  refine wpList_wanted hgd fun K hK => ?_
  refine wp_append_own _ s x t ho B e i z 1 bytes ht hi hz hs1 hb1 hz1 (by decide) v n xs hs (hown.alloc _) ⟨w.heap.size, 0, none⟩ 1 1 [u] hx rfl (cell_one_new _ _ _) (by simpa using h1) (by unfold maxLen; omega) hn (by simp; omega) ?_
  intro v' w' h2 h3 h4
  refine hK _ _ (h v' w' h2 (((Below.refl _ _).alloc hB _).grown h3 (by simp; omega) (fun j hj => (hown.lt j hj).1)) (fun hv => ?_))
  have := (h4.1 hv).2
  omega
/-- 'append(s, x...)' of a row that is there onto a row of the call's own. -/
theorem wp_appRow {t e : TypeId} {bytes : Nat} (he : Elem1 t e bytes) (hgd : Region.wanted o (yielded ops a.tmps) = true) (s x : Operand) (ho : o.op = .call { callee := .builtin .append, args := #[s, x], argTypes := #[t, t] })
    (B n : Nat) (v : Value) (xs : List Value) (hs : a.eval s = v) (hown : w.ownsRow B e 1 v n xs) (vx : Value) (us : List Value) (hx : a.eval x = vx) (hr : RowAt w vx us) (h1 : ∀ u ∈ us, u.oneCell' = true)
    (hn : (n + us.length) * bytes ≤ 140737488355328) (hm : n + us.length ≤ 140737488355328) (hB : B ≤ w.heap.size)
    (h : ∀ v' w', w'.ownsRow B e 1 v' (n + us.length) (xs ++ us) → Below B w w' → wpList Tryz.prog ops Q rest (a.put o.dst v') w') : wpList Tryz.prog ops Q (o :: rest) a w := by
  obtain ⟨i, z, ht, hi, hz, hs1, hb1, hz1⟩ := he
  rcases hr.2 with ⟨rfl, rfl⟩ | ⟨ad, c, rfl, _, hc⟩
  · refine wpList_wanted hgd fun K hK => ?_
    have hrun := run_append_owned_none (P := Tryz.prog) (w := w) B t o.type e i 1 ht hi v n xs hown
    unfold Oper.wp
    simp [execOp, ho, resolve, invoke, builtin, hs, hx, hrun, Result.andThen]
    exact hK _ _ (h v w (by simpa using hown) (Below.refl _ _))
  · refine wpList_wanted hgd fun K hK => ?_
    refine wp_append_own _ s x t ho B e i z 1 bytes ht hi hz hs1 hb1 hz1 (by decide) v n xs hs hown ad us.length c us hx (by rw [Nat.mul_one]) ?_ h1 (by unfold maxLen; omega) hn hB ?_
    · intro j u hu
      have hj := (List.getElem?_eq_some_iff.1 hu).1
      rw [hc j hj]
      rw [List.getElem?_eq_getElem hj] at hu
      exact hu
    · intro v' w' h2 h3 _
      exact hK _ _ (h v' w' h2 ((Below.refl _ _).grown h3 hB (fun j hj => (hown.lt j hj).1)))
end
/-- the empty slice that a literal makes. -/
theorem owns_empty (w : World) (e : TypeId) : (w.alloc (.cells #[] e)).ownsRow w.heap.size e 1 (.slice (some ⟨w.heap.size, 0, none⟩) 0 0) 0 [] :=
  ⟨rfl, .inr ⟨w.heap.size, 0, #[], rfl, Nat.le_refl _, (MapKept.heap_alloc w _).1, Nat.le_refl _, Nat.zero_le _, rfl, rfl⟩⟩
section
variable {w : World} {v : Value} {vs : List Value} {t : TypeId}
/-- a part of a row. -/
theorem RowAt.sliced {x : Addr} {n c : Nat} (h : RowAt w (.slice (some x) n c) vs) (l m : Nat) (hlm : l ≤ m) (hm : m ≤ vs.length) : RowAt w (Go.sliced (some x) l m c 1) ((vs.drop l).take (m - l)) ∧ ((Go.sliced (some x) l m c 1).ownBlock = some x.block ∨ m = l) := by
  have hn := h.len
  rcases h.2 with ⟨hv, _⟩ | ⟨x', c', hv, hcc, hc⟩
  · simp at hv
  simp only [Value.slice.injEq, Option.some.injEq] at hv
  obtain ⟨rfl, rfl, rfl⟩ := hv
  have hl : ((vs.drop l).take (m - l)).length = m - l := by simp; omega
  have hmx := h.1
  unfold Go.sliced
  by_cases hcl : c = l
  · rw [if_pos hcl]
    refine ⟨⟨by omega, .inr ⟨x, c - l, by rw [hl], by omega, fun i hi => by omega⟩⟩, .inr (by omega)⟩
  · rw [if_neg hcl, Option.map_some, Nat.mul_one]
    by_cases h0 : vs.length = 0
    · refine ⟨⟨by omega, .inr ⟨x.add l, c - l, by rw [hl], by omega, fun i hi => by omega⟩⟩, .inr (by omega)⟩
    · obtain ⟨b, o, rfl, _⟩ := h.plain (by omega)
      refine ⟨⟨by omega, .inr ⟨(⟨b, o, none⟩ : Addr).add l, c - l, by rw [hl], by omega, fun i hi => ?_⟩⟩, .inl (by rw [addr_add]; rfl)⟩
      rw [hl] at hi
      have := hc (l + i) (by omega)
      rw [addr_add] at this
      rw [addr_add, addr_add, show o + l + i = o + (l + i) from by omega, this]
      simp
/-- what stays said of the block of a part. -/
def PartOf (v' v : Value) : Prop := v'.ownBlock = none ∨ v'.ownBlock = v.ownBlock
/-- 'len(x)'. -/
theorem RowAt.lenRun (h : RowAt w v vs) (ht : Tryz.prog.underlying t = some (.slice (Tryz.prog.elem t))) (ty : TypeId) (w' : World) : (Builtin.len_ #[t] ty #[v]).run Tryz.prog w' = .ok (.int .i64 (vs.length : Int)) w' := by
  obtain ⟨a, c, rfl⟩ := h.shape
  exact run_len_slice w' t ty a vs.length c ht
/-- 'x[k:]'. -/
theorem RowAt.sliceLo (h : RowAt w v vs) (ht : Tryz.prog.underlying t = some (.slice (Tryz.prog.elem t))) (hs : ∀ w, (sizeOf (Tryz.prog.elem t)).run Tryz.prog w = .ok 1 w) (k : Nat) (hk : k ≤ vs.length) :
    ∃ v', (∀ w' kk, (Instr.slice t v (some (.int kk (k : Int))) none none).run Tryz.prog w' = .ok v' w') ∧ RowAt w v' (vs.drop k) ∧ PartOf v' v := by
  rcases h.2 with ⟨rfl, rfl⟩ | ⟨x, c, rfl, hcc, hc⟩
  · obtain rfl : k = 0 := by simpa using hk
    refine ⟨.slice none 0 0, fun w' kk => ?_, RowAt.nil w, .inl rfl⟩
    have := run_slice_l (P := Tryz.prog) (w := w') t none 0 0 ht kk 0 (by omega) (by omega)
    rw [hs] at this
    exact this
  · refine ⟨Go.sliced (some x) k vs.length c 1, fun w' kk => ?_, ?_, ?_⟩
    · have := run_slice_l (P := Tryz.prog) (w := w') t (some x) vs.length c ht kk (k : Int) (by omega) (by omega)
      rw [hs, Int.toNat_natCast] at this
      exact this
    · have := (h.sliced k vs.length hk (Nat.le_refl _)).1
      rwa [List.take_of_length_le (by simp)] at this
    · unfold Go.sliced
      by_cases hcl : c = k
      · rw [if_pos hcl]; exact .inr rfl
      · rw [if_neg hcl]; right; simp [Value.ownBlock, Addr.add]; split <;> rfl
/-- 'x[:k]'. -/
theorem RowAt.sliceHi (h : RowAt w v vs) (ht : Tryz.prog.underlying t = some (.slice (Tryz.prog.elem t))) (hs : ∀ w, (sizeOf (Tryz.prog.elem t)).run Tryz.prog w = .ok 1 w) (k : Nat) (hk : k ≤ vs.length) :
    ∃ v', (∀ w' kk, (Instr.slice t v none (some (.int kk (k : Int))) none).run Tryz.prog w' = .ok v' w') ∧ RowAt w v' (vs.take k) ∧ PartOf v' v := by
  rcases h.2 with ⟨rfl, rfl⟩ | ⟨x, c, rfl, hcc, hc⟩
  · obtain rfl : k = 0 := by simpa using hk
    refine ⟨.slice none 0 0, fun w' kk => ?_, RowAt.nil w, .inl rfl⟩
    have := run_slice_h (P := Tryz.prog) (w := w') t none 0 0 ht kk 0 (by omega) (by omega)
    rw [hs] at this
    exact this
  · refine ⟨Go.sliced (some x) 0 k c 1, fun w' kk => ?_, ?_, ?_⟩
    · have := run_slice_h (P := Tryz.prog) (w := w') t (some x) vs.length c ht kk (k : Int) (by omega) (by omega)
      rw [hs, Int.toNat_natCast] at this
      exact this
    · have := (h.sliced 0 k (by omega) hk).1
      simpa using this
    · unfold Go.sliced
      by_cases hcl : c = 0
      · rw [if_pos hcl]; exact .inr rfl
      · rw [if_neg hcl]; right; simp [Value.ownBlock, Addr.add]
/-- 'x[k:m]'. -/
theorem RowAt.sliceLoHi (h : RowAt w v vs) (ht : Tryz.prog.underlying t = some (.slice (Tryz.prog.elem t))) (hs : ∀ w, (sizeOf (Tryz.prog.elem t)).run Tryz.prog w = .ok 1 w) (k m : Nat) (hkm : k ≤ m) (hk : m ≤ vs.length) :
    ∃ v', (∀ w' kk mm, (Instr.slice t v (some (.int kk (k : Int))) (some (.int mm (m : Int))) none).run Tryz.prog w' = .ok v' w') ∧ RowAt w v' ((vs.drop k).take (m - k)) ∧ PartOf v' v := by
  rcases h.2 with ⟨rfl, rfl⟩ | ⟨x, c, rfl, hcc, hc⟩
  · obtain rfl : m = 0 := by simpa using hk
    obtain rfl : k = 0 := by omega
    refine ⟨.slice none 0 0, fun w' kk mm => ?_, RowAt.nil w, .inl rfl⟩
    have := run_slice_lh (P := Tryz.prog) (w := w') t none 0 0 ht kk mm 0 0 (by omega) (by omega) (by omega)
    rw [hs] at this
    exact this
  · refine ⟨Go.sliced (some x) k m c 1, fun w' kk mm => ?_, (h.sliced k m hkm hk).1, ?_⟩
    · have := run_slice_lh (P := Tryz.prog) (w := w') t (some x) vs.length c ht kk mm (k : Int) (m : Int) (by omega) (by omega) (by omega)
      rw [hs, Int.toNat_natCast, Int.toNat_natCast] at this
      exact this
    · unfold Go.sliced
      by_cases hcl : c = k
      · rw [if_pos hcl]; exact .inr rfl
      · rw [if_neg hcl]; right; simp [Value.ownBlock, Addr.add]; split <;> rfl
end
theorem owns_nil (w : World) (B : Nat) (e : TypeId) : w.ownsRow B e 1 (.slice none 0 0) 0 [] := ⟨rfl, .inl ⟨rfl, rfl⟩⟩
def strV (s : List UInt8) : Value := .string ⟨s.toArray⟩
@[go_sem] theorem run_store_float (P : Program) (w : World) (a : Addr) (k : FloatKind) (x : Nat) (m : Mode) : (store a (.float k x) m).run P w = stored P w a (.float k x) m := run_store P w a _ m rfl
@[go_sem] theorem run_store_func (P : Program) (w : World) (a : Addr) (f : Fn) (x y : Array Value) (m : Mode) : (store a (.func f x y) m).run P w = stored P w a (.func f x y) m := run_store P w a _ m rfl
end Go.Proofs.YtmbffncmogpkfaaGreatDoor
