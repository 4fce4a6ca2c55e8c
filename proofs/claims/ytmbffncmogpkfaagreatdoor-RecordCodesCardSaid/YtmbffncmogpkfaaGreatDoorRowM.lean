
/- Rows of elements of several cells: what append and make make of them, and how a row of the call's own reads. -/
import Derived.Test.YtmbffncmogpkfaaGreatDoorKeep
import Derived.OwnWalk
namespace Go.Proofs.YtmbffncmogpkfaaGreatDoor
open Go Go.RowKit
set_option linter.unusedVariables false
set_option linter.unusedSimpArgs false

theorem flat_len {k : Nat} : ∀ {xs : List (List Value)}, (∀ x ∈ xs, x.length = k) → xs.flatten.length = xs.length * k
  | [], _ => by simp
  | x :: xs, h => by
    rw [List.flatten_cons, List.length_append, h x (by simp), flat_len (fun y hy => h y (by simp [hy])), List.length_cons, Nat.add_mul]; omega
theorem flat_get {k : Nat} : ∀ {xs : List (List Value)}, (∀ x ∈ xs, x.length = k) → ∀ (i : Nat) (hi : i < xs.length) (j : Nat), j < k → xs.flatten[i * k + j]? = (xs[i])[j]?
  | x :: xs, h, 0, _, j, hj => by
    rw [List.flatten_cons, Nat.zero_mul, Nat.zero_add, List.getElem?_append_left (by rw [h x (by simp)]; exact hj)]; rfl
  | x :: xs, h, i + 1, hi, j, hj => by
    have hx := h x (by simp)
    rw [List.flatten_cons, List.getElem?_append_right (by rw [hx, Nat.add_mul]; omega), hx, show (i + 1) * k + j - k = i * k + j by rw [Nat.add_mul]; omega]
    simpa using flat_get (fun y hy => h y (by simp [hy])) i (by simpa using hi) j hj
/-- an owned row reads as its elements. -/
theorem RowK.ofOwns {w : World} {base e k n : Nat} {v : Value} {xs : List (List Value)} (hk : 0 < k) (h1 : ∀ x ∈ xs, x.length = k) (h : w.ownsRow base e k v n xs.flatten) : n = xs.length ∧ RowK k w v xs := by
  have hl := h.1
  rw [flat_len h1] at hl
  have hn : xs.length = n := Nat.eq_of_mul_eq_mul_right hk hl
  subst hn
  refine ⟨rfl, ?_⟩
  rcases h.2 with ⟨rfl, h0⟩ | ⟨g, cap, cur, rfl, hb, hg, hnc, hm, hs, ht⟩
  · have : xs = [] := List.eq_nil_of_length_eq_zero h0
    subst this
    exact RowK.nil k w
  · refine ⟨by omega, h1, .inr ⟨⟨g, 0, none⟩, cap, rfl, hnc, fun i hi => ⟨g, 0, rfl, (Array.getElem?_eq_some_iff.1 hg).1, fun j hj => ?_⟩⟩⟩
    have hx := h1 xs[i] (List.getElem_mem hi)
    have := h.cells (g := g) rfl (i * k + j) xs[i][j] (by rw [flat_get h1 i hi j (by omega), List.getElem?_eq_getElem hj])
    rw [addr_add] at this
    rw [show 0 + i * k + j = 0 + (i * k + j) by omega]
    exact this
theorem owns_shape {w : World} {base e k n : Nat} {v : Value} {xs : List Value} (h : w.ownsRow base e k v n xs) : ∃ a c, v = .slice a n c := by
  rcases h.2 with ⟨rfl, rfl⟩ | ⟨g, cap, cur, rfl, _⟩
  · exact ⟨none, 0, rfl⟩
  · exact ⟨_, _, rfl⟩
theorem Blk.grown {w w' : World} {g : Nat} {cs : List Value} {row : Option Nat} (h : Blk w g cs) (hg : w.grownBy w' row) (hne : row ≠ some g) : Blk w' g cs := by
  obtain ⟨h1, t, h2⟩ := h
  exact ⟨Nat.lt_of_lt_of_le h1 hg.size, t, (hg.block g h1 (fun e => hne e.symm)).trans h2⟩
theorem Blk.other {w : World} {g q : Nat} {cs : List Value} (h : Blk w q cs) (hq : q ≠ g) (j : Nat) (v : Value) : Blk (w.setCell ⟨g, j, none⟩ v) q cs := by
  obtain ⟨h1, t, h2⟩ := h
  refine ⟨by simpa [World.setCell] using h1, t, ?_⟩
  rw [← h2]
  exact Below.heap_setCell w ⟨g, j, none⟩ _ q hq
/-- the row of a block reads as elements. -/
theorem RowK.ofBlk {w : World} {g k c : Nat} {cs : List Value} {xs : List (List Value)} (h : Blk w g cs) (h1 : ∀ x ∈ xs, x.length = k) (hcs : cs = xs.flatten) (hm : xs.length ≤ maxLen) (hc : xs.length ≤ c) : RowK k w (.slice (some ⟨g, 0, none⟩) xs.length c) xs := by
  refine ⟨hm, h1, .inr ⟨_, c, rfl, hc, fun i hi => ⟨g, 0, rfl, h.1, fun j hj => ?_⟩⟩⟩
  have hx := h1 xs[i] (List.getElem_mem hi)
  have := h.cell (i * k + j) xs[i][j] (by rw [hcs, flat_get h1 i hi j (by omega), List.getElem?_eq_getElem hj])
  rw [show 0 + i * k + j = i * k + j by omega]
  exact this
/-- the slice type t has elements e of k cells and so many bytes; its zero's cells. -/
def ElemK (t e : TypeId) (k bytes : Nat) (zs : List Value) : Prop := ∃ i z, Tryz.prog.underlying t = some (.slice e) ∧ Tryz.prog.info? e = some i ∧ i.zero = some z ∧ i.size = k ∧ i.bytes = bytes ∧ z.cells = zs.toArray ∧ zs.length = k
theorem elemK_of {t e : TypeId} {z : Value} {k bytes : Nat} {zs : List Value} (ht : Tryz.prog.underlying t = some (.slice e)) (h : (Tryz.prog.info? e).map (fun i => (i.zero, i.size, i.bytes)) = some (some z, k, bytes)) (hz : z.cells = zs.toArray) (hl : zs.length = k) : ElemK t e k bytes zs := by
  obtain ⟨i, h1, h2, h3, h4⟩ := info_parts h
  exact ⟨i, z, ht, h1, h2, h3, h4, hz, hl⟩
theorem madeCells_flat (zs : List Value) (n : Nat) (hz : 0 < zs.length) : (madeCells zs.toArray (n * zs.length)).toList = (List.replicate n zs).flatten := by
  apply List.ext_getElem?
  intro j
  by_cases hj : j < n * zs.length
  · have hq : j / zs.length < n := Nat.div_lt_of_lt_mul (by rw [Nat.mul_comm]; exact hj)
    have hr : j % zs.length < zs.length := Nat.mod_lt _ hz
    have e : j = j / zs.length * zs.length + j % zs.length := by rw [Nat.mul_comm]; exact (Nat.div_add_mod j _).symm
    have h2 := flat_get (k := zs.length) (xs := List.replicate n zs) (by simp) (j / zs.length) (by simpa using hq) (j % zs.length) hr
    rw [← e] at h2
    rw [h2]
    simp [madeCells, hj, List.getElem?_eq_getElem hr]
  · rw [List.getElem?_eq_none (by simp [size_madeCells]; omega), List.getElem?_eq_none (by rw [flat_len (k := zs.length) (by simp)]; simpa using hj)]
/-- 'make([]T, n)'. -/
theorem make_rowK {t e : TypeId} {k bytes : Nat} {zs : List Value} (he : ElemK t e k bytes zs) (kl kc : IntKind) (n : Nat) (hb : bytes * n ≤ 281474976710656) (hn : n ≤ 9223372036854775807) (w : World) :
    (Instr.makeSlice t (.int kl (n : Int)) (.int kc (n : Int))).run Tryz.prog w = .ok (.slice (some ⟨w.heap.size, 0, none⟩) n n) (w.alloc (.cells (madeCells zs.toArray (n * k)) e)) := by
  obtain ⟨i, z, ht, hi, hz, hs, hby, hzc, hl⟩ := he
  have hb' : (i.bytes : Int) * (n : Int) ≤ 281474976710656 := by
    have h : ((i.bytes * n : Nat) : Int) ≤ 281474976710656 := by rw [hby]; omega
    rwa [Int.natCast_mul] at h
  have hr := run_make (P := Tryz.prog) w t e i z ht hi hz kl kc n n (by omega) (Int.le_refl _) hb' (by omega)
  simp only [Int.toNat_natCast, hs, hzc] at hr
  exact hr
theorem made_blk {t e : TypeId} {k bytes : Nat} {zs : List Value} (he : ElemK t e k bytes zs) (hk : 0 < k) (w : World) (n : Nat) (t' : TypeId) : Blk (w.alloc (.cells (madeCells zs.toArray (n * k)) t')) w.heap.size (List.replicate n zs).flatten := by
  obtain ⟨i, z, ht, hi, hz, hs, hby, hzc, hl⟩ := he
  refine ⟨by simp, t', ?_⟩
  show (w.heap.push _)[_]? = _
  rw [Array.getElem?_push, if_pos rfl, ← madeCells_flat zs n (by omega), hl]
section
variable {ops : Array Oper} {rest : List Oper} {o : Oper} {a : Act} {Q : Exit → Act → World → Prop} {w : World}
/-- 'append(s, x...)' onto a row of the call's own. -/
theorem wp_appK {t e : TypeId} {k bytes : Nat} {zs : List Value} (he : ElemK t e k bytes zs) (hk : 0 < k) (hgd : Region.wanted o (yielded ops a.tmps) = true) (s x : Operand) (ho : o.op = .call { callee := .builtin .append, args := #[s, x], argTypes := #[t, t] })
    (B n : Nat) (v : Value) (xs : List Value) (hs : a.eval s = v) (hown : w.ownsRow B e k v n xs) (ad : Addr) (m c : Nat) (news : List Value) (hx : a.eval x = .slice (some ad) m c) (hl : news.length = m * k)
    (hnews : ∀ j u, news[j]? = some u → w.cell? (ad.add j) = some u) (h1 : ∀ u ∈ news, u.oneCell' = true) (hm : n + m ≤ 140737488355328) (hn : (n + m) * bytes ≤ 140737488355328) (hB : B ≤ w.heap.size)
    (h : ∀ v' w', w'.ownsRow B e k v' (n + m) (xs ++ news) → w.grownBy w' v.ownBlock → (v' = .slice none 0 0 ↔ v = .slice none 0 0 ∧ m = 0) → wpList Tryz.prog ops Q rest (a.put o.dst v') w') : wpList Tryz.prog ops Q (o :: rest) a w := by
  obtain ⟨i, z, ht, hi, hz, hs1, hb1, hz1, hzl⟩ := he
  refine wpList_wanted hgd fun K hK => ?_
  exact wp_append_own _ s x t ho B e i z k bytes ht hi hz hs1 hb1 (by rw [hz1]; simpa using hzl) hk v n xs hs hown ad m c news hx hl hnews h1 (by unfold maxLen; omega) hn hB (fun v' w' h2 h3 h4 => hK _ _ (h v' w' h2 h3 h4))
/-- 'append(s, x)' of one element. -/
theorem wp_appK1 {t e : TypeId} {k bytes : Nat} {zs : List Value} (he : ElemK t e k bytes zs) (hk : 0 < k) (hgd : Region.wanted o (yielded ops a.tmps) = true) (s x : Operand) (ho : o.op = .call { callee := .builtin .append, args := #[s, x], argTypes := #[t, t] })
    (B n : Nat) (v : Value) (xs : List Value) (hs : a.eval s = v) (hown : w.ownsRow B e k v n xs) (cs : List Value) (hx : a.eval x = .slice (some ⟨w.heap.size, 0, none⟩) 1 1) (hl : cs.length = k) (h1 : ∀ u ∈ cs, u.oneCell' = true)
    (hm : n + 1 ≤ 140737488355328) (hn : (n + 1) * bytes ≤ 140737488355328) (hB : B ≤ w.heap.size)
    (h : ∀ v' w', w'.ownsRow B e k v' (n + 1) (xs ++ cs) → (w.alloc (.cells cs.toArray e)).grownBy w' v.ownBlock → Below B w w' → wpList Tryz.prog ops Q rest (a.put o.dst v') w') : wpList Tryz.prog ops Q (o :: rest) a (w.alloc (.cells cs.toArray e)) :=
  wp_appK he hk hgd s x ho B n v xs hs (hown.alloc _) ⟨w.heap.size, 0, none⟩ 1 1 cs hx (by rw [hl, Nat.one_mul]) (fun j u hu => by
    rw [addr_add, Nat.zero_add]
    exact (Blk.new w cs e).cell j u hu) h1 hm hn (by simp; omega)
    (fun v' w' h2 h3 _ => h v' w' h2 h3 (((Below.refl _ _).alloc hB _).grown h3 (by simp; omega) (fun j hj => (hown.lt j hj).1)))
/-- 'append(s, x)' of one element, at a step of a region that draws its order. -/
theorem step_appK {t e : TypeId} {k bytes : Nat} {zs : List Value} {K : Act → World → Prop} {E : Prop} (he : ElemK t e k bytes zs) (hk : 0 < k) (hgd : o.guard = none) (s x : Operand) (ho : o.op = .call { callee := .builtin .append, args := #[s, x], argTypes := #[t, t] })
    (B n : Nat) (v : Value) (xs : List Value) (hs : a.eval s = v) (hown : w.ownsRow B e k v n xs) (ad : Addr) (c : Nat) (news : List Value) (hx : a.eval x = .slice (some ad) 1 c) (hl : news.length = k)
    (hnews : ∀ j u, news[j]? = some u → w.cell? (ad.add j) = some u) (h1 : ∀ u ∈ news, u.oneCell' = true) (hm : n + 1 ≤ 140737488355328) (hn : (n + 1) * bytes ≤ 140737488355328) (hB : B ≤ w.heap.size)
    (h : ∀ va vc w', w'.ownsRow B e k (.slice va (n + 1) vc) (n + 1) (xs ++ news) → w.grownBy w' v.ownBlock → K (a.put o.dst (.slice va (n + 1) vc)) w') :
    if Region.wanted o (yielded ops a.tmps) = true then Oper.wp Tryz.prog o a w K Q else E := by
  obtain ⟨i, z, ht, hi, hz, hs1, hb1, hz1, hzl⟩ := he
  have hw : Region.wanted o (yielded ops a.tmps) = true := by simp [Region.wanted, hgd]
  rw [if_pos hw]
  refine wp_append_own _ s x t ho B e i z k bytes ht hi hz hs1 hb1 (by rw [hz1]; simpa using hzl) hk v n xs hs hown ad 1 c news hx (by rw [hl, Nat.one_mul]) hnews h1 (by unfold maxLen; omega) hn hB (fun v' w' h2 h3 h4 => ?_)
  obtain ⟨va, vc, rfl⟩ := owns_shape h2
  exact h va vc w' h2 h3
end
end Go.Proofs.YtmbffncmogpkfaaGreatDoor
