
/- Contracts: the methods of tree.Tree: New, Range, All, Len, Depth; a nil Tree's. -/
import Derived.Test.YthbjkkfpahhfiaaTree4
import Derived.Shelf.Small.Bits
import Derived.Shelf.Lay
import Derived.Ground.NamesProg
namespace Go.Proofs.Ythbjkkfpahhfiaa
open Go Go.Proofs Go.Shelf Go.RowKit
set_option linter.unusedVariables false
set_option linter.unusedSimpArgs false

def inE (lo hi : V5) (e : E6) : Bool := decide (0 ≤ cmpV e.v lo) && decide (cmpV e.v hi ≤ 0)
theorem New_c (w : World) : Calls Try.prog 9 #[] w fun e w' => e = .returned (.pointer (some ⟨w.heap.size, 0, none⟩)) ∧ w' = w.alloc (.cells #[.slice none 0 0] 58) := by
  go_enter Try.func9, Try.ntmps9
  go_wp2_with fail
  go_ret
  exact ⟨rfl, rfl⟩
theorem Len_c (B tb : Nat) (es : List E6) (v : Value) (w : World) (hT : TreeAt B tb w v es) : Calls Try.prog 21 #[.pointer (some ⟨tb, 0, none⟩)] w fun e w' => e = .returned (.int .i64 es.length) ∧ w = w' := by
  obtain ⟨va, vc, rfl⟩ := owns_shape hT.2
  have c0 := hT.1.cell 0 _ rfl
  clear hT
  go_enter Try.func21, Try.ntmps21
  go_wp2_with fail
  go_ret
  exact ⟨rfl, by first | rfl | trivial⟩
theorem All_c (B tb : Nat) (es : List E6) (v : Value) (w : World) (hT : TreeAt B tb w v es) (hlen : es.length ≤ 1099511627776) : Calls Try.prog 16 #[.pointer (some ⟨tb, 0, none⟩)] w (NewE w es) := by
  obtain ⟨va, vc, rfl⟩ := owns_shape hT.2
  have c0 := hT.1.cell 0 _ rfl
  have HC := Lib.hid (CloneE_c es _ w hlen hT.2.row)
  clear hT
  go_enter Try.func16, Try.ntmps16
  go_wp2_with (go_at_call 34; (with_reducible refine HC.out.mono ?_); rintro e wq ⟨v', rfl, hown, hb⟩)
  go_ret
  exact ⟨_, rfl, hown, hb⟩
shelf_lay Lays.n125 Nm 125 at Try as Try.l125
theorem bitsLen_c (n : Nat) (w : World) (hn : n < 18446744073709551616) : Calls Try.prog 39 #[.int .u64 (n : Int)] w fun e w' => e = .returned (.int .i64 (Lib.bitLen n)) ∧ w' = w := by
  have h := Any.bits_Len Try.l125 (n : Int) w (by omega) (by omega)
  rw [Int.toNat_natCast] at h
  exact h
theorem Depth_c (B tb : Nat) (es : List E6) (v : Value) (w : World) (hT : TreeAt B tb w v es) (hlen : es.length ≤ 1099511627776) : Calls Try.prog 26 #[.pointer (some ⟨tb, 0, none⟩)] w fun e w' => e = .returned (.int .i64 (Lib.bitLen es.length)) ∧ w = w' := by
  have HL := Lib.hid (Len_c B tb es v w hT)
  have HB := Lib.hid (bitsLen_c es.length w (by omega))
  clear hT
  generalize Lib.bitLen es.length = bl at *
  go_enter Try.func26, Try.ntmps26
  go_wp2_with (first | (go_at_call 21; (with_reducible refine HL.out.mono ?_); rintro e wq ⟨rfl, rfl⟩) | (go_at_call 39; (with_reducible refine HB.out.mono ?_); rintro e wq ⟨rfl, rfl⟩))
  go_ret
  exact ⟨rfl, by first | rfl | trivial⟩
/-- a nil Tree. -/
theorem AddNil_c (x : E6) (w : World) : Calls Try.prog 13 #[.pointer none, x.val] w (Gives w (.bool false)) := by
  obtain ⟨⟨k, b, n, f, t⟩, i⟩ := x
  unfold E6.val
  go_enter Try.func13, Try.ntmps13
  go_wp2_with fail
  go_ret
  exact ⟨rfl, (Below.refl _ w).alloc (Nat.le_refl _) _⟩
theorem DelNil_c (x : E6) (w : World) : Calls Try.prog 24 #[.pointer none, x.val] w (Gives w (.bool false)) := by
  obtain ⟨⟨k, b, n, f, t⟩, i⟩ := x
  unfold E6.val
  go_enter Try.func24, Try.ntmps24
  go_wp2_with fail
  go_ret
  exact ⟨rfl, (Below.refl _ w).alloc (Nat.le_refl _) _⟩
theorem RangeNil_c (x y : V5) (w : World) : Calls Try.prog 17 #[.pointer none, x.v, y.v] w (Gives w (.slice none 0 0)) := by
  obtain ⟨k, b, n, f, t⟩ := x
  obtain ⟨k', b', n', f', t'⟩ := y
  unfold V5.v
  go_enter Try.func17, Try.ntmps17
  go_wp2_with fail
  go_ret
  exact ⟨rfl, ((Below.refl _ w).alloc (Nat.le_refl _) _).alloc (by simp) _⟩
theorem AllNil_c (w : World) : Calls Try.prog 16 #[.pointer none] w (Gives w (.slice none 0 0)) := by
  go_enter Try.func16, Try.ntmps16
  go_wp2_with fail
  go_ret
  exact ⟨rfl, Below.refl _ w⟩
theorem LenNil_c (w : World) : Calls Try.prog 21 #[.pointer none] w fun e w' => e = .returned (.int .i64 0) ∧ w = w' := by
  go_enter Try.func21, Try.ntmps21
  go_wp2_with fail
  go_ret
  exact ⟨rfl, by first | rfl | trivial⟩
theorem DepthNil_c (w : World) : Calls Try.prog 26 #[.pointer none] w fun e w' => e = .returned (.int .i64 0) ∧ w = w' := by
  have HB := Lib.hid (bitsLen_c 0 w (by omega))
  rw [show Lib.bitLen 0 = 0 by decide] at HB
  go_enter Try.func26, Try.ntmps26
  go_wp2_with (first | (go_at_call 21; (with_reducible refine (LenNil_c _).mono ?_); rintro e wq ⟨rfl, rfl⟩) | (go_at_call 39; refine HB.out.mono ?_; rintro e wq ⟨rfl, rfl⟩))
  go_ret
  exact ⟨rfl, by first | rfl | trivial⟩
/-- so many kept. -/
structure FG (w : World) (lo hi : V5) (es : List E6) (j : Nat) (va : Option Addr) (n vc : Nat) (wr : World) : Prop where
  b0 : Blk wr w.heap.size lo.cells
  b1 : Blk wr (w.heap.size + 1) hi.cells
  len : n = ((es.take j).filter (inE lo hi)).length
  own : OwnE (w.heap.size + 2) wr (.slice va n vc) ((es.take j).filter (inE lo hi))
  bel : Below w.heap.size w wr
  sz : w.heap.size + 2 ≤ wr.heap.size
theorem FG.below {w : World} {lo hi : V5} {es : List E6} {j n vc : Nat} {va : Option Addr} {X Y : World} (h : FG w lo hi es j va n vc X) (hb : Below X.heap.size X Y) : FG w lo hi es j va n vc Y :=
  ⟨h.b0.below hb, h.b1.below hb, h.len, owns_below' h.own hb, h.bel.trans (hb.mono h.bel.size), Nat.le_trans h.sz hb.size⟩
theorem FG.own' {w : World} {lo hi : V5} {es : List E6} {j n vc : Nat} {va : Option Addr} {X : World} (h : FG w lo hi es j va n vc X) : X.ownsRow (w.heap.size + 2) 37 6 (.slice va n vc) n (flatE ((es.take j).filter (inE lo hi))) := by
  have h1 := h.own
  unfold OwnE at h1
  rw [← h.len] at h1
  exact h1
theorem FG.skip {w : World} {lo hi : V5} {es : List E6} {j n vc : Nat} {va : Option Addr} {X : World} (hj : j < es.length) (h : FG w lo hi es j va n vc X) (hn : inE lo hi es[j] = false) : FG w lo hi es (j + 1) va n vc X := by
  have e : (es.take (j + 1)).filter (inE lo hi) = (es.take j).filter (inE lo hi) := by
    rw [List.take_succ_eq_append_getElem hj, List.filter_append]; simp [hn]
  exact ⟨h.b0, h.b1, by rw [e]; exact h.len, by rw [e]; exact h.own, h.bel, h.sz⟩
theorem FG.next {w : World} {lo hi : V5} {es : List E6} {j n vc vc' : Nat} {va va' : Option Addr} {X w6 : World} {o : Obj} {row : Option Nat} (hj : j < es.length) (h : FG w lo hi es j va n vc X) (hn : inE lo hi es[j] = true) (hrow : row = (Value.slice va n vc).ownBlock)
    (hown : w6.ownsRow (w.heap.size + 2) 37 6 (.slice va' (n + 1) vc') (n + 1) (flatE ((es.take j).filter (inE lo hi)) ++ es[j].cells)) (hgr : (X.alloc o).grownBy w6 row) : FG w lo hi es (j + 1) va' (n + 1) vc' w6 := by
  have e : (es.take (j + 1)).filter (inE lo hi) = (es.take j).filter (inE lo hi) ++ [es[j]] := by
    rw [List.take_succ_eq_append_getElem hj, List.filter_append]; simp [hn]
  have hlt : ∀ q, row = some q → w.heap.size + 2 ≤ q := fun q hq => by rw [hrow] at hq; exact (h.own.lt q hq).1
  have hl := h.len
  refine ⟨(h.b0.alloc o).grown hgr (fun hh => by have := hlt _ hh; omega), (h.b1.alloc o).grown hgr (fun hh => by have := hlt _ hh; omega), by rw [e, List.length_append]; simp; exact hl, ?_, ?_, by have := hgr.size; have := h.sz; simp at *; omega⟩
  · rw [e]
    show w6.ownsRow _ _ _ _ _ _
    rw [flatE_append, List.length_append, ← hl]
    simpa [flatE] using hown
  · exact (h.bel.alloc (by have := h.sz; omega) o).grown hgr (by have := h.sz; simp; omega) (fun q hq => by have := hlt q hq; omega)
theorem V5.factsB {w : World} {g : Nat} {k : Int} {b : Bool} {n : Int} {f : Nat} {t : List UInt8} (h : Blk w g (⟨k, b, n, f, t⟩ : V5).cells) :
    w.cell? ⟨g, 0, none⟩ = some (.int .i64 k) ∧ w.cell? ⟨g, 1, none⟩ = some (.bool b) ∧ w.cell? ⟨g, 2, none⟩ = some (.int .i64 n) ∧ w.cell? ⟨g, 3, none⟩ = some (.float .f64 f) ∧ w.cell? ⟨g, 4, none⟩ = some (.string ⟨t.toArray⟩) :=
  ⟨h.cell 0 _ rfl, h.cell 1 _ rfl, h.cell 2 _ rfl, h.cell 3 _ rfl, h.cell 4 _ rfl⟩
set_option maxRecDepth 100000 in
set_option maxHeartbeats 4000000 in
theorem Range_c (B tb : Nat) (es : List E6) (lo hi : V5) (v : Value) (w : World) (hT : TreeAt B tb w v es) (hlen : es.length ≤ 1099511627776) (hf : ∀ e ∈ es, okF e) (hlo : lo.f < W64) (hhi : hi.f < W64) :
    Calls Try.prog 17 #[.pointer (some ⟨tb, 0, none⟩), lo.v, hi.v] w (NewE w (es.filter (inE lo hi))) := by
  obtain ⟨va0, vc0, rfl⟩ := owns_shape hT.2
  have HR := Lib.hid hT.2.row
  have c0 := ((hT.1.alloc (.cells lo.cells.toArray 32)).alloc (.cells hi.cells.toArray 32)).cell 0 _ rfl
  have HI := Lib.hid (fun j (hj : j < es.length) W => VIn_c es[j].v lo hi W (hf _ (List.getElem_mem hj)) hlo hhi)
  have HSt : Hid (FG w lo hi es 0 none 0 0 ((w.alloc (.cells lo.cells.toArray 32)).alloc (.cells hi.cells.toArray 32))) :=
    Lib.hid ⟨(Blk.new w lo.cells _).alloc _, Blk.newAtT _ hi.cells _ _ (by simp), rfl, ⟨rfl, .inl ⟨rfl, rfl⟩⟩, ((Below.refl _ w).alloc (Nat.le_refl _) _).alloc (by simp) _, by simp⟩
  clear hT hf hlo hhi
  have HFX := Lib.hid (fun j va n vc X (hj : j < es.length) => FG.skip (w := w) (lo := lo) (hi := hi) (es := es) (j := j) (va := va) (n := n) (vc := vc) (X := X) hj)
  have HNX := Lib.hid (fun j va n vc va' vc' X w6 (hj : j < es.length) h hn h1 (h2 : (X.alloc (.cells es[j].cells.toArray 37)).grownBy w6 (Value.slice va n vc).ownBlock) => FG.next (o := .cells es[j].cells.toArray 37) (w := w) (lo := lo) (hi := hi) (es := es) (j := j) (va := va) (n := n) (vc := vc) (va' := va') (vc' := vc') (X := X) (w6 := w6) hj h hn rfl h1 h2)
  have HIN : Hid (∀ j (hj : j < es.length), inE lo hi es[j] = (decide (0 ≤ cmpV es[j].v lo) && decide (cmpV es[j].v hi ≤ 0))) := Lib.hid (fun _ _ => rfl)
  have HBX : Hid (∀ j va n vc X, FG w lo hi es j va n vc X → Blk X w.heap.size lo.cells ∧ Blk X (w.heap.size + 1) hi.cells) := Lib.hid (fun j va n vc X h => ⟨h.b0, h.b1⟩)
  have HFF : Hid (∀ va n vc X, FG w lo hi es es.length va n vc X → NewE w (es.filter (inE lo hi)) (.returned (.slice va n vc)) X) := Lib.hid (fun va n vc X h => by
    refine ⟨_, rfl, ?_, h.bel⟩
    have := h.own
    rw [List.take_of_length_le (Nat.le_refl _)] at this
    exact ownsRow_mono this (by omega))
  obtain ⟨k, b, n, f, t⟩ := lo
  obtain ⟨k', b', n', f', t'⟩ := hi
  unfold V5.v at HI ⊢
  unfold V5.cells at HSt c0
  dsimp only at HI HSt c0
  go_enter Try.func17, Try.ntmps17
  go_wp2_with fail
  clear c0
  go_loopw [7, 17] (fun u i wr => ∃ j : Nat, j ≤ es.length ∧ i = .int .i64 (j : Int) ∧ ∃ va m vc, u = .slice va m vc ∧ FG w ⟨k, b, n, f, t⟩ ⟨k', b', n', f', t'⟩ es j va m vc wr) (fun _ i _ => es.length - (intOf i).toNat)
  case atStart => exact ⟨0, by omega, rfl, none, 0, 0, rfl, HSt.out⟩
  case round =>
    clear HSt
    obtain ⟨j, hj, rfl, va, m, vc, rfl, hF⟩ := hrel
    by_cases hlt : j < es.length
    · obtain ⟨B1, o1, rfl, hB1, hx⟩ := row_e6 (HR.out.below hF.bel) j hlt
      have HCj := Lib.hid (fun W => HI.out j hlt W)
      have HS := Lib.hid (fun X => HFX.out j va m vc X hlt)
      have HN := Lib.hid (fun va' vc' X w6 => HNX.out j va m vc va' vc' X w6 hlt)
      have HQ := Lib.hid (HIN.out j hlt)
      have hml : m ≤ 1099511627776 := by
        have h1 := hF.len
        have h2 := List.length_filter_le (inE ⟨k, b, n, f, t⟩ ⟨k', b', n', f', t'⟩) (es.take j)
        have h3 := List.length_take_le j es
        omega
      have H1 : Hid (Keep w (fun X => FG w ⟨k, b, n, f, t⟩ ⟨k', b', n', f', t'⟩ es j va m vc X ∧ Blk X wr.heap.size es[j].cells) (wr.alloc (.cells es[j].cells.toArray 37))) := Lib.hid (by
        have h1 := hF.below ((Below.refl _ wr).alloc (Nat.le_refl _) (.cells es[j].cells.toArray 37))
        have h2 := Blk.new wr es[j].cells 37
        exact ⟨⟨h1, h2⟩, h1.bel, fun X hb => ⟨h1.below hb, h2.below hb⟩⟩)
      generalize inE ⟨k, b, n, f, t⟩ ⟨k', b', n', f', t'⟩ es[j] = ib at *
      rw [← HQ.out] at HCj
      clear HQ
      generalize es[j] = y at *
      obtain ⟨⟨k2, b2, n2, f2, t2⟩, i2⟩ := y
      have hk := E6.factsAt hx
      have hi1 : (j : Int) < (es.length : Int) := by omega
      have c1 := fun o => V5.factsB ((hF.b0).alloc o)
      have c2 := fun o => V5.factsB ((hF.b1).alloc o)
      clear hx hF
      unfold E6.cells at H1 HN
      dsimp only at H1 HCj HN
      cases ib
      · go_wp2_with (first | (go_at_call 35; (with_reducible refine (HCj.out _).mono ?_); rintro e wq ⟨rfl, hq⟩; have HT := Lib.hid (Keep.on H1.out hq); clear hq; have hq2 := E6.facts HT.out.facts.2))
        go_roundw
        case rel => exact ⟨j + 1, by omega, by go_num, va, m, vc, rfl, HS.out _ HT.out.facts.1 (by first | trivial | rfl)⟩
        case measure => simp [intOf]; omega
      · go_wp2_with (first | (go_at_call 35; (with_reducible refine (HCj.out _).mono ?_); rintro e wq ⟨rfl, hq⟩; have HT := Lib.hid (Keep.on H1.out hq); clear hq; have hq2 := E6.facts HT.out.facts.2) | (at_builtin; refine wp_appK1 elemE (by decide) rfl _ _ rfl (w.heap.size + 2) m _ _ rfl HT.out.facts.1.own' [.int .i64 k2, .bool b2, .int .i64 n2, .float .f64 f2, .string ⟨t2.toArray⟩, .int .i64 i2] rfl rfl (E6.one ⟨⟨k2, b2, n2, f2, t2⟩, i2⟩) ?_ ?_ ?_ ?_))
        · omega
        · omega
        · exact HT.out.facts.1.sz
        intro v' w6 hown6 hgr hb6
        obtain ⟨va', vc', rfl⟩ := owns_shape hown6
        have HNN := Lib.hid (HN.out va' vc' _ w6 HT.out.facts.1 (by first | trivial | rfl) hown6 hgr)
        clear hown6 hgr hb6
        go_wp2_with fail
        go_roundw
        case rel => exact ⟨j + 1, by omega, by go_num, va', m + 1, vc', rfl, HNN.out⟩
        case measure => simp [intOf]; omega
    · obtain rfl : j = es.length := by omega
      have HE := Lib.hid (HFF.out _ _ _ _ hF)
      clear hF
      go_wp2_with fail
      go_ret
      exact HE.out
end Go.Proofs.Ythbjkkfpahhfiaa
