
/- Contracts of package tree: order; the search by halves. -/
import Derived.Test.YthbjkkfpahhfiaaArr
import Derived.Test.YthbjkkfpahhfiaaVal4
import Derived.Test.YthbjkkfpahhfiaaVLaw
import Derived.Test.YthbjkkfpahhfiaaOpen2
import Derived.Deep.RegionHeld3
import Derived.BigQuiet
namespace Go.Proofs.Ythbjkkfpahhfiaa
open Go Go.Proofs Go.RowKit
set_option linter.unusedVariables false
set_option linter.unusedSimpArgs false

/-- an entry. -/
structure E6 where
  v : V5
  id : Int
def E6.cells (x : E6) : List Value := [.int .i64 x.v.k, .bool x.v.b, .int .i64 x.v.n, .float .f64 x.v.f, .string ⟨x.v.t.toArray⟩, .int .i64 x.id]
def E6.val (x : E6) : Value := .agg #[.int .i64 x.v.k, .bool x.v.b, .int .i64 x.v.n, .float .f64 x.v.f, .string ⟨x.v.t.toArray⟩, .int .i64 x.id]
def ordE (x y : E6) : Int := if cmpV x.v y.v = 0 then cmpI x.id y.id else cmpV x.v y.v
theorem E6.facts {w : World} {g : Nat} {k : Int} {b : Bool} {n : Int} {f : Nat} {t : List UInt8} {i : Int} (h : Blk w g (⟨⟨k, b, n, f, t⟩, i⟩ : E6).cells) :
    w.cell? ⟨g, 0, none⟩ = some (.int .i64 k) ∧ w.cell? ⟨g, 1, none⟩ = some (.bool b) ∧ w.cell? ⟨g, 2, none⟩ = some (.int .i64 n) ∧ w.cell? ⟨g, 3, none⟩ = some (.float .f64 f) ∧ w.cell? ⟨g, 4, none⟩ = some (.string ⟨t.toArray⟩) ∧ w.cell? ⟨g, 5, none⟩ = some (.int .i64 i) :=
  ⟨h.cell 0 _ rfl, h.cell 1 _ rfl, h.cell 2 _ rfl, h.cell 3 _ rfl, h.cell 4 _ rfl, h.cell 5 _ rfl⟩
theorem E6.factsAt {w : World} {g o : Nat} {k : Int} {b : Bool} {n : Int} {f : Nat} {t : List UInt8} {i : Int} (h : CellsAt w g o (⟨⟨k, b, n, f, t⟩, i⟩ : E6).cells) :
    w.cell? ⟨g, o, none⟩ = some (.int .i64 k) ∧ w.cell? ⟨g, o + 1, none⟩ = some (.bool b) ∧ w.cell? ⟨g, o + 2, none⟩ = some (.int .i64 n) ∧ w.cell? ⟨g, o + 3, none⟩ = some (.float .f64 f) ∧ w.cell? ⟨g, o + 4, none⟩ = some (.string ⟨t.toArray⟩) ∧ w.cell? ⟨g, o + 5, none⟩ = some (.int .i64 i) :=
  ⟨h.at 0 _ rfl, h.at 1 _ rfl, h.at 2 _ rfl, h.at 3 _ rfl, h.at 4 _ rfl, h.at 5 _ rfl⟩
def orI (a b : Int) : Int := if a = 0 then b else a
set_option maxHeartbeats 1000000 in
theorem Or_c (a b : Int) (g : Nat) (w : World) (h : Blk w g [.int .i64 a, .int .i64 b]) : Calls Try.prog 40 #[.slice (some ⟨g, 0, none⟩) 2 2] w fun e w' => e = .returned (.int .i64 (orI a b)) ∧ w = w' := by
  have d0 := h.cell 0 _ rfl
  have d1 := h.cell 1 _ rfl
  have HO : Hid (orI a b = if a = 0 then b else a) := Lib.hid rfl
  clear h
  go_enter Try.func40, Try.ntmps40
  go_wp2_with fail
  go_loopw [8] (fun i wr => ∃ j : Nat, j ≤ 2 ∧ i = .int .i64 (j : Int) ∧ (0 < j → a = 0) ∧ (1 < j → b = 0) ∧ wr = w) (fun i _ => 2 - (intOf i).toNat)
  case atStart => exact ⟨0, by omega, rfl, by omega, by omega, rfl⟩
  case round =>
    obtain ⟨j, hj, rfl, h1, h2, rfl⟩ := hrel
    have H1 := Lib.hid h1
    have H2 := Lib.hid h2
    clear h1 h2
    match j, hj with
    | 0, _ =>
      rw [show ((0 : Nat) : Int) = 0 from rfl]
      by_cases ha : a = 0
      · subst ha
        go_wp2_with fail
        go_roundw
        case rel => exact ⟨1, by omega, by first | rfl | go_num, by simp, by omega, by first | rfl | trivial⟩
        case measure => simp [intOf]
      · have hb : (a != 0) = true := by simpa using ha
        go_wp2_with fail
        go_ret
        exact ⟨by rw [HO.out, if_neg ha]; rfl, by first | rfl | trivial⟩
    | 1, _ =>
      rw [show ((1 : Nat) : Int) = 1 from rfl]
      by_cases hb0 : b = 0
      · subst hb0
        go_wp2_with fail
        go_roundw
        case rel => exact ⟨2, by omega, by first | rfl | go_num, fun _ => H1.out (by omega), by simp, by first | rfl | trivial⟩
        case measure => simp [intOf]
      · have hb : (b != 0) = true := by simpa using hb0
        go_wp2_with fail
        go_ret
        exact ⟨by rw [HO.out, if_pos (H1.out (by omega))]; rfl, by first | rfl | trivial⟩
    | 2, _ =>
      rw [show ((2 : Nat) : Int) = 2 from rfl]
      go_wp2_with fail
      go_ret
      exact ⟨by rw [HO.out, if_pos (H1.out (by omega)), H2.out (by omega)]; rfl, by first | rfl | trivial⟩
theorem Blk.newAtT (w : World) (cs : List Value) (t : TypeId) (g : Nat) (hg : g = w.heap.size) : Blk (w.alloc (.cells cs.toArray t)) g cs := by subst hg; exact Blk.new w cs t
def okF (x : E6) : Prop := x.v.f < W64
set_option maxRecDepth 100000 in
set_option maxHeartbeats 4000000 in
theorem order_cE (x y : E6) (w : World) (hx : okF x) (hy : okF y) : Calls Try.prog 30 #[x.val, y.val] w (Gives w (.int .i64 (ordE x y))) := by
  have HO : Hid (ordE x y = orI (cmpV x.v y.v) (cmpI x.id y.id)) := Lib.hid rfl
  have HC := Lib.hid (fun w => VCmp_c x.v y.v w hx hy)
  have H0 : Hid (Keep w (fun W => Blk W w.heap.size x.cells ∧ Blk W (w.heap.size + 1) y.cells) ((w.alloc (.cells x.cells.toArray 37)).alloc (.cells y.cells.toArray 37))) := by
    have b1 := (Blk.new w x.cells 37).alloc (.cells y.cells.toArray 37)
    have b2 := Blk.newAtT (w.alloc (.cells x.cells.toArray 37)) y.cells 37 (w.heap.size + 1) (by simp)
    exact Lib.hid ⟨⟨b1, b2⟩, ((Below.refl _ w).alloc (Nat.le_refl _) _).alloc (by simp) _, fun w' hb => ⟨b1.below hb, b2.below hb⟩⟩
  have H0 := Lib.hid H0.out.drew
  clear hx hy
  generalize ordE x y = r at *
  generalize cmpV x.v y.v = c at *
  obtain ⟨⟨k, b, n, f, t⟩, i⟩ := x
  obtain ⟨⟨k', b', n', f', t'⟩, i'⟩ := y
  unfold E6.val
  unfold E6.cells at H0
  unfold V5.v at HC
  dsimp only at H0 HC
  go_enter Try.func30, Try.ntmps30
  go_wp2_with fail
  (first | go_region_held3 (fun w' => (w'.cell? ⟨w.heap.size, 0, none⟩ = some (.int .i64 k) ∧ w'.cell? ⟨w.heap.size, 1, none⟩ = some (.bool b) ∧ w'.cell? ⟨w.heap.size, 2, none⟩ = some (.int .i64 n) ∧ w'.cell? ⟨w.heap.size, 3, none⟩ = some (.float .f64 f) ∧ w'.cell? ⟨w.heap.size, 4, none⟩ = some (.string ⟨t.toArray⟩) ∧ w'.cell? ⟨w.heap.size, 5, none⟩ = some (.int .i64 i)) ∧ (w'.cell? ⟨w.heap.size + 1, 0, none⟩ = some (.int .i64 k') ∧ w'.cell? ⟨w.heap.size + 1, 1, none⟩ = some (.bool b') ∧ w'.cell? ⟨w.heap.size + 1, 2, none⟩ = some (.int .i64 n') ∧ w'.cell? ⟨w.heap.size + 1, 3, none⟩ = some (.float .f64 f') ∧ w'.cell? ⟨w.heap.size + 1, 4, none⟩ = some (.string ⟨t'.toArray⟩) ∧ w'.cell? ⟨w.heap.size + 1, 5, none⟩ = some (.int .i64 i')))
    (first | exact ⟨E6.facts H0.out.facts.1, E6.facts H0.out.facts.2⟩ | exact ⟨E6.facts (H0.out.facts.1.alloc _), E6.facts (H0.out.facts.2.alloc _)⟩)
    (first | (go_at_call 41; (with_reducible refine (HC.out _).mono ?_); rintro e wq ⟨rfl, hq⟩; have H0 := Lib.hid (Keep.on H0.out hq); clear hq) | (go_at_call 42; (with_reducible refine (Compare_int _ _ _).mono ?_); rintro e wz ⟨rfl, rfl⟩) | (go_at_call 40; refine (Or_c _ _ _ _ (Blk.newAtT _ [_, _] _ _ rfl)).mono ?_; rintro e wz ⟨rfl, rfl⟩)) | fail)
  go_wp2_with fail
  go_ret
  exact ⟨by rw [HO.out]; rfl, H0.out.below.alloc H0.out.below.size _⟩
/-- the place of the first that does not stand ahead of x; does it stand with x? -/
def lbE (es : List E6) (x : E6) : Nat := (es.takeWhile (fun e => decide (ordE e x < 0))).length
def foundE (es : List E6) (x : E6) : Bool := match es[lbE es x]? with | some e => ordE e x == 0 | none => false
theorem tw_len {α : Type} (p : α → Bool) : ∀ (l : List α) (i : Nat), (∀ k (h : k < l.length), k < i → p l[k] = true) → i ≤ l.length → (∀ h : i < l.length, p l[i] = false) → (l.takeWhile p).length = i
  | [], i, _, hi, _ => by simp at hi; simp [hi]
  | a :: l, 0, _, _, h2 => by
    have := h2 (by simp)
    simp only [List.getElem_cons_zero] at this
    rw [List.takeWhile_cons_of_neg (by simp [this])]; rfl
  | a :: l, i + 1, h1, hi, h2 => by
    have := h1 0 (by simp) (by omega)
    simp only [List.getElem_cons_zero] at this
    rw [List.takeWhile_cons_of_pos this, List.length_cons, tw_len p l i (fun k hk hki => h1 (k + 1) (by simpa using hk) (by omega)) (by simpa using hi) (fun h => h2 (by simpa using h))]
theorem row_e6 {w : World} {a : Option Addr} {n c : Nat} {es : List E6} (h : RowK 6 w (.slice a n c) (es.map E6.cells)) (j : Nat) (hj : j < es.length) :
    ∃ B o, a = some ⟨B, o, none⟩ ∧ B < w.heap.size ∧ CellsAt w B (o + j * 6) es[j].cells := by
  obtain ⟨B, o, h1, h2, h3⟩ := h.cells j (by simpa using hj)
  exact ⟨B, o, h1, h2, by simpa using h3⟩
theorem e6_at {w : World} {B o n c : Nat} {es : List E6} (h : RowK 6 w (.slice (some ⟨B, o, none⟩) n c) (es.map E6.cells)) (j : Nat) (hj : j < es.length) : CellsAt w B (o + j * 6) es[j].cells := by
  obtain ⟨B', o', h1, h2, h3⟩ := row_e6 h j hj
  simp only [Option.some.injEq, Addr.mk.injEq, and_true] at h1
  obtain ⟨rfl, rfl⟩ := h1
  exact h3
set_option maxRecDepth 100000 in
set_option maxHeartbeats 4000000 in
theorem BSearch_c (es : List E6) (x : E6) (sv : Value) (w : World) (hr : RowK 6 w sv (es.map E6.cells)) (hf : ∀ e ∈ es, okF e) (hx : okF x) (hlen : es.length ≤ 1099511627776)
    (mono : ∀ a b (ha : a < es.length) (hb : b < es.length), a ≤ b → ordE es[b] x < 0 → ordE es[a] x < 0) :
    Calls Try.prog 29 #[sv, x.val, .func (Fn.func 30) #[] #[]] w (Gives w (.tuple #[.int .i64 (lbE es x : Int), .bool (foundE es x)])) := by
  obtain ⟨a, c, rfl, hcc⟩ := hr.shape
  rw [List.length_map] at hr hcc ⊢
  have H0 : Hid (Keep w (fun W => RowK 6 W (.slice a es.length c) (es.map E6.cells) ∧ Blk W w.heap.size x.cells) (w.alloc (.cells x.cells.toArray 37))) :=
    Lib.hid ⟨⟨hr.alloc _, Blk.new w _ _⟩, (Below.refl _ w).alloc (Nat.le_refl _) _, fun w' hb => ⟨(hr.alloc _).below hb, (Blk.new w _ _).below hb⟩⟩
  have HC := Lib.hid (fun j (hj : j < es.length) W => order_cE es[j] x W (hf _ (List.getElem_mem hj)) hx)
  have HM := Lib.hid mono
  have HTW := Lib.hid (tw_len (fun e => decide (ordE e x < 0)) es)
  have HLB : Hid (lbE es x = (es.takeWhile (fun e => decide (ordE e x < 0))).length) := Lib.hid rfl
  have HFD : Hid (foundE es x = match es[lbE es x]? with | some e => ordE e x == 0 | none => false) := Lib.hid rfl
  clear hr hf hx mono hcc
  generalize foundE es x = fd at *
  generalize lbE es x = lb at *
  obtain ⟨⟨k, b, n, f, t⟩, ix⟩ := x
  unfold E6.val at HC ⊢
  unfold E6.cells at H0
  dsimp only at H0 HC
  go_enter Try.func29, Try.ntmps29
  go_wp2_with fail
  go_loopw [9, 10] (fun u v wr => ∃ i j : Nat, i ≤ j ∧ j ≤ es.length ∧ u = .int .i64 (i : Int) ∧ v = .int .i64 (j : Int) ∧ (∀ q (h : q < es.length), q < i → ordE es[q] ⟨⟨k, b, n, f, t⟩, ix⟩ < 0) ∧ (∀ q (h : q < es.length), j ≤ q → ¬ ordE es[q] ⟨⟨k, b, n, f, t⟩, ix⟩ < 0) ∧
     Keep w (fun W => RowK 6 W (.slice a es.length c) (es.map E6.cells) ∧ Blk W w.heap.size [.int .i64 k, .bool b, .int .i64 n, .float .f64 f, .string ⟨t.toArray⟩, .int .i64 ix]) wr) (fun u v _ => (intOf v).toNat - (intOf u).toNat)
  case atStart => exact ⟨0, es.length, by omega, by omega, rfl, rfl, fun q h hq => by omega, fun q h hq => by omega, H0.out⟩
  case round =>
    obtain ⟨lo, hi, hij, hj, rfl, rfl, h1, h2, hkp⟩ := hrel
    have H1 := Lib.hid h1
    have H2 := Lib.hid h2
    have HK := Lib.hid hkp
    clear h1 h2
    by_cases hlt : lo < hi
    · have hi1 : (lo : Int) < (hi : Int) := by omega
      clear hkp
      obtain ⟨m, hm, hm1, hm2⟩ : ∃ m : Nat, ((lo : Int) + (hi : Int)) / 2 = (m : Int) ∧ lo ≤ m ∧ m < hi := ⟨(lo + hi) / 2, by omega, by omega, by omega⟩
      have hml : m < es.length := by omega
      obtain ⟨B, o, rfl, hB, hx⟩ := row_e6 HK.out.facts.1 m hml
      have HX := Lib.hid (fun W (h : RowK 6 W (.slice (some ⟨B, o, none⟩) es.length c) (es.map E6.cells)) => e6_at h m hml)
      have HCm := Lib.hid (fun W => HC.out m hml W)
      have HL : Hid (ordE es[m] ⟨⟨k, b, n, f, t⟩, ix⟩ < 0 → ∀ q (h : q < es.length), q < m + 1 → ordE es[q] ⟨⟨k, b, n, f, t⟩, ix⟩ < 0) := Lib.hid (fun h q hq hqm => HM.out q m hq hml (by omega) h)
      have HG : Hid (¬ ordE es[m] ⟨⟨k, b, n, f, t⟩, ix⟩ < 0 → ∀ q (h : q < es.length), m ≤ q → ¬ ordE es[q] ⟨⟨k, b, n, f, t⟩, ix⟩ < 0) := Lib.hid (fun h q hq hqm hlt => h (HM.out m q hml hq hqm hlt))
      generalize ordE es[m] ⟨⟨k, b, n, f, t⟩, ix⟩ = om at *
      generalize es[m] = y at *
      obtain ⟨⟨k', b', n', f', t'⟩, i'⟩ := y
      dsimp only at HCm
      have hmi : (m : Int) < (es.length : Int) := by omega
      have HKd := Lib.hid HK.out.drew
      clear hx
      go_wp2_with fail
      clear hm
      (first | go_region_held3 (fun w' => (w'.cell? ⟨B, o + m * 6, none⟩ = some (.int .i64 k') ∧ w'.cell? ⟨B, o + m * 6 + 1, none⟩ = some (.bool b') ∧ w'.cell? ⟨B, o + m * 6 + 2, none⟩ = some (.int .i64 n') ∧ w'.cell? ⟨B, o + m * 6 + 3, none⟩ = some (.float .f64 f') ∧ w'.cell? ⟨B, o + m * 6 + 4, none⟩ = some (.string ⟨t'.toArray⟩) ∧ w'.cell? ⟨B, o + m * 6 + 5, none⟩ = some (.int .i64 i')) ∧ (w'.cell? ⟨w.heap.size, 0, none⟩ = some (.int .i64 k) ∧ w'.cell? ⟨w.heap.size, 1, none⟩ = some (.bool b) ∧ w'.cell? ⟨w.heap.size, 2, none⟩ = some (.int .i64 n) ∧ w'.cell? ⟨w.heap.size, 3, none⟩ = some (.float .f64 f) ∧ w'.cell? ⟨w.heap.size, 4, none⟩ = some (.string ⟨t.toArray⟩) ∧ w'.cell? ⟨w.heap.size, 5, none⟩ = some (.int .i64 ix)))
        (exact ⟨E6.factsAt (HX.out _ HKd.out.facts.1), E6.facts HKd.out.facts.2⟩)
        (first | (go_at_call 30; (with_reducible refine (HCm.out _).mono ?_); rintro e wq ⟨rfl, hq⟩; have HKd := Lib.hid (Keep.on HKd.out hq); clear hq) | fail) | fail)
      by_cases hom : om < 0
      · have HL2 := Lib.hid (HL.out hom)
        clear HL HG
        go_wp2_with fail
        go_roundw
        case rel => exact ⟨m + 1, hi, by omega, by omega, by go_num, rfl, HL2.out, fun q h hq => by have := H2.out q h hq; omega, HKd.out⟩
        case measure => simp [intOf]; omega
      · have HG2 := Lib.hid (HG.out (by omega))
        clear HL HG
        go_wp2_with fail
        go_roundw
        case rel => exact ⟨lo, m, by omega, by omega, rfl, rfl, H1.out, fun q h hq => by have := HG2.out q h hq; omega, HKd.out⟩
        case measure => simp [intOf]; omega
    · obtain rfl : lo = hi := by omega
      have HLV : Hid (lb = lo) := Lib.hid (by
        rw [HLB.out]
        exact HTW.out lo (fun q h hq => decide_eq_true (H1.out q h hq)) hj (fun h => decide_eq_false (H2.out lo h (Nat.le_refl _))))
      by_cases hn : lo < es.length
      · obtain ⟨B, o, rfl, hB, hx⟩ := row_e6 HK.out.facts.1 lo hn
        have HX := Lib.hid (fun W (h : RowK 6 W (.slice (some ⟨B, o, none⟩) es.length c) (es.map E6.cells)) => e6_at h lo hn)
        have HCm := Lib.hid (fun W => HC.out lo hn W)
        have HFV : Hid (fd = (ordE es[lo] ⟨⟨k, b, n, f, t⟩, ix⟩ == 0)) := Lib.hid (by rw [HFD.out, HLV.out, List.getElem?_eq_getElem hn])
        generalize ordE es[lo] ⟨⟨k, b, n, f, t⟩, ix⟩ = om at *
        generalize es[lo] = y at *
        obtain ⟨⟨k', b', n', f', t'⟩, i'⟩ := y
        dsimp only at HCm
        have hmi : (lo : Int) < (es.length : Int) := by omega
        have HKd := Lib.hid HK.out.drew
        clear hx hkp HFD
        go_wp2_with fail
        (first | go_region_held3 (fun w' => (w'.cell? ⟨B, o + lo * 6, none⟩ = some (.int .i64 k') ∧ w'.cell? ⟨B, o + lo * 6 + 1, none⟩ = some (.bool b') ∧ w'.cell? ⟨B, o + lo * 6 + 2, none⟩ = some (.int .i64 n') ∧ w'.cell? ⟨B, o + lo * 6 + 3, none⟩ = some (.float .f64 f') ∧ w'.cell? ⟨B, o + lo * 6 + 4, none⟩ = some (.string ⟨t'.toArray⟩) ∧ w'.cell? ⟨B, o + lo * 6 + 5, none⟩ = some (.int .i64 i')) ∧ (w'.cell? ⟨w.heap.size, 0, none⟩ = some (.int .i64 k) ∧ w'.cell? ⟨w.heap.size, 1, none⟩ = some (.bool b) ∧ w'.cell? ⟨w.heap.size, 2, none⟩ = some (.int .i64 n) ∧ w'.cell? ⟨w.heap.size, 3, none⟩ = some (.float .f64 f) ∧ w'.cell? ⟨w.heap.size, 4, none⟩ = some (.string ⟨t.toArray⟩) ∧ w'.cell? ⟨w.heap.size, 5, none⟩ = some (.int .i64 ix)))
          (exact ⟨E6.factsAt (HX.out _ HKd.out.facts.1), E6.facts HKd.out.facts.2⟩)
          (first | (go_at_call 30; (with_reducible refine (HCm.out _).mono ?_); rintro e wq ⟨rfl, hq⟩; have HKd := Lib.hid (Keep.on HKd.out hq); clear hq) | fail) | fail)
        go_wp2_with fail
        go_ret2
        exact ⟨by rw [HLV.out, HFV.out]; rfl, HKd.out.below⟩
      · have HFV : Hid (fd = false) := Lib.hid (by rw [HFD.out, HLV.out, List.getElem?_eq_none (by omega)])
        have hmi : decide ((lo : Int) < (es.length : Int)) = false := decide_eq_false (by omega)
        clear hkp HFD
        go_wp2_with fail
        go_quiet (fail)
        go_wp2_with fail
        go_ret2
        exact ⟨by rw [HLV.out, HFV.out]; rfl, below_drewN HK.out.below nq⟩
end Go.Proofs.Ythbjkkfpahhfiaa
