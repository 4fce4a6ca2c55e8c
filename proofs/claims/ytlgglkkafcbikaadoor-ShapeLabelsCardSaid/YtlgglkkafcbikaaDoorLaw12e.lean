/- The laws on package shape: ShapeKeys (under way). -/
import Derived.Test.YtlgglkkafcbikaaDoorShape3
import Derived.Test.YtlgglkkafcbikaaDoorOpen2
import Derived.Test.YtlgglkkafcbikaaDoorVal7
import Derived.Test.YtlgglkkafcbikaaDoorVal8
import Derived.Test.YtlgglkkafcbikaaDoorFits
import Derived.Test.YtlgglkkafcbikaaDoorLaw2
import Derived.Deep.RegionHeld3
namespace Go.Proofs.YtlgglkkafcbikaaDoor
open Go Go.Proofs Go.RowKit
set_option linter.unusedVariables false
set_option linter.unusedSimpArgs false

theorem Three.drew {w0 w : World} {x y z : V5} (h : Three w0 w x y z) : Three w0 w.drew x y z := h.below (Below.refl _ w).drew
theorem Three.all {w0 w : World} {x y z : V5} (h : Three w0 w x y z) : w.cell? ⟨w0.heap.size, 0, none⟩ = some (.int .i64 x.k) ∧ w.cell? ⟨w0.heap.size, 1, none⟩ = some (.bool x.b) ∧ w.cell? ⟨w0.heap.size, 2, none⟩ = some (.int .i64 x.n) ∧ w.cell? ⟨w0.heap.size, 3, none⟩ = some (.float .f64 x.f) ∧ w.cell? ⟨w0.heap.size, 4, none⟩ = some (.string ⟨x.t.toArray⟩) ∧
    w.cell? ⟨w0.heap.size + 1, 0, none⟩ = some (.int .i64 y.k) ∧ w.cell? ⟨w0.heap.size + 1, 1, none⟩ = some (.bool y.b) ∧ w.cell? ⟨w0.heap.size + 1, 2, none⟩ = some (.int .i64 y.n) ∧ w.cell? ⟨w0.heap.size + 1, 3, none⟩ = some (.float .f64 y.f) ∧ w.cell? ⟨w0.heap.size + 1, 4, none⟩ = some (.string ⟨y.t.toArray⟩) ∧
    w.cell? ⟨w0.heap.size + 1 + 1, 0, none⟩ = some (.int .i64 z.k) ∧ w.cell? ⟨w0.heap.size + 1 + 1, 1, none⟩ = some (.bool z.b) ∧ w.cell? ⟨w0.heap.size + 1 + 1, 2, none⟩ = some (.int .i64 z.n) ∧ w.cell? ⟨w0.heap.size + 1 + 1, 3, none⟩ = some (.float .f64 z.f) ∧ w.cell? ⟨w0.heap.size + 1 + 1, 4, none⟩ = some (.string ⟨z.t.toArray⟩) := by
  obtain ⟨a0, a1, a2, a3, a4⟩ := h.1.cells
  obtain ⟨b0, b1, b2, b3, b4⟩ := h.2.1.cells
  obtain ⟨c0, c1, c2, c3, c4⟩ := h.2.2.1.cells
  exact ⟨a0, a1, a2, a3, a4, b0, b1, b2, b3, b4, c0, c1, c2, c3, c4⟩
theorem okV.fl {x : V5} (h : okV x) : x.f < W64 := h.2.2.1
theorem row_blk {W : World} {g : Nat} {p : PN} (h : Blk W g p.cells) : RowK 12 W (.slice (some ⟨g, 0, none⟩) 1 1) ([p].map PN.cells) := by
  refine ⟨by simp; decide, by simp [PN.cells], .inr ⟨_, 1, rfl, by simp, fun i hi => ?_⟩⟩
  obtain rfl : i = 0 := by simpa using hi
  refine ⟨g, 0, rfl, h.1, fun j hj => ?_⟩
  simp only [Nat.zero_mul, Nat.zero_add, List.map_cons, List.map_nil, List.getElem_cons_zero] at hj ⊢
  exact h.cell j _ (List.getElem?_eq_getElem hj)
theorem blk_box {w : World} {g : Nat} {x : V5} (h : Box w g x) : Blk w g x.cells := ⟨h.1, _, h.2⟩
/-- what is held: three boxed values, a row of one node, a pattern's box. -/
def FK (w : World) (g : Nat) (lo hi v : V5) (pn : PN) (W : World) : Prop := (Blk W w.heap.size lo.cells ∧ Blk W (w.heap.size + 1) hi.cells ∧ Blk W (w.heap.size + 1 + 1) v.cells) ∧ Blk W g pn.cells ∧ Blk W (g + 1) [.slice (some ⟨g, 0, none⟩) 1 1, .slice none 0 0]
theorem FK.below {w : World} {g : Nat} {lo hi v : V5} {pn : PN} {X Y : World} (h : FK w g lo hi v pn X) (hb : Below X.heap.size X Y) : FK w g lo hi v pn Y :=
  ⟨⟨h.1.1.below hb, h.1.2.1.below hb, h.1.2.2.below hb⟩, h.2.1.below hb, h.2.2.below hb⟩
theorem keys_pat (lo hi : V5) (h1 : isV lo = true) (h2 : isV hi = true) : patB [⟨[], [], lo, hi⟩] [] = (lo.k == 0 && hi.k == 0) := by
  simp [patB, okPN, optB, h1, h2]
theorem keys_pat2 (lo hi : V5) (h1 : isV lo = true) (h2 : isV hi = true) : patB [⟨[], [0x78], lo, hi⟩] [] = true := by
  have : nameB [0x78] = true := by decide
  simp [patB, okPN, optB, h1, h2, this]
theorem keys_new {w wq : World} {lo hi v : V5} (h : Three w wq lo hi v) (pn : PN) :
    Keep w (FK w wq.heap.size lo hi v pn) ((wq.alloc (.cells pn.cells.toArray 48)).alloc (.cells #[.slice (some ⟨wq.heap.size, 0, none⟩) 1 1, .slice none 0 0] 25)) := by
  have b2 : Blk ((wq.alloc (.cells pn.cells.toArray 48)).alloc (.cells #[.slice (some ⟨wq.heap.size, 0, none⟩) 1 1, .slice none 0 0] 25)) (wq.heap.size + 1) [.slice (some ⟨wq.heap.size, 0, none⟩) 1 1, .slice none 0 0] := by
    have := Blk.new (wq.alloc (.cells pn.cells.toArray 48)) [.slice (some ⟨wq.heap.size, 0, none⟩) 1 1, .slice none 0 0] 25
    simpa using this
  have hF : FK w wq.heap.size lo hi v pn ((wq.alloc (.cells pn.cells.toArray 48)).alloc (.cells #[.slice (some ⟨wq.heap.size, 0, none⟩) 1 1, .slice none 0 0] 25)) :=
    ⟨⟨((blk_box h.1).alloc _).alloc _, ((blk_box h.2.1).alloc _).alloc _, ((blk_box h.2.2.1).alloc _).alloc _⟩, (Blk.new wq pn.cells _).alloc _, b2⟩
  exact ⟨hF, (h.2.2.2.alloc h.2.2.2.size _).alloc (by have := h.2.2.2.size; simp; omega) _, fun y hb => hF.below hb⟩
/-- the key is laid into the row's node. -/
theorem keys_set {w W : World} {g : Nat} {lo hi v : V5} {l key : List UInt8} {a b : V5} (h : Keep w (FK w g lo hi v ⟨l, key, a, b⟩) W) (hg : w.heap.size + 3 ≤ g) (k : List UInt8) :
    Keep w (FK w g lo hi v ⟨l, k, a, b⟩) (W.setCell ⟨g, 1, none⟩ (.string ⟨k.toArray⟩)) := by
  have other : ∀ (q : Nat) (cs : List Value), q ≠ g → Blk W q cs → Blk (W.setCell ⟨g, 1, none⟩ (.string ⟨k.toArray⟩)) q cs := fun q cs hq hb => by
    obtain ⟨h1, t, h2⟩ := hb
    refine ⟨by simpa [World.setCell] using h1, t, ?_⟩
    rw [← h2]
    exact Below.heap_setCell W ⟨g, 1, none⟩ _ q hq
  have hF : FK w g lo hi v ⟨l, k, a, b⟩ (W.setCell ⟨g, 1, none⟩ (.string ⟨k.toArray⟩)) :=
    ⟨⟨other _ _ (by omega) h.facts.1.1, other _ _ (by omega) h.facts.1.2.1, other _ _ (by omega) h.facts.1.2.2⟩, h.facts.2.1.set 1 _, other _ _ (by omega) h.facts.2.2⟩
  exact ⟨hF, h.below.setCell (by show w.heap.size ≤ g; omega) _, fun y hb => hF.below hb⟩
theorem V5.facts {w : World} {g : Nat} {k : Int} {b : Bool} {n : Int} {f : Nat} {t : List UInt8} (h : Blk w g (⟨k, b, n, f, t⟩ : V5).cells) :
    w.cell? ⟨g, 0, none⟩ = some (.int .i64 k) ∧ w.cell? ⟨g, 1, none⟩ = some (.bool b) ∧ w.cell? ⟨g, 2, none⟩ = some (.int .i64 n) ∧ w.cell? ⟨g, 3, none⟩ = some (.float .f64 f) ∧ w.cell? ⟨g, 4, none⟩ = some (.string ⟨t.toArray⟩) :=
  ⟨h.cell 0 _ rfl, h.cell 1 _ rfl, h.cell 2 _ rfl, h.cell 3 _ rfl, h.cell 4 _ rfl⟩
theorem row_pr1 {W : World} {g : Nat} {p : PR} (h : Blk W g p.cells) : RowK 6 W (.slice (some ⟨g, 0, none⟩) 1 1) ([p].map PR.cells) := by
  refine ⟨by simp; decide, by simp [PR.cells], .inr ⟨_, 1, rfl, by simp, fun i hi => ?_⟩⟩
  obtain rfl : i = 0 := by simpa using hi
  refine ⟨g, 0, rfl, h.1, fun j hj => ?_⟩
  simp only [Nat.zero_mul, Nat.zero_add, List.map_cons, List.map_nil, List.getElem_cons_zero] at hj ⊢
  exact h.cell j _ (List.getElem?_eq_getElem hj)
theorem Blk.newAt3 (w : World) (cs : List Value) (t : TypeId) (g : Nat) (hg : g = w.heap.size) : Blk (w.alloc (.cells cs.toArray t)) g cs := by subst hg; exact Blk.new w cs t
theorem keys_four {w W : World} {F : World → Prop} (h : Keep w F W) (A B C D : List Value) (tA tB tC tD : TypeId) (z : Nat) (hz : z = W.heap.size) :
    Keep w (fun X => F X ∧ (Blk X z A ∧ Blk X (z + 1) B) ∧ Blk X (z + 1 + 1) C ∧ Blk X (z + 1 + 1 + 1) D) ((((W.alloc (.cells A.toArray tA)).alloc (.cells B.toArray tB)).alloc (.cells C.toArray tC)).alloc (.cells D.toArray tD)) := by
  subst hz
  have h4 := (((h.alloc (.cells A.toArray tA)).alloc (.cells B.toArray tB)).alloc (.cells C.toArray tC)).alloc (.cells D.toArray tD)
  have b1 := (((Blk.new W A tA).alloc (.cells B.toArray tB)).alloc (.cells C.toArray tC)).alloc (.cells D.toArray tD)
  have b2 := ((Blk.newAt3 (W.alloc (.cells A.toArray tA)) B tB (W.heap.size + 1) (by simp)).alloc (.cells C.toArray tC)).alloc (.cells D.toArray tD)
  have b3 := (Blk.newAt3 ((W.alloc (.cells A.toArray tA)).alloc (.cells B.toArray tB)) C tC (W.heap.size + 1 + 1) (by simp)).alloc (.cells D.toArray tD)
  have b4 := Blk.newAt3 (((W.alloc (.cells A.toArray tA)).alloc (.cells B.toArray tB)).alloc (.cells C.toArray tC)) D tD (W.heap.size + 1 + 1 + 1) (by simp)
  exact ⟨⟨h4.facts, ⟨b1, b2⟩, b3, b4⟩, h4.below, fun w' hb => ⟨h4.stable w' hb, ⟨b1.below hb, b2.below hb⟩, b3.below hb, b4.below hb⟩⟩
theorem keys_fit1 (lo hi v : V5) : fitsB ⟨[], [120], lo, hi⟩ [] [⟨[120], v⟩] = inB v lo hi := by simp [fitsB, getP]
theorem keys_fit2 (lo hi v : V5) : fitsB ⟨[], [120], lo, hi⟩ [] [⟨[121], v⟩] = false := by simp [fitsB, getP]
theorem keys_fit3 (lo hi : V5) : fitsB ⟨[], [120], lo, hi⟩ [] [] = false := by simp [fitsB, getP]
set_option maxRecDepth 100000 in
set_option maxHeartbeats 8000000 in
theorem ShapeKeys_core (a0 : V5) (a1 : V5) (a2 : V5) (w : World) (o0 : okV a0) (o1 : okV a1) (o2 : okV a2) :
    Calls Tryd.prog 8 #[a0.v, a1.v, a2.v] w fun e w' => e = .returned (.bool true) ∧ Below w.heap.size w w' := by
  have m9 : maxLen = 9223372036854775807 := by decide
  have I0 := Lib.hid (fun w => XIs_c a0 w (by have := o0.2.2.2; rw [m9] at this; exact this))
  have I1 := Lib.hid (fun w => XIs_c a1 w (by have := o1.2.2.2; rw [m9] at this; exact this))
  have I2 := Lib.hid (fun w => XIs_c a2 w (by have := o2.2.2.2; rw [m9] at this; exact this))
  have HA := Lib.hid (boxes3 w a0 a1 a2)
  have HQ1 : Hid (isV a0 = true → isV a1 = true → ∀ g W, FK w g a0 a1 a2 ⟨[], [120], a0, a1⟩ W → Calls Tryd.prog 11 #[.agg #[.slice (some ⟨g, 0, none⟩) 1 1, .slice none 0 0]] W (Gives W (.bool true))) := Lib.hid (fun h1 h2 g W h => by
    have := PIs_c [⟨[], [120], a0, a1⟩] [] _ _ W (row_blk h.2.1) (RowK.nil 4 W) (by intro p hp; simp at hp; subst hp; exact ⟨by simp, by simp⟩) (by simp)
    rw [keys_pat2 a0 a1 h1 h2] at this; exact this)
  have HI2 := Lib.hid (fun W => XIn_c a2 a0 a1 W o2.fl o0.fl o1.fl)
  have HFa : Hid (∀ q W, Blk W q (⟨[120], a2⟩ : PR).cells → Calls Tryd.prog 18 #[(⟨[], [120], a0, a1⟩ : PN).v, .agg #[.slice none 0 0, .slice (some ⟨q, 0, none⟩) 1 1]] W (Gives W (.bool (inB a2 a0 a1)))) := Lib.hid (fun q W h => by
    have := Fits_c ⟨[], [120], a0, a1⟩ [] [⟨[120], a2⟩] _ _ W (RowAt.nil W) (row_pr1 h) (by intro p hp; simp at hp; subst hp; exact o2.fl) o0.fl o1.fl
    rw [keys_fit1] at this; exact this)
  have HFb : Hid (∀ q W, Blk W q (⟨[121], a2⟩ : PR).cells → Calls Tryd.prog 18 #[(⟨[], [120], a0, a1⟩ : PN).v, .agg #[.slice none 0 0, .slice (some ⟨q, 0, none⟩) 1 1]] W (Gives W (.bool false))) := Lib.hid (fun q W h => by
    have := Fits_c ⟨[], [120], a0, a1⟩ [] [⟨[121], a2⟩] _ _ W (RowAt.nil W) (row_pr1 h) (by intro p hp; simp at hp; subst hp; exact o2.fl) o0.fl o1.fl
    rw [keys_fit2] at this; exact this)
  have HFc : Hid (∀ W, Calls Tryd.prog 18 #[(⟨[], [120], a0, a1⟩ : PN).v, .agg #[.slice none 0 0, .slice none 0 0]] W (Gives W (.bool false))) := Lib.hid (fun W => by
    have := Fits_c ⟨[], [120], a0, a1⟩ [] [] _ _ W (RowAt.nil W) (RowK.nil 6 W) (by simp) o0.fl o1.fl
    rw [keys_fit3] at this; exact this)
  have HP1 : Hid (isV a0 = true → isV a1 = true → ∀ g W, FK w g a0 a1 a2 ⟨[], [], a0, a1⟩ W → Calls Tryd.prog 11 #[.agg #[.slice (some ⟨g, 0, none⟩) 1 1, .slice none 0 0]] W (Gives W (.bool (a0.k == 0 && a1.k == 0)))) := Lib.hid (fun h1 h2 g W h => by
    have := PIs_c [⟨[], [], a0, a1⟩] [] _ _ W (row_blk h.2.1) (RowK.nil 4 W) (by intro p hp; simp at hp; subst hp; exact ⟨by simp, by simp⟩) (by simp)
    rw [keys_pat a0 a1 h1 h2] at this; exact this)
  clear o0 o1 o2 m9
  change Hid (∀ W, Calls Tryd.prog 22 #[a2.v, a0.v, a1.v] W (Gives W (.bool (inB a2 a0 a1)))) at HI2
  generalize inB a2 a0 a1 = ib at *
  generalize isV a0 = i0 at *
  generalize isV a1 = i1 at *
  generalize isV a2 = i2 at *
  obtain ⟨k, b, n, f, t⟩ := a0
  obtain ⟨k', b', n', f', t'⟩ := a1
  obtain ⟨k2, b2, n2, f2, t2⟩ := a2
  unfold V5.v at *
  cases i0
  case false =>
    go_enter Tryd.func8, Tryd.ntmps8
    go_wp2_with (first | (go_at_call 21; (with_reducible refine (I0.out _).mono ?_); rintro e wq ⟨rfl, hq⟩; have HT := Lib.hid (Three.below (Hid.out (by assumption)) hq); clear hq; have hk := HT.out.all; dsimp only at hk) | (go_at_call 21; (with_reducible refine (I1.out _).mono ?_); rintro e wq ⟨rfl, hq⟩; have HT := Lib.hid (Three.below (Hid.out (by assumption)) hq); clear hq; have hk := HT.out.all; dsimp only at hk) | (go_at_call 21; (with_reducible refine (I2.out _).mono ?_); rintro e wq ⟨rfl, hq⟩; have HT := Lib.hid (Three.below (Hid.out (by assumption)) hq); clear hq; have hk := HT.out.all; dsimp only at hk))
    go_ret
    exact ⟨rfl, HT.out.2.2.2⟩
  cases i1
  case false =>
    go_enter Tryd.func8, Tryd.ntmps8
    go_wp2_with (first | (go_at_call 21; (with_reducible refine (I0.out _).mono ?_); rintro e wq ⟨rfl, hq⟩; have HT := Lib.hid (Three.below (Hid.out (by assumption)) hq); clear hq; have hk := HT.out.all; dsimp only at hk) | (go_at_call 21; (with_reducible refine (I1.out _).mono ?_); rintro e wq ⟨rfl, hq⟩; have HT := Lib.hid (Three.below (Hid.out (by assumption)) hq); clear hq; have hk := HT.out.all; dsimp only at hk) | (go_at_call 21; (with_reducible refine (I2.out _).mono ?_); rintro e wq ⟨rfl, hq⟩; have HT := Lib.hid (Three.below (Hid.out (by assumption)) hq); clear hq; have hk := HT.out.all; dsimp only at hk))
    go_ret
    exact ⟨rfl, HT.out.2.2.2⟩
  cases i2
  case false =>
    go_enter Tryd.func8, Tryd.ntmps8
    go_wp2_with (first | (go_at_call 21; (with_reducible refine (I0.out _).mono ?_); rintro e wq ⟨rfl, hq⟩; have HT := Lib.hid (Three.below (Hid.out (by assumption)) hq); clear hq; have hk := HT.out.all; dsimp only at hk) | (go_at_call 21; (with_reducible refine (I1.out _).mono ?_); rintro e wq ⟨rfl, hq⟩; have HT := Lib.hid (Three.below (Hid.out (by assumption)) hq); clear hq; have hk := HT.out.all; dsimp only at hk) | (go_at_call 21; (with_reducible refine (I2.out _).mono ?_); rintro e wq ⟨rfl, hq⟩; have HT := Lib.hid (Three.below (Hid.out (by assumption)) hq); clear hq; have hk := HT.out.all; dsimp only at hk))
    go_ret
    exact ⟨rfl, HT.out.2.2.2⟩
  by_cases hk2 : k2 = 0
  · subst hk2
    go_enter Tryd.func8, Tryd.ntmps8
    go_wp2_with (first | (go_at_call 21; (with_reducible refine (I0.out _).mono ?_); rintro e wq ⟨rfl, hq⟩; have HT := Lib.hid (Three.below (Hid.out (by assumption)) hq); clear hq; have hk := HT.out.all; dsimp only at hk) | (go_at_call 21; (with_reducible refine (I1.out _).mono ?_); rintro e wq ⟨rfl, hq⟩; have HT := Lib.hid (Three.below (Hid.out (by assumption)) hq); clear hq; have hk := HT.out.all; dsimp only at hk) | (go_at_call 21; (with_reducible refine (I2.out _).mono ?_); rintro e wq ⟨rfl, hq⟩; have HT := Lib.hid (Three.below (Hid.out (by assumption)) hq); clear hq; have hk := HT.out.all; dsimp only at hk))
    go_ret
    exact ⟨rfl, HT.out.2.2.2⟩
  have qk2 : (k2 == 0) = false := by simpa using hk2
  clear hk2
  have HP2 := Lib.hid (HP1.out (by first | rfl | trivial) (by first | rfl | trivial))
  dsimp only at HP2
  have HQ2 := Lib.hid (HQ1.out (by first | rfl | trivial) (by first | rfl | trivial))
  unfold PN.v at HFa HFb HFc
  unfold PR.cells at HFa HFb
  dsimp only at HFa HFb HFc
  have hib : (ib == ib) = true := by simp
  clear HQ1
  clear HP1
  cases q0 : (k == 0) <;> cases q1 : (k' == 0)
  all_goals
    rw [q0, q1] at HP2
    go_enter Tryd.func8, Tryd.ntmps8
    go_wp2_with (first | (go_at_call 21; (with_reducible refine (I0.out _).mono ?_); rintro e wq ⟨rfl, hq⟩; have HT := Lib.hid (Three.below (Hid.out (by assumption)) hq); clear hq; have hk := HT.out.all; dsimp only at hk) | (go_at_call 21; (with_reducible refine (I1.out _).mono ?_); rintro e wq ⟨rfl, hq⟩; have HT := Lib.hid (Three.below (Hid.out (by assumption)) hq); clear hq; have hk := HT.out.all; dsimp only at hk) | (go_at_call 21; (with_reducible refine (I2.out _).mono ?_); rintro e wq ⟨rfl, hq⟩; have HT := Lib.hid (Three.below (Hid.out (by assumption)) hq); clear hq; have hk := HT.out.all; dsimp only at hk))
    have H1 := Lib.hid (keys_new HT.out ⟨[], [], ⟨k, b, n, f, t⟩, ⟨k', b', n', f', t'⟩⟩).drew
    unfold PN.cells at H1
    dsimp only at H1
    refine wp_region_held_drew (S := (fun w' => (w'.cell? ⟨wq.heap.size + 1, 0, none⟩ = some (.slice (some ⟨wq.heap.size, 0, none⟩) 1 1) ∧ w'.cell? ⟨wq.heap.size + 1, 1, none⟩ = some (.slice none 0 0)) ∧ w'.cell? ⟨w.heap.size, 0, none⟩ = some (.int .i64 k) ∧ w'.cell? ⟨w.heap.size + 1, 0, none⟩ = some (.int .i64 k'))) (by kernel_rfl) ?_ (fun hHeld => ?_)
    · (exact ⟨⟨H1.out.facts.2.2.cell 0 _ rfl, H1.out.facts.2.2.cell 1 _ rfl⟩, H1.out.facts.1.1.cell 0 _ rfl, H1.out.facts.1.2.1.cell 0 _ rfl⟩)
    (refine wpAnyH_take (i := 0) (oi := { dst := some 33, op := Op.load 25 (Operand.tmp 7), type := 25, pos := "more.go:15", after := #[], guard := none }) (v := ?_) rfl (by kernel_rfl) (by kernel_rfl) (by kernel_rfl) (fun _ _ _ h => h) (Or.inl ⟨by rfl, ?_⟩) (by assumption) ?_; rotate_left; next => (intro w hSw; (try dsimp only at hSw); go_simp; try with_reducible rfl))
    (try simp only [Act.put, List.setIfInBounds_toArray, List.set_cons_zero, List.set_cons_succ])
    (refine wpAnyH_take (i := 2) (oi := { dst := some 35, op := Op.fieldAddr 46 (Operand.tmp 3) 0, type := 0, pos := "more.go:15", after := #[], guard := none }) (v := ?_) rfl (by kernel_rfl) (by kernel_rfl) (by kernel_rfl) (fun _ _ _ h => h) (Or.inl ⟨by rfl, ?_⟩) (by assumption) ?_; rotate_left; next => (intro w hSw; (try dsimp only at hSw); go_simp; try with_reducible rfl))
    (try simp only [Act.put, List.setIfInBounds_toArray, List.set_cons_zero, List.set_cons_succ])
    (refine wpAnyH_take (i := 3) (oi := { dst := some 36, op := Op.load 3 (Operand.tmp 35), type := 3, pos := "more.go:15", after := #[{ on := 2, ground := Ground.data }], guard := none }) (v := ?_) rfl (by kernel_rfl) (by kernel_rfl) (by kernel_rfl) (fun _ _ _ h => h) (Or.inl ⟨by rfl, ?_⟩) (by assumption) ?_; rotate_left; next => (intro w hSw; (try dsimp only at hSw); go_simp; try with_reducible rfl))
    (try simp only [Act.put, List.setIfInBounds_toArray, List.set_cons_zero, List.set_cons_succ])
    (refine wpAnyH_take (i := 4) (oi := { dst := some 37, op := Op.binOp BinOp.eql 3 (Operand.tmp 36) (Operand.const (Value.int IntKind.i64 0)) 3, type := 4, pos := "more.go:15", after := #[{ on := 3, ground := Ground.data }], guard := none }) (v := ?_) rfl (by kernel_rfl) (by kernel_rfl) (by kernel_rfl) (fun _ _ _ h => h) (Or.inl ⟨by rfl, ?_⟩) (by assumption) ?_; rotate_left; next => (intro w hSw; (try dsimp only at hSw); go_simp; try with_reducible rfl))
    (try simp only [Act.put, List.setIfInBounds_toArray, List.set_cons_zero, List.set_cons_succ])
    refine wpAnyH_ready (rs := [1]) (by kernel_rfl) (by simp) ?_
    refine AllReadyH.cons (o := { dst := some 34, op := Op.call { callee := Callee.value (Operand.func 11), args := #[Operand.tmp 33], argTypes := #[25] }, type := 4, pos := "more.go:15", after := #[{ on := 0, ground := Ground.data }], guard := none }) rfl (fun K hK => ?_) AllReadyH.nil
    go_simp
    (go_at_call 11; (with_reducible refine (HP2.out _ _ H1.out.facts).mono ?_); rintro e wz ⟨rfl, hq⟩; have H1 := Lib.hid (Keep.on H1.out hq); clear hq)
    (try go_wp2_with fail)
    refine hK.out _ _ ?_ (fun hHeld => ?_)
    · (exact ⟨⟨H1.out.facts.2.2.cell 0 _ rfl, H1.out.facts.2.2.cell 1 _ rfl⟩, H1.out.facts.1.1.cell 0 _ rfl, H1.out.facts.1.2.1.cell 0 _ rfl⟩)
    clear hK K
    (try simp only [Act.put, List.setIfInBounds_toArray, List.set_cons_zero, List.set_cons_succ])
    (refine wpAnyH_take (i := 5) (oi := { dst := some 38, op := Op.move (Operand.tmp 37), type := 4, pos := "more.go:15", after := #[{ on := 4, ground := Ground.data }, { on := 1, ground := Ground.chain }], guard := none }) (v := ?_) rfl (by kernel_rfl) (by kernel_rfl) (by kernel_rfl) (fun _ _ _ h => h) (Or.inl ⟨by rfl, ?_⟩) (by assumption) ?_; rotate_left; next => (intro w hSw; (try dsimp only at hSw); go_simp; try with_reducible rfl))
    (try simp only [Act.put, List.setIfInBounds_toArray, List.set_cons_zero, List.set_cons_succ])
    first | (refine wpAnyH_take (i := 6) (oi := { dst := some 39, op := Op.fieldAddr 46 (Operand.tmp 4) 0, type := 0, pos := "more.go:15", after := #[{ on := 5, ground := Ground.guard }], guard := some (5, true) }) (v := undef) rfl (by kernel_rfl) (by kernel_rfl) (by kernel_rfl) (fun _ _ _ h => h) (Or.inr ⟨by rfl, rfl⟩) (by assumption) ?_) | (refine wpAnyH_take (i := 6) (oi := { dst := some 39, op := Op.fieldAddr 46 (Operand.tmp 4) 0, type := 0, pos := "more.go:15", after := #[{ on := 5, ground := Ground.guard }], guard := some (5, true) }) (v := ?_) rfl (by kernel_rfl) (by kernel_rfl) (by kernel_rfl) (fun _ _ _ h => h) (Or.inl ⟨by rfl, ?_⟩) (by assumption) ?_; rotate_left; next => (intro w hSw; (try dsimp only at hSw); go_simp; try with_reducible rfl))
    (try simp only [Act.put, List.setIfInBounds_toArray, List.set_cons_zero, List.set_cons_succ])
    first | (refine wpAnyH_take (i := 7) (oi := { dst := some 40, op := Op.load 3 (Operand.tmp 39), type := 3, pos := "more.go:15", after := #[{ on := 6, ground := Ground.data }, { on := 5, ground := Ground.guard }], guard := some (5, true) }) (v := undef) rfl (by kernel_rfl) (by kernel_rfl) (by kernel_rfl) (fun _ _ _ h => h) (Or.inr ⟨by rfl, rfl⟩) (by assumption) ?_) | (refine wpAnyH_take (i := 7) (oi := { dst := some 40, op := Op.load 3 (Operand.tmp 39), type := 3, pos := "more.go:15", after := #[{ on := 6, ground := Ground.data }, { on := 5, ground := Ground.guard }], guard := some (5, true) }) (v := ?_) rfl (by kernel_rfl) (by kernel_rfl) (by kernel_rfl) (fun _ _ _ h => h) (Or.inl ⟨by rfl, ?_⟩) (by assumption) ?_; rotate_left; next => (intro w hSw; (try dsimp only at hSw); go_simp; try with_reducible rfl))
    (try simp only [Act.put, List.setIfInBounds_toArray, List.set_cons_zero, List.set_cons_succ])
    first | (refine wpAnyH_take (i := 8) (oi := { dst := some 41, op := Op.binOp BinOp.eql 3 (Operand.tmp 40) (Operand.const (Value.int IntKind.i64 0)) 3, type := 4, pos := "more.go:15", after := #[{ on := 7, ground := Ground.data }, { on := 5, ground := Ground.guard }], guard := some (5, true) }) (v := undef) rfl (by kernel_rfl) (by kernel_rfl) (by kernel_rfl) (fun _ _ _ h => h) (Or.inr ⟨by rfl, rfl⟩) (by assumption) ?_) | (refine wpAnyH_take (i := 8) (oi := { dst := some 41, op := Op.binOp BinOp.eql 3 (Operand.tmp 40) (Operand.const (Value.int IntKind.i64 0)) 3, type := 4, pos := "more.go:15", after := #[{ on := 7, ground := Ground.data }, { on := 5, ground := Ground.guard }], guard := some (5, true) }) (v := ?_) rfl (by kernel_rfl) (by kernel_rfl) (by kernel_rfl) (fun _ _ _ h => h) (Or.inl ⟨by rfl, ?_⟩) (by assumption) ?_; rotate_left; next => (intro w hSw; (try dsimp only at hSw); go_simp; try with_reducible rfl))
    (try simp only [Act.put, List.setIfInBounds_toArray, List.set_cons_zero, List.set_cons_succ])
    (refine wpAnyH_take (i := 9) (oi := { dst := some 42, op := Op.pick (Operand.tmp 38) (Operand.tmp 41) (Operand.const (Value.bool false)), type := 4, pos := "more.go:15", after := #[{ on := 5, ground := Ground.data }, { on := 8, ground := Ground.data }], guard := none }) (v := ?_) rfl (by kernel_rfl) (by kernel_rfl) (by kernel_rfl) (fun _ _ _ h => h) (Or.inl ⟨by rfl, ?_⟩) (by assumption) ?_; rotate_left; next => (intro w hSw; (try dsimp only at hSw); go_simp; try with_reducible rfl))
    (try simp only [Act.put, List.setIfInBounds_toArray, List.set_cons_zero, List.set_cons_succ])
    (refine wpAnyH_take (i := 10) (oi := { dst := some 43, op := Op.binOp BinOp.neq 4 (Operand.tmp 34) (Operand.tmp 42) 4, type := 4, pos := "more.go:15", after := #[{ on := 1, ground := Ground.data }, { on := 9, ground := Ground.data }], guard := none }) (v := ?_) rfl (by kernel_rfl) (by kernel_rfl) (by kernel_rfl) (fun _ _ _ h => h) (Or.inl ⟨by rfl, ?_⟩) (by assumption) ?_; rotate_left; next => (intro w hSw; (try dsimp only at hSw); go_simp; try with_reducible rfl))
    (try simp only [Act.put, List.setIfInBounds_toArray, List.set_cons_zero, List.set_cons_succ])
    refine wpAnyH_done (by kernel_rfl) ?_ _
    have hs1 := H1.out.facts.2.1.cell 1 _ rfl
    have hs2 := H1.out.facts.2.1.thaw 1
    have hs3 := H1.out.facts.2.2.cell 0 _ rfl
    have hgq : w.heap.size + 3 ≤ wq.heap.size := by have := HT.out.2.2.1.1; omega
    have H2 := Lib.hid (keys_set H1.out hgq [120])
    have hv := V5.facts H2.out.facts.1.2.2
    have hvo := fun o1 o2 => V5.facts ((H2.out.facts.1.2.2.alloc o1).alloc o2)
    clear hHeld
    go_wp2_with fail
  all_goals
    have H4 := Lib.hid (keys_four H2.out (⟨[120], ⟨k2, b2, n2, f2, t2⟩⟩ : PR).cells [.slice none 0 0, .slice (some ⟨wz.heap.size, 0, none⟩) 1 1] (⟨[121], ⟨k2, b2, n2, f2, t2⟩⟩ : PR).cells [.slice none 0 0, .slice (some ⟨wz.heap.size + 1 + 1, 0, none⟩) 1 1] 52 42 52 42 wz.heap.size (by simp [World.setCell])).drew
    unfold PR.cells at H4
    dsimp only at H4
    clear hv hvo
    (first | go_region_held3 (fun w' => ((w'.cell? ⟨w.heap.size, 0, none⟩ = some (.int .i64 k) ∧ w'.cell? ⟨w.heap.size, 1, none⟩ = some (.bool b) ∧ w'.cell? ⟨w.heap.size, 2, none⟩ = some (.int .i64 n) ∧ w'.cell? ⟨w.heap.size, 3, none⟩ = some (.float .f64 f) ∧ w'.cell? ⟨w.heap.size, 4, none⟩ = some (.string ⟨t.toArray⟩)) ∧ (w'.cell? ⟨w.heap.size + 1, 0, none⟩ = some (.int .i64 k') ∧ w'.cell? ⟨w.heap.size + 1, 1, none⟩ = some (.bool b') ∧ w'.cell? ⟨w.heap.size + 1, 2, none⟩ = some (.int .i64 n') ∧ w'.cell? ⟨w.heap.size + 1, 3, none⟩ = some (.float .f64 f') ∧ w'.cell? ⟨w.heap.size + 1, 4, none⟩ = some (.string ⟨t'.toArray⟩)) ∧ (w'.cell? ⟨w.heap.size + 1 + 1, 0, none⟩ = some (.int .i64 k2) ∧ w'.cell? ⟨w.heap.size + 1 + 1, 1, none⟩ = some (.bool b2) ∧ w'.cell? ⟨w.heap.size + 1 + 1, 2, none⟩ = some (.int .i64 n2) ∧ w'.cell? ⟨w.heap.size + 1 + 1, 3, none⟩ = some (.float .f64 f2) ∧ w'.cell? ⟨w.heap.size + 1 + 1, 4, none⟩ = some (.string ⟨t2.toArray⟩))) ∧ (w'.cell? ⟨wq.heap.size, 0, none⟩ = some (.string ⟨#[]⟩) ∧ w'.cell? ⟨wq.heap.size, 1, none⟩ = some (.string ⟨#[120]⟩) ∧ w'.cell? ⟨wq.heap.size, 2, none⟩ = some (.int .i64 k) ∧ w'.cell? ⟨wq.heap.size, 3, none⟩ = some (.bool b) ∧ w'.cell? ⟨wq.heap.size, 4, none⟩ = some (.int .i64 n) ∧ w'.cell? ⟨wq.heap.size, 5, none⟩ = some (.float .f64 f) ∧ w'.cell? ⟨wq.heap.size, 6, none⟩ = some (.string ⟨t.toArray⟩) ∧ w'.cell? ⟨wq.heap.size, 7, none⟩ = some (.int .i64 k') ∧ w'.cell? ⟨wq.heap.size, 8, none⟩ = some (.bool b') ∧ w'.cell? ⟨wq.heap.size, 9, none⟩ = some (.int .i64 n') ∧ w'.cell? ⟨wq.heap.size, 10, none⟩ = some (.float .f64 f') ∧ w'.cell? ⟨wq.heap.size, 11, none⟩ = some (.string ⟨t'.toArray⟩)) ∧ (w'.cell? ⟨wq.heap.size + 1, 0, none⟩ = some (.slice (some ⟨wq.heap.size, 0, none⟩) 1 1) ∧ w'.cell? ⟨wq.heap.size + 1, 1, none⟩ = some (.slice none 0 0)) ∧ (w'.cell? ⟨wz.heap.size + 1, 0, none⟩ = some (.slice none 0 0) ∧ w'.cell? ⟨wz.heap.size + 1, 1, none⟩ = some (.slice (some ⟨wz.heap.size, 0, none⟩) 1 1)) ∧ (w'.cell? ⟨wz.heap.size + 1 + 1 + 1, 0, none⟩ = some (.slice none 0 0) ∧ w'.cell? ⟨wz.heap.size + 1 + 1 + 1, 1, none⟩ = some (.slice (some ⟨wz.heap.size + 1 + 1, 0, none⟩) 1 1))) (exact ⟨⟨V5.facts H4.out.facts.1.1.1, V5.facts H4.out.facts.1.1.2.1, V5.facts H4.out.facts.1.1.2.2⟩, PN.facts H4.out.facts.1.2.1, ⟨H4.out.facts.1.2.2.cell 0 _ rfl, H4.out.facts.1.2.2.cell 1 _ rfl⟩, ⟨H4.out.facts.2.1.2.cell 0 _ rfl, H4.out.facts.2.1.2.cell 1 _ rfl⟩, ⟨H4.out.facts.2.2.2.cell 0 _ rfl, H4.out.facts.2.2.2.cell 1 _ rfl⟩⟩) (first | (go_at_call 11; (with_reducible refine (HQ2.out _ _ H4.out.facts.1).mono ?_); rintro e wy ⟨rfl, hq⟩; have H4 := Lib.hid (Keep.on H4.out hq); clear hq) | (go_at_call 18; (with_reducible refine (HFa.out _ _ H4.out.facts.2.1.1).mono ?_); rintro e wy ⟨rfl, hq⟩; have H4 := Lib.hid (Keep.on H4.out hq); clear hq) | (go_at_call 18; (with_reducible refine (HFb.out _ _ H4.out.facts.2.2.1).mono ?_); rintro e wy ⟨rfl, hq⟩; have H4 := Lib.hid (Keep.on H4.out hq); clear hq) | (go_at_call 18; (with_reducible refine (HFc.out _).mono ?_); rintro e wy ⟨rfl, hq⟩; have H4 := Lib.hid (Keep.on H4.out hq); clear hq) | (go_at_call 22; (with_reducible refine (HI2.out _).mono ?_); rintro e wy ⟨rfl, hq⟩; have H4 := Lib.hid (Keep.on H4.out hq); clear hq) | (go_at_call 13; (with_reducible refine (known12_c _).mono ?_); rintro e wy ⟨rfl, hq⟩; have H4 := Lib.hid (Keep.on H4.out hq); clear hq)) | fail)
    go_wp2_with fail
    go_ret
    exact ⟨rfl, H4.out.below⟩
end Go.Proofs.YtlgglkkafcbikaaDoor
