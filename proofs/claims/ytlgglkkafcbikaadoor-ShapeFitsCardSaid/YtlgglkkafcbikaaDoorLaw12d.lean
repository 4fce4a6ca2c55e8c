/- The laws on package shape: ShapeFits. -/
import Derived.Test.YtlgglkkafcbikaaDoorBig
import Derived.Test.YtlgglkkafcbikaaDoorOpen5
import Derived.Test.YtlgglkkafcbikaaDoorIsNode
import Derived.Test.YtlgglkkafcbikaaDoorFits
import Derived.Test.YtlgglkkafcbikaaDoorEdge
import Derived.Test.YtlgglkkafcbikaaDoorLaw12c
import Derived.Deep.RegionHeld3
namespace Go.Proofs.YtlgglkkafcbikaaDoor
open Go Go.Proofs Go.RowKit
set_option linter.unusedVariables false
set_option linter.unusedSimpArgs false

theorem Blk.newAt2 (w : World) (cs : List Value) (t : TypeId) (g : Nat) (hg : g = w.heap.size) : Blk (w.alloc (.cells cs.toArray t)) g cs := by subst hg; exact Blk.new w cs t
theorem pn_at {w : World} {B o n c : Nat} {ps : List PN} (h : RowK 12 w (.slice (some ⟨B, o, none⟩) n c) (ps.map PN.cells)) (j : Nat) (hj : j < ps.length) : CellsAt w B (o + j * 12) ps[j].cells := by
  obtain ⟨B', o', h1, h2, h3⟩ := row_pn h j hj
  simp only [Option.some.injEq, Addr.mk.injEq, and_true] at h1
  obtain ⟨rfl, rfl⟩ := h1
  exact h3
theorem pe_at {w : World} {B o n c : Nat} {ps : List PE} (h : RowK 4 w (.slice (some ⟨B, o, none⟩) n c) (ps.map PE.cells)) (j : Nat) (hj : j < ps.length) : CellsAt w B (o + j * 4) ps[j].cells := by
  obtain ⟨B', o', h1, h2, h3⟩ := row_pe h j hj
  simp only [Option.some.injEq, Addr.mk.injEq, and_true] at h1
  obtain ⟨rfl, rfl⟩ := h1
  exact h3
/-- what is held of a pattern, a node, an edge that are boxed. -/
def FF (w : World) (v1 v2 v3 v4 : Value) (e : ED) (ns : List PN) (es : List PE) (ss : List (List UInt8)) (ps : List PR) (W : World) : Prop :=
  (Blk W w.heap.size [v1, v2] ∧ Blk W (w.heap.size + 1) [v3, v4] ∧ Blk W (w.heap.size + 1 + 1) e.cells) ∧ (RowK 12 W v1 (ns.map PN.cells) ∧ RowK 4 W v2 (es.map PE.cells)) ∧ RowAt W v3 (ss.map strV) ∧ RowK 6 W v4 (ps.map PR.cells)
theorem FF.below {w : World} {v1 v2 v3 v4 : Value} {e : ED} {ns : List PN} {es : List PE} {ss : List (List UInt8)} {ps : List PR} {X Y : World} (h : FF w v1 v2 v3 v4 e ns es ss ps X) (hb : Below X.heap.size X Y) : FF w v1 v2 v3 v4 e ns es ss ps Y :=
  ⟨⟨h.1.1.below hb, h.1.2.1.below hb, h.1.2.2.below hb⟩, ⟨h.2.1.1.below hb, h.2.1.2.below hb⟩, h.2.2.1.below hb, h.2.2.2.below hb⟩
set_option maxRecDepth 100000 in
set_option maxHeartbeats 40000000 in
theorem ShapeFits_core (v0 : Value) (ns0 : List PN) (es0 : List PE) (v1 : Value) (ss1 : List (List UInt8)) (ps1 : List PR) (a2 : ED) (a3 : Int) (a4 : Int) (w : World) (pa0 : PatAt w v0 ns0 es0) (on0 : ∀ p ∈ ns0, okPNi p) (oe0 : ∀ p ∈ es0, okPEi p) (na1 : NodeAt w v1 ss1 ps1) (sn1 : ∀ s ∈ ss1, s.length ≤ maxLen) (sp1 : ∀ p ∈ ps1, okPR p) (o2 : okEdge a2) (w3 : (Lit.int .i64 a3).wf = true) (w4 : (Lit.int .i64 a4).wf = true) :
    Calls Tryd.prog 7 #[v0, v1, a2.v, .int .i64 a3, .int .i64 a4] w fun e w' => e = .returned (.bool true) ∧ Below w.heap.size w w' := by
  obtain ⟨p1, p2, rfl, r1, r2⟩ := pa0
  obtain ⟨q1, q2, rfl, r3, r4⟩ := na1
  have l1 : ∀ p ∈ ns0, p.len := fun p hp => by have := on0 p hp; rw [okPNi, max9] at this; exact ⟨this.1, this.2.1⟩
  have l2 : ∀ p ∈ es0, p.t.length ≤ 9223372036854775807 := fun p hp => by have := oe0 p hp; rw [okPEi, max9] at this; exact this.2.2
  have l3 : ∀ p ∈ ns0, p.lo.t.length ≤ 9223372036854775807 ∧ p.hi.t.length ≤ 9223372036854775807 := fun p hp => by
    have := on0 p hp
    rw [okPNi, okV, okV, max9] at this
    exact ⟨this.2.2.1.2.2.2, this.2.2.2.2.2.2⟩
  have l4 : ∀ s ∈ ss1, s.length ≤ 9223372036854775807 := fun s hs => by have := sn1 s hs; rw [max9] at this; exact this
  have l5 : ∀ p ∈ ps1, p.key.length ≤ 9223372036854775807 ∧ p.v.t.length ≤ 9223372036854775807 := fun p hp => by have := sp1 p hp; rw [okPR, okV, max9] at this; exact ⟨this.1, this.2.2.2.2⟩
  have l6 : ∀ p ∈ ps1, p.v.f < W64 := fun p hp => (sp1 p hp).2.2.2.1
  have l7 : a2.t.length ≤ 9223372036854775807 := by have := o2.2.2.1; rw [max9] at this; exact this
  have HB : Hid (∀ W, FF w p1 p2 q1 q2 a2 ns0 es0 ss1 ps1 W → Calls Tryd.prog 10 #[.agg #[p1, p2]] W fun e w' => (∃ b : Bool, e = .returned (.bool b)) ∧ Below W.heap.size W w') := Lib.hid (fun W h => big_c ns0 es0 p1 p2 W h.2.1.1 h.2.1.2)
  have HR : Hid (∀ W, FF w p1 p2 q1 q2 a2 ns0 es0 ss1 ps1 W → Calls Tryd.prog 12 #[.agg #[p1, p2]] W (Gives W (.bool (patB ns0 es0)))) := Lib.hid (fun W h => RPIs_c ns0 es0 p1 p2 W h.2.1.1 h.2.1.2 l1 l2 l3 HIs12)
  have HN : Hid (∀ W, FF w p1 p2 q1 q2 a2 ns0 es0 ss1 ps1 W → Calls Tryd.prog 17 #[.agg #[q1, q2]] W fun e w' => (∃ b : Bool, e = .returned (.bool b)) ∧ Below W.heap.size W w') := Lib.hid (fun W h => RIsNode_some ss1 ps1 q1 q2 W h.2.2.1 h.2.2.2 l4 l5)
  have HE := Lib.hid (fun W => RIsEdge_c a2 W l7)
  have HF1 : Hid (∀ x ∈ ns0, ∀ W, FF w p1 p2 q1 q2 a2 ns0 es0 ss1 ps1 W → Calls Tryd.prog 18 #[x.v, .agg #[q1, q2]] W (Gives W (.bool (fitsB x ss1 ps1)))) := Lib.hid (fun x hx W h => Fits_c x ss1 ps1 q1 q2 W h.2.2.1 h.2.2.2 l6 (on0 x hx).2.2.1.2.2.1 (on0 x hx).2.2.2.2.2.1)
  have HF2 : Hid (∀ x ∈ ns0, ∀ W, FF w p1 p2 q1 q2 a2 ns0 es0 ss1 ps1 W → Calls Tryd.prog 19 #[x.v, .agg #[q1, q2]] W (Gives W (.bool (fitsB x ss1 ps1)))) := Lib.hid (fun x hx W h => RFits_c x ss1 ps1 q1 q2 W h.2.2.1 h.2.2.2 l6 (on0 x hx).2.2.1.2.2.1 (on0 x hx).2.2.2.2.2.1)
  have hF0 : FF w p1 p2 q1 q2 a2 ns0 es0 ss1 ps1 (((w.alloc (.cells #[p1, p2] 25)).alloc (.cells #[q1, q2] 42)).alloc (.cells a2.cells.toArray 30)) :=
    ⟨⟨((Blk.new w [p1, p2] _).alloc _).alloc _, (Blk.newAt2 (w.alloc (.cells #[p1, p2] 25)) [q1, q2] 42 (w.heap.size + 1) (by simp)).alloc _, Blk.newAt2 ((w.alloc (.cells #[p1, p2] 25)).alloc (.cells #[q1, q2] 42)) a2.cells 30 (w.heap.size + 1 + 1) (by simp)⟩,
      ⟨((r1.alloc _).alloc _).alloc _, ((r2.alloc _).alloc _).alloc _⟩, ((r3.alloc _).alloc _).alloc _, ((r4.alloc _).alloc _).alloc _⟩
  have H0 := Lib.hid (Keep.mk (w0 := w) hF0 ((((Below.refl _ w).alloc (Nat.le_refl _) _).alloc (by simp) _).alloc (by simp; omega) _) (fun y hb => hF0.below hb))
  have mn := r1.1
  have me := r2.1
  rw [max9, List.length_map] at mn me
  obtain ⟨a1', c1, hv1, _⟩ := r1.shape
  obtain ⟨a2', c2, hv2, _⟩ := r2.shape
  obtain ⟨a3', c3, hv3⟩ := r3.shape
  obtain ⟨a4', c4, hv4, _⟩ := r4.shape
  rw [List.length_map] at hv1 hv2
  subst hv1 hv2 hv3 hv4
  clear r1 r2 r3 r4 l1 l2 l3 l4 l5 l6 l7 on0 oe0 sn1 sp1 o2 w3 w4 hF0
  generalize patB ns0 es0 = pb at *
  generalize okED a2 = oe at *
  generalize (ss1.map strV).length = n3 at *
  generalize (ps1.map PR.cells).length = n4 at *
  obtain ⟨ea, eb, et, ew⟩ := a2
  unfold ED.cells at H0
  unfold ED.v at *
  have HC : Hid (∀ W, FF w (.slice a1' ns0.length c1) (.slice a2' es0.length c2) (.slice a3' n3 c3) (.slice a4' n4 c4) ⟨ea, eb, et, ew⟩ ns0 es0 ss1 ps1 W → (W.cell? ⟨w.heap.size, 0, none⟩ = some (.slice a1' ns0.length c1) ∧ W.cell? ⟨w.heap.size, 1, none⟩ = some (.slice a2' es0.length c2)) ∧ (W.cell? ⟨w.heap.size + 1, 0, none⟩ = some (.slice a3' n3 c3) ∧ W.cell? ⟨w.heap.size + 1, 1, none⟩ = some (.slice a4' n4 c4)) ∧ (W.cell? ⟨w.heap.size + 1 + 1, 0, none⟩ = some (.int .i64 ea) ∧ W.cell? ⟨w.heap.size + 1 + 1, 1, none⟩ = some (.int .i64 eb) ∧ W.cell? ⟨w.heap.size + 1 + 1, 2, none⟩ = some (.string ⟨et.toArray⟩) ∧ W.cell? ⟨w.heap.size + 1 + 1, 3, none⟩ = some (.float .f64 ew))) :=
    Lib.hid (fun W h => ⟨⟨h.1.1.cell 0 _ rfl, h.1.1.cell 1 _ rfl⟩, ⟨h.1.2.1.cell 0 _ rfl, h.1.2.1.cell 1 _ rfl⟩, ED.facts h.1.2.2⟩)
  have HC : Hid (∀ W, FF w (.slice a1' ns0.length c1) (.slice a2' es0.length c2) (.slice a3' n3 c3) (.slice a4' n4 c4) ⟨ea, eb, et, ew⟩ ns0 es0 ss1 ps1 W → (W.cell? ⟨w.heap.size, 0, none⟩ = some (.slice a1' ns0.length c1) ∧ W.cell? ⟨w.heap.size, 1, none⟩ = some (.slice a2' es0.length c2)) ∧ (W.cell? ⟨w.heap.size + 1, 0, none⟩ = some (.slice a3' n3 c3) ∧ W.cell? ⟨w.heap.size + 1, 1, none⟩ = some (.slice a4' n4 c4)) ∧ (W.cell? ⟨w.heap.size + 1 + 1, 0, none⟩ = some (.int .i64 ea) ∧ W.cell? ⟨w.heap.size + 1 + 1, 1, none⟩ = some (.int .i64 eb) ∧ W.cell? ⟨w.heap.size + 1 + 1, 2, none⟩ = some (.string ⟨et.toArray⟩) ∧ W.cell? ⟨w.heap.size + 1 + 1, 3, none⟩ = some (.float .f64 ew))) :=
    Lib.hid (fun W h => ⟨⟨h.1.1.cell 0 _ rfl, h.1.1.cell 1 _ rfl⟩, ⟨h.1.2.1.cell 0 _ rfl, h.1.2.1.cell 1 _ rfl⟩, ED.facts h.1.2.2⟩)
  have HC : Hid (∀ W, FF w (.slice a1' ns0.length c1) (.slice a2' es0.length c2) (.slice a3' n3 c3) (.slice a4' n4 c4) ⟨ea, eb, et, ew⟩ ns0 es0 ss1 ps1 W → (W.cell? ⟨w.heap.size, 0, none⟩ = some (.slice a1' ns0.length c1) ∧ W.cell? ⟨w.heap.size, 1, none⟩ = some (.slice a2' es0.length c2)) ∧ (W.cell? ⟨w.heap.size + 1, 0, none⟩ = some (.slice a3' n3 c3) ∧ W.cell? ⟨w.heap.size + 1, 1, none⟩ = some (.slice a4' n4 c4)) ∧ (W.cell? ⟨w.heap.size + 1 + 1, 0, none⟩ = some (.int .i64 ea) ∧ W.cell? ⟨w.heap.size + 1 + 1, 1, none⟩ = some (.int .i64 eb) ∧ W.cell? ⟨w.heap.size + 1 + 1, 2, none⟩ = some (.string ⟨et.toArray⟩) ∧ W.cell? ⟨w.heap.size + 1 + 1, 3, none⟩ = some (.float .f64 ew))) :=
    Lib.hid (fun W h => ⟨⟨h.1.1.cell 0 _ rfl, h.1.1.cell 1 _ rfl⟩, ⟨h.1.2.1.cell 0 _ rfl, h.1.2.1.cell 1 _ rfl⟩, ED.facts h.1.2.2⟩)
  have HC : Hid (∀ W, FF w (.slice a1' ns0.length c1) (.slice a2' es0.length c2) (.slice a3' n3 c3) (.slice a4' n4 c4) ⟨ea, eb, et, ew⟩ ns0 es0 ss1 ps1 W → (W.cell? ⟨w.heap.size, 0, none⟩ = some (.slice a1' ns0.length c1) ∧ W.cell? ⟨w.heap.size, 1, none⟩ = some (.slice a2' es0.length c2)) ∧ (W.cell? ⟨w.heap.size + 1, 0, none⟩ = some (.slice a3' n3 c3) ∧ W.cell? ⟨w.heap.size + 1, 1, none⟩ = some (.slice a4' n4 c4)) ∧ (W.cell? ⟨w.heap.size + 1 + 1, 0, none⟩ = some (.int .i64 ea) ∧ W.cell? ⟨w.heap.size + 1 + 1, 1, none⟩ = some (.int .i64 eb) ∧ W.cell? ⟨w.heap.size + 1 + 1, 2, none⟩ = some (.string ⟨et.toArray⟩) ∧ W.cell? ⟨w.heap.size + 1 + 1, 3, none⟩ = some (.float .f64 ew))) :=
    Lib.hid (fun W h => ⟨⟨h.1.1.cell 0 _ rfl, h.1.1.cell 1 _ rfl⟩, ⟨h.1.2.1.cell 0 _ rfl, h.1.2.1.cell 1 _ rfl⟩, ED.facts h.1.2.2⟩)
  cases oe
  case false =>
    go_enter Tryd.func7, Tryd.ntmps7
    go_wp2_with (first | (go_at_call 10; (with_reducible refine (HB.out _ H0.out.facts).mono ?_); rintro e wq ⟨⟨bb, rfl⟩, hq⟩; have HT := Lib.hid (Keep.on (Hid.out (by assumption)) hq); clear hq; have hc := HC.out _ HT.out.facts) | (go_at_call 12; (with_reducible refine (HR.out _ HT.out.facts).mono ?_); rintro e wq ⟨rfl, hq⟩; have HT := Lib.hid (Keep.on (Hid.out (by assumption)) hq); clear hq; have hc := HC.out _ HT.out.facts) | (go_at_call 17; (with_reducible refine (HN.out _ HT.out.facts).mono ?_); rintro e wq ⟨⟨bb, rfl⟩, hq⟩; have HT := Lib.hid (Keep.on (Hid.out (by assumption)) hq); clear hq; have hc := HC.out _ HT.out.facts) | (go_at_call 14; (with_reducible refine (HE.out _).mono ?_); rintro e wq ⟨rfl, hq⟩; have HT := Lib.hid (Keep.on (Hid.out (by assumption)) hq); clear hq; have hc := HC.out _ HT.out.facts))
    all_goals (go_ret; exact ⟨rfl, HT.out.below⟩)
  go_enter Tryd.func7, Tryd.ntmps7
  go_wp2_with (first | (go_at_call 10; (with_reducible refine (HB.out _ H0.out.facts).mono ?_); rintro e wq ⟨⟨bb, rfl⟩, hq⟩; have HT := Lib.hid (Keep.on (Hid.out (by assumption)) hq); clear hq; have hc := HC.out _ HT.out.facts) | (go_at_call 12; (with_reducible refine (HR.out _ HT.out.facts).mono ?_); rintro e wq ⟨rfl, hq⟩; have HT := Lib.hid (Keep.on (Hid.out (by assumption)) hq); clear hq; have hc := HC.out _ HT.out.facts) | (go_at_call 17; (with_reducible refine (HN.out _ HT.out.facts).mono ?_); rintro e wq ⟨⟨bb, rfl⟩, hq⟩; have HT := Lib.hid (Keep.on (Hid.out (by assumption)) hq); clear hq; have hc := HC.out _ HT.out.facts) | (go_at_call 14; (with_reducible refine (HE.out _).mono ?_); rintro e wq ⟨rfl, hq⟩; have HT := Lib.hid (Keep.on (Hid.out (by assumption)) hq); clear hq; have hc := HC.out _ HT.out.facts))
  all_goals first | (go_ret; exact ⟨rfl, HT.out.below⟩) | skip
  have HT0 := Lib.hid HT.out
  clear hc
  go_loopw [11] (fun i wr => ∃ j : Nat, j ≤ ns0.length ∧ i = .int .i64 (j : Int) ∧ Keep w (FF w (.slice a1' ns0.length c1) (.slice a2' es0.length c2) (.slice a3' n3 c3) (.slice a4' n4 c4) ⟨ea, eb, et, ew⟩ ns0 es0 ss1 ps1) wr) (fun i _ => ns0.length - (intOf i).toNat)
  case atStart => exact ⟨0, by omega, rfl, HT0.out⟩
  case round =>
    obtain ⟨j, hj, rfl, hkp⟩ := hrel
    have HT := Lib.hid hkp
    have hc := HC.out _ hkp.facts
    by_cases hlt : j < ns0.length
    · obtain ⟨B, o, rfl, hB, hx⟩ := row_pn hkp.facts.2.1.1 j hlt
      have HX := Lib.hid (fun W (h : RowK 12 W (.slice (some ⟨B, o, none⟩) ns0.length c1) (ns0.map PN.cells)) => pn_at h j hlt)
      have G1 := Lib.hid (HF1.out ns0[j] (List.getElem_mem hlt))
      have G2 := Lib.hid (HF2.out ns0[j] (List.getElem_mem hlt))
      generalize fitsB ns0[j] ss1 ps1 = fb at *
      generalize ns0[j] = y at *
      obtain ⟨l, key, ⟨k, b, n, f, t⟩, ⟨k', b', n', f', t'⟩⟩ := y
      have hff : (fb != fb) = false := by simp
      have hj2 : (j : Int) < (ns0.length : Int) := by omega
      unfold PN.v at G1 G2
      dsimp only at G1 G2
      have HT := Lib.hid HT.out.drew
      clear hx hkp
      go_wp2_with fail
      clear hc
      (first | go_region_held3 (fun w' => (w'.cell? ⟨B, o + j * 12, none⟩ = some (.string ⟨l.toArray⟩) ∧ w'.cell? ⟨B, o + j * 12 + 1, none⟩ = some (.string ⟨key.toArray⟩) ∧ w'.cell? ⟨B, o + j * 12 + 2, none⟩ = some (.int .i64 k) ∧ w'.cell? ⟨B, o + j * 12 + 3, none⟩ = some (.bool b) ∧ w'.cell? ⟨B, o + j * 12 + 4, none⟩ = some (.int .i64 n) ∧ w'.cell? ⟨B, o + j * 12 + 5, none⟩ = some (.float .f64 f) ∧ w'.cell? ⟨B, o + j * 12 + 6, none⟩ = some (.string ⟨t.toArray⟩) ∧ w'.cell? ⟨B, o + j * 12 + 7, none⟩ = some (.int .i64 k') ∧ w'.cell? ⟨B, o + j * 12 + 8, none⟩ = some (.bool b') ∧ w'.cell? ⟨B, o + j * 12 + 9, none⟩ = some (.int .i64 n') ∧ w'.cell? ⟨B, o + j * 12 + 10, none⟩ = some (.float .f64 f') ∧ w'.cell? ⟨B, o + j * 12 + 11, none⟩ = some (.string ⟨t'.toArray⟩)) ∧ (w'.cell? ⟨w.heap.size, 0, none⟩ = some (.slice (some ⟨B, o, none⟩) ns0.length c1)) ∧ (w'.cell? ⟨w.heap.size + 1, 0, none⟩ = some (.slice a3' n3 c3) ∧ w'.cell? ⟨w.heap.size + 1, 1, none⟩ = some (.slice a4' n4 c4))) (exact ⟨PN.factsAt (HX.out _ HT.out.facts.2.1.1), (HC.out _ HT.out.facts).1.1, (HC.out _ HT.out.facts).2.1⟩) (first | (go_at_call 18; (with_reducible refine (G1.out _ HT.out.facts).mono ?_); rintro e wz ⟨rfl, hq⟩; have HT := Lib.hid (Keep.on HT.out hq); clear hq) | (go_at_call 19; (with_reducible refine (G2.out _ HT.out.facts).mono ?_); rintro e wz ⟨rfl, hq⟩; have HT := Lib.hid (Keep.on HT.out hq); clear hq)) | fail)
      go_wp2_with fail
      go_roundw
      case rel => exact ⟨j + 1, by omega, by go_num, HT.out⟩
      case measure => simp [intOf]; omega
    · clear hkp
      have HT1 := Lib.hid HT.out
      go_wp2_with fail
      clear hc
      go_loopw [12] (fun i wr => ∃ m : Nat, m ≤ es0.length ∧ i = .int .i64 (m : Int) ∧ Keep w (FF w (.slice a1' ns0.length c1) (.slice a2' es0.length c2) (.slice a3' n3 c3) (.slice a4' n4 c4) ⟨ea, eb, et, ew⟩ ns0 es0 ss1 ps1) wr) (fun i _ => es0.length - (intOf i).toNat)
      case atStart => exact ⟨0, by omega, rfl, HT1.out⟩
      case round =>
        obtain ⟨m, hm, rfl, hkp⟩ := hrel
        have HT := Lib.hid hkp
        have hc := HC.out _ hkp.facts
        by_cases hlt2 : m < es0.length
        · obtain ⟨B, o, rfl, hB, hx⟩ := row_pe hkp.facts.2.1.2 m hlt2
          have HX := Lib.hid (fun W (h : RowK 4 W (.slice (some ⟨B, o, none⟩) es0.length c2) (es0.map PE.cells)) => pe_at h m hlt2)
          have G1 := Lib.hid (fun w => Joins_c es0[m] ⟨ea, eb, et, ew⟩ a3 a4 w)
          have G2 := Lib.hid (fun w => RJoins_c es0[m] ⟨ea, eb, et, ew⟩ a3 a4 w)
          generalize joinsB es0[m] ⟨ea, eb, et, ew⟩ a3 a4 = fb at *
          generalize es0[m] = y at *
          obtain ⟨ya, yb, yt, ye⟩ := y
          have hff : (fb != fb) = false := by simp
          have hj3 : (m : Int) < (es0.length : Int) := by omega
          unfold PE.v ED.v at G1 G2
          dsimp only at G1 G2
          have HT := Lib.hid HT.out.drew
          clear hx hkp
          go_wp2_with fail
          clear hc
          (first | go_region_held3 (fun w' => (w'.cell? ⟨B, o + m * 4, none⟩ = some (.int .i64 ya) ∧ w'.cell? ⟨B, o + m * 4 + 1, none⟩ = some (.int .i64 yb) ∧ w'.cell? ⟨B, o + m * 4 + 2, none⟩ = some (.string ⟨yt.toArray⟩) ∧ w'.cell? ⟨B, o + m * 4 + 3, none⟩ = some (.bool ye)) ∧ (w'.cell? ⟨w.heap.size, 1, none⟩ = some (.slice (some ⟨B, o, none⟩) es0.length c2)) ∧ (w'.cell? ⟨w.heap.size + 1 + 1, 0, none⟩ = some (.int .i64 ea) ∧ w'.cell? ⟨w.heap.size + 1 + 1, 1, none⟩ = some (.int .i64 eb) ∧ w'.cell? ⟨w.heap.size + 1 + 1, 2, none⟩ = some (.string ⟨et.toArray⟩) ∧ w'.cell? ⟨w.heap.size + 1 + 1, 3, none⟩ = some (.float .f64 ew))) (exact ⟨PE.factsAt (HX.out _ HT.out.facts.2.1.2), (HC.out _ HT.out.facts).1.2, (HC.out _ HT.out.facts).2.2⟩) (first | (go_at_call 16; (with_reducible refine (G1.out _).mono ?_); rintro e wz ⟨rfl, hq⟩; have HT := Lib.hid (Keep.on HT.out hq); clear hq) | (go_at_call 20; (with_reducible refine (G2.out _).mono ?_); rintro e wz ⟨rfl, hq⟩; have HT := Lib.hid (Keep.on HT.out hq); clear hq)) | fail)
          go_wp2_with fail
          go_roundw
          case rel => exact ⟨m + 1, by omega, by go_num, HT.out⟩
          case measure => simp [intOf]; omega
        · clear hkp
          go_wp2_with (first | (go_at_call 13; (with_reducible refine (known12_c _).mono ?_); rintro e wz ⟨rfl, hq⟩; have HT := Lib.hid (Keep.on HT.out hq); clear hq))
          go_ret
          exact ⟨rfl, HT.out.below⟩
end Go.Proofs.YtlgglkkafcbikaaDoor
