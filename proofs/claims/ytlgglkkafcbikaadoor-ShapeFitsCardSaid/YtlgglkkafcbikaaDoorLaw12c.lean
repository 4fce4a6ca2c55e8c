/- The laws on package shape: ShapeMay. -/
import Derived.Test.YtlgglkkafcbikaaDoorBig
import Derived.Test.YtlgglkkafcbikaaDoorOpen4
import Derived.Test.YtlgglkkafcbikaaDoorVal7
import Derived.Deep.RegionHeld3
namespace Go.Proofs.YtlgglkkafcbikaaDoor
open Go Go.Proofs Go.RowKit
set_option linter.unusedVariables false
set_option linter.unusedSimpArgs false

theorem HIs12 : Hid (∀ (x : V5) (w : World), x.t.length ≤ 9223372036854775807 → Calls Tryd.prog 21 #[x.v] w (Gives w (.bool (isV x)))) := Lib.hid (fun x w h => XIs_c x w h)
theorem max9 : maxLen = 9223372036854775807 := by decide
set_option maxRecDepth 100000 in
set_option maxHeartbeats 4000000 in
theorem ShapeMay_core (v0 : Value) (ns0 : List PN) (es0 : List PE) (w : World) (pa0 : PatAt w v0 ns0 es0) (on0 : ∀ p ∈ ns0, okPNi p) (oe0 : ∀ p ∈ es0, okPEi p) :
    Calls Tryd.prog 3 #[v0] w fun e w' => e = .returned (.bool true) ∧ Below w.heap.size w w' := by
  obtain ⟨v1, v2, rfl, r1, r2⟩ := pa0
  have l1 : ∀ p ∈ ns0, p.len := fun p hp => by have := on0 p hp; rw [okPNi, max9] at this; exact ⟨this.1, this.2.1⟩
  have l2 : ∀ p ∈ es0, p.t.length ≤ 9223372036854775807 := fun p hp => by have := oe0 p hp; rw [okPEi, max9] at this; exact this.2.2
  have l3 : ∀ p ∈ ns0, p.lo.t.length ≤ 9223372036854775807 ∧ p.hi.t.length ≤ 9223372036854775807 := fun p hp => by
    have := on0 p hp
    rw [okPNi, okV, okV, max9] at this
    exact ⟨this.2.2.1.2.2.2, this.2.2.2.2.2.2⟩
  have hst0 : Keep w (fun W => Blk W w.heap.size [v1, v2] ∧ RowK 12 W v1 (ns0.map PN.cells) ∧ RowK 4 W v2 (es0.map PE.cells)) (w.alloc (.cells #[v1, v2] 25)) :=
    ⟨⟨Blk.new w [v1, v2] _, r1.alloc _, r2.alloc _⟩, (Below.refl _ w).alloc (Nat.le_refl _) _, fun w' hb => ⟨(Blk.new w [v1, v2] _).below hb, (r1.alloc _).below hb, (r2.alloc _).below hb⟩⟩
  have H0 := Lib.hid hst0
  have HB : Hid (∀ W, RowK 12 W v1 (ns0.map PN.cells) → RowK 4 W v2 (es0.map PE.cells) → Calls Tryd.prog 10 #[.agg #[v1, v2]] W fun e w' => (∃ b : Bool, e = .returned (.bool b)) ∧ Below W.heap.size W w') := Lib.hid (fun W a b => big_c ns0 es0 v1 v2 W a b)
  have HP : Hid (∀ W, RowK 12 W v1 (ns0.map PN.cells) → RowK 4 W v2 (es0.map PE.cells) → Calls Tryd.prog 11 #[.agg #[v1, v2]] W (Gives W (.bool (patB ns0 es0)))) := Lib.hid (fun W a b => PIs_c ns0 es0 v1 v2 W a b l1 l2)
  have HR : Hid (∀ W, RowK 12 W v1 (ns0.map PN.cells) → RowK 4 W v2 (es0.map PE.cells) → Calls Tryd.prog 12 #[.agg #[v1, v2]] W (Gives W (.bool (patB ns0 es0)))) := Lib.hid (fun W a b => RPIs_c ns0 es0 v1 v2 W a b l1 l2 l3 HIs12)
  obtain ⟨a1, c1, rfl, _⟩ := r1.shape
  obtain ⟨a2, c2, rfl, _⟩ := r2.shape
  clear r1 r2 hst0 l1 l2 l3 on0 oe0
  generalize patB ns0 es0 = pb at *
  generalize (ns0.map PN.cells).length = n1 at *
  generalize (es0.map PE.cells).length = n2 at *
  have hpp : (pb == pb) = true := by simp
  go_enter Tryd.func3, Tryd.ntmps3
  go_wp2_with fail
  refine (HB.out _ H0.out.facts.2.1 H0.out.facts.2.2).mono ?_
  rintro e wq ⟨⟨bb, rfl⟩, hq⟩
  have HT := Lib.hid (H0.out.on hq)
  clear hq
  have hc0 := HT.out.facts.1.cell 0 _ rfl
  have hc1 := HT.out.facts.1.cell 1 _ rfl
  cases bb
  · have HT := Lib.hid HT.out.drew
    clear hc0 hc1
    go_wp2_with fail
    (first | go_region_held3 (fun w' => w'.cell? ⟨w.heap.size, 0, none⟩ = some (.slice a1 n1 c1) ∧ w'.cell? ⟨w.heap.size, 1, none⟩ = some (.slice a2 n2 c2)) (exact ⟨HT.out.facts.1.cell 0 _ rfl, HT.out.facts.1.cell 1 _ rfl⟩) (first | (go_at_call 11; (with_reducible refine (HP.out _ HT.out.facts.2.1 HT.out.facts.2.2).mono ?_); rintro e wz ⟨rfl, hq⟩; have HT := Lib.hid (Keep.on HT.out hq); clear hq) | (go_at_call 12; (with_reducible refine (HR.out _ HT.out.facts.2.1 HT.out.facts.2.2).mono ?_); rintro e wz ⟨rfl, hq⟩; have HT := Lib.hid (Keep.on HT.out hq); clear hq) | (go_at_call 13; (with_reducible refine (known12_c _).mono ?_); rintro e wz ⟨rfl, hq⟩; have HT := Lib.hid (Keep.on HT.out hq); clear hq)) | fail)
    go_wp2_with fail
    go_ret
    exact ⟨rfl, HT.out.below⟩
  · go_wp2_with fail
    go_ret
    exact ⟨rfl, HT.out.below⟩
end Go.Proofs.YtlgglkkafcbikaaDoor
