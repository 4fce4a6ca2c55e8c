/- Contract of package shape's Is; the laws' known. -/
import Derived.Test.YtlgglkkafcbikaaDoorShape2
import Derived.Test.YtlgglkkafcbikaaDoorJoins
namespace Go.Proofs.YtlgglkkafcbikaaDoor
open Go Go.Proofs Go.RowKit
set_option linter.unusedVariables false
set_option linter.unusedSimpArgs false

def patB (ns : List PN) (es : List PE) : Bool := decide (1 ≤ ns.length) && decide (ns.length ≤ 4) && decide (es.length ≤ 4) && !ns.any (fun p => !okPN p) && !es.any (fun p => !okPE ns.length p)
set_option maxRecDepth 100000 in
set_option maxHeartbeats 4000000 in
theorem PIs_c (ns : List PN) (es : List PE) (v1 v2 : Value) (w : World) (r1 : RowK 12 w v1 (ns.map PN.cells)) (r2 : RowK 4 w v2 (es.map PE.cells)) (l1 : ∀ p ∈ ns, p.len) (l2 : ∀ p ∈ es, p.t.length ≤ 9223372036854775807) :
    Calls Tryd.prog 11 #[.agg #[v1, v2]] w (Gives w (.bool (patB ns es))) := by
  obtain ⟨a1, c1, rfl, _⟩ := r1.shape
  obtain ⟨a2, c2, rfl, _⟩ := r2.shape
  rw [List.length_map] at r1 r2 ⊢
  rw [List.length_map]
  let F : World → Prop := fun w' => Blk w' w.heap.size [.slice a1 ns.length c1, .slice a2 es.length c2] ∧ Blk w' (w.heap.size + 1) [.func (Fn.func 23) #[] #[.pointer (some ⟨w.heap.size, 0, none⟩)]] ∧ RowK 12 w' (.slice a1 ns.length c1) (ns.map PN.cells) ∧ RowK 4 w' (.slice a2 es.length c2) (es.map PE.cells)
  have hst : ∀ x y : World, F x → Below x.heap.size x y → F y := fun x y h hb => ⟨h.1.below hb, h.2.1.below hb, h.2.2.1.below hb, h.2.2.2.below hb⟩
  have hF0 : F ((w.alloc (.cells #[.slice a1 ns.length c1, .slice a2 es.length c2] 25)).alloc (.cells #[.func (Fn.func 23) #[] #[.pointer (some ⟨w.heap.size, 0, none⟩)]] 56)) := by
    refine ⟨(Blk.new w [.slice a1 ns.length c1, .slice a2 es.length c2] _).alloc _, ?_, (r1.alloc _).alloc _, (r2.alloc _).alloc _⟩
    have := Blk.new (w.alloc (.cells #[.slice a1 ns.length c1, .slice a2 es.length c2] 25)) [.func (Fn.func 23) #[] #[.pointer (some ⟨w.heap.size, 0, none⟩)]] 56
    simpa using this
  have H0 := Lib.hid (Keep.mk (w0 := w) hF0 (((Below.refl _ w).alloc (Nat.le_refl _) _).alloc (by simp) _) (fun y hb => hst _ y hF0 hb))
  have HN : Hid (∀ W, F W → Calls Tryd.prog 28 #[.slice a1 ns.length c1, .func (Fn.func 24) #[] #[]] W (Gives W (.bool (ns.any (fun p => !okPN p))))) :=
    Lib.hid (fun W h => ContainsFuncN_c ns _ (fun p => !okPN p) W h.2.2.1 (fun p hp W' _ => badNode_c p W' (l1 p hp)))
  have HE : Hid (∀ W, F W → Calls Tryd.prog 29 #[.slice a2 es.length c2, .func (Fn.func 26) #[] #[.pointer (some ⟨w.heap.size + 1, 0, none⟩)]] W (Gives W (.bool (es.any (fun p => !okPE ns.length p))))) :=
    Lib.hid (fun W h => ContainsFuncE_c es _ (w.heap.size + 1) (fun p => !okPE ns.length p) W h.2.2.2 (fun p hp W' hb => badEdge_c p a1 a2 ns.length c1 es.length c2 w.heap.size (w.heap.size + 1) W' (l2 p hp) (hst _ _ h hb).1 (hst _ _ h hb).2.1))
  have hFF : ∀ W, F W → W.cell? ⟨w.heap.size, 0, none⟩ = some (.slice a1 ns.length c1) ∧ W.cell? ⟨w.heap.size, 1, none⟩ = some (.slice a2 es.length c2) ∧ W.cell? ⟨w.heap.size + 1, 0, none⟩ = some (.func (Fn.func 23) #[] #[.pointer (some ⟨w.heap.size, 0, none⟩)]) := fun W h => ⟨h.1.cell 0 _ rfl, h.1.cell 1 _ rfl, h.2.1.cell 0 _ rfl⟩
  have HFF := Lib.hid hFF
  clear hFF
  have HV : Hid (patB ns es = (decide (1 ≤ ns.length) && decide (ns.length ≤ 4) && decide (es.length ≤ 4) && !ns.any (fun p => !okPN p) && !es.any (fun p => !okPE ns.length p))) := Lib.hid rfl
  clear r1 r2 l1 l2 hF0 hst
  generalize F = F' at *
  clear F
  generalize patB ns es = r at *
  generalize ns.any (fun p => !okPN p) = b1 at *
  generalize es.any (fun p => !okPE ns.length p) = b2 at *
  generalize ns.length = n1 at *
  generalize es.length = n2 at *
  by_cases t1 : (1 : Int) ≤ n1
  · by_cases t2 : (n1 : Int) ≤ 4
    · by_cases t3 : (n2 : Int) ≤ 4
      · have e1 : decide (1 ≤ n1) = true := decide_eq_true (by omega)
        have e2 : decide (n1 ≤ 4) = true := decide_eq_true (by omega)
        have e3 : decide (n2 ≤ 4) = true := decide_eq_true (by omega)
        have HW : Hid (r = (!b1 && !b2)) := Lib.hid (by rw [HV.out, e1, e2, e3]; rfl)
        clear HV e1 e2 e3
        cases b1 <;> cases b2
        all_goals
          go_enter Tryd.func11, Tryd.ntmps11
          go_wp2_with (first | (go_at_call 28; (with_reducible refine (HN.out _ H0.out.facts).mono ?_); rintro e wq ⟨rfl, hq⟩; have HT := Lib.hid (Keep.on (Hid.out (by assumption)) hq); clear hq; have hk := HFF.out _ HT.out.facts) | (go_at_call 29; (with_reducible refine (HE.out _ HT.out.facts).mono ?_); rintro e wq ⟨rfl, hq⟩; have HT := Lib.hid (Keep.on (Hid.out (by assumption)) hq); clear hq; have hk := HFF.out _ HT.out.facts))
          go_ret
          exact ⟨by rw [HW.out]; rfl, HT.out.below⟩
      · have HW : Hid (r = false) := Lib.hid (by rw [HV.out, show decide (n2 ≤ 4) = false from decide_eq_false (by omega)]; simp)
        go_enter Tryd.func11, Tryd.ntmps11
        go_wp2_with fail
        go_ret
        exact ⟨by rw [HW.out]; rfl, H0.out.below⟩
    · have HW : Hid (r = false) := Lib.hid (by rw [HV.out, show decide (n1 ≤ 4) = false from decide_eq_false (by omega)]; simp)
      go_enter Tryd.func11, Tryd.ntmps11
      go_wp2_with fail
      go_ret
      exact ⟨by rw [HW.out]; rfl, H0.out.below⟩
  · have HW : Hid (r = false) := Lib.hid (by rw [HV.out, show decide (1 ≤ n1) = false from decide_eq_false (by omega)]; simp)
    go_enter Tryd.func11, Tryd.ntmps11
    go_wp2_with fail
    go_ret
    exact ⟨by rw [HW.out]; rfl, H0.out.below⟩
def zPN : PN := ⟨[], [], ⟨0, false, 0, 0, []⟩, ⟨0, false, 0, 0, []⟩⟩
theorem zJ (w : World) : Calls Tryd.prog 16 #[.agg #[.int .i64 0, .int .i64 0, .string ⟨#[]⟩, .bool true], .agg #[.int .i64 2, .int .i64 1, .string ⟨#[101]⟩, .float .f64 0], .int .i64 1, .int .i64 2] w (Gives w (.bool true)) := by
  have := Joins_c ⟨0, 0, [], true⟩ ⟨2, 1, [101], 0⟩ 1 2 w
  rw [show joinsB ⟨0, 0, [], true⟩ ⟨2, 1, [101], 0⟩ 1 2 = true by decide] at this
  exact this
theorem zP (w : World) (B : Nat) (hB : B = w.heap.size) : Calls Tryd.prog 11 #[.agg #[.slice (some ⟨B, 0, none⟩) 1 1, .slice none 0 0]] (w.alloc (.cells #[.string ⟨#[]⟩, .string ⟨#[]⟩, .int .i64 0, .bool false, .int .i64 0, .float .f64 0, .string ⟨#[]⟩, .int .i64 0, .bool false, .int .i64 0, .float .f64 0, .string ⟨#[]⟩] 48)) (Gives w (.bool true)) := by
  subst hB
  have := PIs_c [zPN] [] _ _ (w.alloc (.cells zPN.cells.toArray 48)) (RowK.one w zPN.cells 48) (RowK.nil 4 _) (by intro p hp; simp at hp; subst hp; exact ⟨by decide, by decide⟩) (by simp)
  rw [show patB [zPN] [] = true by decide +kernel] at this
  refine this.mono ?_
  rintro e w' ⟨rfl, hb⟩
  exact ⟨rfl, ((Below.refl _ w).alloc (Nat.le_refl _) _).trans (hb.mono (by simp))⟩
set_option maxHeartbeats 1000000 in
theorem known12_c (w : World) : Calls Tryd.prog 13 #[] w (Gives w (.bool true)) := by
  go_enter Tryd.func13, Tryd.ntmps13
  go_wp2_with (first | (go_at_call 16; (with_reducible refine (zJ _).mono ?_); rintro e wq ⟨rfl, hq⟩))
  trace_state
  refine (zP _ _ (by simp)).mono ?_
  rintro e wr ⟨rfl, hr⟩
  go_wp2_with fail
  go_ret
  exact ⟨rfl, hq.trans (hr.mono hq.size)⟩
end Go.Proofs.YtlgglkkafcbikaaDoor
