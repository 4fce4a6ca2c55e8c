/- Contract: the laws' big: it tells something of a pattern, and leaves what lay. -/
import Derived.Test.YtlgglkkafcbikaaDoorRPat
import Derived.BigQuiet
import Derived.Deep.QuietTactic
namespace Go.Proofs.YtlgglkkafcbikaaDoor
open Go Go.Proofs Go.RowKit
set_option linter.unusedVariables false
set_option linter.unusedSimpArgs false

set_option maxRecDepth 100000 in
set_option maxHeartbeats 40000000 in
theorem big_c (ns : List PN) (es : List PE) (v1 v2 : Value) (w : World) (r1 : RowK 12 w v1 (ns.map PN.cells)) (r2 : RowK 4 w v2 (es.map PE.cells)) :
    Calls Tryd.prog 10 #[.agg #[v1, v2]] w fun e w' => (∃ b : Bool, e = .returned (.bool b)) ∧ Below w.heap.size w w' := by
  obtain ⟨a1, c1, rfl, _⟩ := r1.shape
  obtain ⟨a2, c2, rfl, _⟩ := r2.shape
  have m1 := r1.1
  have m2 := r2.1
  have m9 : maxLen = 9223372036854775807 := by decide
  rw [m9, List.length_map] at m1 m2
  rw [List.length_map] at r1 r2 ⊢
  rw [List.length_map]
  clear m9
  have hst0 : Keep w (fun W => Blk W w.heap.size [.slice a1 ns.length c1, .slice a2 es.length c2] ∧ RowK 12 W (.slice a1 ns.length c1) (ns.map PN.cells) ∧ RowK 4 W (.slice a2 es.length c2) (es.map PE.cells)) (w.alloc (.cells #[.slice a1 ns.length c1, .slice a2 es.length c2] 25)) :=
    ⟨⟨Blk.new w [.slice a1 ns.length c1, .slice a2 es.length c2] _, r1.alloc _, r2.alloc _⟩, (Below.refl _ w).alloc (Nat.le_refl _) _, fun w' hb => ⟨(Blk.new w [.slice a1 ns.length c1, .slice a2 es.length c2] _).below hb, (r1.alloc _).below hb, (r2.alloc _).below hb⟩⟩
  have HST := Lib.hid hst0
  clear r1 r2 hst0
  go_enter Tryd.func10, Tryd.ntmps10
  go_wp2_with fail
  go_loopw [3, 4] (fun n i wr => ∃ j : Nat, j ≤ ns.length ∧ i = .int .i64 (j : Int) ∧ (∃ z : Int, n = .int .i64 z) ∧ Keep w (fun W => Blk W w.heap.size [.slice a1 ns.length c1, .slice a2 es.length c2] ∧ RowK 12 W (.slice a1 ns.length c1) (ns.map PN.cells) ∧ RowK 4 W (.slice a2 es.length c2) (es.map PE.cells)) wr) (fun _ i _ => ns.length - (intOf i).toNat)
  case atStart => exact ⟨0, by omega, rfl, ⟨_, rfl⟩, HST.out⟩
  case round =>
    obtain ⟨j, hj, rfl, ⟨z, rfl⟩, hkp⟩ := hrel
    have hb0 := hkp.facts.1.cell 0 _ rfl
    have hb1 := hkp.facts.1.cell 1 _ rfl
    have HK := Lib.hid hkp
    by_cases hlt : j < ns.length
    · by_cases hz : z < 3000
      · obtain ⟨B, o, rfl, hB, hx⟩ := row_pn hkp.facts.2.1 j hlt
        generalize ns[j] = y at *
        obtain ⟨l, key, ⟨k, b, n, f, t⟩, ⟨k', b', n', f', t'⟩⟩ := y
        have hk := PN.factsAt hx
        clear hx hkp
        obtain ⟨k0, k1, k2, k3, k4, k5, k6, k7, k8, k9, k10, k11⟩ := hk
        have hj2 : (j : Int) < (ns.length : Int) := by omega
        go_wp2_with fail
        go_quiet (fail)
        go_wp2_with fail
        go_roundw
        case rel => exact ⟨j + 1, by omega, by go_num, ⟨_, rfl⟩, HK.out.on (below_drewN (Below.refl _ _) _)⟩
        case measure => simp [intOf]; omega
      · clear hkp
        go_wp2_with fail
        go_loopw [3, 5] (fun n i wr => ∃ m : Nat, m ≤ es.length ∧ i = .int .i64 (m : Int) ∧ (∃ z : Int, n = .int .i64 z) ∧ Keep w (fun W => Blk W w.heap.size [.slice a1 ns.length c1, .slice a2 es.length c2] ∧ RowK 12 W (.slice a1 ns.length c1) (ns.map PN.cells) ∧ RowK 4 W (.slice a2 es.length c2) (es.map PE.cells)) wr) (fun _ i _ => es.length - (intOf i).toNat)
        case atStart => exact ⟨0, by omega, rfl, ⟨_, rfl⟩, HK.out⟩
        case round =>
          obtain ⟨m, hm, rfl, ⟨z2, rfl⟩, hkp2⟩ := hrel
          have hc0 := hkp2.facts.1.cell 0 _ rfl
          have hc1 := hkp2.facts.1.cell 1 _ rfl
          have HK2 := Lib.hid hkp2
          by_cases hlt2 : m < es.length
          · by_cases hz2 : z2 < 3000
            · obtain ⟨B, o, rfl, hB, hx⟩ := row_pe hkp2.facts.2.2 m hlt2
              generalize es[m] = y2 at *
              obtain ⟨ya, yb, yt, ye⟩ := y2
              have hk2 := PE.factsAt hx
              obtain ⟨k0, k1, k2, k3⟩ := hk2
              have hj2 : (m : Int) < (es.length : Int) := by omega
              clear hx hkp2
              go_wp2_with fail
              go_roundw
              case rel => exact ⟨m + 1, by omega, by go_num, ⟨_, rfl⟩, by first | exact HK2.out | exact HK2.out.drew⟩
              case measure => simp [intOf]; omega
            · clear hkp2
              go_wp2_with fail
              go_ret
              first | exact ⟨⟨_, rfl⟩, HK2.out.below⟩ | exact ⟨rfl, HK2.out.below⟩ | exact ⟨by simp, HK2.out.below⟩
          · clear hkp2
            go_wp2_with fail
            all_goals
              go_ret
              first | exact ⟨⟨_, rfl⟩, HK2.out.below⟩ | exact ⟨rfl, HK2.out.below⟩ | exact ⟨by simp, HK2.out.below⟩
    · clear hkp
      go_wp2_with fail
      go_loopw [3, 5] (fun n i wr => ∃ m : Nat, m ≤ es.length ∧ i = .int .i64 (m : Int) ∧ (∃ z : Int, n = .int .i64 z) ∧ Keep w (fun W => Blk W w.heap.size [.slice a1 ns.length c1, .slice a2 es.length c2] ∧ RowK 12 W (.slice a1 ns.length c1) (ns.map PN.cells) ∧ RowK 4 W (.slice a2 es.length c2) (es.map PE.cells)) wr) (fun _ i _ => es.length - (intOf i).toNat)
      case atStart => exact ⟨0, by omega, rfl, ⟨_, rfl⟩, HK.out⟩
      case round =>
        obtain ⟨m, hm, rfl, ⟨z2, rfl⟩, hkp2⟩ := hrel
        have hc0 := hkp2.facts.1.cell 0 _ rfl
        have hc1 := hkp2.facts.1.cell 1 _ rfl
        have HK2 := Lib.hid hkp2
        by_cases hlt2 : m < es.length
        · by_cases hz2 : z2 < 3000
          · obtain ⟨B, o, rfl, hB, hx⟩ := row_pe hkp2.facts.2.2 m hlt2
            generalize es[m] = y2 at *
            obtain ⟨ya, yb, yt, ye⟩ := y2
            have hk2 := PE.factsAt hx
            obtain ⟨k0, k1, k2, k3⟩ := hk2
            have hj2 : (m : Int) < (es.length : Int) := by omega
            clear hx hkp2
            go_wp2_with fail
            go_roundw
            case rel => exact ⟨m + 1, by omega, by go_num, ⟨_, rfl⟩, by first | exact HK2.out | exact HK2.out.drew⟩
            case measure => simp [intOf]; omega
          · clear hkp2
            go_wp2_with fail
            go_ret
            first | exact ⟨⟨_, rfl⟩, HK2.out.below⟩ | exact ⟨rfl, HK2.out.below⟩ | exact ⟨by simp, HK2.out.below⟩
        · clear hkp2
          go_wp2_with fail
          all_goals
            go_ret
            first | exact ⟨⟨_, rfl⟩, HK2.out.below⟩ | exact ⟨rfl, HK2.out.below⟩ | exact ⟨by simp, HK2.out.below⟩
end Go.Proofs.YtlgglkkafcbikaaDoor
