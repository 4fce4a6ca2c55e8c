/- Contract: the reference's Is of a pattern (chapter 12). -/
import Derived.Test.YtlgglkkafcbikaaDoorShape3
import Derived.Deep.RegionHeld3
namespace Go.Proofs.YtlgglkkafcbikaaDoor
open Go Go.Proofs Go.RowKit
set_option linter.unusedVariables false
set_option linter.unusedSimpArgs false

theorem rname_c (t : List UInt8) (w : World) (hl : t.length ≤ 9223372036854775807) : Calls Tryd.prog 30 #[.string ⟨t.toArray⟩] w fun e w' => e = .returned (.bool (optB t)) ∧ w = w' := by
  have HN := Lib.hid (fun w => RIsName_c t w hl)
  cases h0 : t.isEmpty
  · have HV : Hid (optB t = nameB t) := Lib.hid (by unfold optB; rw [h0, Bool.false_or])
    go_enter Tryd.func30, Tryd.ntmps30
    go_wp2_with (first | (go_at_call 15; (with_reducible refine (HN.out _).mono ?_); rintro e wq ⟨rfl, rfl⟩))
    go_ret
    exact ⟨by rw [HV.out]; rfl, by first | rfl | trivial⟩
  · have HV : Hid (optB t = true) := Lib.hid (by unfold optB; rw [h0, Bool.true_or])
    go_enter Tryd.func30, Tryd.ntmps30
    go_wp2_with fail
    go_ret
    exact ⟨by rw [HV.out]; rfl, by first | rfl | trivial⟩
theorem Keep.more {w0 w : World} {F : World → Prop} (h : Keep w0 F w) (cs : List Value) (t : TypeId) : Keep w0 (fun W => F W ∧ Blk W w.heap.size cs) (w.alloc (.cells cs.toArray t)) := by
  have h1 := h.alloc (.cells cs.toArray t)
  have b1 := Blk.new w cs t
  exact ⟨⟨h1.facts, b1⟩, h1.below, fun w' hb => ⟨h1.stable w' hb, b1.below hb⟩⟩
theorem Keep.fst {w0 w : World} {F G : World → Prop} (h : Keep w0 (fun W => F W ∧ G W) w) : Keep w0 F w := ⟨h.facts.1, h.below, fun w' hb => (h.stable w' hb).1⟩
set_option maxRecDepth 100000 in
set_option maxHeartbeats 40000000 in
theorem RPIs_c (ns : List PN) (es : List PE) (v1 v2 : Value) (w : World) (r1 : RowK 12 w v1 (ns.map PN.cells)) (r2 : RowK 4 w v2 (es.map PE.cells)) (l1 : ∀ p ∈ ns, p.len) (l2 : ∀ p ∈ es, p.t.length ≤ 9223372036854775807)
    (l3 : ∀ p ∈ ns, p.lo.t.length ≤ 9223372036854775807 ∧ p.hi.t.length ≤ 9223372036854775807)
    (HI : Hid (∀ (x : V5) (w : World), x.t.length ≤ 9223372036854775807 → Calls Tryd.prog 21 #[x.v] w (Gives w (.bool (isV x))))) :
    Calls Tryd.prog 12 #[.agg #[v1, v2]] w (Gives w (.bool (patB ns es))) := by
  obtain ⟨a1, c1, rfl, _⟩ := r1.shape
  obtain ⟨a2, c2, rfl, _⟩ := r2.shape
  have m1 := r1.1
  have m2 := r2.1
  have m9 : maxLen = 9223372036854775807 := by decide
  rw [m9, List.length_map] at m1 m2
  rw [List.length_map] at r1 r2 ⊢
  rw [List.length_map]
  clear m9
  go_enter Tryd.func12, Tryd.ntmps12
  have hst0 : Keep w (fun W => Blk W w.heap.size [.slice a1 ns.length c1, .slice a2 es.length c2] ∧ RowK 12 W (.slice a1 ns.length c1) (ns.map PN.cells) ∧ RowK 4 W (.slice a2 es.length c2) (es.map PE.cells)) (w.alloc (.cells #[.slice a1 ns.length c1, .slice a2 es.length c2] 25)) :=
    ⟨⟨Blk.new w [.slice a1 ns.length c1, .slice a2 es.length c2] _, r1.alloc _, r2.alloc _⟩, (Below.refl _ w).alloc (Nat.le_refl _) _, fun w' hb => ⟨(Blk.new w [.slice a1 ns.length c1, .slice a2 es.length c2] _).below hb, (r1.alloc _).below hb, (r2.alloc _).below hb⟩⟩
  have HST := Lib.hid hst0
  have HV : Hid (patB ns es = (decide (1 ≤ ns.length) && decide (ns.length ≤ 4) && decide (es.length ≤ 4) && !ns.any (fun p => !okPN p) && !es.any (fun p => !okPE ns.length p))) := Lib.hid rfl
  have HL1 := Lib.hid l1
  have HL2 := Lib.hid l2
  have HL3 := Lib.hid l3
  clear l1 l2 l3 r1 r2 hst0
  generalize patB ns es = r at *
  go_wp2_with fail
  go_loopw [3] (fun i wr => ∃ j : Nat, j ≤ ns.length ∧ i = .int .i64 (j : Int) ∧ (ns.take j).any (fun p => !okPN p) = false ∧ Keep w (fun W => Blk W w.heap.size [.slice a1 ns.length c1, .slice a2 es.length c2] ∧ RowK 12 W (.slice a1 ns.length c1) (ns.map PN.cells) ∧ RowK 4 W (.slice a2 es.length c2) (es.map PE.cells)) wr) (fun i _ => ns.length - (intOf i).toNat)
  case atStart => exact ⟨0, by omega, rfl, rfl, HST.out⟩
  case round =>
    obtain ⟨j, hj, rfl, ht, hkp⟩ := hrel
    have hb0 := hkp.facts.1.cell 0 _ rfl
    have hb1 := hkp.facts.1.cell 1 _ rfl
    have HK := Lib.hid hkp
    by_cases hlt : j < ns.length
    · obtain ⟨B, o, rfl, hB, hx⟩ := row_pn hkp.facts.2.1 j hlt
      have HO : Hid (okPN ns[j] = (optB ns[j].l && optB ns[j].key && isV ns[j].lo && isV ns[j].hi && (!ns[j].key.isEmpty || (ns[j].lo.k == 0 && ns[j].hi.k == 0)))) := Lib.hid rfl
      have HBAD : Hid (okPN ns[j] = false → r = false) := Lib.hid (fun h => by rw [HV.out, any_at (fun p => !okPN p) ns j hlt (by simp [h])]; simp)
      have HGOOD : Hid (okPN ns[j] = true → (ns.take (j + 1)).any (fun p => !okPN p) = false) := Lib.hid (fun h => by rw [any_take _ ns j hlt, ht]; simp [h])
      have hm := List.getElem_mem hlt
      have HL := Lib.hid (fun w => rname_c ns[j].l w (HL1.out _ hm).1)
      have HKy := Lib.hid (fun w => rname_c ns[j].key w (HL1.out _ hm).2)
      have HA := Lib.hid (fun w => HI.out ns[j].lo w (HL3.out _ hm).1)
      have HB := Lib.hid (fun w => HI.out ns[j].hi w (HL3.out _ hm).2)
      have K2 := Lib.hid (HK.out.more ns[j].cells 48)
      clear hm ht hkp
      generalize okPN ns[j] = ok at *
      generalize optB ns[j].l = o1 at *
      generalize optB ns[j].key = o2 at *
      generalize isV ns[j].lo = o3 at *
      generalize isV ns[j].hi = o4 at *
      generalize ns[j] = y at *
      obtain ⟨l, key, ⟨k, b, n, f, t⟩, ⟨k', b', n', f', t'⟩⟩ := y
      have hk := PN.factsAt hx
      unfold V5.v at *
      clear hx
      have q0 : True := trivial
      have q1 : True := trivial
      have q2 : True := trivial
      cases o1
      case false =>
        have HR : Hid (r = false) := Lib.hid (HBAD.out (by rw [HO.out]; simp [q0, q1, q2]))
        go_wp2_with (first | (go_at_call 30; (with_reducible refine (HL.out _).mono ?_); rintro e wq ⟨rfl, rfl⟩) | (go_at_call 30; (with_reducible refine (HKy.out _).mono ?_); rintro e wq ⟨rfl, rfl⟩) | (go_at_call 21; (with_reducible refine (HA.out _).mono ?_); rintro e wq ⟨rfl, hq⟩; have HT := Lib.hid (Keep.on (Hid.out (by assumption)) hq); clear hq; have hk := PN.facts HT.out.facts.2; have hb0 := HT.out.facts.1.1.cell 0 _ rfl; have hb1 := HT.out.facts.1.1.cell 1 _ rfl) | (go_at_call 21; (with_reducible refine (HB.out _).mono ?_); rintro e wq ⟨rfl, hq⟩; have HT := Lib.hid (Keep.on (Hid.out (by assumption)) hq); clear hq; have hk := PN.facts HT.out.facts.2; have hb0 := HT.out.facts.1.1.cell 0 _ rfl; have hb1 := HT.out.facts.1.1.cell 1 _ rfl))
        go_ret
        exact ⟨by rw [HR.out]; rfl, K2.out.below⟩
      cases o2
      case false =>
        have HR : Hid (r = false) := Lib.hid (HBAD.out (by rw [HO.out]; simp [q0, q1, q2]))
        go_wp2_with (first | (go_at_call 30; (with_reducible refine (HL.out _).mono ?_); rintro e wq ⟨rfl, rfl⟩) | (go_at_call 30; (with_reducible refine (HKy.out _).mono ?_); rintro e wq ⟨rfl, rfl⟩) | (go_at_call 21; (with_reducible refine (HA.out _).mono ?_); rintro e wq ⟨rfl, hq⟩; have HT := Lib.hid (Keep.on (Hid.out (by assumption)) hq); clear hq; have hk := PN.facts HT.out.facts.2; have hb0 := HT.out.facts.1.1.cell 0 _ rfl; have hb1 := HT.out.facts.1.1.cell 1 _ rfl) | (go_at_call 21; (with_reducible refine (HB.out _).mono ?_); rintro e wq ⟨rfl, hq⟩; have HT := Lib.hid (Keep.on (Hid.out (by assumption)) hq); clear hq; have hk := PN.facts HT.out.facts.2; have hb0 := HT.out.facts.1.1.cell 0 _ rfl; have hb1 := HT.out.facts.1.1.cell 1 _ rfl))
        go_ret
        exact ⟨by rw [HR.out]; rfl, K2.out.below⟩
      cases o3
      case false =>
        have HR : Hid (r = false) := Lib.hid (HBAD.out (by rw [HO.out]; simp [q0, q1, q2]))
        go_wp2_with (first | (go_at_call 30; (with_reducible refine (HL.out _).mono ?_); rintro e wq ⟨rfl, rfl⟩) | (go_at_call 30; (with_reducible refine (HKy.out _).mono ?_); rintro e wq ⟨rfl, rfl⟩) | (go_at_call 21; (with_reducible refine (HA.out _).mono ?_); rintro e wq ⟨rfl, hq⟩; have HT := Lib.hid (Keep.on (Hid.out (by assumption)) hq); clear hq; have hk := PN.facts HT.out.facts.2; have hb0 := HT.out.facts.1.1.cell 0 _ rfl; have hb1 := HT.out.facts.1.1.cell 1 _ rfl) | (go_at_call 21; (with_reducible refine (HB.out _).mono ?_); rintro e wq ⟨rfl, hq⟩; have HT := Lib.hid (Keep.on (Hid.out (by assumption)) hq); clear hq; have hk := PN.facts HT.out.facts.2; have hb0 := HT.out.facts.1.1.cell 0 _ rfl; have hb1 := HT.out.facts.1.1.cell 1 _ rfl))
        go_ret
        exact ⟨by rw [HR.out]; rfl, HT.out.below⟩
      cases o4
      case false =>
        have HR : Hid (r = false) := Lib.hid (HBAD.out (by rw [HO.out]; simp [q0, q1, q2]))
        go_wp2_with (first | (go_at_call 30; (with_reducible refine (HL.out _).mono ?_); rintro e wq ⟨rfl, rfl⟩) | (go_at_call 30; (with_reducible refine (HKy.out _).mono ?_); rintro e wq ⟨rfl, rfl⟩) | (go_at_call 21; (with_reducible refine (HA.out _).mono ?_); rintro e wq ⟨rfl, hq⟩; have HT := Lib.hid (Keep.on (Hid.out (by assumption)) hq); clear hq; have hk := PN.facts HT.out.facts.2; have hb0 := HT.out.facts.1.1.cell 0 _ rfl; have hb1 := HT.out.facts.1.1.cell 1 _ rfl) | (go_at_call 21; (with_reducible refine (HB.out _).mono ?_); rintro e wq ⟨rfl, hq⟩; have HT := Lib.hid (Keep.on (Hid.out (by assumption)) hq); clear hq; have hk := PN.facts HT.out.facts.2; have hb0 := HT.out.facts.1.1.cell 0 _ rfl; have hb1 := HT.out.facts.1.1.cell 1 _ rfl))
        go_ret
        exact ⟨by rw [HR.out]; rfl, HT.out.below⟩
      clear q0 q1 q2
      cases q0 : key.isEmpty
      case false =>
        have q1 : True := trivial
        have q2 : True := trivial
        have HG := Lib.hid (HGOOD.out (by rw [HO.out]; simp [q0, q1, q2]))
        go_wp2_with (first | (go_at_call 30; (with_reducible refine (HL.out _).mono ?_); rintro e wq ⟨rfl, rfl⟩) | (go_at_call 30; (with_reducible refine (HKy.out _).mono ?_); rintro e wq ⟨rfl, rfl⟩) | (go_at_call 21; (with_reducible refine (HA.out _).mono ?_); rintro e wq ⟨rfl, hq⟩; have HT := Lib.hid (Keep.on (Hid.out (by assumption)) hq); clear hq; have hk := PN.facts HT.out.facts.2; have hb0 := HT.out.facts.1.1.cell 0 _ rfl; have hb1 := HT.out.facts.1.1.cell 1 _ rfl) | (go_at_call 21; (with_reducible refine (HB.out _).mono ?_); rintro e wq ⟨rfl, hq⟩; have HT := Lib.hid (Keep.on (Hid.out (by assumption)) hq); clear hq; have hk := PN.facts HT.out.facts.2; have hb0 := HT.out.facts.1.1.cell 0 _ rfl; have hb1 := HT.out.facts.1.1.cell 1 _ rfl))
        go_roundw
        case rel => exact ⟨j + 1, by omega, by go_num, HG.out, HT.out.fst⟩
        case measure => simp [intOf]; omega
      cases q1 : (k == 0)
      case false =>
        have q2 : True := trivial
        have q1n : (k != 0) = true := by simp [bne, q1]
        have HR : Hid (r = false) := Lib.hid (HBAD.out (by rw [HO.out]; simp [q0, q1, q2]))
        go_wp2_with (first | (go_at_call 30; (with_reducible refine (HL.out _).mono ?_); rintro e wq ⟨rfl, rfl⟩) | (go_at_call 30; (with_reducible refine (HKy.out _).mono ?_); rintro e wq ⟨rfl, rfl⟩) | (go_at_call 21; (with_reducible refine (HA.out _).mono ?_); rintro e wq ⟨rfl, hq⟩; have HT := Lib.hid (Keep.on (Hid.out (by assumption)) hq); clear hq; have hk := PN.facts HT.out.facts.2; have hb0 := HT.out.facts.1.1.cell 0 _ rfl; have hb1 := HT.out.facts.1.1.cell 1 _ rfl) | (go_at_call 21; (with_reducible refine (HB.out _).mono ?_); rintro e wq ⟨rfl, hq⟩; have HT := Lib.hid (Keep.on (Hid.out (by assumption)) hq); clear hq; have hk := PN.facts HT.out.facts.2; have hb0 := HT.out.facts.1.1.cell 0 _ rfl; have hb1 := HT.out.facts.1.1.cell 1 _ rfl))
        go_ret
        exact ⟨by rw [HR.out]; rfl, HT.out.below⟩
      have q1n : (k != 0) = false := by simp [bne, q1]
      cases q2 : (k' == 0)
      case false =>
        have q2n : (k' != 0) = true := by simp [bne, q2]
        have HR : Hid (r = false) := Lib.hid (HBAD.out (by rw [HO.out]; simp [q0, q1, q2]))
        go_wp2_with (first | (go_at_call 30; (with_reducible refine (HL.out _).mono ?_); rintro e wq ⟨rfl, rfl⟩) | (go_at_call 30; (with_reducible refine (HKy.out _).mono ?_); rintro e wq ⟨rfl, rfl⟩) | (go_at_call 21; (with_reducible refine (HA.out _).mono ?_); rintro e wq ⟨rfl, hq⟩; have HT := Lib.hid (Keep.on (Hid.out (by assumption)) hq); clear hq; have hk := PN.facts HT.out.facts.2; have hb0 := HT.out.facts.1.1.cell 0 _ rfl; have hb1 := HT.out.facts.1.1.cell 1 _ rfl) | (go_at_call 21; (with_reducible refine (HB.out _).mono ?_); rintro e wq ⟨rfl, hq⟩; have HT := Lib.hid (Keep.on (Hid.out (by assumption)) hq); clear hq; have hk := PN.facts HT.out.facts.2; have hb0 := HT.out.facts.1.1.cell 0 _ rfl; have hb1 := HT.out.facts.1.1.cell 1 _ rfl))
        go_ret
        exact ⟨by rw [HR.out]; rfl, HT.out.below⟩
      case true =>
        have q2n : (k' != 0) = false := by simp [bne, q2]
        have HG := Lib.hid (HGOOD.out (by rw [HO.out]; simp [q0, q1, q2]))
        go_wp2_with (first | (go_at_call 30; (with_reducible refine (HL.out _).mono ?_); rintro e wq ⟨rfl, rfl⟩) | (go_at_call 30; (with_reducible refine (HKy.out _).mono ?_); rintro e wq ⟨rfl, rfl⟩) | (go_at_call 21; (with_reducible refine (HA.out _).mono ?_); rintro e wq ⟨rfl, hq⟩; have HT := Lib.hid (Keep.on (Hid.out (by assumption)) hq); clear hq; have hk := PN.facts HT.out.facts.2; have hb0 := HT.out.facts.1.1.cell 0 _ rfl; have hb1 := HT.out.facts.1.1.cell 1 _ rfl) | (go_at_call 21; (with_reducible refine (HB.out _).mono ?_); rintro e wq ⟨rfl, hq⟩; have HT := Lib.hid (Keep.on (Hid.out (by assumption)) hq); clear hq; have hk := PN.facts HT.out.facts.2; have hb0 := HT.out.facts.1.1.cell 0 _ rfl; have hb1 := HT.out.facts.1.1.cell 1 _ rfl))
        go_roundw
        case rel => exact ⟨j + 1, by omega, by go_num, HG.out, HT.out.fst⟩
        case measure => simp [intOf]; omega
    · rw [List.take_of_length_le (by omega)] at ht
      have HN0 := Lib.hid ht
      clear ht hkp
      go_wp2_with fail
      go_loopw [5] (fun i wr => ∃ j : Nat, j ≤ es.length ∧ i = .int .i64 (j : Int) ∧ (es.take j).any (fun p => !okPE ns.length p) = false ∧ Keep w (fun W => Blk W w.heap.size [.slice a1 ns.length c1, .slice a2 es.length c2] ∧ RowK 12 W (.slice a1 ns.length c1) (ns.map PN.cells) ∧ RowK 4 W (.slice a2 es.length c2) (es.map PE.cells)) wr) (fun i _ => es.length - (intOf i).toNat)
      case atStart => exact ⟨0, by omega, rfl, rfl, HK.out⟩
      case round =>
        obtain ⟨m, hm, rfl, ht2, hkp2⟩ := hrel
        have hc0 := hkp2.facts.1.cell 0 _ rfl
        have hc1 := hkp2.facts.1.cell 1 _ rfl
        have hd0 := fun o => (hkp2.facts.1.alloc o).cell 0 _ rfl
        have hd1 := fun o => (hkp2.facts.1.alloc o).cell 1 _ rfl
        have HK2 := Lib.hid hkp2
        by_cases hlt2 : m < es.length
        · obtain ⟨B, o, rfl, hB, hx⟩ := row_pe hkp2.facts.2.2 m hlt2
          have HO : Hid (okPE ns.length es[m] = (optB es[m].t && (decide (0 ≤ es[m].a) && decide (es[m].a < ns.length)) && (decide (0 ≤ es[m].b) && decide (es[m].b < ns.length)))) := Lib.hid rfl
          have HBAD : Hid (okPE ns.length es[m] = false → r = false) := Lib.hid (fun h => by rw [HV.out, any_at (fun p => !okPE ns.length p) es m hlt2 (by simp [h])]; simp)
          have HGOOD : Hid (okPE ns.length es[m] = true → (es.take (m + 1)).any (fun p => !okPE ns.length p) = false) := Lib.hid (fun h => by rw [any_take _ es m hlt2, ht2]; simp [h])
          have HL := Lib.hid (fun w => rname_c es[m].t w (HL2.out _ (List.getElem_mem hlt2)))
          have K3 := Lib.hid (HK2.out.more es[m].cells 34)
          clear ht2 hkp2
          generalize okPE ns.length es[m] = ok at *
          generalize optB es[m].t = o1 at *
          generalize es[m] = y at *
          obtain ⟨ya, yb, yt, ye⟩ := y
          have hk := PE.factsAt hx
          clear hx hb0 hb1
          cases o1
          all_goals
            go_wp2_with (first | (go_at_call 30; (with_reducible refine (HL.out _).mono ?_); rintro e wq ⟨rfl, rfl⟩))
            all_goals
              first
              | (have HR : Hid (r = false) := Lib.hid (HBAD.out (by rw [HO.out]; first | (simp; done) | (simp [*]; done) | (simp; omega)))
                 go_ret
                 exact ⟨by rw [HR.out]; rfl, K3.out.below⟩)
              | (have HG := Lib.hid (HGOOD.out (by rw [HO.out]; first | (simp; done) | (simp [*]; done) | (simp; omega)))
                 go_roundw
                 case rel => exact ⟨m + 1, by omega, by go_num, HG.out, K3.out.fst⟩
                 case measure => simp [intOf]; omega)
        · rw [List.take_of_length_le (by omega)] at ht2
          have HR : Hid (r = (decide ((1 : Int) ≤ (ns.length : Int)) && decide ((ns.length : Int) ≤ 4) && decide ((es.length : Int) ≤ 4))) := Lib.hid (by rw [HV.out, HN0.out, ht2]; simp only [Bool.not_false, Bool.and_true]; congr 1; congr 1; all_goals exact decide_eq_decide.2 (by omega))
          clear ht2 hkp2 hb0 hb1
          go_wp2_with fail
          all_goals
            go_ret
            exact ⟨by rw [HR.out]; first | rfl | (simp [*]; done) | (simp; omega), HK2.out.below⟩
end Go.Proofs.YtlgglkkafcbikaaDoor
