
/- Contracts of package record: areNames, IsNode, isIn, IsEdge. -/
import Derived.Test.YtmbffncmogpkfaaGreatDoorTy
import Derived.Test.YtmbffncmogpkfaaGreatDoorName
import Derived.Test.YtmbffncmogpkfaaGreatDoorReal
import Derived.Test.YtmbffncmogpkfaaGreatDoorEdge
import Derived.Deep.RegionHeld3
import Derived.BigQuiet
namespace Go.Proofs.YtmbffncmogpkfaaGreatDoor
open Go Go.Proofs Go.RowKit
set_option linter.unusedVariables false
set_option linter.unusedSimpArgs false

/-- may the j-th text stand there? -/
def stepB (ss : List (List UInt8)) (j : Nat) : Bool := nameB (ss.getD j []) && (j == 0 || Op.bytesLess (ss.getD (j - 1) []) (ss.getD j []))
def namesB (ss : List (List UInt8)) : Bool := (List.range ss.length).all (stepB ss)
def nodeB (ss : List (List UInt8)) (ps : List PR) : Bool := ps.all (fun p => isV p.v && !(p.v.k == 0)) && (namesB ss && decide ((ss.length : Int) ≤ 3)) && (namesB (ps.map PR.key) && decide ((ps.length : Int) ≤ 3))
theorem range_all (p : Nat → Bool) (j : Nat) : (List.range (j + 1)).all p = ((List.range j).all p && p j) := by
  rw [List.range_succ, List.all_append]; simp
theorem range_bad (p : Nat → Bool) (n j : Nat) (h : j < n) (hb : p j = false) : (List.range n).all p = false := by
  rw [List.all_eq_false]; exact ⟨j, List.mem_range.2 h, by simp [hb]⟩
theorem all_take' {α : Type} (p : α → Bool) (l : List α) (j : Nat) (h : j < l.length) : (l.take (j + 1)).all p = ((l.take j).all p && p l[j]) := by
  rw [List.take_succ_eq_append_getElem h, List.all_append]; simp
theorem all_bad' {α : Type} (p : α → Bool) (l : List α) (j : Nat) (h : j < l.length) (hb : p l[j] = false) : l.all p = false := by
  rw [List.all_eq_false]; exact ⟨l[j], List.getElem_mem h, by simp [hb]⟩
theorem stepB_at (ss : List (List UInt8)) (j : Nat) (h : j < ss.length) : stepB ss j = (nameB ss[j] && (j == 0 || Op.bytesLess (ss.getD (j - 1) []) ss[j])) := by
  unfold stepB; rw [List.getD_eq_getElem?_getD, List.getElem?_eq_getElem h]; rfl
set_option maxHeartbeats 4000000 in
theorem areNames_c (ss : List (List UInt8)) (sv : Value) (most : Int) (w : World) (hr : RowAt w sv (ss.map strV)) (hl : ∀ s ∈ ss, s.length ≤ 9223372036854775807) :
    Calls Tryz.prog 63 #[sv, .int .i64 most] w (Gives w (.bool (namesB ss && decide ((ss.length : Int) ≤ most)))) := by
  obtain ⟨a, c, rfl⟩ := hr.shape
  have hml := hr.1
  have m9 : maxLen = 9223372036854775807 := by decide
  rw [m9] at hml
  rw [List.length_map] at hml hr ⊢
  have H0 : Hid (Keep w (fun W => RowAt W (.slice a ss.length c) (ss.map strV)) w) := Lib.hid ⟨hr, Below.refl _ w, fun w' hb => hr.below hb⟩
  have HL := Lib.hid hl
  have HV : Hid (namesB ss = (List.range ss.length).all (stepB ss)) := Lib.hid rfl
  clear hr hl m9
  generalize namesB ss = r at *
  go_enter Tryz.func63, Tryz.ntmps63
  go_wp2_with fail
  go_loopw [9] (fun i wr => ∃ j : Nat, j ≤ ss.length ∧ i = .int .i64 (j : Int) ∧ (List.range j).all (stepB ss) = true ∧ Keep w (fun W => RowAt W (.slice a ss.length c) (ss.map strV)) wr) (fun i _ => ss.length - (intOf i).toNat)
  case atStart => exact ⟨0, by omega, rfl, rfl, H0.out⟩
  case round =>
    obtain ⟨j, hj, rfl, ht, hkp⟩ := hrel
    have HK := Lib.hid hkp
    by_cases hlt : j < ss.length
    · have HA := Lib.hid (range_all (stepB ss) j)
      have HD := Lib.hid (range_bad (stepB ss) ss.length j hlt)
      have HS := Lib.hid (stepB_at ss j hlt)
      have HN := Lib.hid (fun w => IsName_c ss[j] w (HL.out _ (List.getElem_mem hlt)))
      obtain ⟨B, o, rfl, hx⟩ := str_at hkp.facts j hlt
      have HC1 : Hid (∀ W, RowAt W (.slice (some ⟨B, o, none⟩) ss.length c) (ss.map strV) → W.cell? ⟨B, o + j, none⟩ = some (.string ⟨ss[j].toArray⟩)) := Lib.hid (fun W h => by
        obtain ⟨B', o', he, hz⟩ := str_at h j hlt
        simp only [Option.some.injEq, Addr.mk.injEq, and_true] at he
        obtain ⟨rfl, rfl⟩ := he
        exact hz)
      have hi1 : (j : Int) < (ss.length : Int) := by omega
      clear hkp
      have HT := Lib.hid ht
      clear ht
      cases j with
      | zero =>
        generalize ss[0] = y at *
        generalize nameB y = nb at *
        have hp1 : decide ((0 : Int) < 0) = false := by decide
        rw [show ((0 : Nat) : Int) = 0 from rfl] at *
        have hx0 : wr.cell? ⟨B, o, none⟩ = _ := hx
        cases nb
        · go_wp2_with (first | (go_at_call 37; (with_reducible refine (HN.out _).mono ?_); rintro e wq ⟨rfl, hq⟩; have HT := Lib.hid (Keep.on (Hid.out (by assumption)) hq); clear hq))
          go_ret
          exact ⟨by rw [HV.out, HD.out (by rw [HS.out]; rfl)]; rfl, HT.out.below⟩
        · have HZ : Hid ((List.range 1).all (stepB ss) = true) := Lib.hid (by rw [HA.out, HS.out]; rfl)
          go_wp2_with (first | (go_at_call 37; (with_reducible refine (HN.out _).mono ?_); rintro e wq ⟨rfl, hq⟩; have HT := Lib.hid (Keep.on (Hid.out (by assumption)) hq); clear hq))
          go_roundw
          case rel => exact ⟨1, by omega, by first | rfl | go_num, HZ.out, HT.out⟩
          case measure => simp [intOf]; omega
      | succ m =>
        have HC2 : Hid (∀ W, RowAt W (.slice (some ⟨B, o, none⟩) ss.length c) (ss.map strV) → W.cell? ⟨B, o + m, none⟩ = some (.string ⟨ss[m].toArray⟩)) := Lib.hid (fun W h => by
          obtain ⟨B', o', he, hz⟩ := str_at h m (by omega)
          simp only [Option.some.injEq, Addr.mk.injEq, and_true] at he
          obtain ⟨rfl, rfl⟩ := he
          exact hz)
        have HS2 : Hid (stepB ss (m + 1) = (nameB ss[m + 1] && Op.bytesLess ss[m] ss[m + 1])) := Lib.hid (by rw [HS.out]; simp [List.getD_eq_getElem?_getD, List.getElem?_eq_getElem (show m < ss.length by omega)])
        have hi0 : (0 : Int) < ((m + 1 : Nat) : Int) := by omega
        generalize ss[m + 1] = y at *
        generalize ss[m]'(by omega) = z at *
        generalize nameB y = nb at *
        rw [show ((m + 1 : Nat) : Int) = (m : Int) + 1 by simp] at *
        cases nb
        case false =>
          go_wp2_with (first | (go_at_call 37; (with_reducible refine (HN.out _).mono ?_); rintro e wq ⟨rfl, hq⟩; have HT := Lib.hid (Keep.on (Hid.out (by assumption)) hq); clear hq; have hk := HC2.out _ HT.out.facts))
          go_ret
          exact ⟨by rw [HV.out, HD.out (by rw [HS2.out]; rfl)]; rfl, HT.out.below⟩
        cases hzy : Op.bytesLess z y
        · go_wp2_with (first | (go_at_call 37; (with_reducible refine (HN.out _).mono ?_); rintro e wq ⟨rfl, hq⟩; have HT := Lib.hid (Keep.on (Hid.out (by assumption)) hq); clear hq; have hk := HC2.out _ HT.out.facts))
          go_ret
          exact ⟨by rw [HV.out, HD.out (by rw [HS2.out, hzy]; rfl)]; rfl, HT.out.below⟩
        · have HZ : Hid ((List.range (m + 1 + 1)).all (stepB ss) = true) := Lib.hid (by rw [HA.out, HS2.out, HT.out, hzy]; rfl)
          go_wp2_with (first | (go_at_call 37; (with_reducible refine (HN.out _).mono ?_); rintro e wq ⟨rfl, hq⟩; have HT := Lib.hid (Keep.on (Hid.out (by assumption)) hq); clear hq; have hk := HC2.out _ HT.out.facts))
          go_roundw
          case rel => exact ⟨m + 1 + 1, by omega, by go_num, HZ.out, HT.out⟩
          case measure => simp [intOf]; omega
    · obtain rfl : j = ss.length := by omega
      have HZ : Hid (r = true) := Lib.hid (by rw [HV.out]; exact ht)
      clear hkp ht
      go_wp2_with fail
      go_ret
      exact ⟨by rw [HZ.out]; rfl, HK.out.below⟩
theorem owns_below {w w' : World} {B : Nat} {e : TypeId} {k n : Nat} {v : Value} {xs : List Value} (h : w.ownsRow B e k v n xs) (hb : Below w.heap.size w w') : w'.ownsRow B e k v n xs := by
  refine ⟨h.1, ?_⟩
  rcases h.2 with h' | ⟨g, cap, cur, rfl, hbg, hg, rest⟩
  · exact .inl h'
  · exact .inr ⟨g, cap, cur, rfl, hbg, (hb.block g (Array.getElem?_eq_some_iff.1 hg).1).trans hg, rest⟩
/-- j keys laid. -/
def FN (w : World) (v1 v2 : Value) (ps : List PR) (va : Option Addr) (vc j : Nat) (wr : World) : Prop :=
  wr.ownsRow (w.heap.size + 1) 9 1 (.slice va j vc) j ((ps.take j).map (fun p => strV p.key)) ∧ Blk wr w.heap.size [v1, v2] ∧ Below w.heap.size w wr ∧ w.heap.size + 1 ≤ wr.heap.size
theorem key_snoc (ps : List PR) (j : Nat) (h : j < ps.length) : (ps.take (j + 1)).map (fun p => strV p.key) = (ps.take j).map (fun p => strV p.key) ++ [strV ps[j].key] := by
  rw [List.take_succ_eq_append_getElem h, List.map_append]; rfl
theorem FN.below {w : World} {v1 v2 : Value} {ps : List PR} {va : Option Addr} {vc j : Nat} {X Y : World} (h : FN w v1 v2 ps va vc j X) (hb : Below X.heap.size X Y) : FN w v1 v2 ps va vc j Y :=
  ⟨owns_below h.1 hb, h.2.1.below hb, h.2.2.1.trans (hb.mono h.2.2.1.size), Nat.le_trans h.2.2.2 hb.size⟩
theorem FN.next {w : World} {v1 v2 : Value} {ps : List PR} {va va' : Option Addr} {vc vc' j : Nat} {X Y w6 : World} {o : Obj} {row : Option Nat} (hj : j < ps.length) (h : FN w v1 v2 ps va vc j X) (hrow : row = (Value.slice va j vc).ownBlock)
    (hown : w6.ownsRow (w.heap.size + 1) 9 1 (.slice va' (j + 1) vc') (j + 1) ((ps.take j).map (fun p => strV p.key) ++ [strV ps[j].key])) (hgr : (X.alloc o).grownBy w6 row) : FN w v1 v2 ps va' vc' (j + 1) w6 := by
  have hne : row ≠ some w.heap.size := by rw [hrow]; intro hh; have := (h.1.lt _ hh).1; omega
  refine ⟨by rw [key_snoc ps j hj]; exact hown, (h.2.1.alloc o).grown hgr hne, ?_, by have := hgr.size; have := h.2.2.2; simp at *; omega⟩
  refine (h.2.2.1.alloc (by have := h.2.2.2; omega) o).grown hgr (by have := h.2.2.2; simp; omega) (fun q hq => ?_)
  rw [hrow] at hq
  have := (h.1.lt _ hq).1; omega
theorem nodeB_eq (ss : List (List UInt8)) (ps : List PR) : nodeB ss ps = (ps.all (fun p => isV p.v && !(p.v.k == 0)) && (namesB ss && decide ((ss.length : Int) ≤ 3)) && (namesB (ps.map PR.key) && decide ((ps.length : Int) ≤ 3))) := rfl
set_option maxRecDepth 100000 in
set_option maxHeartbeats 8000000 in
theorem IsNode_c (ss : List (List UInt8)) (ps : List PR) (sv pv : Value) (w : World) (hs : RowAt w sv (ss.map strV)) (hp : RowK 6 w pv (ps.map PR.cells)) (hl : ∀ s ∈ ss, s.length ≤ 9223372036854775807) (hq : ∀ p ∈ ps, p.key.length ≤ 9223372036854775807) (hb : ps.length ≤ 4398046511104) :
    Calls Tryz.prog 38 #[.agg #[sv, pv]] w (Gives w (.bool (nodeB ss ps))) := by
  obtain ⟨a1, c1, rfl⟩ := hs.shape
  obtain ⟨a2, c2, rfl, _⟩ := hp.shape
  rw [List.length_map] at hs hp ⊢
  rw [List.length_map]
  have HV := Lib.hid (nodeB_eq ss ps)
  generalize nodeB ss ps = r at *
  have HS := Lib.hid hs
  have HP := Lib.hid hp
  have HA1 := Lib.hid (fun W (h : RowAt W (.slice a1 ss.length c1) (ss.map strV)) => areNames_c ss _ 3 W h hl)
  have HA2 := Lib.hid (fun W v (h : RowAt W v ((ps.map PR.key).map strV)) => areNames_c (ps.map PR.key) v 3 W h (by intro s hs'; obtain ⟨p, hp', rfl⟩ := List.mem_map.1 hs'; exact hq p hp'))
  rw [List.length_map] at HA2
  have HSt : Hid (FN w (.slice a1 ss.length c1) (.slice a2 ps.length c2) ps none 0 0 (w.alloc (.cells #[.slice a1 ss.length c1, .slice a2 ps.length c2] 43))) :=
    Lib.hid ⟨⟨by simp, .inl ⟨rfl, rfl⟩⟩, Blk.new w [.slice a1 ss.length c1, .slice a2 ps.length c2] _, (Below.refl _ w).alloc (Nat.le_refl _) _, by simp⟩
  clear hs hp hl hq
  go_enter Tryz.func38, Tryz.ntmps38
  go_wp2_with fail
  go_loopw [3, 9] (fun u i wr => ∃ j : Nat, j ≤ ps.length ∧ i = .int .i64 (j : Int) ∧ (ps.take j).all (fun p => isV p.v && !(p.v.k == 0)) = true ∧ ∃ va vc, u = .slice va j vc ∧ FN w (.slice a1 ss.length c1) (.slice a2 ps.length c2) ps va vc j wr) (fun _ i _ => ps.length - (intOf i).toNat)
  case atStart => exact ⟨0, by omega, rfl, rfl, none, 0, rfl, HSt.out⟩
  case round =>
    clear HSt
    obtain ⟨j, hj, rfl, ht, va, vc, rfl, hF⟩ := hrel
    have HT0 := Lib.hid ht
    have HF := Lib.hid hF
    clear ht
    by_cases hlt : j < ps.length
    · obtain ⟨B, o, rfl, hB, hx⟩ := row_pr (HP.out.below hF.2.2.1) j hlt
      have HA := Lib.hid (all_take' (fun p : PR => isV p.v && !(p.v.k == 0)) ps j hlt)
      have HD := Lib.hid (all_bad' (fun p : PR => isV p.v && !(p.v.k == 0)) ps j hlt)
      have HI := Lib.hid (fun w => Is_c ps[j].v w)
      have HNX := Lib.hid (fun va' vc' X (w6 : World) (h : FN w (.slice a1 ss.length c1) (.slice (some ⟨B, o, none⟩) ps.length c2) ps va vc j X) h1 (h2 : (X.alloc (.cells #[strV ps[j].key] 9)).grownBy w6 _) => FN.next (va' := va') (vc' := vc') (w6 := w6) (Y := w) hlt h rfl h1 h2)
      have H1 : Hid (Keep w (fun X => FN w (.slice a1 ss.length c1) (.slice (some ⟨B, o, none⟩) ps.length c2) ps va vc j X ∧ Blk X wr.heap.size ps[j].cells) (wr.alloc (.cells ps[j].cells.toArray 49))) := Lib.hid (by
        have h1 := hF.below ((Below.refl _ wr).alloc (Nat.le_refl _) (.cells ps[j].cells.toArray 49))
        have h2 := Blk.new wr ps[j].cells 49
        exact ⟨⟨h1, h2⟩, h1.2.2.1, fun X hb => ⟨h1.below hb, h2.below hb⟩⟩)
      generalize ps[j] = y at *
      obtain ⟨key, ⟨k, b, n, f, t⟩⟩ := y
      have hk := PR.factsAt hx
      have hi1 : (j : Int) < (ps.length : Int) := by omega
      clear hx hF HF
      unfold V5.v at HI
      unfold PR.cells at H1
      dsimp only at HI H1
      generalize isV ⟨k, b, n, f, t⟩ = iv at *
      cases iv
      case false =>
        have HZ : Hid (r = false) := Lib.hid (by rw [HV.out, HD.out rfl]; rfl)
        go_wp2_with (first | (go_at_call 62; (with_reducible refine (HI.out _).mono ?_); rintro e wq ⟨rfl, hq⟩; have HT := Lib.hid (Keep.on (Hid.out (by assumption)) hq); clear hq; have hq := PR.facts HT.out.facts.2))
        go_ret
        exact ⟨by rw [HZ.out]; rfl, HT.out.below⟩
      cases hk0 : (k == 0)
      · have HZ : Hid ((ps.take (j + 1)).all (fun p => isV p.v && !(p.v.k == 0)) = true) := Lib.hid (by rw [HA.out, HT0.out]; simp [hk0])
        go_wp2_with (first | (go_at_call 62; (with_reducible refine (HI.out _).mono ?_); rintro e wq ⟨rfl, hq⟩; have HT := Lib.hid (Keep.on (Hid.out (by assumption)) hq); clear hq; have hq := PR.facts HT.out.facts.2) | (at_builtin; refine wp_appK1 elemS (by decide) rfl _ _ rfl (w.heap.size + 1) j _ _ rfl HT.out.facts.1.1 [strV key] rfl rfl ?_ ?_ ?_ ?_ ?_))
        · simp [strV, Value.oneCell']
        · omega
        · omega
        · have := HT.out.facts.1.2.2.2; omega
        intro v' w6 hown6 hgr hb6
        obtain ⟨va', vc', rfl⟩ := owns_shape hown6
        (try rw [← List.map_take] at hown6)
        have HN := Lib.hid (HNX.out va' vc' _ w6 HT.out.facts.1 hown6 hgr)
        clear hown6 hgr hb6
        go_wp2_with fail
        go_roundw
        case rel => exact ⟨j + 1, by omega, by go_num, HZ.out, va', vc', rfl, HN.out⟩
        case measure => simp [intOf]; omega
      · have HZ : Hid (r = false) := Lib.hid (by rw [HV.out, HD.out (by simp [hk0])]; rfl)
        go_wp2_with (first | (go_at_call 62; (with_reducible refine (HI.out _).mono ?_); rintro e wq ⟨rfl, hq⟩; have HT := Lib.hid (Keep.on (Hid.out (by assumption)) hq); clear hq; have hq := PR.facts HT.out.facts.2))
        go_ret
        exact ⟨by rw [HZ.out]; rfl, HT.out.below⟩
    · obtain rfl : j = ps.length := by omega
      rw [List.take_of_length_le (Nat.le_refl _)] at HT0
      have HZ : Hid (r = ((namesB ss && decide ((ss.length : Int) ≤ 3)) && (namesB (ps.map PR.key) && decide ((ps.length : Int) ≤ 3)))) := Lib.hid (by rw [HV.out, HT0.out]; simp)
      have hrow : RowAt wr (.slice va ps.length vc) ((ps.map PR.key).map strV) := by
        have := RowAt.ofOwns hF.1
        rw [List.take_of_length_le (Nat.le_refl _)] at this
        simpa [Function.comp_def] using this
      have H1 : Hid (Keep w (fun X => RowAt X (.slice a1 ss.length c1) (ss.map strV) ∧ RowAt X (.slice va ps.length vc) ((ps.map PR.key).map strV)) wr) := Lib.hid ⟨⟨HS.out.below hF.2.2.1, hrow⟩, hF.2.2.1, fun X hb => ⟨(HS.out.below hF.2.2.1).below hb, hrow.below hb⟩⟩
      have hb0 := hF.2.1.cell 0 _ rfl
      clear hF HF hrow
      generalize (namesB ss && decide ((ss.length : Int) ≤ 3)) = r1 at *
      generalize (namesB (ps.map PR.key) && decide ((ps.length : Int) ≤ 3)) = r2 at *
      cases r1
      all_goals
        go_wp2_with (first | (go_at_call 63; (with_reducible refine (HA1.out _ H1.out.facts.1).mono ?_); rintro e wq ⟨rfl, hq⟩; have HT := Lib.hid (Keep.on H1.out hq); clear hq) | (go_at_call 63; (with_reducible refine (HA2.out _ _ HT.out.facts.2).mono ?_); rintro e wq ⟨rfl, hq⟩; have HT := Lib.hid (Keep.on HT.out hq); clear hq))
        go_ret
        exact ⟨by rw [HZ.out]; rfl, HT.out.below⟩
theorem isIn_c (n lo hi : Int) (w : World) : Calls Tryz.prog 40 #[.int .i64 n, .int .i64 lo, .int .i64 hi] w fun e w' => e = .returned (.bool (decide (lo ≤ n) && decide (n ≤ hi))) ∧ w = w' := by
  cases h1 : decide (lo ≤ n)
  all_goals
    go_enter Tryz.func40, Tryz.ntmps40
    go_wp2_with fail
    go_ret
    exact ⟨by first | rfl | simp, by first | rfl | trivial⟩
set_option maxHeartbeats 4000000 in
theorem IsEdge_c (e : ED) (w : World) (hl : e.t.length ≤ 9223372036854775807) : Calls Tryz.prog 65 #[e.v] w (Gives w (.bool (okED e))) := by
  have HN := Lib.hid (fun w => IsName_c e.t w hl)
  have I1 := Lib.hid (fun w => isIn_c e.a 1 24 w)
  have I2 := Lib.hid (fun w => isIn_c e.b 1 24 w)
  have HE : Hid (okED e = ((decide (1 ≤ e.a) && decide (e.a ≤ 24)) && (decide (1 ≤ e.b) && decide (e.b ≤ 24)) && nameB e.t && weightB e.w)) := Lib.hid (by simp [okED, Bool.and_assoc])
  clear hl
  generalize okED e = r at *
  generalize nameB e.t = nb at *
  generalize (decide (1 ≤ e.a) && decide (e.a ≤ 24)) = b1 at *
  generalize (decide (1 ≤ e.b) && decide (e.b ≤ 24)) = b2 at *
  obtain ⟨a, b, t, x⟩ := e
  have H0 := Lib.hid (Keep.one w (⟨a, b, t, x⟩ : ED).cells 39)
  unfold ED.v
  unfold ED.cells at H0
  cases b1 <;> cases b2 <;> cases nb
  all_goals
    go_enter Tryz.func65, Tryz.ntmps65
    go_wp2_with (first | (go_at_call 37; (with_reducible refine (HN.out _).mono ?_); rintro e wq ⟨rfl, hq⟩; have HT := Lib.hid (Keep.on (Hid.out (by assumption)) hq); clear hq; have hk := ED.facts HT.out.facts) | (go_at_call 40; (with_reducible refine (I1.out _).mono ?_); rintro e wq ⟨rfl, rfl⟩) | (go_at_call 40; (with_reducible refine (I2.out _).mono ?_); rintro e wq ⟨rfl, rfl⟩) | (go_at_call 87; (with_reducible refine (Weight_c _ _).mono ?_); rintro e wq ⟨rfl, rfl⟩))
    go_ret
    first
    | exact ⟨by rw [HE.out]; first | rfl | (simp [*]; done), HT.out.below⟩
    | exact ⟨by rw [HE.out]; first | rfl | (simp [*]; done), H0.out.below⟩
end Go.Proofs.YtmbffncmogpkfaaGreatDoor
