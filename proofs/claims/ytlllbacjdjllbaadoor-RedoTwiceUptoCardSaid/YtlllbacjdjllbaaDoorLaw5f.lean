
/- The laws on package redo: RedoTwice. -/
import Derived.Test.YtlllbacjdjllbaaDoorLaw5e
namespace Go.Proofs.YtlllbacjdjllbaaDoor
open Go Go.Proofs Go.Shelf Go.RowKit Go.Great
set_option linter.unusedVariables false
set_option linter.unusedSimpArgs false

theorem brow_snoc {lo : Nat} {W : World} {v cm : Value} {es : List (List UInt8)} {p : List UInt8} {cells : List Value} (ho : W.ownsRow lo 30 1 v (es.length + 1) (cells ++ [cm])) (hl : cells.length = es.length) (hc : ∀ (i : Nat) e c, es[i]? = some e → cells[i]? = some c → RowAt W c (bytesV e)) (hp : RowAt W cm (bytesV p)) : BRows W v (es ++ [p]) := by
  refine ⟨cells ++ [cm], RowAt.ofOwns ho, by simp [hl], fun i e c he hc' => ?_⟩
  rcases Nat.lt_trichotomy i es.length with hi | rfl | hi
  · rw [List.getElem?_append_left hi] at he
    rw [List.getElem?_append_left (by omega)] at hc'
    exact hc i e c he hc'
  · rw [List.getElem?_append_right (Nat.le_refl _)] at he
    rw [List.getElem?_append_right (by omega)] at hc'
    simp [hl] at he hc'
    subst he hc'
    exact hp
  · rw [List.getElem?_eq_none (by simp; omega)] at he
    cases he
/-- whatever a crash keeps behind an append, done or broken off. -/
theorem lay_keep {l : PL} {d : PD} {es es' : List (List UInt8)} (h : Gd l d es) {p b0 : List UInt8} {k : Nat} {count : Int} (hl : Laid l.head (encs es) k b0) (he : encs es' = b0 ++ lebStr p) (hb : (b0 ++ lebStr p).length ≤ 64 * bankP d) (hno : l.head.number < 1099511627776) (keep : List Bool) :
    ∃ hd es'', (es'' = es ∨ es'' = es') ∧ Vw d.n (crashS (laysP l d k b0 p count).2.2.good (laysP l d k b0 p count).2.2.wait keep) hd (encs es'') ∧ hd.number ≤ l.head.number + 1 := by
  have hv := writes_view h.view h.sync hl (e := lebStr p) hb (by omega)
  have hform : (laysP l d k b0 p count).2.2 = (writesP d (l.head.number + 1) k (b0 ++ lebStr p) b0.length).2 := by
    unfold laysP
    rw [h.live, if_neg (by decide), if_neg (by omega)]
    split <;> rfl
  rw [hform]
  by_cases hw : (writesP d (l.head.number + 1) k (b0 ++ lebStr p) b0.length).1 = 0
  · obtain ⟨v1, v2⟩ := hv.1 hw
    refine ⟨⟨l.head.number + 1, k, (b0 ++ lebStr p).length⟩, es', .inr rfl, ?_, Int.le_refl _⟩
    rw [v1.2, v1.1, he]
    cases keep <;> exact v2
  · rcases hv.2 hw keep with q | q
    · exact ⟨l.head, es, .inl rfl, q, by omega⟩
    · exact ⟨⟨l.head.number + 1, k, (b0 ++ lebStr p).length⟩, es', .inr rfl, by rw [he]; exact q, Int.le_refl _⟩
theorem app_keep {lo L D g m : Nat} {bv v : Value} {l : PL} {d : PD} {w : World} {es : List (List UInt8)} (h : LDAt lo w L D g m bv v l d) (hg : Gd l d es) (p : List UInt8) (vp : Value) (hp : RowAt w vp (bytesV p)) (hb : (encs es ++ lebStr p).length ≤ 64 * bankP d) (hno : l.head.number < 1099511627776) :
    Calls Tryd.prog 13 #[.pointer (some ⟨L, 0, none⟩), vp] w fun e w' => ∃ r l' d' bv' v', e = .returned (.int .i64 r) ∧ LDAt lo w' L D g m bv' v' l' d' ∧ ChL lo w w' ∧ d'.n = d.n ∧ d'.wait.length ≤ 101 ∧ ∀ keep, ∃ hd es'', (es'' = es ∨ es'' = es ++ [p]) ∧ Vw d.n (crashP d' keep).now hd (encs es'') ∧ hd.number ≤ l.head.number + 1 := by
  have hq : bankP d ≤ 99 := by unfold bankP; have := hg.view.rg.2; omega
  have hpl : p.length ≤ (lebStr p).length := by unfold lebStr; rw [List.length_append]; omega
  have hbk := hg.view.bank
  have y := append_gd hg hb hno
  have z := fun keep => lay_keep (es' := es ++ [p]) (p := p) (b0 := encs es) (k := l.head.bank.toNat) (count := l.count + 1) hg ⟨by omega, .inl ⟨rfl, rfl⟩⟩ (encs_snoc es p) hb hno keep
  rw [← hg.b] at z
  have hb' := hb
  rw [List.length_append] at hb'
  refine (RAppend_c h hg.ok p vp hp (by omega) (by rw [hg.sync.2]; exact Nat.zero_le _)).mono ?_
  rintro e w' ⟨bv', v', rfl, h1, h2⟩
  have y2 := y.2.1
  rw [hg.sync.2] at y2
  exact ⟨_, _, _, bv', v', rfl, h1, h2, y.1, by simpa using y2, z⟩
set_option maxRecDepth 100000 in
set_option maxHeartbeats 16000000 in
theorem RedoTwice_core (v0 : Value) (x0 : List (List UInt8)) (v1 : Value) (x1 : List UInt8) (v2 : Value) (x2 : List Bool) (v3 : Value) (x3 : List UInt8) (w : World) (w0 : BRows w v0 x0) (w1 : RowAt w v1 (bytesV x1)) (w2 : RowAt w v2 (x2.map Value.bool)) (w3 : RowAt w v3 (bytesV x3)) (hS : sumL x0 + x1.length + x3.length ≤ 1048576) :
    Calls Tryd.prog 6 #[v0, v1, v2, v3] w fun e w' => e = .returned (.bool true) ∧ Below w.heap.size w w' := by
  obtain ⟨cells, hcr, hcl, hce⟩ := w0
  obtain ⟨va, vc, rfl⟩ := hcr.shape
  obtain ⟨ka, kc, e3⟩ := w2.shape
  rw [List.length_map] at e3
  subst e3
  obtain ⟨pa1, pc1, rfl⟩ := w1.shapeB
  have HK := Lib.hid w2
  obtain ⟨ma, mc, rfl⟩ := w3.shapeB
  have HM := Lib.hid w3
  have HP := Lib.hid w1
  have HR := Lib.hid hcr
  have HE := Lib.hid hce
  have HS := Lib.hid hS
  obtain ⟨N, hN, hxN⟩ : ∃ N : Nat, cells.length = N ∧ x0.length = N := ⟨_, rfl, hcl.symm⟩
  rw [hN] at HR ⊢
  have HA := Lib.hid (show cells.length = N ∧ x0.length = N from ⟨hN, hxN⟩)
  have hmax : (N : Int) ≤ 9223372036854775807 := by have := hcr.1; rw [show maxLen = 9223372036854775807 by decide] at this; omega
  clear hcr hce hcl w1 w2 w3 hN hxN
  go_enter Tryd.func6, Tryd.ntmps6
  go_wp2_with fail
  go_loopw [9, 10] (fun nn i wr => ∃ j : Nat, i = .int .i64 (j : Int) ∧ j ≤ N ∧ nn = .int .i64 ((x1.length + x3.length + sumL (x0.take j) : Nat) : Int) ∧ Below w.heap.size w wr) (fun _ i _ => N - (intOf i).toNat)
  case atStart => exact ⟨0, rfl, Nat.zero_le _, by simp [sumL], Below.refl _ _⟩
  case round =>
    obtain ⟨j, rfl, hjN, rfl, hbel⟩ := hrel
    have HBE := Lib.hid hbel
    by_cases hj : j < N
    · have hj' : (j : Int) < (N : Int) := by omega
      obtain ⟨B, o, rfl, hB, hx⟩ := (HR.out.below hbel).cellAt j (by have := HA.out.1; omega)
      have HPW := HE.out j (x0[j]'(by have := HA.out.2; omega)) (cells[j]'(by have := HA.out.1; omega)) (List.getElem?_eq_getElem _) (List.getElem?_eq_getElem _)
      have HXJ : Hid (x0[j]? = some (x0[j]'(by have := HA.out.2; omega))) := Lib.hid (List.getElem?_eq_getElem _)
      generalize x0[j]'(by have := HA.out.2; omega) = p at *
      generalize cells[j]'(by have := HA.out.1; omega) = cp at *
      obtain ⟨pa, pc, rfl⟩ := HPW.shapeB
      have hsn : sumL (x0.take (j + 1)) = sumL (x0.take j) + (p.length + 1) := by rw [take_snoc HXJ.out, sumL_app]; simp [sumL]
      have hst := sumL_take x0 (j + 1)
      have HSN := Lib.hid hsn
      obtain ⟨s, hs⟩ : ∃ s : Nat, x1.length + x3.length + sumL (x0.take j) = s := ⟨_, rfl⟩
      have hb2 : s + 1 + p.length ≤ 1048576 := by have := HS.out; omega
      have HSS := Lib.hid hs
      rw [hs]
      clear hsn hst hbel HPW hs
      go_wp2_with fail
      refine ⟨⟨j + 1, rfl, hj, ?_, HBE.out⟩, ?_⟩
      · congr 1
        rw [HSN.out]
        have := HSS.out
        omega
      · simp [intOf]; omega
    · have hj' : ¬ (j : Int) < (N : Int) := by omega
      have hjN' : j = N := by omega
      have ht : x0.take j = x0 := List.take_of_length_le (by have := HA.out.2; omega)
      rw [ht]
      obtain ⟨s, hs⟩ : ∃ s : Nat, x1.length + x3.length + sumL x0 = s := ⟨_, rfl⟩
      rw [hs]
      have hs2 : s ≤ 1048576 := by have := HS.out; omega
      by_cases h1 : 1500 < s
      · have h1' : 1500 < (s : Int) := by omega
        go_wp2_with fail
        go_ret
        exact ⟨rfl, HBE.out⟩
      have h1' : ¬ 1500 < (s : Int) := by omega
      by_cases h2 : 200 < (x2.length : Int)
      · go_wp2_with fail
        go_ret
        exact ⟨rfl, HBE.out⟩
      have CN : Hid (Calls Tryd.prog 10 #[.int .i64 100] wr (NewTo wr 100)) := Lib.hid (New_c wr 100 (by decide))
      have HQ := Lib.hid (show sumL x0 + x1.length + x3.length ≤ 1500 ∧ x2.length ≤ 200 from ⟨by omega, by omega⟩)
      clear hbel hS hs ht
      go_wp2_with (first | (go_at_call 10; (with_reducible refine CN.out.mono ?_); rintro e w1 ⟨D, g, m, rfl, hd, hb1⟩; have HD := Lib.hid hd; have HB := Lib.hid (HBE.out.trans (hb1.mono HBE.out.size)); clear hd hb1) | (go_at_call 11; (with_reducible refine (Open_new HD.out (by decide)).mono ?_); rintro e w2 ⟨L, bv, va2, vc2, rfl, hl, hr, hb2⟩; have H := Lib.hid hl; replace HB := Lib.hid (HB.out.trans (hb2.mono HB.out.size)); clear hl hr hb2) | fail)
      have HT : Hid (AlAt wr.heap.size w w2 L D g m bv (.slice none 0 0) log0 (newP 100) []) := Lib.hid ⟨H.out, Gd.new (by decide) (by decide) (-1), alive_new 100, rfl, by decide, HB.out, HBE.out.size⟩
      clear HD H HB CN
      go_loopw [15] (fun i wt => ∃ (j : Nat) (l : PL) (d : PD) (bv v : Value), i = .int .i64 (j : Int) ∧ j ≤ N ∧ AlAt wr.heap.size w wt L D g m bv v l d (x0.take j)) (fun i _ => N - (intOf i).toNat)
      case atStart => exact ⟨0, _, _, _, _, rfl, Nat.zero_le _, HT.out⟩
      case round =>
        obtain ⟨j, l, d, bv', v', rfl, hjN, hal⟩ := hrel
        have HAL := Lib.hid hal
        by_cases hj : j < N
        · have hj' : (j : Int) < (N : Int) := by omega
          obtain ⟨B, o, rfl, hB, hx⟩ := (HR.out.below hal.bel).cellAt j (by have := HA.out.1; omega)
          have HPW := HE.out j (x0[j]'(by have := HA.out.2; omega)) (cells[j]'(by have := HA.out.1; omega)) (List.getElem?_eq_getElem _) (List.getElem?_eq_getElem _)
          have HXJ : Hid (x0[j]? = some (x0[j]'(by have := HA.out.2; omega))) := Lib.hid (List.getElem?_eq_getElem _)
          generalize x0[j]'(by have := HA.out.2; omega) = p at *
          generalize cells[j]'(by have := HA.out.1; omega) = cp at *
          have HTS := Lib.hid (take_snoc HXJ.out)
          have HAP := Lib.hid (HAL.out.app p (by rw [← HTS.out]; have := sumL_take x0 (j + 1); have := HQ.out.1; omega) cp (HPW.below hal.bel))
          obtain ⟨pa, pc, rfl⟩ := HPW.shapeB
          clear hal HPW
          go_wp2_with (first | (go_at_call 13; (with_reducible refine (HAP.out).mono ?_); rintro e w5 ⟨bv5, v5, l5, d5, rfl, ho5, hc5⟩; have HO5 := Lib.hid ho5; clear ho5 hc5) | fail)
          refine ⟨⟨j + 1, l5, d5, bv5, v5, rfl, hj, by rw [HTS.out]; exact HO5.out⟩, ?_⟩
          simp [intOf]; omega
        · have hj' : ¬ (j : Int) < (N : Int) := by omega
          have ht : x0.take j = x0 := List.take_of_length_le (by have := HA.out.2; omega)
          rw [ht] at HAL
          clear hal ht
          have hone : ∀ u ∈ cells, u.oneCell' = true := rows_one (w := w) (v := .slice none 0 0) (fun c hc => by
            obtain ⟨i, hi, rfl⟩ := List.getElem_of_mem hc
            exact ⟨_, HE.out i (x0[i]'(by have := HA.out; omega)) _ (List.getElem?_eq_getElem _) (List.getElem?_eq_getElem _)⟩)
          have HON := Lib.hid hone
          have hNs : N ≤ 1500 := by have := encs_count x0; have := HQ.out.1; have := encs_le (l := x0) (by omega); have := HA.out.2; have hh : x0.length ≤ sumL x0 := len_sumL x0; omega
          have HNS := Lib.hid hNs
          clear hone hNs
          go_wp2_with (first | (go_at_call 12; (with_reducible refine (ldFuse HAL.out.ld _ (by decide)).mono ?_); rintro e wf ⟨rfl, hl, hc⟩; have H3 := Lib.hid hl; have HB3 := Lib.hid (hc.below HAL.out.bel HAL.out.lo); clear hl hc) | fail)
          have HG := Lib.hid (HAL.out.gd.fuse (max 2 (-1)))
          have HB49 : Hid (bankP { d with fuse := max 2 (-1) } = 49) := Lib.hid (by have := HAL.out.n; simp [bankP, this])
          have HFA : Hid ((encs x0 ++ lebStr x1).length ≤ 64 * bankP { d with fuse := max 2 (-1) }) := Lib.hid (by
            have h1 := HQ.out.1
            have h2 := encs_le (l := x0) (by omega)
            have h3 := lebStr_len2 x1 (by omega)
            rw [List.length_append, HB49.out]; omega)
          have HNO : Hid (l.head.number < 1099511627776) := Lib.hid (by have := HAL.out.no; have := HNS.out; have := HA.out.2; omega)
          have HAP := Lib.hid (app_keep H3.out HG.out x1 _ (HP.out.below HB3.out) HFA.out HNO.out)
          with_reducible refine (HAP.out).mono ?_
          rintro e w8 ⟨r, l8, d8, bv8, v8, rfl, h8, hc8, hn8, hw8, hlay⟩
          have HB8 := Lib.hid (hc8.below HB3.out HAL.out.lo)
          have HCR := Lib.hid (Crash_c h8.drum x2 ka kc (HK.out.below HB8.out) (by omega))
          have hcn : (crashP d8 x2).n = d.n := hn8
          have hc100 : (crashP d8 x2).n = 100 := hcn.trans HAL.out.n
          obtain ⟨hd, es, hes, hv, hnum⟩ := hlay x2
          have hv : Vw (crashP d8 x2).n (crashP d8 x2).now hd (encs es) := by rw [hcn]; exact hv
          have HNU : Hid (hd.number < 1099511627776) := Lib.hid (by have h1 := HAL.out.no; have h2 := HNS.out; have h3 := HA.out.2; have h4 : hd.number ≤ l.head.number + 1 := hnum; omega)
          have HV := Lib.hid hv
          have HC100 := Lib.hid hc100
          have HSE : Hid (sumL (es ++ [x3]) ≤ 1502) := Lib.hid (by
            have h1 := HQ.out.1
            rcases hes with rfl | rfl
            · rw [sumL_app]; simp [sumL]; have : sumL es = (es.map (fun x => x.length + 1)).sum := rfl; omega
            · rw [sumL_app, sumL_app]; simp [sumL]; have : sumL x0 = (x0.map (fun x => x.length + 1)).sum := rfl; omega)
          clear h8 hc8 hlay hcn hc100 hes hv hn8 hw8 hnum
          go_wp2_with (first | (go_at_call 20; (with_reducible refine (HCR.out).mono ?_); rintro e w9 ⟨D9, g9, m9, rfl, hd9, hb9⟩; have HD9 := Lib.hid hd9; have HB9 := Lib.hid (HB8.out.trans (hb9.mono HB8.out.size)); clear hd9 hb9) | fail)
          have HLO : Hid (w.heap.size ≤ w8.heap.size) := Lib.hid HB8.out.size
          obtain ⟨M10, hM10⟩ : ∃ M, es.length = M := ⟨_, rfl⟩
          have HMM := Lib.hid hM10
          with_reducible refine (open_of HD9.out HV.out).mono ?_
          rintro e w10 ⟨L10, bv10, va10, vc10, rfl, hl10, hr10, hb10⟩
          rw [hM10] at hr10 ⊢
          have HB10 := Lib.hid (HB9.out.trans (hb10.mono HB9.out.size))
          have HD10 := Lib.hid (HD9.out.below hb10)
          have HX10 := Lib.hid hr10
          clear hl10 hr10 hb10
          go_wp2_with fail
          with_reducible refine (open_of HD10.out HV.out).mono ?_
          rintro e w11 ⟨L11, bv11, va11, vc11, rfl, hl11, hr11, hb11⟩
          rw [hM10] at hr11 ⊢
          have HB11 := Lib.hid (HB10.out.trans (hb11.mono HB10.out.size))
          have HLD := Lib.hid hl11
          have HX11 := Lib.hid (HX10.out.below hb11)
          have HROW := Lib.hid (rows_same HX11.out.b hr11.b)
          have HGC := Lib.hid (Gd.of HV.out (crash_sync d8 x2))
          have HFC : Hid ((encs es ++ lebStr x3).length ≤ 64 * bankP (crashP d8 x2)) := Lib.hid (by
            have h1 := HSE.out
            have h2 := encs_le (l := es ++ [x3]) (by omega)
            have hb : bankP (crashP d8 x2) = 49 := by unfold bankP; rw [HC100.out]
            rw [encs_snoc] at h2
            rw [hb]; omega)
          clear hl11 hr11 hb11 hM10
          go_wp2_with (first | (go_at_call 19; (with_reducible refine (HROW.out).mono ?_); rintro e w12 ⟨rfl, hq⟩; have HB12 := Lib.hid (HB11.out.trans (hq.mono HB11.out.size)); have HAP2 := Lib.hid (app_al (HLD.out.below hq) HGC.out (crash_alive d8 x2) x3 _ (HM.out.below HB12.out) HFC.out HNU.out); have HX12 := Lib.hid (HX11.out.below hq); clear hq) | (go_at_call 13; (with_reducible refine (HAP2.out).mono ?_); rintro e w13 ⟨l13, d13, bv13, v13, rfl, h13, hc13, hg13, ha13, hn13, _⟩; have H13 := Lib.hid h13; have HG13 := Lib.hid hg13; have HB13 := Lib.hid (hc13.below HB12.out HLO.out); have HX13 := Lib.hid (HX12.out.chl hc13); clear h13 hc13 hg13 ha13 hn13) | fail)
          obtain ⟨M14, hM14⟩ : ∃ M, (es ++ [x3]).length = M := ⟨_, rfl⟩
          with_reducible refine (open_of H13.out.drum HG13.out.view).mono ?_
          rintro e w14 ⟨L14, bv14, va14, vc14, rfl, hl14, hr14, hb14⟩
          rw [hM14] at hr14 ⊢
          have HB14 := Lib.hid (HB13.out.trans (hb14.mono HB13.out.size))
          obtain ⟨xc, hxo, hxc⟩ := HX13.out.below hb14
          have HXO := Lib.hid hxo
          have HXC := Lib.hid hxc
          have HZ := Lib.hid hr14
          have hxl : xc.length = M10 := by have h1 := hxo.1; have h2 := HMM.out; omega
          have HXL := Lib.hid hxl
          have HON2 := Lib.hid (rows_one (w := w14) (v := .slice none 0 0) (fun c hc => by
            obtain ⟨i, hi, rfl⟩ := List.getElem_of_mem hc
            exact ⟨_, (hxc i (es[i]'(by have := HMM.out; omega)) _ (List.getElem?_eq_getElem _) (List.getElem?_eq_getElem _)).1⟩))
          have HMB : Hid (M10 ≤ 1502) := Lib.hid (by have h1 := HSE.out; have h2 := len_sumL (es ++ [x3]); have h3 := HMM.out; rw [List.length_append] at h2; omega)
          clear hl14 hr14 hb14 hxo hxc hM14 hxl
          go_wp2_with (first | (at_builtin; refine wp_app0 elemR1 rfl _ _ rfl w14.heap.size _ rfl (owns_empty w14 _) (.slice va10 M10 vc10) xc M10 HXL.out rfl ((RowAt.ofOwns HXO.out).below ((Below.refl _ w14).alloc (Nat.le_refl _) _)) HON2.out (by have := HMB.out; omega) (by have := HMB.out; omega) (by simp) ?_; intro va15 vc15 w15 hown5 hb5; have HO5 := Lib.hid hown5; have HB5 := Lib.hid (((Below.refl _ w14).alloc (Nat.le_refl _) (.cells #[] 30)).trans hb5); clear hown5 hb5) | (at_builtin; refine wp_appK1 elemRs (by decide) rfl _ _ rfl w14.heap.size M10 _ xc rfl HO5.out [.slice ma x3.length mc] rfl rfl (by intro u hu; rw [List.mem_singleton.1 hu]; rfl) (by have := HMB.out; omega) (by have := HMB.out; omega) HB5.out.size ?_; intro v16 w16 hown7 hgr7 hb7; obtain ⟨va16, vc16, rfl⟩ := owns_shape hown7; have HB16 := Lib.hid (HB5.out.trans hb7); have HB16w := Lib.hid (HB14.out.trans (HB16.out.mono HB14.out.size)); have HROW2 := Lib.hid (rows_same (HZ.out.below HB16.out).b (brow_snoc (v := .slice va16 (M10 + 1) vc16) (by rw [HMM.out]; exact hown7) (by rw [HMM.out]; exact HXL.out) (fun i e c he hc => ((HXC.out i e c he hc).below HB16.out).1) (HM.out.below HB16w.out))); clear hown7 hgr7 hb7) | (go_at_call 19; (with_reducible refine (HROW2.out).mono ?_); rintro e w17 ⟨rfl, hq⟩; have HB17 := Lib.hid (HB16w.out.trans (hq.mono HB16w.out.size)); clear hq) | (go_at_call 16; (with_reducible refine (known5_c _).mono ?_); rintro e wk ⟨rfl, hq⟩; have HBK := Lib.hid (HB17.out.trans (hq.mono HB17.out.size)); clear hq) | fail)
          go_ret
          exact ⟨rfl, HBK.out⟩
end Go.Proofs.YtlllbacjdjllbaaDoor
