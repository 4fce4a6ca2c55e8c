
/- The laws on package redo: RedoLasts. -/
import Derived.Test.YtlllbacjdjllbaaDoorLaw5d
namespace Go.Proofs.YtlllbacjdjllbaaDoor
open Go Go.Proofs Go.Shelf Go.RowKit Go.Great
set_option linter.unusedVariables false
set_option linter.unusedSimpArgs false

theorem wp_app0 {ops : Array Oper} {rest : List Oper} {o : Oper} {a : Act} {Q : Exit → Act → World → Prop} {w : World} {t e : TypeId} {bytes : Nat} (he : Elem1 t e bytes) (hgd : Region.wanted o (yielded ops a.tmps) = true) (s x : Operand) (ho : o.op = .call { callee := .builtin .append, args := #[s, x], argTypes := #[t, t] })
    (B : Nat) (v : Value) (hs : a.eval s = v) (hown : w.ownsRow B e 1 v 0 []) (vx : Value) (us : List Value) (M : Nat) (hM : us.length = M) (hx : a.eval x = vx) (hr : RowAt w vx us) (h1 : ∀ u ∈ us, u.oneCell' = true)
    (hn : M * bytes ≤ 140737488355328) (hm : M ≤ 140737488355328) (hB : B ≤ w.heap.size)
    (h : ∀ va vc w', w'.ownsRow B e 1 (.slice va M vc) M us → Below B w w' → wpList Tryd.prog ops Q rest (a.put o.dst (.slice va M vc)) w') : wpList Tryd.prog ops Q (o :: rest) a w := by
  subst hM
  refine wp_appRow he hgd s x ho B 0 v [] hs hown vx us hx hr h1 (by rw [Nat.zero_add]; exact hn) (by rw [Nat.zero_add]; exact hm) hB ?_
  intro v' w' h2 h3
  rw [Nat.zero_add, List.nil_append] at h2
  obtain ⟨va, vc, rfl⟩ := owns_shape h2
  exact h va vc w' h2 h3
def sumL (l : List (List UInt8)) : Nat := (l.map (fun x => x.length + 1)).sum
theorem sumL_app (a b : List (List UInt8)) : sumL (a ++ b) = sumL a + sumL b := by simp [sumL]
theorem sumL_take (l : List (List UInt8)) (j : Nat) : sumL (l.take j) ≤ sumL l := by
  have h : sumL l = sumL (l.take j) + sumL (l.drop j) := by rw [← sumL_app, List.take_append_drop]
  omega
theorem len_sumL (l : List (List UInt8)) : l.length ≤ sumL l := by
  induction l with
  | nil => exact Nat.zero_le _
  | cons x r ih =>
    have e : sumL (x :: r) = x.length + 1 + sumL r := by simp [sumL]
    rw [e, List.length_cons]; omega
theorem take_snoc {l : List (List UInt8)} {j : Nat} {p : List UInt8} (h : l[j]? = some p) : l.take (j + 1) = l.take j ++ [p] := by rw [List.take_add_one, h]; rfl
theorem sumL_mem {l : List (List UInt8)} {s : List UInt8} (h : s ∈ l) : s.length + 1 ≤ sumL l := by
  induction l with
  | nil => cases h
  | cons x r ih =>
    have e : sumL (x :: r) = x.length + 1 + sumL r := by simp [sumL]
    rw [e]
    rcases List.mem_cons.1 h with rfl | h
    · omega
    · have := ih h; omega
theorem encs_le {l : List (List UInt8)} (h : sumL l ≤ 8000) : (encs l).length ≤ 2 * sumL l := by
  induction l with
  | nil => simp [encs, sumL]
  | cons x r ih =>
    have e : sumL (x :: r) = x.length + 1 + sumL r := by simp [sumL]
    have e2 : encs (x :: r) = lebStr x ++ encs r := by simp [encs]
    rw [e] at h ⊢
    have := lebStr_len2 x (by omega)
    have := ih (by omega)
    rw [e2, List.length_append]
    omega
/-- a log that is appended to while all is well. -/
structure AlAt (lo : Nat) (w0 w : World) (L D g m : Nat) (bv v : Value) (l : PL) (d : PD) (es : List (List UInt8)) : Prop where
  ld : LDAt lo w L D g m bv v l d
  gd : Gd l d es
  al : Alive d
  n : d.n = 100
  no : l.head.number ≤ es.length
  bel : Below w0.heap.size w0 w
  lo : w0.heap.size ≤ lo
theorem AlAt.app {lo : Nat} {w0 w : World} {L D g m : Nat} {bv v : Value} {l : PL} {d : PD} {es : List (List UInt8)} (h : AlAt lo w0 w L D g m bv v l d es) (p : List UInt8) (hq : sumL (es ++ [p]) ≤ 1500) (vp : Value) (hr : RowAt w vp (bytesV p)) :
    Calls Tryd.prog 13 #[.pointer (some ⟨L, 0, none⟩), vp] w fun e w' => ∃ bv' v' l' d', e = .returned (.int .i64 0) ∧ AlAt lo w0 w' L D g m bv' v' l' d' (es ++ [p]) ∧ ChL lo w w' := by
  have he := encs_le (l := es ++ [p]) (by omega)
  have hb : bankP d = 49 := by unfold bankP; rw [h.n]
  have hno := h.no
  have hc := encs_count (es ++ [p])
  rw [encs_snoc] at he hc
  rw [List.length_append, List.length_singleton] at hc
  refine (app_al h.ld h.gd h.al p vp hr (by rw [hb]; omega) (by omega)).mono ?_
  rintro e w' ⟨l', d', bv', v', rfl, h1, h2, h3, h4, h5, h6⟩
  exact ⟨bv', v', l', d', rfl, ⟨h1, h3, h4, h5.trans h.n, by rw [List.length_append, List.length_singleton]; omega, h2.below h.bel h.lo, h.lo⟩, h2⟩
theorem AlAt.below {lo : Nat} {w0 w w' : World} {L D g m : Nat} {bv v : Value} {l : PL} {d : PD} {es : List (List UInt8)} (h : AlAt lo w0 w L D g m bv v l d es) (hb : Below w.heap.size w w') : AlAt lo w0 w' L D g m bv v l d es :=
  ⟨h.ld.below hb, h.gd, h.al, h.n, h.no, h.bel.trans (hb.mono h.bel.size), h.lo⟩
theorem app_dead {lo L D g m : Nat} {bv v : Value} {l : PL} {d : PD} {w : World} (h : LDAt lo w L D g m bv v l d) (hok : l.ok d) (hd : l.dead = true) (hw : d.wait.length ≤ 1099511000000) (p : List UInt8) (vp : Value) (hp : RowAt w vp (bytesV p)) (hpl : p.length ≤ 17592186000000) : Calls Tryd.prog 13 #[.pointer (some ⟨L, 0, none⟩), vp] w fun e w' => e = .returned (.int .i64 9) ∧ ChL lo w w' := by
  refine (RAppend_c h hok p vp hp hpl hw).mono ?_
  rintro e w' ⟨bv', v', rfl, _, hc⟩
  have e : (appendP l d p).1 = 9 := by unfold appendP laysP; rw [if_pos hd]
  rw [e]
  exact ⟨rfl, hc⟩
/-- the fuse is set. -/
theorem Gd.fuse {l : PL} {d : PD} {es : List (List UInt8)} (h : Gd l d es) (n : Int) : Gd l { d with fuse := n } es := ⟨h.view, h.b, h.sync, h.live, h.cnt⟩
theorem PL.ok.dead {l : PL} {d d' : PD} (h : l.ok d) (hn : d'.n = d.n) : ({ l with dead := true } : PL).ok d' := ⟨by rw [hn]; exact h.n, h.no, h.bank, by rw [bankP_n hn]; exact h.len, h.count⟩
set_option maxRecDepth 100000 in
set_option maxHeartbeats 16000000 in
theorem RedoLasts_core (v0 : Value) (x0 : List (List UInt8)) (v1 : Value) (x1 : List UInt8) (a2 : Bool) (a3 : Int) (v4 : Value) (x4 : List Bool) (w : World) (w0 : BRows w v0 x0) (w1 : RowAt w v1 (bytesV x1)) (w3 : (Lit.int .i64 a3).wf = true) (w4 : RowAt w v4 (x4.map Value.bool)) (hS : sumL x0 + x1.length ≤ 1048576) :
    Calls Tryd.prog 8 #[v0, v1, .bool a2, .int .i64 a3, v4] w fun e w' => e = .returned (.bool true) ∧ Below w.heap.size w w' := by
  obtain ⟨cells, hcr, hcl, hce⟩ := w0
  obtain ⟨va, vc, rfl⟩ := hcr.shape
  obtain ⟨ka, kc, e3⟩ := w4.shape
  rw [List.length_map] at e3
  subst e3
  obtain ⟨pa1, pc1, rfl⟩ := w1.shapeB
  have HK := Lib.hid w4
  have HP := Lib.hid w1
  have HR := Lib.hid hcr
  have HE := Lib.hid hce
  have HS := Lib.hid hS
  obtain ⟨N, hN, hxN⟩ : ∃ N : Nat, cells.length = N ∧ x0.length = N := ⟨_, rfl, hcl.symm⟩
  rw [hN] at HR ⊢
  have HA := Lib.hid (show cells.length = N ∧ x0.length = N from ⟨hN, hxN⟩)
  have hmax : (N : Int) ≤ 9223372036854775807 := by have := hcr.1; rw [show maxLen = 9223372036854775807 by decide] at this; omega
  clear hcr hce hcl w1 w4 hN hxN
  go_enter Tryd.func8, Tryd.ntmps8
  go_wp2_with fail
  go_loopw [11, 12] (fun nn i wr => ∃ j : Nat, i = .int .i64 (j : Int) ∧ j ≤ N ∧ nn = .int .i64 ((x1.length + sumL (x0.take j) : Nat) : Int) ∧ Below w.heap.size w wr) (fun _ i _ => N - (intOf i).toNat)
  case atStart => exact ⟨0, rfl, Nat.zero_le _, by simp [sumL], Below.refl _ _⟩
  case round =>
    obtain ⟨j, rfl, hjN, rfl, hbel⟩ := hrel
    have HBE := Lib.hid hbel
    by_cases hj : j < N
    · have hj' : (j : Int) < (N : Int) := by omega
      obtain ⟨B, o, rfl, hB, hx⟩ := (HR.out.below hbel).cellAt j (by have := HA.out.1; omega)
      have HPW := HE.out j (x0[j]'(by have := HA.out.2; omega)) (cells[j]'(by have := HA.out.1; omega)) (List.getElem?_eq_getElem _) (List.getElem?_eq_getElem _)
      have HXJ : Hid (x0[j]? = some (x0[j]'(by have := HA.out.2; omega))) := Lib.hid (List.getElem?_eq_getElem _)
      generalize x0[j]'(by have := HA.out.2; omega) = p at *
      generalize cells[j]'(by have := HA.out.1; omega) = cp at *
      obtain ⟨pa, pc, rfl⟩ := HPW.shapeB
      have hsn : sumL (x0.take (j + 1)) = sumL (x0.take j) + (p.length + 1) := by rw [take_snoc HXJ.out, sumL_app]; simp [sumL]
      have hst := sumL_take x0 (j + 1)
      have HSN := Lib.hid hsn
      obtain ⟨s, hs⟩ : ∃ s : Nat, x1.length + sumL (x0.take j) = s := ⟨_, rfl⟩
      have hb2 : s + 1 + p.length ≤ 1048576 := by have := HS.out; omega
      have HSS := Lib.hid hs
      rw [hs]
      clear hsn hst hbel HPW hs
      go_wp2_with fail
      refine ⟨⟨j + 1, rfl, hj, ?_, HBE.out⟩, ?_⟩
      · congr 1
        rw [HSN.out]
        have := HSS.out
        omega
      · simp [intOf]; omega
    · have hj' : ¬ (j : Int) < (N : Int) := by omega
      have hjN' : j = N := by omega
      have ht : x0.take j = x0 := List.take_of_length_le (by have := HA.out.2; omega)
      rw [ht]
      obtain ⟨s, hs⟩ : ∃ s : Nat, x1.length + sumL x0 = s := ⟨_, rfl⟩
      rw [hs]
      have hs2 : s ≤ 1048576 := by have := HS.out; omega
      by_cases h1 : 1500 < s
      · have h1' : 1500 < (s : Int) := by omega
        go_wp2_with fail
        go_ret
        exact ⟨rfl, HBE.out⟩
      have h1' : ¬ 1500 < (s : Int) := by omega
      by_cases h2 : 200 < (x4.length : Int)
      · go_wp2_with fail
        go_ret
        exact ⟨rfl, HBE.out⟩
      by_cases h3 : a3 < 0
      · go_wp2_with fail
        go_ret
        exact ⟨rfl, HBE.out⟩
      by_cases h4 : 40 < a3
      · go_wp2_with fail
        go_ret
        exact ⟨rfl, HBE.out⟩
      have CN : Hid (Calls Tryd.prog 10 #[.int .i64 100] wr (NewTo wr 100)) := Lib.hid (New_c wr 100 (by decide))
      have HQ := Lib.hid (show sumL x0 + x1.length ≤ 1500 ∧ a3 ≤ 40 from ⟨by omega, by omega⟩)
      clear hbel w3 hS hs ht
      go_wp2_with (first | (go_at_call 10; (with_reducible refine CN.out.mono ?_); rintro e w1 ⟨D, g, m, rfl, hd, hb1⟩; have HD := Lib.hid hd; have HB := Lib.hid (HBE.out.trans (hb1.mono HBE.out.size)); clear hd hb1) | (go_at_call 11; (with_reducible refine (Open_new HD.out (by decide)).mono ?_); rintro e w2 ⟨L, bv, va2, vc2, rfl, hl, hr, hb2⟩; have H := Lib.hid hl; replace HB := Lib.hid (HB.out.trans (hb2.mono HB.out.size)); clear hl hr hb2) | fail)
      have HT : Hid (AlAt wr.heap.size w w2 L D g m bv (.slice none 0 0) log0 (newP 100) []) := Lib.hid ⟨H.out, Gd.new (by decide) (by decide) (-1), alive_new 100, rfl, by decide, HB.out, HBE.out.size⟩
      clear HD H HB CN
      go_loopw [17] (fun i wt => ∃ (j : Nat) (l : PL) (d : PD) (bv v : Value), i = .int .i64 (j : Int) ∧ j ≤ N ∧ AlAt wr.heap.size w wt L D g m bv v l d (x0.take j)) (fun i _ => N - (intOf i).toNat)
      case atStart => exact ⟨0, _, _, _, _, rfl, Nat.zero_le _, HT.out⟩
      case round =>
        obtain ⟨j, l, d, bv', v', rfl, hjN, hal⟩ := hrel
        have HAL := Lib.hid hal
        by_cases hj : j < N
        · have hj' : (j : Int) < (N : Int) := by omega
          obtain ⟨B, o, rfl, hB, hx⟩ := (HR.out.below hal.bel).cellAt j (by have := HA.out.1; omega)
          have HPW := HE.out j (x0[j]'(by have := HA.out.2; omega)) (cells[j]'(by have := HA.out.1; omega)) (List.getElem?_eq_getElem _) (List.getElem?_eq_getElem _)
          have HXJ : Hid (x0[j]? = some (x0[j]'(by have := HA.out.2; omega))) := Lib.hid (List.getElem?_eq_getElem _)
          generalize x0[j]'(by have := HA.out.2; omega) = p at *
          generalize cells[j]'(by have := HA.out.1; omega) = cp at *
          have HTS := Lib.hid (take_snoc HXJ.out)
          have HAP := Lib.hid (HAL.out.app p (by rw [← HTS.out]; have := sumL_take x0 (j + 1); have := HQ.out.1; omega) cp (HPW.below hal.bel))
          obtain ⟨pa, pc, rfl⟩ := HPW.shapeB
          clear hal HPW
          go_wp2_with (first | (go_at_call 13; (with_reducible refine (HAP.out).mono ?_); rintro e w5 ⟨bv5, v5, l5, d5, rfl, ho5, hc5⟩; have HO5 := Lib.hid ho5; clear ho5 hc5) | fail)
          refine ⟨⟨j + 1, l5, d5, bv5, v5, rfl, hj, by rw [HTS.out]; exact HO5.out⟩, ?_⟩
          simp [intOf]; omega
        · have hj' : ¬ (j : Int) < (N : Int) := by omega
          have ht : x0.take j = x0 := List.take_of_length_le (by have := HA.out.2; omega)
          rw [ht] at HAL
          clear hal ht
          have hone : ∀ u ∈ cells, u.oneCell' = true := rows_one (w := w) (v := .slice none 0 0) (fun c hc => by
            obtain ⟨i, hi, rfl⟩ := List.getElem_of_mem hc
            exact ⟨_, HE.out i (x0[i]'(by have := HA.out; omega)) _ (List.getElem?_eq_getElem _) (List.getElem?_eq_getElem _)⟩)
          have HON := Lib.hid hone
          have hNs : N ≤ 1500 := by have := encs_count x0; have := HQ.out.1; have := encs_le (l := x0) (by omega); have := HA.out.2; have hh : x0.length ≤ sumL x0 := len_sumL x0; omega
          have HNS := Lib.hid hNs
          clear hone hNs
          go_wp2_with (first | (go_at_call 12; (with_reducible refine (ldFuse HAL.out.ld _ (by have := HQ.out.2; omega)).mono ?_); rintro e w3 ⟨rfl, hl, hc⟩; have H3 := Lib.hid hl; have HB3 := Lib.hid (hc.below HAL.out.bel HAL.out.lo); clear hl hc) | (at_builtin; refine wp_app0 elemR1 rfl _ _ rfl w3.heap.size _ rfl (owns_empty w3 _) (.slice va N vc) cells N HA.out.1 rfl ((HR.out.below HB3.out).below ((Below.refl _ w3).alloc (Nat.le_refl _) _)) HON.out (by have := HNS.out; omega) (by have := HNS.out; omega) (by simp) ?_; intro va5 vc5 w5 hown5 hb5; have HO5 := Lib.hid hown5; have HB5 := Lib.hid (((Below.refl _ w3).alloc (Nat.le_refl _) (.cells #[] 30)).trans hb5); clear hown5 hb5) | (at_builtin; refine wp_appK1 elemRs (by decide) rfl _ _ rfl w3.heap.size N _ cells rfl HO5.out [.slice pa1 x1.length pc1] rfl rfl (by intro u hu; rw [List.mem_singleton.1 hu]; rfl) (by have := HNS.out; have := HA.out.1; omega) (by have := HNS.out; have := HA.out.1; omega) HB5.out.size ?_; intro v7 w7 hown7 hgr7 hb7; obtain ⟨va7, vc7, rfl⟩ := owns_shape hown7; have HO7 := Lib.hid hown7; have HB7 := Lib.hid (HB5.out.trans hb7); clear hown7 hgr7 hb7) | fail)
          rotate_left
          · skip
            have HBW := Lib.hid (HB3.out.trans (HB7.out.mono HB3.out.size))
            have H7 := Lib.hid (H3.out.below HB7.out)
            have HG := Lib.hid (HAL.out.gd.fuse (max a3 (-1)))
            have HWA := Lib.hid (WantAt.snoc (lo := w.heap.size) (w0 := w) (es := x0) (p := x1) (cp := .slice pa1 x1.length pc1) (cells := cells) (v := .slice va7 (N + 1) vc7) (by have := HA.out; omega) HE.out HP.out (by rw [HA.out.2]; exact HO7.out) (HB3.out.size))
            have HXB := Lib.hid (fun W (hb : Below w.heap.size w W) => (show BRows W (.slice va N vc) x0 from ⟨cells, HR.out.below hb, by have := HA.out; omega, fun i x c hx hc => (HE.out i x c hx hc).below hb⟩))
            have HBK49 : Hid (bankP { d with fuse := max a3 (-1) } = 49) := Lib.hid (by have := HAL.out.n; simp [bankP, this])
            have HFA : Hid ((encs x0 ++ lebStr x1).length ≤ 64 * bankP { d with fuse := max a3 (-1) }) := Lib.hid (by
              have h1 := HQ.out.1
              have h2 := encs_le (l := x0) (by omega)
              have h3 := lebStr_len2 x1 (by omega)
              rw [List.length_append, HBK49.out]; omega)
            have HFR : Hid ((lebStr x1).length ≤ 64 * bankP { d with fuse := max a3 (-1) }) := Lib.hid (by have := HFA.out; rw [List.length_append] at this; omega)
            have HNO : Hid (l.head.number < 1099511627776) := Lib.hid (by have := HAL.out.no; have := HNS.out; have := HA.out.2; omega)
            have HAP := Lib.hid (app_lay H7.out HG.out x1 _ (HP.out.below HBW.out) HFA.out HNO.out (by rw [HG.out.sync.2]; exact Nat.zero_le _))
            with_reducible refine (HAP.out).mono ?_
            rintro e w8 ⟨r, l8, d8, bv8, v8, rfl, h8, hc8, hn8, hw8, hlay⟩
            have HB8 := Lib.hid (hc8.below HBW.out HAL.out.lo)
            have HW8 := Lib.hid (HWA.out.chl hc8)
            clear hc8
            have H8 := Lib.hid h8
            have HWT : Hid (d8.wait.length ≤ 1099511000000) := Lib.hid (by have h1 : d8.wait.length ≤ d.wait.length + 101 := hw8; rw [HAL.out.gd.sync.2] at h1; simp at h1; omega)
            have HCR := Lib.hid (Crash_c h8.drum x4 ka kc (HK.out.below HB8.out) (by have := HWT.out; omega))
            have hn8' : d8.n = 100 := hn8.trans HAL.out.n
            clear h8
            rcases hlay with ⟨rfl, _, hgd⟩ | ⟨rfl, hle, hrd⟩
            · have HG8 := Lib.hid hgd
              clear hgd
              go_wp2_with (first | (go_at_call 20; (with_reducible refine (HCR.out).mono ?_); rintro e w9 ⟨D9, g9, m9, rfl, hd9, hb9⟩; have HD9 := Lib.hid hd9; have HB9 := Lib.hid (HB8.out.trans (hb9.mono HB8.out.size)); have H9 := Lib.hid (H8.out.below hb9); have HW9 := Lib.hid (HW8.out.below hb9); clear hd9 hb9) | fail)
              have hv : Vw (crashP d8 x4).n (crashP d8 x4).now l8.head (encs (x0 ++ [x1])) := by
                obtain ⟨c1, c2⟩ := crash_none HG8.out.sync x4
                rw [c1, c2]
                exact HG8.out.view
              with_reducible refine (open_of HD9.out hv).mono ?_
              rintro e w10 ⟨L10, bv10, va10, vc10, rfl, hl10, hr10, hb10⟩
              obtain ⟨M10, hM10⟩ : ∃ M, ((x0 ++ [x1]) : List (List UInt8)).length = M := ⟨_, rfl⟩
              rw [hM10] at hr10 ⊢
              clear hM10
              have HBL := Lib.hid (HB9.out.trans (hb10.mono HB9.out.size))
              have HLL := Lib.hid (H9.out.below hb10)
              have HWW := Lib.hid (HW9.out.below hb10)
              have HROW := Lib.hid (rows_same hr10.b (HWW.out.b HBL.out))
              clear hl10 hr10 hb10
              go_wp2_with (first | (go_at_call 19; (with_reducible refine (HROW.out).mono ?_); rintro e wo ⟨rfl, hq⟩; replace HBL := Lib.hid (HBL.out.trans (hq.mono HBL.out.size)); replace HLL := Lib.hid (HLL.out.below hq); clear hq) | (go_at_call 16; (with_reducible refine (known5_c _).mono ?_); rintro e wk ⟨rfl, hq⟩; have HBK := Lib.hid (HBL.out.trans (hq.mono HBL.out.size)); clear hq) | fail)
              go_ret
              exact ⟨rfl, HBK.out⟩
            · have HR8 := Lib.hid hrd
              have hle' : l8 = { l with dead := true } := hle
              subst hle'
              have HDK := Lib.hid (HAL.out.gd.ok.dead (d' := d8) hn8)
              clear hrd hle
              go_wp2_with (first | (go_at_call 20; (with_reducible refine (HCR.out).mono ?_); rintro e w9 ⟨D9, g9, m9, rfl, hd9, hb9⟩; have HD9 := Lib.hid hd9; have HB9 := Lib.hid (HB8.out.trans (hb9.mono HB8.out.size)); have H9 := Lib.hid (H8.out.below hb9); have HW9 := Lib.hid (HW8.out.below hb9); clear hd9 hb9) | fail)
              have hcn : (crashP d8 x4).n = d.n := hn8
              by_cases hxe : x0 = x0 ++ [x1]
              · have hv : ∃ hd, Vw (crashP d8 x4).n (crashP d8 x4).now hd (encs (x0 ++ [x1])) := by
                  rw [hcn]
                  rcases HR8.out x4 with h | h
                  · rw [← hxe]; exact h
                  · exact h
                obtain ⟨hd, hv⟩ := hv
                clear hxe
                with_reducible refine (open_of HD9.out hv).mono ?_
                rintro e w10 ⟨L10, bv10, va10, vc10, rfl, hl10, hr10, hb10⟩
                obtain ⟨M10, hM10⟩ : ∃ M, ((x0 ++ [x1]) : List (List UInt8)).length = M := ⟨_, rfl⟩
                rw [hM10] at hr10 ⊢
                clear hM10
                have HBL := Lib.hid (HB9.out.trans (hb10.mono HB9.out.size))
                have HLL := Lib.hid (H9.out.below hb10)
                have HWW := Lib.hid (HW9.out.below hb10)
                have HROW := Lib.hid (rows_same hr10.b (HWW.out.b HBL.out))
                clear hl10 hr10 hb10
                go_wp2_with (first | (go_at_call 19; (with_reducible refine (HROW.out).mono ?_); rintro e wo ⟨rfl, hq⟩; replace HBL := Lib.hid (HBL.out.trans (hq.mono HBL.out.size)); replace HLL := Lib.hid (HLL.out.below hq); clear hq) | (go_at_call 13; (with_reducible refine (app_dead HLL.out HDK.out rfl HWT.out x1 _ (HP.out.below HBL.out) (by have := HQ.out.1; omega)).mono ?_); rintro e wl ⟨rfl, hc⟩; replace HBL := Lib.hid (hc.below HBL.out HAL.out.lo); clear hc) | (go_at_call 16; (with_reducible refine (known5_c _).mono ?_); rintro e wk ⟨rfl, hq⟩; have HBK := Lib.hid (HBL.out.trans (hq.mono HBL.out.size)); clear hq) | fail)
                go_ret
                exact ⟨rfl, HBK.out⟩
              · have HXE := Lib.hid hxe
                clear hxe
                rcases HR8.out x4 with ⟨hd, hv0⟩ | ⟨hd, hv0⟩
                · have hv : Vw (crashP d8 x4).n (crashP d8 x4).now hd (encs x0) := by rw [hcn]; exact hv0
                  with_reducible refine (open_of HD9.out hv).mono ?_
                  rintro e w10 ⟨L10, bv10, va10, vc10, rfl, hl10, hr10, hb10⟩
                  obtain ⟨M10, hM10⟩ : ∃ M, (x0 : List (List UInt8)).length = M := ⟨_, rfl⟩
                  rw [hM10] at hr10 ⊢
                  clear hM10
                  have HBL := Lib.hid (HB9.out.trans (hb10.mono HB9.out.size))
                  have HLL := Lib.hid (H9.out.below hb10)
                  have HWW := Lib.hid (HW9.out.below hb10)
                  have HRN := Lib.hid (rows_c hr10.b (HWW.out.b HBL.out))
                  rw [decide_eq_false HXE.out] at HRN
                  have HRU := Lib.hid hr10
                  clear hl10 hr10 hb10
                  go_wp2_with (first | (go_at_call 19; (with_reducible refine (HRN.out).mono ?_); rintro e wo ⟨rfl, hq⟩; replace HBL := Lib.hid (HBL.out.trans (hq.mono HBL.out.size)); replace HLL := Lib.hid (HLL.out.below hq); have HROW := Lib.hid (rows_same (HRU.out.below hq).b (HXB.out _ HBL.out)); clear hq) | (go_at_call 19; (with_reducible refine (HROW.out).mono ?_); rintro e wo ⟨rfl, hq⟩; replace HBL := Lib.hid (HBL.out.trans (hq.mono HBL.out.size)); replace HLL := Lib.hid (HLL.out.below hq); clear hq) | (go_at_call 13; (with_reducible refine (app_dead HLL.out HDK.out rfl HWT.out x1 _ (HP.out.below HBL.out) (by have := HQ.out.1; omega)).mono ?_); rintro e wl ⟨rfl, hc⟩; replace HBL := Lib.hid (hc.below HBL.out HAL.out.lo); clear hc) | (go_at_call 16; (with_reducible refine (known5_c _).mono ?_); rintro e wk ⟨rfl, hq⟩; have HBK := Lib.hid (HBL.out.trans (hq.mono HBL.out.size)); clear hq) | fail)
                  go_ret
                  exact ⟨rfl, HBK.out⟩
                · have hv : Vw (crashP d8 x4).n (crashP d8 x4).now hd (encs (x0 ++ [x1])) := by rw [hcn]; exact hv0
                  with_reducible refine (open_of HD9.out hv).mono ?_
                  rintro e w10 ⟨L10, bv10, va10, vc10, rfl, hl10, hr10, hb10⟩
                  obtain ⟨M10, hM10⟩ : ∃ M, ((x0 ++ [x1]) : List (List UInt8)).length = M := ⟨_, rfl⟩
                  rw [hM10] at hr10 ⊢
                  clear hM10
                  have HBL := Lib.hid (HB9.out.trans (hb10.mono HB9.out.size))
                  have HLL := Lib.hid (H9.out.below hb10)
                  have HWW := Lib.hid (HW9.out.below hb10)
                  have HROW := Lib.hid (rows_same hr10.b (HWW.out.b HBL.out))
                  clear hl10 hr10 hb10
                  go_wp2_with (first | (go_at_call 19; (with_reducible refine (HROW.out).mono ?_); rintro e wo ⟨rfl, hq⟩; replace HBL := Lib.hid (HBL.out.trans (hq.mono HBL.out.size)); replace HLL := Lib.hid (HLL.out.below hq); clear hq) | (go_at_call 13; (with_reducible refine (app_dead HLL.out HDK.out rfl HWT.out x1 _ (HP.out.below HBL.out) (by have := HQ.out.1; omega)).mono ?_); rintro e wl ⟨rfl, hc⟩; replace HBL := Lib.hid (hc.below HBL.out HAL.out.lo); clear hc) | (go_at_call 16; (with_reducible refine (known5_c _).mono ?_); rintro e wk ⟨rfl, hq⟩; have HBK := Lib.hid (HBL.out.trans (hq.mono HBL.out.size)); clear hq) | fail)
                  go_ret
                  exact ⟨rfl, HBK.out⟩
          · skip
            have HBW := Lib.hid (HB3.out.trans (HB7.out.mono HB3.out.size))
            have H7 := Lib.hid (H3.out.below HB7.out)
            have HG := Lib.hid (HAL.out.gd.fuse (max a3 (-1)))
            have HWA := Lib.hid (WantAt.snoc (lo := w.heap.size) (w0 := w) (es := x0) (p := x1) (cp := .slice pa1 x1.length pc1) (cells := cells) (v := .slice va7 (N + 1) vc7) (by have := HA.out; omega) HE.out HP.out (by rw [HA.out.2]; exact HO7.out) (HB3.out.size))
            have HXB := Lib.hid (fun W (hb : Below w.heap.size w W) => (show BRows W (.slice va N vc) x0 from ⟨cells, HR.out.below hb, by have := HA.out; omega, fun i x c hx hc => (HE.out i x c hx hc).below hb⟩))
            have HBK49 : Hid (bankP { d with fuse := max a3 (-1) } = 49) := Lib.hid (by have := HAL.out.n; simp [bankP, this])
            have HFA : Hid ((encs x0 ++ lebStr x1).length ≤ 64 * bankP { d with fuse := max a3 (-1) }) := Lib.hid (by
              have h1 := HQ.out.1
              have h2 := encs_le (l := x0) (by omega)
              have h3 := lebStr_len2 x1 (by omega)
              rw [List.length_append, HBK49.out]; omega)
            have HFR : Hid ((lebStr x1).length ≤ 64 * bankP { d with fuse := max a3 (-1) }) := Lib.hid (by have := HFA.out; rw [List.length_append] at this; omega)
            have HNO : Hid (l.head.number < 1099511627776) := Lib.hid (by have := HAL.out.no; have := HNS.out; have := HA.out.2; omega)
            have HAP := Lib.hid (res_lay H7.out HG.out x1 _ (HP.out.below HBW.out) HFR.out HNO.out (by rw [HG.out.sync.2]; exact Nat.zero_le _))
            with_reducible refine (HAP.out).mono ?_
            rintro e w8 ⟨r, l8, d8, bv8, v8, rfl, h8', hc8, hn8, hw8, hlay⟩
            have HB8' := Lib.hid (hc8.below HBW.out HAL.out.lo)
            have hba : Below w8.heap.size w8 (w8.alloc (.cells #[.slice pa1 x1.length pc1] 30)) := (Below.refl _ w8).alloc (Nat.le_refl _) _
            have HB8 := Lib.hid (HB8'.out.trans (hba.mono HB8'.out.size))
            have h8 := h8'.below hba
            have HW8 : Hid (WantAt w.heap.size w (w8.alloc (.cells #[.slice pa1 x1.length pc1] 30)) (.slice (some ⟨w8.heap.size, 0, none⟩) 1 1) [x1]) := Lib.hid (WantAt.one HP.out HB8'.out.size)
            clear hc8 hba h8'
            have H8 := Lib.hid h8
            have HWT : Hid (d8.wait.length ≤ 1099511000000) := Lib.hid (by have h1 : d8.wait.length ≤ d.wait.length + 101 := hw8; rw [HAL.out.gd.sync.2] at h1; simp at h1; omega)
            have HCR := Lib.hid (Crash_c h8.drum x4 ka kc (HK.out.below HB8.out) (by have := HWT.out; omega))
            have hn8' : d8.n = 100 := hn8.trans HAL.out.n
            clear h8
            rcases hlay with ⟨rfl, _, hgd⟩ | ⟨rfl, hle, hrd⟩
            · have HG8 := Lib.hid hgd
              clear hgd
              go_wp2_with (first | (go_at_call 20; (with_reducible refine (HCR.out).mono ?_); rintro e w9 ⟨D9, g9, m9, rfl, hd9, hb9⟩; have HD9 := Lib.hid hd9; have HB9 := Lib.hid (HB8.out.trans (hb9.mono HB8.out.size)); have H9 := Lib.hid (H8.out.below hb9); have HW9 := Lib.hid (HW8.out.below hb9); clear hd9 hb9) | fail)
              have hv : Vw (crashP d8 x4).n (crashP d8 x4).now l8.head (encs ([x1])) := by
                obtain ⟨c1, c2⟩ := crash_none HG8.out.sync x4
                rw [c1, c2]
                exact HG8.out.view
              with_reducible refine (open_of HD9.out hv).mono ?_
              rintro e w10 ⟨L10, bv10, va10, vc10, rfl, hl10, hr10, hb10⟩
              obtain ⟨M10, hM10⟩ : ∃ M, (([x1]) : List (List UInt8)).length = M := ⟨_, rfl⟩
              rw [hM10] at hr10 ⊢
              clear hM10
              have HBL := Lib.hid (HB9.out.trans (hb10.mono HB9.out.size))
              have HLL := Lib.hid (H9.out.below hb10)
              have HWW := Lib.hid (HW9.out.below hb10)
              have HROW := Lib.hid (rows_same hr10.b (HWW.out.b HBL.out))
              clear hl10 hr10 hb10
              go_wp2_with (first | (go_at_call 19; (with_reducible refine (HROW.out).mono ?_); rintro e wo ⟨rfl, hq⟩; replace HBL := Lib.hid (HBL.out.trans (hq.mono HBL.out.size)); replace HLL := Lib.hid (HLL.out.below hq); clear hq) | (go_at_call 16; (with_reducible refine (known5_c _).mono ?_); rintro e wk ⟨rfl, hq⟩; have HBK := Lib.hid (HBL.out.trans (hq.mono HBL.out.size)); clear hq) | fail)
              go_ret
              exact ⟨rfl, HBK.out⟩
            · have HR8 := Lib.hid hrd
              have hle' : l8 = { l with dead := true } := hle
              subst hle'
              have HDK := Lib.hid (HAL.out.gd.ok.dead (d' := d8) hn8)
              clear hrd hle
              go_wp2_with (first | (go_at_call 20; (with_reducible refine (HCR.out).mono ?_); rintro e w9 ⟨D9, g9, m9, rfl, hd9, hb9⟩; have HD9 := Lib.hid hd9; have HB9 := Lib.hid (HB8.out.trans (hb9.mono HB8.out.size)); have H9 := Lib.hid (H8.out.below hb9); have HW9 := Lib.hid (HW8.out.below hb9); clear hd9 hb9) | fail)
              have hcn : (crashP d8 x4).n = d.n := hn8
              by_cases hxe : x0 = [x1]
              · have hv : ∃ hd, Vw (crashP d8 x4).n (crashP d8 x4).now hd (encs ([x1])) := by
                  rw [hcn]
                  rcases HR8.out x4 with h | h
                  · rw [← hxe]; exact h
                  · exact h
                obtain ⟨hd, hv⟩ := hv
                clear hxe
                with_reducible refine (open_of HD9.out hv).mono ?_
                rintro e w10 ⟨L10, bv10, va10, vc10, rfl, hl10, hr10, hb10⟩
                obtain ⟨M10, hM10⟩ : ∃ M, (([x1]) : List (List UInt8)).length = M := ⟨_, rfl⟩
                rw [hM10] at hr10 ⊢
                clear hM10
                have HBL := Lib.hid (HB9.out.trans (hb10.mono HB9.out.size))
                have HLL := Lib.hid (H9.out.below hb10)
                have HWW := Lib.hid (HW9.out.below hb10)
                have HROW := Lib.hid (rows_same hr10.b (HWW.out.b HBL.out))
                clear hl10 hr10 hb10
                go_wp2_with (first | (go_at_call 19; (with_reducible refine (HROW.out).mono ?_); rintro e wo ⟨rfl, hq⟩; replace HBL := Lib.hid (HBL.out.trans (hq.mono HBL.out.size)); replace HLL := Lib.hid (HLL.out.below hq); clear hq) | (go_at_call 13; (with_reducible refine (app_dead HLL.out HDK.out rfl HWT.out x1 _ (HP.out.below HBL.out) (by have := HQ.out.1; omega)).mono ?_); rintro e wl ⟨rfl, hc⟩; replace HBL := Lib.hid (hc.below HBL.out HAL.out.lo); clear hc) | (go_at_call 16; (with_reducible refine (known5_c _).mono ?_); rintro e wk ⟨rfl, hq⟩; have HBK := Lib.hid (HBL.out.trans (hq.mono HBL.out.size)); clear hq) | fail)
                go_ret
                exact ⟨rfl, HBK.out⟩
              · have HXE := Lib.hid hxe
                clear hxe
                rcases HR8.out x4 with ⟨hd, hv0⟩ | ⟨hd, hv0⟩
                · have hv : Vw (crashP d8 x4).n (crashP d8 x4).now hd (encs x0) := by rw [hcn]; exact hv0
                  with_reducible refine (open_of HD9.out hv).mono ?_
                  rintro e w10 ⟨L10, bv10, va10, vc10, rfl, hl10, hr10, hb10⟩
                  obtain ⟨M10, hM10⟩ : ∃ M, (x0 : List (List UInt8)).length = M := ⟨_, rfl⟩
                  rw [hM10] at hr10 ⊢
                  clear hM10
                  have HBL := Lib.hid (HB9.out.trans (hb10.mono HB9.out.size))
                  have HLL := Lib.hid (H9.out.below hb10)
                  have HWW := Lib.hid (HW9.out.below hb10)
                  have HRN := Lib.hid (rows_c hr10.b (HWW.out.b HBL.out))
                  rw [decide_eq_false HXE.out] at HRN
                  have HRU := Lib.hid hr10
                  clear hl10 hr10 hb10
                  go_wp2_with (first | (go_at_call 19; (with_reducible refine (HRN.out).mono ?_); rintro e wo ⟨rfl, hq⟩; replace HBL := Lib.hid (HBL.out.trans (hq.mono HBL.out.size)); replace HLL := Lib.hid (HLL.out.below hq); have HROW := Lib.hid (rows_same (HRU.out.below hq).b (HXB.out _ HBL.out)); clear hq) | (go_at_call 19; (with_reducible refine (HROW.out).mono ?_); rintro e wo ⟨rfl, hq⟩; replace HBL := Lib.hid (HBL.out.trans (hq.mono HBL.out.size)); replace HLL := Lib.hid (HLL.out.below hq); clear hq) | (go_at_call 13; (with_reducible refine (app_dead HLL.out HDK.out rfl HWT.out x1 _ (HP.out.below HBL.out) (by have := HQ.out.1; omega)).mono ?_); rintro e wl ⟨rfl, hc⟩; replace HBL := Lib.hid (hc.below HBL.out HAL.out.lo); clear hc) | (go_at_call 16; (with_reducible refine (known5_c _).mono ?_); rintro e wk ⟨rfl, hq⟩; have HBK := Lib.hid (HBL.out.trans (hq.mono HBL.out.size)); clear hq) | fail)
                  go_ret
                  exact ⟨rfl, HBK.out⟩
                · have hv : Vw (crashP d8 x4).n (crashP d8 x4).now hd (encs ([x1])) := by rw [hcn]; exact hv0
                  with_reducible refine (open_of HD9.out hv).mono ?_
                  rintro e w10 ⟨L10, bv10, va10, vc10, rfl, hl10, hr10, hb10⟩
                  obtain ⟨M10, hM10⟩ : ∃ M, (([x1]) : List (List UInt8)).length = M := ⟨_, rfl⟩
                  rw [hM10] at hr10 ⊢
                  clear hM10
                  have HBL := Lib.hid (HB9.out.trans (hb10.mono HB9.out.size))
                  have HLL := Lib.hid (H9.out.below hb10)
                  have HWW := Lib.hid (HW9.out.below hb10)
                  have HROW := Lib.hid (rows_same hr10.b (HWW.out.b HBL.out))
                  clear hl10 hr10 hb10
                  go_wp2_with (first | (go_at_call 19; (with_reducible refine (HROW.out).mono ?_); rintro e wo ⟨rfl, hq⟩; replace HBL := Lib.hid (HBL.out.trans (hq.mono HBL.out.size)); replace HLL := Lib.hid (HLL.out.below hq); clear hq) | (go_at_call 13; (with_reducible refine (app_dead HLL.out HDK.out rfl HWT.out x1 _ (HP.out.below HBL.out) (by have := HQ.out.1; omega)).mono ?_); rintro e wl ⟨rfl, hc⟩; replace HBL := Lib.hid (hc.below HBL.out HAL.out.lo); clear hc) | (go_at_call 16; (with_reducible refine (known5_c _).mono ?_); rintro e wk ⟨rfl, hq⟩; have HBK := Lib.hid (HBL.out.trans (hq.mono HBL.out.size)); clear hq) | fail)
                  go_ret
                  exact ⟨rfl, HBK.out⟩
end Go.Proofs.YtlllbacjdjllbaaDoor
