
/- Contracts of package record: Decode. -/
import Derived.Test.YthfckbiciddfdaaDoorDec4
namespace Go.Proofs.YthfckbiciddfdaaDoor
open Go Go.Proofs Go.RowKit
set_option linter.unusedVariables false
set_option linter.unusedSimpArgs false

set_option maxHeartbeats 4000000 in
theorem BytesEqual_c (v1 v2 : Value) (l1 l2 : List UInt8) (w : World) (h1 : RowAt w v1 (bytesV l1)) (h2 : RowAt w v2 (bytesV l2)) :
    Calls Tryd.prog 41 #[v1, v2] w fun e w' => e = .returned (.bool (decide (l1 = l2))) ∧ w = w' := by
  have c1 := h1.toStr 32 9 5 Tryd.underlying32 Tryd.underlying5 Tryd.underlying9
  have c2 := h2.toStr 32 9 5 Tryd.underlying32 Tryd.underlying5 Tryd.underlying9
  have hd : (l1 == l2) = decide (l1 = l2) := by by_cases h : l1 = l2 <;> simp [h]
  clear h1 h2
  go_enter Tryd.func41, Tryd.ntmps41
  go_wp2_with fail
  go_ret
  exact ⟨by rw [← hd]; rfl, by first | rfl | trivial⟩
theorem flat_one {X Y : Type} (f : X → Y) : ∀ l : List X, l.flatMap (fun s => [f s]) = l.map f
  | [] => rfl
  | x :: l => by rw [List.flatMap_cons, flat_one f l]; rfl
theorem extW_rows {lo : Nat} {W : World} {p : WV} (h : extW lo W p) : p.rows W := by
  refine ⟨?_, ?_⟩
  · have := RowAt.ofOwns h.1
    rwa [flat_one strV p.x.ss] at this
  · have h2 := h.2
    rw [List.flatMap_def] at h2
    exact (RowK.ofOwns (by decide) (by intro y hy; obtain ⟨q, _, rfl⟩ := List.mem_map.1 hy; rfl) h2).2
/-- what Decode takes for right. -/
def decB (l : List UInt8) : Bool := areW (curAll (some l)).1.1 (curAll (some l)).1.2.1 [] (curAll (some l)).1.2.2 && decide ((curAll (some l)).2 = some []) && decide (lebAll (curAll (some l)).1.1 (curAll (some l)).1.2.1 (curAll (some l)).1.2.2 = l)
/-- what Decode gives. -/
def DecB (w : World) (ok : Bool) (n k : Int) (xs : List WR) (e : Ending) (w' : World) : Prop :=
  ∃ va vc, ∃ ps : List WV, e = .returned (.tuple #[.int .i64 (if ok then n else 0), .int .i64 (if ok then k else 0), .slice va ps.length vc, .int .i64 (if ok then 0 else 2)]) ∧
    ps.map WV.x = (if ok then xs else []) ∧ RowK 9 w' (.slice va ps.length vc) (ps.map WV.cells) ∧ (∀ p ∈ ps, p.rows w') ∧ Below w.heap.size w w'
theorem results_tmp4 {fn : Func} {t u v x : Tmp} (h : fn.results = #[.tmp t, .tmp u, .tmp v, .tmp x]) (tmps : Array Value) (P : Program) (w : World) :
    (results fn tmps).run P w = .ok (.tuple #[tmps.getD t undef, tmps.getD u undef, tmps.getD v undef, tmps.getD x undef]) w := by
  simp [results, h]
structure DS (R : Option Nat) (B g : Nat) (w : World) (c : Cur) (W : World) : Prop where
  cur : CurAt R W B c
  box : Blk W g [.pointer (some ⟨B, 0, none⟩)]
  bel : Below w.heap.size w W
  ne : B ≠ g ∧ w.heap.size ≤ B
  far : ∀ r, R = some r → r < W.heap.size
theorem DS.call {R : Option Nat} {B g : Nat} {w W W' : World} {c c' : Cur} (h : DS R B g w c W) (hc : CurAt R W' B c') (hg : W.grownBy W' (some B)) : DS R B g w c' W' :=
  ⟨hc, h.box.grown hg (by simpa using h.ne.1), h.bel.grown hg h.bel.size (fun q hq => (Option.some.inj hq) ▸ h.ne.2), h.ne, fun r hr => Nat.lt_of_lt_of_le (h.far r hr) hg.size⟩
theorem DS.on {R : Option Nat} {B g : Nat} {w W W' : World} {c : Cur} (h : DS R B g w c W) (hb : Below W.heap.size W W') : DS R B g w c W' :=
  ⟨h.cur.below hb, h.box.below hb, h.bel.trans (hb.mono h.bel.size), h.ne, fun r hr => Nat.lt_of_lt_of_le (h.far r hr) hb.size⟩
theorem sumR_map {X Y : Type} (f : Y → Nat) (g : X → Y) (l : List X) : sumR f (l.map g) = sumR (fun x => f (g x)) l := by unfold sumR; rw [List.map_map]; rfl
set_option maxRecDepth 100000 in
set_option maxHeartbeats 8000000 in
theorem Decode_c (v : Value) (l : List UInt8) (w : World) (h : RowAt w v (bytesV l)) (hl : l.length ≤ 10000000) :
    Calls Tryd.prog 17 #[v] w (DecB w (decB l) (curAll (some l)).1.1 (curAll (some l)).1.2.1 (curAll (some l)).1.2.2) := by
  have hO := Open_c v l w h (by omega)
  obtain ⟨k1, k2, k3, k4⟩ := curAll_p l hl
  have hpc : pot (some l) = l.length + 1 := rfl
  have hp1 := (curInt_p (some l)).2.1
  have hp2 := (curInt_p (curInt (some l)).2).2.1
  have HA : Hid (curAll (some l) = (((curInt (some l)).1, (curInt (curInt (some l)).2).1, (rowsC curWr (curInt (curInt (some l)).2).2).1), (rowsC curWr (curInt (curInt (some l)).2).2).2)) := Lib.hid rfl
  have HD : Hid (decB l = (areW (curAll (some l)).1.1 (curAll (some l)).1.2.1 [] (curAll (some l)).1.2.2 && decide ((curAll (some l)).2 = some []) && decide (lebAll (curAll (some l)).1.1 (curAll (some l)).1.2.1 (curAll (some l)).1.2.2 = l))) := Lib.hid rfl
  have C1 := Lib.hid (fun R B W (h : CurAt R W B (some l)) => CInt_c B (some l) W h)
  generalize decB l = ok at *
  generalize curAll (some l) = ca at *
  generalize curInt (some l) = p1 at *
  obtain ⟨n1, c1⟩ := p1
  dsimp only at C1 HA hp1 hp2
  have C2 := Lib.hid (fun R B W (h : CurAt R W B c1) => CInt_c B c1 W h)
  generalize curInt c1 = p2 at *
  obtain ⟨n2, c2⟩ := p2
  dsimp only at C2 HA hp2
  have C3 := Lib.hid (fun R B W (h : CurAt R W B c2) hR => rowsW_c R B c2 W h hR (by omega))
  generalize rowsC curWr c2 = p3 at *
  obtain ⟨xs, c3⟩ := p3
  dsimp only at C3 HA
  obtain rfl := HA.out
  dsimp only at HD k1 k2 k3 k4 ⊢
  have C4 := Lib.hid (fun (ys : List WV) v W (hy : ys.map WV.x = xs) (hr : RowK 9 W v (ys.map WV.cells)) (hrows : ∀ p ∈ ys, p.rows W) => by
    have := Encode_c n1 n2 ys v W hr hrows (fun p hp => k2 _ (by rw [← hy]; exact List.mem_map_of_mem hp)) (by rw [← sumR_map roomWr WV.x ys, hy]; omega) k3 k4
    rw [hy] at this
    exact this)
  have C5 := Lib.hid (fun R B W (h : CurAt R W B c3) => Whole_c B c3 W h)
  have HR := Lib.hid h
  have HO := Lib.hid hO
  clear hO h k1 k2 k3 k4 hp1 hp2 hpc HA
  have C6 := Lib.hid (fun v1 W (h1 : RowAt W v1 (bytesV (lebAll n1 n2 xs))) (h2 : RowAt W v (bytesV l)) => BytesEqual_c v1 v (lebAll n1 n2 xs) l W h1 h2)
  generalize areW n1 n2 [] xs = aw at *
  generalize decide (c3 = some []) = wh at *
  generalize decide (lebAll n1 n2 xs = l) = eq at *
  generalize lebAll n1 n2 xs = la at *
  unfold EncB at C4
  go_enter Tryd.func17, Tryd.ntmps17
  go_wp2_with fail
  with_reducible refine HO.out.mono ?_
  rintro e w1 ⟨B, R, rfl, hB, hc, hb, hR, hBl⟩
  have H : Hid (DS R B w1.heap.size w (some l) (w1.alloc (.cells #[.pointer (some ⟨B, 0, none⟩)] 72))) := Lib.hid
    ⟨hc.below ((Below.refl _ _).alloc (Nat.le_refl _) _), Blk.new w1 [.pointer (some ⟨B, 0, none⟩)] _, hb.alloc hb.size _, ⟨by omega, hB⟩, fun r hr => by have := (hR r hr).2; simp; omega⟩
  have hb1 := H.out.box.cell 0 _ rfl
  clear hc hb hR HO
  cases aw
  case' true => cases wh
  case' true.true => cases eq
  all_goals
    simp only [Bool.false_eq_true, if_false, if_true] at C4
    simp only [Bool.and_true, Bool.and_false, Bool.false_and, Bool.true_and] at HD
    obtain rfl := HD.out
    go_wp2_with (first
      | (go_at_call 37; (with_reducible refine (C1.out _ _ _ H.out.cur).mono ?_); rintro e wq ⟨rfl, hc, hg⟩; replace H := Lib.hid (H.out.call hc hg); clear hc hg; have hbq := H.out.box.cell 0 _ rfl)
      | (go_at_call 37; (with_reducible refine (C2.out _ _ _ H.out.cur).mono ?_); rintro e wq ⟨rfl, hc, hg⟩; replace H := Lib.hid (H.out.call hc hg); clear hc hg; have hbq := H.out.box.cell 0 _ rfl)
      | (go_at_call 38; (with_reducible refine (C3.out _ _ _ H.out.cur H.out.far).mono ?_); rintro e wq ⟨va, vc, ys, rfl, hown, hmp, hc, hg, hx⟩; replace H := Lib.hid (H.out.call hc hg); have HM := Lib.hid hmp; have HRW := Lib.hid (RowK.ofOwns (k := 9) (xs := ys.map WV.cells) (by decide) (by intro y hy; obtain ⟨q, _, rfl⟩ := List.mem_map.1 hy; rfl) (by rw [← List.flatMap_def]; exact hown)).2; have HXR := Lib.hid (fun p hp => extW_rows (hx p hp)); clear hc hg hown hmp hx; have hbq := H.out.box.cell 0 _ rfl)
      | (go_at_call 9; (with_reducible refine (C4.out ys _ _ HM.out HRW.out HXR.out).mono ?_); rintro e wq ⟨vp, rfl, hrp, hbp⟩; replace H := Lib.hid (H.out.on hbp); replace HRW := Lib.hid (HRW.out.below hbp); replace HXR := Lib.hid (fun p hp => (⟨(HXR.out p hp).1.below hbp, (HXR.out p hp).2.below hbp⟩ : WV.rows _ p)); have HRP := Lib.hid hrp; clear hrp hbp; have hbq := H.out.box.cell 0 _ rfl)
      | (go_at_call 40; (with_reducible refine (C5.out _ _ _ H.out.cur).mono ?_); rintro e wz ⟨rfl, rfl⟩)
      | (go_at_call 41; (with_reducible refine (C6.out _ _ HRP.out (HR.out.below H.out.bel)).mono ?_); rintro e wz ⟨rfl, rfl⟩))
  
    (try simp only [Exit.inBlock, Exit.then])
    refine bodyPost_ret (results_tmp4 rfl _ _ _) rfl ?_
    first
    | exact ⟨_, _, ys, rfl, HM.out, HRW.out, HXR.out, H.out.bel⟩
    | exact ⟨none, 0, [], rfl, rfl, RowK.nil 9 _, by simp, H.out.bel⟩
end Go.Proofs.YthfckbiciddfdaaDoor
