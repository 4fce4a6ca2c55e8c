
/- Contracts of package record: what a reader takes: a property. -/
import Derived.Test.YtmbffncmogpkfaaGreatDoorEnc3
import Derived.Test.YtmbffncmogpkfaaGreatDoorCur2
namespace Go.Proofs.YtmbffncmogpkfaaGreatDoor
open Go Go.Proofs Go.RowKit
set_option linter.unusedVariables false
set_option linter.unusedSimpArgs false

/-- a function that reads by a cursor in the block B and lays what it takes in a local struct in the block g3; its result's block g2, the reader's box gb; F is held of the rest. -/
structure LS (R : Option Nat) (B gb g2 g3 : Nat) (z : List Value) (F : World → Prop) (w0 : World) (c : Cur) (cs : List Value) (W : World) : Prop where
  cur : CurAt R W B c
  box : Blk W gb [.pointer (some ⟨B, 0, none⟩)]
  res : Blk W g2 z
  loc : Blk W g3 cs
  grown : w0.grownBy W (some B)
  held : F W
  ne : gb ≠ B ∧ g2 ≠ B ∧ g3 ≠ B ∧ gb ≠ g3 ∧ g2 ≠ g3 ∧ R ≠ some g3 ∧ w0.heap.size ≤ g3
  stable : ∀ W W', W.grownBy W' (some B) → F W → F W'
  stable2 : ∀ W j v, F W → F (W.setCell ⟨g3, j, none⟩ v)
section
variable {R : Option Nat} {B gb g2 g3 : Nat} {z cs : List Value} {F : World → Prop} {w0 W W' : World} {c c' : Cur}
theorem LS.call (h : LS R B gb g2 g3 z F w0 c cs W) (hc : CurAt R W' B c') (hg : W.grownBy W' (some B)) : LS R B gb g2 g3 z F w0 c' cs W' :=
  ⟨hc, h.box.grown hg (by simp; exact fun e => h.ne.1 e.symm), h.res.grown hg (by simp; exact fun e => h.ne.2.1 e.symm), h.loc.grown hg (by simp; exact fun e => h.ne.2.2.1 e.symm), grownBy_trans h.grown hg, h.stable _ _ hg h.held, h.ne, h.stable, h.stable2⟩
theorem grownBy_high {w0 W : World} {B : Nat} (h : w0.grownBy W (some B)) (g j : Nat) (hg : w0.heap.size ≤ g) (v : Value) : w0.grownBy (W.setCell ⟨g, j, none⟩ v) (some B) :=
  ⟨h.os, h.tape, h.output, by simpa using h.size, fun i hi hr => by rw [Below.heap_setCell W ⟨g, j, none⟩ v i (by show i ≠ g; omega)]; exact h.block i hi hr⟩
theorem LS.set (h : LS R B gb g2 g3 z F w0 c cs W) (j : Nat) (v : Value) : LS R B gb g2 g3 z F w0 c (cs.set j v) (W.setCell ⟨g3, j, none⟩ v) := by
  obtain ⟨n1, n2, n3, n4, n5, n6, n7⟩ := h.ne
  exact ⟨h.cur.grown (grownBy_set W g3 j v) (fun e => n3 e.symm) n6, h.box.other n4 j v, h.res.other n5 j v, h.loc.set j v, grownBy_high h.grown g3 j n7 v, h.stable2 _ _ _ h.held, h.ne, h.stable, h.stable2⟩
theorem lsCall {fn : Nat} {args : Array Value} {post : Ending → World → Prop} (hK : LS R B gb g2 g3 z F w0 c cs W) (h : LS R B gb g2 g3 z F w0 c cs W → Calls Tryz.prog fn args W post) : Calls Tryz.prog fn args W post := h hK
theorem LS.boxed (h : LS R B gb g2 g3 z F w0 c cs W) : W.cell? ⟨gb, 0, none⟩ = some (.pointer (some ⟨B, 0, none⟩)) := h.box.cell 0 _ rfl
end
theorem cellsP {W : World} {g : Nat} {a b c d e f : Value} (h : Blk W g [a, b, c, d, e, f]) :
    (W.cell? ⟨g, 0, none⟩ = some a ∧ W.cell? ⟨g, 1, none⟩ = some b ∧ W.cell? ⟨g, 2, none⟩ = some c ∧ W.cell? ⟨g, 3, none⟩ = some d ∧ W.cell? ⟨g, 4, none⟩ = some e ∧ W.cell? ⟨g, 5, none⟩ = some f) ∧
    (W.frozen? ⟨g, 0, none⟩ = false ∧ W.frozen? ⟨g, 1, none⟩ = false ∧ W.frozen? ⟨g, 2, none⟩ = false ∧ W.frozen? ⟨g, 3, none⟩ = false ∧ W.frozen? ⟨g, 4, none⟩ = false ∧ W.frozen? ⟨g, 5, none⟩ = false) :=
  ⟨⟨h.cell 0 _ rfl, h.cell 1 _ rfl, h.cell 2 _ rfl, h.cell 3 _ rfl, h.cell 4 _ rfl, h.cell 5 _ rfl⟩, h.thaw 0, h.thaw 1, h.thaw 2, h.thaw 3, h.thaw 4, h.thaw 5⟩
theorem LS.fin {R : Option Nat} {B gb g2 g3 : Nat} {z0 z1 z2 z3 z4 z5 a b d e f g : Value} {F : World → Prop} {w0 W : World} {c : Cur} (h : LS R B gb g2 g3 [z0, z1, z2, z3, z4, z5] F w0 c [a, b, d, e, f, g] W) (hR : R ≠ some g2) (h2 : w0.heap.size ≤ g2) :
    ∃ t, ((((((W.setCell ⟨g2, 0, none⟩ a).setCell ⟨g2, 1, none⟩ b).setCell ⟨g2, 2, none⟩ d).setCell ⟨g2, 3, none⟩ e).setCell ⟨g2, 4, none⟩ f).setCell ⟨g2, 5, none⟩ g).heap[g2]? = some (.cells #[a, b, d, e, f, g] t) ∧
      CurAt R ((((((W.setCell ⟨g2, 0, none⟩ a).setCell ⟨g2, 1, none⟩ b).setCell ⟨g2, 2, none⟩ d).setCell ⟨g2, 3, none⟩ e).setCell ⟨g2, 4, none⟩ f).setCell ⟨g2, 5, none⟩ g) B c ∧
      w0.grownBy ((((((W.setCell ⟨g2, 0, none⟩ a).setCell ⟨g2, 1, none⟩ b).setCell ⟨g2, 2, none⟩ d).setCell ⟨g2, 3, none⟩ e).setCell ⟨g2, 4, none⟩ f).setCell ⟨g2, 5, none⟩ g) (some B) := by
  obtain ⟨_, t, ht⟩ := (((((h.res.set 0 a).set 1 b).set 2 d).set 3 e).set 4 f).set 5 g
  have hn : B ≠ g2 := fun e => h.ne.2.1 e.symm
  have st : ∀ {W : World} (j : Nat) (v : Value), CurAt R W B c → CurAt R (W.setCell ⟨g2, j, none⟩ v) B c := fun j v hc => hc.grown (grownBy_set _ g2 j v) hn hR
  exact ⟨t, ht, st 5 g (st 4 f (st 3 e (st 2 d (st 1 b (st 0 a h.cur))))), grownBy_high (grownBy_high (grownBy_high (grownBy_high (grownBy_high (grownBy_high h.grown g2 0 h2 a) g2 1 h2 b) g2 2 h2 d) g2 3 h2 e) g2 4 h2 f) g2 5 h2 g⟩
theorem infoProp : (Tryz.prog.info? 49).map (·.size) = some 6 := by kernel_rfl
set_option maxRecDepth 100000 in
set_option maxHeartbeats 8000000 in
theorem prop_c (R : Option Nat) (B : Nat) (c : Cur) (w : World) (h : CurAt R w B c) (hR : ∀ r, R = some r → r < w.heap.size) :
    Calls Tryz.prog 55 #[.agg #[.pointer (some ⟨B, 0, none⟩)]] w (CurTo R B w (.agg #[.string ⟨(curPr c).1.key.toArray⟩, .int .i64 (curPr c).1.v.k, .bool (curPr c).1.v.b, .int .i64 (curPr c).1.v.n, .float .f64 (curPr c).1.v.f, .string ⟨(curPr c).1.v.t.toArray⟩]) (curPr c).2) := by
  have hlt : B < w.heap.size := by obtain ⟨v, h0, _⟩ := h; exact World.block_lt_of_cell? w ⟨B, 0, none⟩ h0
  have C1 := Lib.hid (fun W (h : CurAt R W B c) => CStr_c B c W h)
  have HP : Hid (curPr c = (⟨(curStr c).1, (curV (curStr c).2).1⟩, (curV (curStr c).2).2)) := Lib.hid rfl
  rw [HP.out]
  clear HP
  generalize curStr c = p1 at *
  obtain ⟨key, c1⟩ := p1
  have C2 := Lib.hid (fun W (h : CurAt R W B c1) => CInt_c B c1 W h)
  have HV : Hid (curV c1 = if (curInt c1).1 = 1 then (⟨1, (curB (curInt c1).2).1, 0, 0, []⟩, (curB (curInt c1).2).2)
    else if (curInt c1).1 = 2 then (⟨2, false, (curInt (curInt c1).2).1, 0, []⟩, (curInt (curInt c1).2).2)
    else if (curInt c1).1 = 3 then (⟨3, false, 0, (curReal (curInt c1).2).1, []⟩, (curReal (curInt c1).2).2)
    else if (curInt c1).1 = 4 then (⟨4, false, 0, 0, (curStr (curInt c1).2).1⟩, (curStr (curInt c1).2).2)
    else (⟨(curInt c1).1, false, 0, 0, []⟩, (curInt c1).2)) := Lib.hid rfl
  dsimp only at C1 ⊢
  generalize curV c1 = pv at *
  generalize curInt c1 = p2 at *
  obtain ⟨k, c2⟩ := p2
  dsimp only at C2 HV
  have hA : Below w.heap.size w (w.alloc (.cells #[.pointer (some ⟨B, 0, none⟩)] 63)) := (Below.refl _ w).alloc (Nat.le_refl _) _
  have hB := hA.alloc (by simp) (.cells #[.string ⟨#[]⟩, .int .i64 0, .bool false, .int .i64 0, .float .f64 0, .string ⟨#[]⟩] 49)
  have H0 := Lib.hid (h.below hB)
  have b1 : Blk ((w.alloc (.cells #[.pointer (some ⟨B, 0, none⟩)] 63)).alloc (.cells #[.string ⟨#[]⟩, .int .i64 0, .bool false, .int .i64 0, .float .f64 0, .string ⟨#[]⟩] 49)) w.heap.size [.pointer (some ⟨B, 0, none⟩)] := (Blk.new w [.pointer (some ⟨B, 0, none⟩)] _).alloc _
  have b2 : Blk ((w.alloc (.cells #[.pointer (some ⟨B, 0, none⟩)] 63)).alloc (.cells #[.string ⟨#[]⟩, .int .i64 0, .bool false, .int .i64 0, .float .f64 0, .string ⟨#[]⟩] 49)) (w.heap.size + 1) [.string ⟨#[]⟩, .int .i64 0, .bool false, .int .i64 0, .float .f64 0, .string ⟨#[]⟩] := Blk.newAt _ _ _ _ (by simp)
  have HL : Hid (∀ w1, CurAt R w1 B c1 → ((w.alloc (.cells #[.pointer (some ⟨B, 0, none⟩)] 63)).alloc (.cells #[.string ⟨#[]⟩, .int .i64 0, .bool false, .int .i64 0, .float .f64 0, .string ⟨#[]⟩] 49)).grownBy w1 (some B) →
      LS R B w.heap.size (w.heap.size + 1) w1.heap.size [.string ⟨#[]⟩, .int .i64 0, .bool false, .int .i64 0, .float .f64 0, .string ⟨#[]⟩] (fun _ => True) w c1 [.string ⟨key.toArray⟩, .int .i64 0, .bool false, .int .i64 0, .float .f64 0, .string ⟨#[]⟩]
        (w1.alloc (.cells #[.string ⟨key.toArray⟩, .int .i64 0, .bool false, .int .i64 0, .float .f64 0, .string ⟨#[]⟩] 49))) := Lib.hid (fun w1 hc hg => by
    have hs := hg.size
    simp at hs
    refine ⟨hc.below ((Below.refl _ _).alloc (Nat.le_refl _) _), (b1.grown hg (by simp; omega)).alloc _, (b2.grown hg (by simp; omega)).alloc _, Blk.new w1 [.string ⟨key.toArray⟩, .int .i64 0, .bool false, .int .i64 0, .float .f64 0, .string ⟨#[]⟩] _, ?_, trivial, ⟨by omega, by omega, by omega, by omega, by omega, fun e => by have := hR _ e; omega, by omega⟩, fun _ _ _ h => h, fun _ _ _ h => h⟩
    exact grownBy_trans (grownBy_trans (World.grownBy_alloc w _ _) (World.grownBy_alloc _ _ _)) (grownBy_trans hg (World.grownBy_alloc _ _ _)))
  have hb0 := b1.cell 0 _ rfl
  clear hA hB b2 b1 h
  by_cases k1 : k = 1
  · subst k1
    simp only [if_true, curB] at HV
    have C3 := Lib.hid (fun W (h : CurAt R W B c2) => CInt_c B c2 W h)
    generalize curInt c2 = p3 at *
    obtain ⟨n, c3⟩ := p3
    dsimp only at C3 HV
    obtain rfl := HV.out
    go_enter Tryz.func55, Tryz.ntmps55
    go_wp2_with fail
    with_reducible refine (C1.out _ H0.out).mono ?_
    rintro e w1 ⟨rfl, hc, hg⟩
    have H := Lib.hid (HL.out w1 hc hg)
    have hb1 := H.out.boxed
    have hne1 : ¬ w1.heap.size = w.heap.size + 1 := fun e => H.out.ne.2.2.2.2.1 e.symm
    have hne2 : ¬ w.heap.size + 1 = w1.heap.size := H.out.ne.2.2.2.2.1
    clear hc hg hb0 H0 HL
    go_wp2_with (first | (go_at_call 24; apply lsCall; (next => first | exact H.out | exact H.out.set _ _ | exact (H.out.set _ _).set _ _); intro hKK; replace H := Lib.hid hKK; clear hKK; (try simp only [List.set_cons_zero, List.set_cons_succ] at H); (with_reducible refine (C2.out _ H.out.cur).mono ?_); rintro e wq ⟨rfl, hc, hg⟩; replace H := Lib.hid (H.out.call hc hg); clear hc hg; have hkb := H.out.boxed; obtain ⟨hkc, hkf⟩ := cellsP H.out.loc) | (go_at_call 24; apply lsCall; (next => first | exact H.out | exact H.out.set _ _ | exact (H.out.set _ _).set _ _); intro hKK; replace H := Lib.hid hKK; clear hKK; (try simp only [List.set_cons_zero, List.set_cons_succ] at H); (with_reducible refine (C3.out _ H.out.cur).mono ?_); rintro e wq ⟨rfl, hc, hg⟩; replace H := Lib.hid (H.out.call hc hg); clear hc hg; have hkb := H.out.boxed; obtain ⟨hkc, hkf⟩ := cellsP H.out.loc; obtain ⟨hrc, hrf⟩ := cellsP H.out.res))
    obtain ⟨t', ht, hc, hg⟩ := (H.out.set 2 (.bool (n == 1))).fin (fun e => by have := hR _ e; omega) (by omega)
    (try simp only [Exit.inBlock, Exit.then])
    refine bodyPost_ret (results_cell_row rfl _ _ (w.heap.size + 1) t' #[_, _, _, _, _, _] (0, 0) _ rfl ht Tryz.underlying49 rfl infoProp) rfl ?_
    exact ⟨rfl, hc, hg⟩
  by_cases k2 : k = 2
  · subst k2
    simp only [show (2 : Int) = 1 ↔ False by decide, if_true, if_false, curB] at HV
    have C3 := Lib.hid (fun W (h : CurAt R W B c2) => CInt_c B c2 W h)
    generalize curInt c2 = p3 at *
    obtain ⟨n, c3⟩ := p3
    dsimp only at C3 HV
    obtain rfl := HV.out
    go_enter Tryz.func55, Tryz.ntmps55
    go_wp2_with fail
    with_reducible refine (C1.out _ H0.out).mono ?_
    rintro e w1 ⟨rfl, hc, hg⟩
    have H := Lib.hid (HL.out w1 hc hg)
    have hb1 := H.out.boxed
    have hne1 : ¬ w1.heap.size = w.heap.size + 1 := fun e => H.out.ne.2.2.2.2.1 e.symm
    have hne2 : ¬ w.heap.size + 1 = w1.heap.size := H.out.ne.2.2.2.2.1
    clear hc hg hb0 H0 HL
    go_wp2_with (first | (go_at_call 24; apply lsCall; (next => first | exact H.out | exact H.out.set _ _ | exact (H.out.set _ _).set _ _); intro hKK; replace H := Lib.hid hKK; clear hKK; (try simp only [List.set_cons_zero, List.set_cons_succ] at H); (with_reducible refine (C2.out _ H.out.cur).mono ?_); rintro e wq ⟨rfl, hc, hg⟩; replace H := Lib.hid (H.out.call hc hg); clear hc hg; have hkb := H.out.boxed; obtain ⟨hkc, hkf⟩ := cellsP H.out.loc) | (go_at_call 24; apply lsCall; (next => first | exact H.out | exact H.out.set _ _ | exact (H.out.set _ _).set _ _); intro hKK; replace H := Lib.hid hKK; clear hKK; (try simp only [List.set_cons_zero, List.set_cons_succ] at H); (with_reducible refine (C3.out _ H.out.cur).mono ?_); rintro e wq ⟨rfl, hc, hg⟩; replace H := Lib.hid (H.out.call hc hg); clear hc hg; have hkb := H.out.boxed; obtain ⟨hkc, hkf⟩ := cellsP H.out.loc; obtain ⟨hrc, hrf⟩ := cellsP H.out.res))
    obtain ⟨t', ht, hc, hg⟩ := (H.out.set 3 (.int .i64 n)).fin (fun e => by have := hR _ e; omega) (by omega)
    (try simp only [Exit.inBlock, Exit.then])
    refine bodyPost_ret (results_cell_row rfl _ _ (w.heap.size + 1) t' #[_, _, _, _, _, _] (0, 0) _ rfl ht Tryz.underlying49 rfl infoProp) rfl ?_
    exact ⟨rfl, hc, hg⟩
  by_cases k3 : k = 3
  · subst k3
    simp only [show (3 : Int) = 1 ↔ False by decide, show (3 : Int) = 2 ↔ False by decide, if_true, if_false, curB] at HV
    have C3 := Lib.hid (fun W (h : CurAt R W B c2) => CReal_c B c2 W h)
    generalize curReal c2 = p3 at *
    obtain ⟨f, c3⟩ := p3
    dsimp only at C3 HV
    obtain rfl := HV.out
    go_enter Tryz.func55, Tryz.ntmps55
    go_wp2_with fail
    with_reducible refine (C1.out _ H0.out).mono ?_
    rintro e w1 ⟨rfl, hc, hg⟩
    have H := Lib.hid (HL.out w1 hc hg)
    have hb1 := H.out.boxed
    have hne1 : ¬ w1.heap.size = w.heap.size + 1 := fun e => H.out.ne.2.2.2.2.1 e.symm
    have hne2 : ¬ w.heap.size + 1 = w1.heap.size := H.out.ne.2.2.2.2.1
    clear hc hg hb0 H0 HL
    go_wp2_with (first | (go_at_call 24; apply lsCall; (next => first | exact H.out | exact H.out.set _ _ | exact (H.out.set _ _).set _ _); intro hKK; replace H := Lib.hid hKK; clear hKK; (try simp only [List.set_cons_zero, List.set_cons_succ] at H); (with_reducible refine (C2.out _ H.out.cur).mono ?_); rintro e wq ⟨rfl, hc, hg⟩; replace H := Lib.hid (H.out.call hc hg); clear hc hg; have hkb := H.out.boxed; obtain ⟨hkc, hkf⟩ := cellsP H.out.loc) | (go_at_call 52; apply lsCall; (next => first | exact H.out | exact H.out.set _ _ | exact (H.out.set _ _).set _ _); intro hKK; replace H := Lib.hid hKK; clear hKK; (try simp only [List.set_cons_zero, List.set_cons_succ] at H); (with_reducible refine (C3.out _ H.out.cur).mono ?_); rintro e wq ⟨rfl, hc, hg⟩; replace H := Lib.hid (H.out.call hc hg); clear hc hg; have hkb := H.out.boxed; obtain ⟨hkc, hkf⟩ := cellsP H.out.loc; obtain ⟨hrc, hrf⟩ := cellsP H.out.res))
    obtain ⟨t', ht, hc, hg⟩ := (H.out.set 4 (.float .f64 f)).fin (fun e => by have := hR _ e; omega) (by omega)
    (try simp only [Exit.inBlock, Exit.then])
    refine bodyPost_ret (results_cell_row rfl _ _ (w.heap.size + 1) t' #[_, _, _, _, _, _] (0, 0) _ rfl ht Tryz.underlying49 rfl infoProp) rfl ?_
    exact ⟨rfl, hc, hg⟩
  by_cases k4 : k = 4
  · subst k4
    simp only [show (4 : Int) = 1 ↔ False by decide, show (4 : Int) = 2 ↔ False by decide, show (4 : Int) = 3 ↔ False by decide, if_true, if_false, curB] at HV
    have C3 := Lib.hid (fun W (h : CurAt R W B c2) => CStr_c B c2 W h)
    generalize curStr c2 = p3 at *
    obtain ⟨t, c3⟩ := p3
    dsimp only at C3 HV
    obtain rfl := HV.out
    go_enter Tryz.func55, Tryz.ntmps55
    go_wp2_with fail
    with_reducible refine (C1.out _ H0.out).mono ?_
    rintro e w1 ⟨rfl, hc, hg⟩
    have H := Lib.hid (HL.out w1 hc hg)
    have hb1 := H.out.boxed
    have hne1 : ¬ w1.heap.size = w.heap.size + 1 := fun e => H.out.ne.2.2.2.2.1 e.symm
    have hne2 : ¬ w.heap.size + 1 = w1.heap.size := H.out.ne.2.2.2.2.1
    clear hc hg hb0 H0 HL
    go_wp2_with (first | (go_at_call 24; apply lsCall; (next => first | exact H.out | exact H.out.set _ _ | exact (H.out.set _ _).set _ _); intro hKK; replace H := Lib.hid hKK; clear hKK; (try simp only [List.set_cons_zero, List.set_cons_succ] at H); (with_reducible refine (C2.out _ H.out.cur).mono ?_); rintro e wq ⟨rfl, hc, hg⟩; replace H := Lib.hid (H.out.call hc hg); clear hc hg; have hkb := H.out.boxed; obtain ⟨hkc, hkf⟩ := cellsP H.out.loc) | (go_at_call 51; apply lsCall; (next => first | exact H.out | exact H.out.set _ _ | exact (H.out.set _ _).set _ _); intro hKK; replace H := Lib.hid hKK; clear hKK; (try simp only [List.set_cons_zero, List.set_cons_succ] at H); (with_reducible refine (C3.out _ H.out.cur).mono ?_); rintro e wq ⟨rfl, hc, hg⟩; replace H := Lib.hid (H.out.call hc hg); clear hc hg; have hkb := H.out.boxed; obtain ⟨hkc, hkf⟩ := cellsP H.out.loc; obtain ⟨hrc, hrf⟩ := cellsP H.out.res))
    obtain ⟨t', ht, hc, hg⟩ := (H.out.set 5 (.string ⟨t.toArray⟩)).fin (fun e => by have := hR _ e; omega) (by omega)
    (try simp only [Exit.inBlock, Exit.then])
    refine bodyPost_ret (results_cell_row rfl _ _ (w.heap.size + 1) t' #[_, _, _, _, _, _] (0, 0) _ rfl ht Tryz.underlying49 rfl infoProp) rfl ?_
    exact ⟨rfl, hc, hg⟩
  simp only [if_neg k1, if_neg k2, if_neg k3, if_neg k4] at HV
  obtain rfl := HV.out
  have q1 : (k == 1) = false := by simpa using k1
  have q2 : (k == 2) = false := by simpa using k2
  have q3 : (k == 3) = false := by simpa using k3
  have q4 : (k == 4) = false := by simpa using k4
  clear k1 k2 k3 k4
  go_enter Tryz.func55, Tryz.ntmps55
  go_wp2_with fail
  with_reducible refine (C1.out _ H0.out).mono ?_
  rintro e w1 ⟨rfl, hc, hg⟩
  have H := Lib.hid (HL.out w1 hc hg)
  have hb1 := H.out.boxed
  have hne1 : ¬ w1.heap.size = w.heap.size + 1 := fun e => H.out.ne.2.2.2.2.1 e.symm
  have hne2 : ¬ w.heap.size + 1 = w1.heap.size := H.out.ne.2.2.2.2.1
  clear hc hg hb0 H0 HL
  go_wp2_with (first | (go_at_call 24; apply lsCall; (next => first | exact H.out | exact H.out.set _ _ | exact (H.out.set _ _).set _ _); intro hKK; replace H := Lib.hid hKK; clear hKK; (try simp only [List.set_cons_zero, List.set_cons_succ] at H); (with_reducible refine (C2.out _ H.out.cur).mono ?_); rintro e wq ⟨rfl, hc, hg⟩; replace H := Lib.hid (H.out.call hc hg); clear hc hg; have hkb := H.out.boxed; obtain ⟨hkc, hkf⟩ := cellsP H.out.loc; obtain ⟨hrc, hrf⟩ := cellsP H.out.res) | fail)
  obtain ⟨t', ht, hc, hg⟩ := (H.out.set 1 (.int .i64 k)).fin (fun e => by have := hR _ e; omega) (by omega)
  (try simp only [Exit.inBlock, Exit.then])
  refine bodyPost_ret (results_cell_row rfl _ _ (w.heap.size + 1) t' #[_, _, _, _, _, _] (0, 0) _ rfl ht Tryz.underlying49 rfl infoProp) rfl ?_
  exact ⟨rfl, hc, hg⟩
end Go.Proofs.YtmbffncmogpkfaaGreatDoor
