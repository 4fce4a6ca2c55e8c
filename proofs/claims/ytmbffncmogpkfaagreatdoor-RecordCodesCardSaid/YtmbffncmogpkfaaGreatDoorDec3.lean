
/- Contracts of package record: what a reader takes: a write. -/
import Derived.Test.YtmbffncmogpkfaaGreatDoorDec2
import Derived.Test.YtmbffncmogpkfaaGreatDoorRowN
namespace Go.Proofs.YtmbffncmogpkfaaGreatDoor
open Go Go.Proofs Go.RowKit
set_option linter.unusedVariables false
set_option linter.unusedSimpArgs false

/-- several stores, one behind the other. -/
def setAll (W : World) (g : Nat) : Nat → List Value → World
  | _, [] => W
  | j, v :: vs => setAll (W.setCell ⟨g, j, none⟩ v) g (j + 1) vs
def setL : List Value → Nat → List Value → List Value
  | z, _, [] => z
  | z, j, v :: vs => setL (z.set j v) (j + 1) vs
theorem setAll_blk (g : Nat) : ∀ (vs : List Value) (j : Nat) (W : World) (z : List Value), Blk W g z → Blk (setAll W g j vs) g (setL z j vs)
  | [], _, _, _, h => h
  | v :: vs, j, _, _, h => setAll_blk g vs (j + 1) _ _ (h.set j v)
theorem setAll_keep (g : Nat) (P : World → Prop) (hP : ∀ W j v, P W → P (W.setCell ⟨g, j, none⟩ v)) : ∀ (vs : List Value) (j : Nat) (W : World), P W → P (setAll W g j vs)
  | [], _, _, h => h
  | v :: vs, j, _, h => setAll_keep g P hP vs (j + 1) _ (hP _ _ _ h)
section
variable {R : Option Nat} {B gb g2 g3 : Nat} {z cs : List Value} {F : World → Prop} {w0 W W' : World} {c c' : Cur}
theorem own_set {lo e k n : Nat} {v : Value} {xs : List Value} (h : W.ownsRow lo e k v n xs) (g j : Nat) (hg : g < lo) (u : Value) : (W.setCell ⟨g, j, none⟩ u).ownsRow lo e k v n xs := by
  refine h.kept (grownBy_set W g j u) ?_
  cases hv : v.ownBlock with
  | none => exact .inl rfl
  | some q => right; intro e; have hq : q = g := by simpa using e
              have := (h.lt q hv).1; omega
theorem LS.more (h : LS R B gb g2 g3 z F w0 c cs W) {lo e k n : Nat} {v : Value} {xs : List Value} (hown : W.ownsRow lo e k v n xs) (h3 : g3 < lo) (hB : B < lo) : LS R B gb g2 g3 z (fun W => F W ∧ W.ownsRow lo e k v n xs) w0 c cs W :=
  ⟨h.cur, h.box, h.res, h.loc, h.grown, ⟨h.held, hown⟩, h.ne, fun W W' hg hf => ⟨h.stable _ _ hg hf.1, hf.2.kept hg (by
      cases hv : v.ownBlock with
      | none => exact .inl rfl
      | some q => right; intro e; have hq : q = B := by simpa using e
                  have := (hf.2.lt q hv).1; omega)⟩, fun W j u hf => ⟨h.stable2 _ _ _ hf.1, own_set hf.2 g3 j h3 u⟩⟩
theorem LS.finL (h : LS R B gb g2 g3 z F w0 c cs W) (hR : R ≠ some g2) (h2 : w0.heap.size ≤ g2) (hF : ∀ W j v, F W → F (W.setCell ⟨g2, j, none⟩ v)) (vs : List Value) :
    (∃ t, (setAll W g2 0 vs).heap[g2]? = some (.cells (setL z 0 vs).toArray t)) ∧ CurAt R (setAll W g2 0 vs) B c ∧ w0.grownBy (setAll W g2 0 vs) (some B) ∧ F (setAll W g2 0 vs) := by
  obtain ⟨_, t, ht⟩ := setAll_blk g2 vs 0 W z h.res
  have hn : B ≠ g2 := fun e => h.ne.2.1 e.symm
  exact ⟨⟨t, ht⟩, setAll_keep g2 (fun W => CurAt R W B c) (fun W j v hc => hc.grown (grownBy_set _ g2 j v) hn hR) vs 0 W h.cur, setAll_keep g2 (fun W => w0.grownBy W (some B)) (fun W j v hc => grownBy_high hc g2 j h2 v) vs 0 W h.grown, setAll_keep g2 F hF vs 0 W h.held⟩
end
theorem cellsN {W : World} {g : Nat} {a b c d e f a' b' c' : Value} (h : Blk W g [a, b, c, d, e, f, a', b', c']) :
    (W.cell? ⟨g, 0, none⟩ = some a ∧ W.cell? ⟨g, 1, none⟩ = some b ∧ W.cell? ⟨g, 2, none⟩ = some c ∧ W.cell? ⟨g, 3, none⟩ = some d ∧ W.cell? ⟨g, 4, none⟩ = some e ∧ W.cell? ⟨g, 5, none⟩ = some f ∧ W.cell? ⟨g, 6, none⟩ = some a' ∧ W.cell? ⟨g, 7, none⟩ = some b' ∧ W.cell? ⟨g, 8, none⟩ = some c') ∧
    (W.frozen? ⟨g, 0, none⟩ = false ∧ W.frozen? ⟨g, 1, none⟩ = false ∧ W.frozen? ⟨g, 2, none⟩ = false ∧ W.frozen? ⟨g, 3, none⟩ = false ∧ W.frozen? ⟨g, 4, none⟩ = false ∧ W.frozen? ⟨g, 5, none⟩ = false ∧ W.frozen? ⟨g, 6, none⟩ = false ∧ W.frozen? ⟨g, 7, none⟩ = false ∧ W.frozen? ⟨g, 8, none⟩ = false) :=
  ⟨⟨h.cell 0 _ rfl, h.cell 1 _ rfl, h.cell 2 _ rfl, h.cell 3 _ rfl, h.cell 4 _ rfl, h.cell 5 _ rfl, h.cell 6 _ rfl, h.cell 7 _ rfl, h.cell 8 _ rfl⟩, h.thaw 0, h.thaw 1, h.thaw 2, h.thaw 3, h.thaw 4, h.thaw 5, h.thaw 6, h.thaw 7, h.thaw 8⟩
theorem infoWrite : (Tryz.prog.info? 45).map (·.size) = some 9 := by kernel_rfl
/-- a write as a value. -/
def WV.val (p : WV) : Value := .agg #[.bool p.x.e, .int .i64 p.x.id, .bool p.x.g, .slice p.sa p.x.ss.length p.sc, .slice p.pa p.x.ps.length p.pc, .int .i64 p.x.ed.a, .int .i64 p.x.ed.b, .string ⟨p.x.ed.t.toArray⟩, .float .f64 p.x.ed.w]
/-- its slices are rows of its own. -/
def extW (lo : Nat) (W : World) (p : WV) : Prop :=
  W.ownsRow lo 9 1 (.slice p.sa p.x.ss.length p.sc) p.x.ss.length (p.x.ss.flatMap (fun s : List UInt8 => [strV s])) ∧ W.ownsRow lo 49 6 (.slice p.pa p.x.ps.length p.pc) p.x.ps.length (p.x.ps.flatMap PR.cells)
theorem extW_ok : ExtOk 45 9 extW := by
  have kp : ∀ {lo : Nat} {W W' : World} {B : Nat} {e k n : Nat} {v : Value} {xs : List Value}, B < lo → W.grownBy W' (some B) → W.ownsRow lo e k v n xs → W'.ownsRow lo e k v n xs := by
    intro lo W W' B e k n v xs hB hg h
    refine h.kept hg ?_
    cases hv : v.ownBlock with
    | none => exact .inl rfl
    | some q => right; intro e; have hq : q = B := by simpa using e
                have := (h.lt q hv).1; omega
  have ka : ∀ {lo : Nat} {W W' : World} {B e k n e' k' n' : Nat} {v v' : Value} {xs xs' : List Value} {o : Obj}, e' ≠ e → W.ownsRow B e k v n xs → (W.alloc o).grownBy W' v.ownBlock → W.ownsRow lo e' k' v' n' xs' → W'.ownsRow lo e' k' v' n' xs' := fun hne ho hg h => (h.alloc _).kept hg (owns_apart h ho hne)
  exact ⟨fun lo W W' B y hB hg h => ⟨kp hB hg h.1, kp hB hg h.2⟩, fun lo lo' W y hl h => ⟨ownsRow_mono h.1 hl, ownsRow_mono h.2 hl⟩, fun lo W W' B v n xs o y ho hg h => ⟨ka (by decide) ho hg h.1, ka (by decide) ho hg h.2⟩⟩
theorem extW_nil (lo : Nat) (W : World) (e g : Bool) (id : Int) (ed : ED) : extW lo W ⟨⟨e, id, g, [], [], ed⟩, none, 0, none, 0⟩ := ⟨World.ownsRow_nil _ _ _ _, World.ownsRow_nil _ _ _ _⟩
set_option maxRecDepth 100000 in
set_option maxHeartbeats 16000000 in
theorem write_c (R : Option Nat) (B : Nat) (c : Cur) (w : World) (h : CurAt R w B c) (hR : ∀ r, R = some r → r < w.heap.size) (hp : pot c ≤ 10000001) :
    Calls Tryz.prog 26 #[.agg #[.pointer (some ⟨B, 0, none⟩)]] w (TakeB R B curWr WV.x WV.val extW c w) := by
  have hlt : B < w.heap.size := by obtain ⟨v, h0, _⟩ := h; exact World.block_lt_of_cell? w ⟨B, 0, none⟩ h0
  have C1 := Lib.hid (fun W (h : CurAt R W B c) => CInt_c B c W h)
  have HW : Hid (curWr c = if ((curInt (curInt (curInt c).2).2).1 == 1) = true then (⟨(curInt c).1 == 1, (curInt (curInt c).2).1, true, [], [], noED⟩, (curInt (curInt (curInt c).2).2).2)
      else if ((curInt c).1 == 1) = true then (⟨true, (curInt (curInt c).2).1, false, [], [], (curEd (curInt (curInt (curInt c).2).2).2).1⟩, (curEd (curInt (curInt (curInt c).2).2).2).2)
      else (⟨false, (curInt (curInt c).2).1, false, (curNd (curInt (curInt (curInt c).2).2).2).1.1, (curNd (curInt (curInt (curInt c).2).2).2).1.2, noED⟩, (curNd (curInt (curInt (curInt c).2).2).2).2)) := Lib.hid rfl
  have hp1 := (curInt_p c).2.1
  have hp2 := (curInt_p (curInt c).2).2.1
  have hp3 := (curInt_p (curInt (curInt c).2).2).2.1
  unfold TakeB
  generalize curWr c = rc at *
  generalize curInt c = p1 at *
  obtain ⟨n1, c1⟩ := p1
  dsimp only at C1 HW hp1 hp2 hp3
  have C2 := Lib.hid (fun W (h : CurAt R W B c1) => CInt_c B c1 W h)
  generalize curInt c1 = p2 at *
  obtain ⟨n2, c2⟩ := p2
  dsimp only at C2 HW hp2 hp3
  have C3 := Lib.hid (fun W (h : CurAt R W B c2) => CInt_c B c2 W h)
  generalize curInt c2 = p3 at *
  obtain ⟨n3, c3⟩ := p3
  dsimp only at C3 HW hp3
  have hpc3 : pot c3 ≤ 10000001 := by omega
  clear hp1 hp2 hp3 hp
  have hA : Below w.heap.size w (w.alloc (.cells #[.pointer (some ⟨B, 0, none⟩)] 63)) := (Below.refl _ w).alloc (Nat.le_refl _) _
  have hB := hA.alloc (by simp) (.cells #[.bool false, .int .i64 0, .bool false, .slice none 0 0, .slice none 0 0, .int .i64 0, .int .i64 0, .string ⟨#[]⟩, .float .f64 0] 45)
  have H0 := Lib.hid (h.below hB)
  have b1 : Blk ((w.alloc (.cells #[.pointer (some ⟨B, 0, none⟩)] 63)).alloc (.cells #[.bool false, .int .i64 0, .bool false, .slice none 0 0, .slice none 0 0, .int .i64 0, .int .i64 0, .string ⟨#[]⟩, .float .f64 0] 45)) w.heap.size [.pointer (some ⟨B, 0, none⟩)] := (Blk.new w [.pointer (some ⟨B, 0, none⟩)] _).alloc _
  have b2 : Blk ((w.alloc (.cells #[.pointer (some ⟨B, 0, none⟩)] 63)).alloc (.cells #[.bool false, .int .i64 0, .bool false, .slice none 0 0, .slice none 0 0, .int .i64 0, .int .i64 0, .string ⟨#[]⟩, .float .f64 0] 45)) (w.heap.size + 1) [.bool false, .int .i64 0, .bool false, .slice none 0 0, .slice none 0 0, .int .i64 0, .int .i64 0, .string ⟨#[]⟩, .float .f64 0] := Blk.newAt _ _ _ _ (by simp)
  have HL : Hid (∀ w1, CurAt R w1 B c1 → ((w.alloc (.cells #[.pointer (some ⟨B, 0, none⟩)] 63)).alloc (.cells #[.bool false, .int .i64 0, .bool false, .slice none 0 0, .slice none 0 0, .int .i64 0, .int .i64 0, .string ⟨#[]⟩, .float .f64 0] 45)).grownBy w1 (some B) →
      LS R B w.heap.size (w.heap.size + 1) w1.heap.size [.bool false, .int .i64 0, .bool false, .slice none 0 0, .slice none 0 0, .int .i64 0, .int .i64 0, .string ⟨#[]⟩, .float .f64 0] (fun _ => True) w c1 [.bool (n1 == 1), .int .i64 0, .bool false, .slice none 0 0, .slice none 0 0, .int .i64 0, .int .i64 0, .string ⟨#[]⟩, .float .f64 0]
        (w1.alloc (.cells #[.bool (n1 == 1), .int .i64 0, .bool false, .slice none 0 0, .slice none 0 0, .int .i64 0, .int .i64 0, .string ⟨#[]⟩, .float .f64 0] 45))) := Lib.hid (fun w1 hc hg => by
    have hs := hg.size
    simp at hs
    refine ⟨hc.below ((Below.refl _ _).alloc (Nat.le_refl _) _), (b1.grown hg (by simp; omega)).alloc _, (b2.grown hg (by simp; omega)).alloc _, Blk.new w1 [.bool (n1 == 1), .int .i64 0, .bool false, .slice none 0 0, .slice none 0 0, .int .i64 0, .int .i64 0, .string ⟨#[]⟩, .float .f64 0] _, ?_, trivial, ⟨by omega, by omega, by omega, by omega, by omega, fun e => by have := hR _ e; omega, by omega⟩, fun _ _ _ h => h, fun _ _ _ h => h⟩
    exact grownBy_trans (grownBy_trans (World.grownBy_alloc w _ _) (World.grownBy_alloc _ _ _)) (grownBy_trans hg (World.grownBy_alloc _ _ _)))
  have hb0 := b1.cell 0 _ rfl
  have HR := Lib.hid hR
  clear hA hB b2 b1 h hR
  cases q3 : (n3 == 1)
  case true =>
    rw [q3] at HW
    simp only [if_true] at HW
    obtain rfl := HW.out
    clear HW
    go_enter Tryz.func26, Tryz.ntmps26
    go_wp2_with fail
    with_reducible refine (C1.out _ H0.out).mono ?_
    rintro e w1 ⟨rfl, hc, hg⟩
    have H := Lib.hid (HL.out w1 hc hg)
    have hb1 := H.out.boxed
    have hne1 : ¬ w1.heap.size = w.heap.size + 1 := fun e => H.out.ne.2.2.2.2.1 e.symm
    have hne2 : ¬ w.heap.size + 1 = w1.heap.size := H.out.ne.2.2.2.2.1
    have hne3 : ¬ w.heap.size = w1.heap.size := H.out.ne.2.2.2.1
    have hne4 : ¬ w1.heap.size = w.heap.size := fun e => H.out.ne.2.2.2.1 e.symm
    clear hc hg hb0 H0 HL
    go_wp2_with (first | (go_at_call 24; apply lsCall; (next => first | exact H.out | exact H.out.set _ _ | exact (H.out.set _ _).set _ _); intro hKK; replace H := Lib.hid hKK; clear hKK; (try simp only [List.set_cons_zero, List.set_cons_succ] at H); (with_reducible refine (C2.out _ H.out.cur).mono ?_); rintro e wq ⟨rfl, hc, hg⟩; replace H := Lib.hid (H.out.call hc hg); clear hc hg; have hkb := H.out.boxed; obtain ⟨hkc, hkf⟩ := cellsN H.out.loc) | (go_at_call 24; apply lsCall; (next => first | exact H.out | exact H.out.set _ _ | exact (H.out.set _ _).set _ _); intro hKK; replace H := Lib.hid hKK; clear hKK; (try simp only [List.set_cons_zero, List.set_cons_succ] at H); (with_reducible refine (C3.out _ H.out.cur).mono ?_); rintro e wq ⟨rfl, hc, hg⟩; replace H := Lib.hid (H.out.call hc hg); clear hc hg; have hkb := H.out.boxed; obtain ⟨hkc, hkf⟩ := cellsN H.out.loc; obtain ⟨hrc, hrf⟩ := cellsN H.out.res))
    obtain ⟨⟨t', ht⟩, hc, hg, hh⟩ := (H.out.set 2 (.bool true)).finL (fun e => by have := HR.out _ e; omega) (by omega) (fun _ _ _ h => h) [.bool (n1 == 1), .int .i64 n2, .bool true, .slice none 0 0, .slice none 0 0, .int .i64 0, .int .i64 0, .string ⟨#[]⟩, .float .f64 0]
    (try simp only [Exit.inBlock, Exit.then])
    refine bodyPost_ret (results_cell_row rfl _ _ (w.heap.size + 1) t' #[_, _, _, _, _, _, _, _, _] (0, 0) _ rfl ht Tryz.underlying45 rfl infoWrite) rfl ?_
    exact ⟨⟨⟨n1 == 1, n2, true, [], [], noED⟩, none, 0, none, 0⟩, rfl, rfl, hc, hg, extW_nil _ _ _ _ _ _⟩
  case false =>
    cases q1 : (n1 == 1)
    case true =>
      rw [q3, q1] at HW
      rw [q1] at HL
      simp only [Bool.false_eq_true, if_false, if_true] at HW
      have HE : Hid (curEd c3 = (⟨(curInt c3).1, (curInt (curInt c3).2).1, (curStr (curInt (curInt c3).2).2).1, (curReal (curStr (curInt (curInt c3).2).2).2).1⟩, (curReal (curStr (curInt (curInt c3).2).2).2).2)) := Lib.hid rfl
      rw [HE.out] at HW
      clear HE
      have C4 := Lib.hid (fun W (h : CurAt R W B c3) => CInt_c B c3 W h)
      generalize curInt c3 = p4 at *
      obtain ⟨na, c4⟩ := p4
      dsimp only at C4 HW
      have C5 := Lib.hid (fun W (h : CurAt R W B c4) => CInt_c B c4 W h)
      generalize curInt c4 = p5 at *
      obtain ⟨nb, c5⟩ := p5
      dsimp only at C5 HW
      have C6 := Lib.hid (fun W (h : CurAt R W B c5) => CStr_c B c5 W h)
      generalize curStr c5 = p6 at *
      obtain ⟨tt, c6⟩ := p6
      dsimp only at C6 HW
      have C7 := Lib.hid (fun W (h : CurAt R W B c6) => CReal_c B c6 W h)
      generalize curReal c6 = p7 at *
      obtain ⟨ff, c7⟩ := p7
      dsimp only at C7 HW
      obtain rfl := HW.out
      clear HW
      go_enter Tryz.func26, Tryz.ntmps26
      go_wp2_with fail
      with_reducible refine (C1.out _ H0.out).mono ?_
      rintro e w1 ⟨rfl, hc, hg⟩
      have H := Lib.hid (HL.out w1 hc hg)
      have hb1 := H.out.boxed
      have hne1 : ¬ w1.heap.size = w.heap.size + 1 := fun e => H.out.ne.2.2.2.2.1 e.symm
      have hne2 : ¬ w.heap.size + 1 = w1.heap.size := H.out.ne.2.2.2.2.1
      have hne3 : ¬ w.heap.size = w1.heap.size := H.out.ne.2.2.2.1
      have hne4 : ¬ w1.heap.size = w.heap.size := fun e => H.out.ne.2.2.2.1 e.symm
      clear hc hg hb0 H0 HL
      go_wp2_with (first | (go_at_call 24; apply lsCall; (next => first | exact H.out | exact H.out.set _ _ | exact (H.out.set _ _).set _ _); intro hKK; replace H := Lib.hid hKK; clear hKK; (try simp only [List.set_cons_zero, List.set_cons_succ] at H); (with_reducible refine (C2.out _ H.out.cur).mono ?_); rintro e wq ⟨rfl, hc, hg⟩; replace H := Lib.hid (H.out.call hc hg); clear hc hg; have hkb := H.out.boxed; obtain ⟨hkc, hkf⟩ := cellsN H.out.loc) | (go_at_call 24; apply lsCall; (next => first | exact H.out | exact H.out.set _ _ | exact (H.out.set _ _).set _ _); intro hKK; replace H := Lib.hid hKK; clear hKK; (try simp only [List.set_cons_zero, List.set_cons_succ] at H); (with_reducible refine (C3.out _ H.out.cur).mono ?_); rintro e wq ⟨rfl, hc, hg⟩; replace H := Lib.hid (H.out.call hc hg); clear hc hg; have hkb := H.out.boxed; obtain ⟨hkc, hkf⟩ := cellsN H.out.loc) | (go_at_call 24; apply lsCall; (next => first | exact H.out | exact H.out.set _ _ | exact (H.out.set _ _).set _ _); intro hKK; replace H := Lib.hid hKK; clear hKK; (try simp only [List.set_cons_zero, List.set_cons_succ] at H); (with_reducible refine (C4.out _ H.out.cur).mono ?_); rintro e wq ⟨rfl, hc, hg⟩; replace H := Lib.hid (H.out.call hc hg); clear hc hg; have hkb := H.out.boxed; obtain ⟨hkc, hkf⟩ := cellsN H.out.loc) | (go_at_call 24; apply lsCall; (next => first | exact H.out | exact H.out.set _ _ | exact (H.out.set _ _).set _ _); intro hKK; replace H := Lib.hid hKK; clear hKK; (try simp only [List.set_cons_zero, List.set_cons_succ] at H); (with_reducible refine (C5.out _ H.out.cur).mono ?_); rintro e wq ⟨rfl, hc, hg⟩; replace H := Lib.hid (H.out.call hc hg); clear hc hg; have hkb := H.out.boxed; obtain ⟨hkc, hkf⟩ := cellsN H.out.loc) | (go_at_call 51; apply lsCall; (next => first | exact H.out | exact H.out.set _ _ | exact (H.out.set _ _).set _ _); intro hKK; replace H := Lib.hid hKK; clear hKK; (try simp only [List.set_cons_zero, List.set_cons_succ] at H); (with_reducible refine (C6.out _ H.out.cur).mono ?_); rintro e wq ⟨rfl, hc, hg⟩; replace H := Lib.hid (H.out.call hc hg); clear hc hg; have hkb := H.out.boxed; obtain ⟨hkc, hkf⟩ := cellsN H.out.loc) | (go_at_call 52; apply lsCall; (next => first | exact H.out | exact H.out.set _ _ | exact (H.out.set _ _).set _ _); intro hKK; replace H := Lib.hid hKK; clear hKK; (try simp only [List.set_cons_zero, List.set_cons_succ] at H); (with_reducible refine (C7.out _ H.out.cur).mono ?_); rintro e wq ⟨rfl, hc, hg⟩; replace H := Lib.hid (H.out.call hc hg); clear hc hg; have hkb := H.out.boxed; obtain ⟨hkc, hkf⟩ := cellsN H.out.loc; obtain ⟨hrc, hrf⟩ := cellsN H.out.res))
      obtain ⟨⟨t', ht⟩, hc, hg, hh⟩ := (H.out.set 8 (.float .f64 ff)).finL (fun e => by have := HR.out _ e; omega) (by omega) (fun _ _ _ h => h) [.bool true, .int .i64 n2, .bool false, .slice none 0 0, .slice none 0 0, .int .i64 na, .int .i64 nb, .string ⟨tt.toArray⟩, .float .f64 ff]
      (try simp only [Exit.inBlock, Exit.then])
      refine bodyPost_ret (results_cell_row rfl _ _ (w.heap.size + 1) t' #[_, _, _, _, _, _, _, _, _] (0, 0) _ rfl ht Tryz.underlying45 rfl infoWrite) rfl ?_
      exact ⟨⟨⟨true, n2, false, [], [], ⟨na, nb, tt, ff⟩⟩, none, 0, none, 0⟩, rfl, rfl, hc, hg, extW_nil _ _ _ _ _ _⟩
    case false =>
      rw [q3, q1] at HW
      rw [q1] at HL
      simp only [Bool.false_eq_true, if_false, if_true] at HW
      have HE : Hid (curNd c3 = (((rowsC curStr c3).1, (rowsC curPr (rowsC curStr c3).2).1), (rowsC curPr (rowsC curStr c3).2).2)) := Lib.hid rfl
      rw [HE.out] at HW
      clear HE
      have hps := (rowsC_str c3).1
      have CS := Lib.hid (fun W (h : CurAt R W B c3) (hs : w.heap.size ≤ W.heap.size) => rowsS_c R B c3 W h (fun r hr => Nat.lt_of_lt_of_le (HR.out r hr) hs) hpc3)
      generalize rowsC curStr c3 = p4 at *
      obtain ⟨ss, c4⟩ := p4
      dsimp only at CS HW hps
      have CP := Lib.hid (fun W (h : CurAt R W B c4) (hs : w.heap.size ≤ W.heap.size) => rowsP_c R B c4 W h (fun r hr => Nat.lt_of_lt_of_le (HR.out r hr) hs) (by omega))
      generalize rowsC curPr c4 = p5 at *
      obtain ⟨pp, c5⟩ := p5
      dsimp only at CP HW
      obtain rfl := HW.out
      clear HW hps
      unfold RowsB at CS CP
      dsimp only at CS CP
      go_enter Tryz.func26, Tryz.ntmps26
      go_wp2_with fail
      with_reducible refine (C1.out _ H0.out).mono ?_
      rintro e w1 ⟨rfl, hc, hg⟩
      have H := Lib.hid (HL.out w1 hc hg)
      have hb1 := H.out.boxed
      have hne1 : ¬ w1.heap.size = w.heap.size + 1 := fun e => H.out.ne.2.2.2.2.1 e.symm
      have hne2 : ¬ w.heap.size + 1 = w1.heap.size := H.out.ne.2.2.2.2.1
      have hne3 : ¬ w.heap.size = w1.heap.size := H.out.ne.2.2.2.1
      have hne4 : ¬ w1.heap.size = w.heap.size := fun e => H.out.ne.2.2.2.1 e.symm
      clear hc hg hb0 H0 HL
      go_wp2_with (first | (go_at_call 24; apply lsCall; (next => first | exact H.out | exact H.out.set _ _ | exact (H.out.set _ _).set _ _); intro hKK; replace H := Lib.hid hKK; clear hKK; (try simp only [List.set_cons_zero, List.set_cons_succ] at H); (with_reducible refine (C2.out _ H.out.cur).mono ?_); rintro e wq ⟨rfl, hc, hg⟩; replace H := Lib.hid (H.out.call hc hg); clear hc hg; have hkb := H.out.boxed; obtain ⟨hkc, hkf⟩ := cellsN H.out.loc) | (go_at_call 24; apply lsCall; (next => first | exact H.out | exact H.out.set _ _ | exact (H.out.set _ _).set _ _); intro hKK; replace H := Lib.hid hKK; clear hKK; (try simp only [List.set_cons_zero, List.set_cons_succ] at H); (with_reducible refine (C3.out _ H.out.cur).mono ?_); rintro e wq ⟨rfl, hc, hg⟩; replace H := Lib.hid (H.out.call hc hg); clear hc hg; have hkb := H.out.boxed; obtain ⟨hkc, hkf⟩ := cellsN H.out.loc) | (go_at_call 53; apply lsCall; (next => first | exact H.out | exact H.out.set _ _ | exact (H.out.set _ _).set _ _); intro hKK; replace H := Lib.hid hKK; clear hKK; (try simp only [List.set_cons_zero, List.set_cons_succ] at H); (with_reducible refine (CS.out _ H.out.cur H.out.grown.size).mono ?_); rintro e wq ⟨va, vc, ys, rfl, hown, hmp, hc, hg, _⟩; have hmq : ss = ys := hmp.symm.trans (by simp); have hl3 := H.out.loc.1; have hr3 := H.out.res.1; have hlB := H.out.grown.size; replace H := Lib.hid ((H.out.call hc hg).more hown hl3 (by omega)); clear hc hg hown hmp; have hkb := H.out.boxed; obtain ⟨hkc, hkf⟩ := cellsN H.out.loc) | (go_at_call 54; apply lsCall; (next => first | exact H.out | exact H.out.set _ _ | exact (H.out.set _ _).set _ _); intro hKK; replace H := Lib.hid hKK; clear hKK; (try simp only [List.set_cons_zero, List.set_cons_succ] at H); (with_reducible refine (CP.out _ H.out.cur H.out.grown.size).mono ?_); rintro e wq ⟨vb, vd, zs, rfl, hown, hmp, hc, hg, _⟩; have hmr : pp = zs := hmp.symm.trans (by simp); have hl4 := H.out.loc.1; have hr4 := H.out.res.1; have hlB4 := H.out.grown.size; replace H := Lib.hid ((H.out.call hc hg).more hown hl4 (by omega)); clear hc hg hown hmp; have hkb := H.out.boxed; obtain ⟨hkc, hkf⟩ := cellsN H.out.loc; obtain ⟨hrc, hrf⟩ := cellsN H.out.res))
      obtain ⟨⟨t', ht⟩, hc, hg, hh⟩ := (H.out.set 4 (.slice vb zs.length vd)).finL (fun e => by have := HR.out _ e; omega) (by omega) (fun W j v h => ⟨⟨trivial, own_set h.1.2 _ j hr3 v⟩, own_set h.2 _ j hr4 v⟩) [.bool false, .int .i64 n2, .bool false, .slice va ys.length vc, .slice vb zs.length vd, .int .i64 0, .int .i64 0, .string ⟨#[]⟩, .float .f64 0]
      (try simp only [Exit.inBlock, Exit.then])
      refine bodyPost_ret (results_cell_row rfl _ _ (w.heap.size + 1) t' #[_, _, _, _, _, _, _, _, _] (0, 0) _ rfl ht Tryz.underlying45 rfl infoWrite) rfl ?_
      exact ⟨⟨⟨false, n2, false, ys, zs, noED⟩, va, vc, vb, vd⟩, rfl, by rw [hmq, hmr], hc, hg, ownsRow_mono hh.1.2 hlB, ownsRow_mono hh.2 hlB4⟩
end Go.Proofs.YtmbffncmogpkfaaGreatDoor
