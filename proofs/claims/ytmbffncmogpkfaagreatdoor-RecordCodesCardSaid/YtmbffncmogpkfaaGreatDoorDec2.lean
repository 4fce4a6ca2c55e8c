
/- Contracts of package record: rows of texts, rows of properties. -/
import Derived.Test.YtmbffncmogpkfaaGreatDoorDec
namespace Go.Proofs.YtmbffncmogpkfaaGreatDoor
open Go Go.Proofs Go.RowKit
set_option linter.unusedVariables false
set_option linter.unusedSimpArgs false

/-- what a taker gives: a value val y, y standing for what f takes; the cursor in the block B then stands as f leaves it; ext is told of y. -/
def TakeB {X Y : Type} (R : Option Nat) (B : Nat) (f : Cur → X × Cur) (pl : Y → X) (val : Y → Value) (ext : Nat → World → Y → Prop) (c : Cur) (W : World) (e : Ending) (W' : World) : Prop :=
  ∃ y, e = .returned (val y) ∧ pl y = (f c).1 ∧ CurAt R W' B (f c).2 ∧ W.grownBy W' (some B) ∧ ext W.heap.size W' y
/-- what rows gives. -/
def RowsB {X Y : Type} (R : Option Nat) (B : Nat) (e : TypeId) (k : Nat) (cells : Y → List Value) (pl : Y → X) (ext : Nat → World → Y → Prop) (rc : List X × Cur) (W : World) (en : Ending) (W' : World) : Prop :=
  ∃ va vc, ∃ ys : List Y, en = .returned (.slice va ys.length vc) ∧ W'.ownsRow W.heap.size e k (.slice va ys.length vc) ys.length (ys.flatMap cells) ∧ ys.map pl = rc.1 ∧ CurAt R W' B rc.2 ∧ W.grownBy W' (some B) ∧ ∀ y ∈ ys, ext W.heap.size W' y
structure RS {Y : Type} (R : Option Nat) (B : Nat) (e : TypeId) (k : Nat) (cells : Y → List Value) (ext : Nat → World → Y → Prop) (w0 : World) (v : Value) (ys : List Y) (c : Cur) (W : World) : Prop where
  cur : CurAt R W B c
  box : Blk W w0.heap.size [.pointer (some ⟨B, 0, none⟩)]
  own : W.ownsRow (w0.heap.size + 1) e k v ys.length (ys.flatMap cells)
  grown : w0.grownBy W (some B)
  lt : B < w0.heap.size
  far : ∀ r, R = some r → r < w0.heap.size
  size : w0.heap.size + 1 ≤ W.heap.size
  ext : ∀ y ∈ ys, ext (w0.heap.size + 1) W y
/-- ext stays: through a call on the cursor, and through an append onto a row of elements of the type e. -/
structure ExtOk {Y : Type} (e : TypeId) (k : Nat) (ext : Nat → World → Y → Prop) : Prop where
  call : ∀ lo (W W' : World) B y, B < lo → W.grownBy W' (some B) → ext lo W y → ext lo W' y
  mono : ∀ lo lo' (W : World) y, lo' ≤ lo → ext lo W y → ext lo' W y
  app : ∀ lo (W W' : World) B v n xs o y, W.ownsRow B e k v n xs → (W.alloc o).grownBy W' v.ownBlock → ext lo W y → ext lo W' y
section
variable {X Y : Type} {R : Option Nat} {B : Nat} {e : TypeId} {k : Nat} {cells : Y → List Value} {ext : Nat → World → Y → Prop} {w0 W W' : World} {v : Value} {ys : List Y} {c c' : Cur}
theorem RS.call (h : RS R B e k cells ext w0 v ys c W) (hx : ExtOk e k ext) (hc : CurAt R W' B c') (hg : W.grownBy W' (some B)) : RS R B e k cells ext w0 v ys c' W' := by
  have hlt := h.lt
  refine ⟨hc, h.box.grown hg (by simp; omega), h.own.kept hg ?_, grownBy_trans h.grown hg, h.lt, h.far, Nat.le_trans h.size hg.size, fun y hy => hx.call _ _ _ B y (by omega) hg (h.ext y hy)⟩
  cases hv : v.ownBlock with
  | none => exact .inl rfl
  | some q => right; intro e; have hq : q = B := by simpa using e
              have := (h.own.lt q hv).1; omega
theorem RS.push {y : Y} {v' : Value} {o : Obj} (h : RS R B e k cells ext w0 v ys c W) (hx : ExtOk e k ext) (hown : W'.ownsRow (w0.heap.size + 1) e k v' (ys.length + 1) (ys.flatMap cells ++ cells y)) (hgr : (W.alloc o).grownBy W' v.ownBlock) (hy : ext (w0.heap.size + 1) W y) :
    RS R B e k cells ext w0 v' (ys ++ [y]) c W' := by
  have hlt := h.lt
  have hne : ∀ q, v.ownBlock = some q → w0.heap.size + 1 ≤ q := fun q hq => (h.own.lt q hq).1
  have hsz : W.heap.size ≤ W'.heap.size := by have := hgr.size; simp at this; omega
  refine ⟨?_, (h.box.alloc o).grown hgr (fun hq => by have := hne _ hq; omega), by simpa [List.flatMap_append] using hown, ?_, h.lt, h.far, Nat.le_trans h.size hsz, fun z hz => ?_⟩
  · have hcur := h.cur.below ((Below.refl _ W).alloc (Nat.le_refl _) o)
    cases hv : v.ownBlock with
    | none => rw [hv] at hgr; exact hcur.below ⟨hgr.os, hgr.tape, hgr.output, hgr.size, fun i hi => hgr.block i hi (by simp)⟩
    | some q => rw [hv] at hgr; have := hne q hv; exact hcur.grown hgr (by omega) (fun e => by have := h.far _ e; omega)
  · have hs := h.grown.size
    have ha := World.grownBy_alloc W o none
    exact ⟨hgr.os.trans (ha.os.trans h.grown.os), hgr.tape.trans (ha.tape.trans h.grown.tape), hgr.output.trans (ha.output.trans h.grown.output), by omega, fun i hi hr => (hgr.block i (by simp; omega) (fun e => by have := hne i e.symm; omega)).trans ((ha.block i (by omega) (by simp)).trans (h.grown.block i hi hr))⟩
  · rcases List.mem_append.1 hz with hz | hz
    · exact hx.app _ _ _ _ _ _ _ _ _ h.own hgr (h.ext z hz)
    · obtain rfl : z = y := by simpa using hz
      exact hx.app _ _ _ _ _ _ _ _ _ h.own hgr hy
end
theorem extTrue {Y : Type} (e : TypeId) (k : Nat) : ExtOk (Y := Y) e k (fun _ _ _ => True) := ⟨fun _ _ _ _ _ _ _ _ => trivial, fun _ _ _ _ _ _ => trivial, fun _ _ _ _ _ _ _ _ _ _ _ _ => trivial⟩
theorem elemPr : ElemK 41 49 6 64 (⟨[], ⟨0, false, 0, 0, []⟩⟩ : PR).cells := elemK_of (z := .agg #[.string ⟨#[]⟩, .int .i64 0, .bool false, .int .i64 0, .float .f64 0, .string ⟨#[]⟩]) Tryz.underlying41 (by kernel_rfl) rfl rfl
theorem curStr_pf (l : List UInt8) : pot (curStr (some l)).2 + 1 ≤ l.length + 1 := by
  rcases curStr_p (some l) with ⟨h, _⟩ | h
  · rw [h]; simp [pot]
  · simp only [pot] at h ⊢; omega
theorem curPr_pf (l : List UInt8) : pot (curPr (some l)).2 + 1 ≤ l.length + 1 := by
  have h := curPr_p (some l)
  rcases h.2.2.2.2 with h | h
  · rw [h]; simp [pot]
  · unfold roomPr at h; simp only [pot] at h ⊢; omega
theorem takeStr_c (R : Option Nat) (B : Nat) (c : Cur) (w : World) (h : CurAt R w B c) (hR : ∀ r, R = some r → r < w.heap.size) (hp : pot c ≤ 10000001) :
    Calls Tryz.prog 51 #[.pointer (some ⟨B, 0, none⟩)] w (TakeB R B curStr (fun s : List UInt8 => s) (fun s => .string ⟨s.toArray⟩) (fun _ _ _ => True) c w) := by
  refine (CStr_c B c w h).mono ?_
  rintro e w' ⟨rfl, h1, h2⟩
  exact ⟨_, rfl, rfl, h1, h2, trivial⟩
theorem takePr_c (R : Option Nat) (B : Nat) (c : Cur) (w : World) (h : CurAt R w B c) (hR : ∀ r, R = some r → r < w.heap.size) (hp : pot c ≤ 10000001) :
    Calls Tryz.prog 55 #[.agg #[.pointer (some ⟨B, 0, none⟩)]] w (TakeB R B curPr (fun p : PR => p) (fun p => .agg #[.string ⟨p.key.toArray⟩, .int .i64 p.v.k, .bool p.v.b, .int .i64 p.v.n, .float .f64 p.v.f, .string ⟨p.v.t.toArray⟩]) (fun _ _ _ => True) c w) := by
  refine (prop_c R B c w h hR).mono ?_
  rintro e w' ⟨rfl, h1, h2⟩
  exact ⟨_, rfl, rfl, h1, h2, trivial⟩
set_option maxRecDepth 100000 in
set_option maxHeartbeats 8000000 in
theorem rowsS_c (R : Option Nat) (B : Nat) (c : Cur) (w : World) (h : CurAt R w B c) (hR : ∀ r, R = some r → r < w.heap.size) (hp : pot c ≤ 10000001) :
    Calls Tryz.prog 53 #[.agg #[.pointer (some ⟨B, 0, none⟩)], .func (.func 51) #[.pointer (some ⟨B, 0, none⟩)] #[]] w (RowsB R B 9 1 (fun s : List UInt8 => [strV s]) (fun s : List UInt8 => s) (fun _ _ _ => True) (rowsC curStr c) w) := by
  have hlt : B < w.heap.size := by obtain ⟨v, h0, _⟩ := h; exact World.block_lt_of_cell? w ⟨B, 0, none⟩ h0
  have CI := Lib.hid (fun W (h : CurAt R W B c) => CInt_c B c W h)
  have CG := Lib.hid (fun c W (h : CurAt R W B c) => Good_c B c W h)
  have TK := Lib.hid (fun W c (h : CurAt R W B c) hR hp => takeStr_c R B c W h hR hp)
  have HC : Hid (rowsC curStr c = rowsN curStr (curInt c).1.toNat (curInt c).2) := Lib.hid rfl
  have HP := Lib.hid (curInt_p c)
  generalize rowsC curStr c = rc at *
  generalize curInt c = p1 at *
  obtain ⟨n, c1⟩ := p1
  dsimp only at HC CI HP
  have H0 := Lib.hid (h.below ((Below.refl _ w).alloc (Nat.le_refl _) (.cells #[.pointer (some ⟨B, 0, none⟩)] 63)))
  have b1 : Blk (w.alloc (.cells #[.pointer (some ⟨B, 0, none⟩)] 63)) w.heap.size [.pointer (some ⟨B, 0, none⟩)] := Blk.new w [.pointer (some ⟨B, 0, none⟩)] _
  have hb0 := b1.cell 0 _ rfl
  have HX := Lib.hid (extTrue (Y := List UInt8) 9 1)
  have HRS : Hid (∀ w1, CurAt R w1 B c1 → (w.alloc (.cells #[.pointer (some ⟨B, 0, none⟩)] 63)).grownBy w1 (some B) → RS R B 9 1 (fun s : List UInt8 => [strV s]) (fun _ _ _ => True) w (.slice none 0 0) [] c1 w1) := Lib.hid (fun w1 hc hg =>
    ⟨hc, b1.grown hg (by simp; omega), World.ownsRow_nil _ _ _ _, grownBy_trans (World.grownBy_alloc w _ _) hg, hlt, hR, by have := hg.size; simpa using this, by simp⟩)
  have hpc : pot c1 ≤ 10000001 := by have := HP.out.2.1; omega
  clear b1 h hR HP hp
  go_enter Tryz.func53, Tryz.ntmps53
  go_wp2_with (first | (go_at_call 24; (with_reducible refine (CI.out _ H0.out).mono ?_); rintro e w1 ⟨rfl, hc, hg⟩; have H := Lib.hid (HRS.out w1 hc hg); clear hc hg hb0 H0 HRS CI) | fail)
  go_loopw [5, 7] (fun l i wr => ∃ (ys : List (List UInt8)) (cj : Cur) (va : Option Addr) (vc : Nat), i = .int .i64 (ys.length : Int) ∧ ys.length ≤ n.toNat ∧ l = .slice va ys.length vc ∧ RS R B 9 1 (fun s : List UInt8 => [strV s]) (fun _ _ _ => True) w (.slice va ys.length vc) ys cj wr ∧ rc = (ys.map (fun s : List UInt8 => s) ++ (rowsN curStr (n.toNat - ys.length) cj).1, (rowsN curStr (n.toNat - ys.length) cj).2) ∧ ys.length + pot cj ≤ pot c1) (fun _ i _ => n.toNat - (intOf i).toNat)
  case atStart => exact ⟨[], c1, none, 0, rfl, by simp, rfl, H.out, by rw [HC.out]; simp, by simp⟩
  case round =>
    clear H
    obtain ⟨ys, cj, va, vc, rfl, hle, rfl, hrs, hrc, hpt⟩ := hrel
    have H := Lib.hid hrs
    have HRC := Lib.hid hrc
    have hb1 := H.out.box.cell 0 _ rfl
    clear hrs hrc
    by_cases hltn : ys.length < n.toNat
    · have hi1 : (ys.length : Int) < n := by omega
      cases cj with
      | none =>
        have CGN := Lib.hid (CG.out none _ H.out.cur)
        obtain ⟨m, hm⟩ : ∃ m, n.toNat - ys.length = m + 1 := ⟨n.toNat - ys.length - 1, by omega⟩
        have HZ : Hid (rc = (ys.map (fun s : List UInt8 => s), none)) := Lib.hid (by rw [HRC.out, hm]; simp [rowsN])
        clear hm CG
        go_wp2_with (first | (go_at_call 50; (with_reducible refine CGN.out.mono ?_); rintro e w1 ⟨rfl, rfl⟩) | fail)
        go_ret
        refine ⟨va, vc, ys, rfl, ownsRow_mono H.out.own (by omega), by rw [HZ.out], by rw [HZ.out]; exact H.out.cur, H.out.grown, fun y hy => HX.out.mono (w.heap.size + 1) w.heap.size wr y (by omega) (H.out.ext y hy)⟩
      | some l =>
        have CGN := Lib.hid (CG.out (some l) _ H.out.cur)
        have hpe : pot (some l) = l.length + 1 := rfl
        rw [hpe] at hpt
        have hlp : pot (some l) ≤ 10000001 := by rw [hpe]; omega
        clear hpe
        have TKN := Lib.hid (TK.out _ _ H.out.cur (fun r hr => by have := H.out.far r hr; have := H.out.size; omega) hlp)
        obtain ⟨m, hm⟩ : ∃ m, n.toNat - ys.length = m + 1 := ⟨n.toNat - ys.length - 1, by omega⟩
        have HZ : Hid (rc = (ys.map (fun s : List UInt8 => s) ++ ((curStr (some l)).1 :: (rowsN curStr m (curStr (some l)).2).1), (rowsN curStr m (curStr (some l)).2).2)) := Lib.hid (by rw [HRC.out, hm]; rfl)
        have hpf := curStr_pf l
        clear HRC CG
        unfold TakeB at TKN
        generalize curStr (some l) = pz at *
        obtain ⟨x, cz⟩ := pz
        dsimp only at TKN HZ hpf
        go_wp2_with (first | (go_at_call 50; (with_reducible refine CGN.out.mono ?_); rintro e w1 ⟨rfl, rfl⟩) | (go_at_call 51; (with_reducible refine TKN.out.mono ?_); rintro e wq ⟨y, rfl, hpl, hc, hg, hx⟩; have HPL := Lib.hid hpl; have HXY := Lib.hid (HX.out.mono wr.heap.size (w.heap.size + 1) wq y H.out.size hx); replace H := Lib.hid (H.out.call HX.out hc hg); clear hpl hc hg hx; skip) | (at_builtin; refine wp_appK1 elemS (by decide) rfl _ _ rfl (w.heap.size + 1) ys.length _ _ rfl H.out.own ((fun s : List UInt8 => [strV s]) y) rfl rfl (by simp [strV, Value.oneCell']) ?_ ?_ ?_ ?_))
        · omega
        · omega
        · exact H.out.size
        intro v' w6 hown6 hgr hb6
        have HN := Lib.hid (H.out.push HX.out hown6 hgr HXY.out)
        obtain ⟨va', vc', rfl⟩ := owns_shape hown6
        clear hown6 hgr hb6
        go_wp2_with fail
        go_roundw
        case rel => exact ⟨ys ++ [y], cz, va', vc', by simp, by simp; omega, by simp, by simpa using HN.out, by rw [HZ.out, ← HPL.out]; simp only [List.length_append, List.length_cons, List.length_nil, Nat.zero_add, show n.toNat - (ys.length + 1) = m by omega, List.map_append, List.map_cons, List.map_nil, List.append_assoc, List.cons_append, List.nil_append], by simp; omega⟩
        case measure => simp [intOf]; omega
    · have hi1 : ¬ (ys.length : Int) < n := by omega
      have HZ : Hid (rc = (ys.map (fun s : List UInt8 => s), cj)) := Lib.hid (by rw [HRC.out, show n.toNat - ys.length = 0 by omega]; simp [rowsN])
      go_wp2_with fail
      go_ret
      refine ⟨va, vc, ys, rfl, ownsRow_mono H.out.own (by omega), by rw [HZ.out], by rw [HZ.out]; exact H.out.cur, H.out.grown, fun y hy => HX.out.mono (w.heap.size + 1) w.heap.size wr y (by omega) (H.out.ext y hy)⟩
set_option maxRecDepth 100000 in
set_option maxHeartbeats 8000000 in
theorem rowsP_c (R : Option Nat) (B : Nat) (c : Cur) (w : World) (h : CurAt R w B c) (hR : ∀ r, R = some r → r < w.heap.size) (hp : pot c ≤ 10000001) :
    Calls Tryz.prog 54 #[.agg #[.pointer (some ⟨B, 0, none⟩)], .func (.func 55) #[.agg #[.pointer (some ⟨B, 0, none⟩)]] #[]] w (RowsB R B 49 6 PR.cells (fun p : PR => p) (fun _ _ _ => True) (rowsC curPr c) w) := by
  have hlt : B < w.heap.size := by obtain ⟨v, h0, _⟩ := h; exact World.block_lt_of_cell? w ⟨B, 0, none⟩ h0
  have CI := Lib.hid (fun W (h : CurAt R W B c) => CInt_c B c W h)
  have CG := Lib.hid (fun c W (h : CurAt R W B c) => Good_c B c W h)
  have TK := Lib.hid (fun W c (h : CurAt R W B c) hR hp => takePr_c R B c W h hR hp)
  have HC : Hid (rowsC curPr c = rowsN curPr (curInt c).1.toNat (curInt c).2) := Lib.hid rfl
  have HP := Lib.hid (curInt_p c)
  generalize rowsC curPr c = rc at *
  generalize curInt c = p1 at *
  obtain ⟨n, c1⟩ := p1
  dsimp only at HC CI HP
  have H0 := Lib.hid (h.below ((Below.refl _ w).alloc (Nat.le_refl _) (.cells #[.pointer (some ⟨B, 0, none⟩)] 63)))
  have b1 : Blk (w.alloc (.cells #[.pointer (some ⟨B, 0, none⟩)] 63)) w.heap.size [.pointer (some ⟨B, 0, none⟩)] := Blk.new w [.pointer (some ⟨B, 0, none⟩)] _
  have hb0 := b1.cell 0 _ rfl
  have HX := Lib.hid (extTrue (Y := PR) 49 6)
  have HRS : Hid (∀ w1, CurAt R w1 B c1 → (w.alloc (.cells #[.pointer (some ⟨B, 0, none⟩)] 63)).grownBy w1 (some B) → RS R B 49 6 PR.cells (fun _ _ _ => True) w (.slice none 0 0) [] c1 w1) := Lib.hid (fun w1 hc hg =>
    ⟨hc, b1.grown hg (by simp; omega), World.ownsRow_nil _ _ _ _, grownBy_trans (World.grownBy_alloc w _ _) hg, hlt, hR, by have := hg.size; simpa using this, by simp⟩)
  have hpc : pot c1 ≤ 10000001 := by have := HP.out.2.1; omega
  clear b1 h hR HP hp
  go_enter Tryz.func54, Tryz.ntmps54
  go_wp2_with (first | (go_at_call 24; (with_reducible refine (CI.out _ H0.out).mono ?_); rintro e w1 ⟨rfl, hc, hg⟩; have H := Lib.hid (HRS.out w1 hc hg); clear hc hg hb0 H0 HRS CI) | fail)
  go_loopw [5, 7] (fun l i wr => ∃ (ys : List PR) (cj : Cur) (va : Option Addr) (vc : Nat), i = .int .i64 (ys.length : Int) ∧ ys.length ≤ n.toNat ∧ l = .slice va ys.length vc ∧ RS R B 49 6 PR.cells (fun _ _ _ => True) w (.slice va ys.length vc) ys cj wr ∧ rc = (ys.map (fun p : PR => p) ++ (rowsN curPr (n.toNat - ys.length) cj).1, (rowsN curPr (n.toNat - ys.length) cj).2) ∧ ys.length + pot cj ≤ pot c1) (fun _ i _ => n.toNat - (intOf i).toNat)
  case atStart => exact ⟨[], c1, none, 0, rfl, by simp, rfl, H.out, by rw [HC.out]; simp, by simp⟩
  case round =>
    clear H
    obtain ⟨ys, cj, va, vc, rfl, hle, rfl, hrs, hrc, hpt⟩ := hrel
    have H := Lib.hid hrs
    have HRC := Lib.hid hrc
    have hb1 := H.out.box.cell 0 _ rfl
    clear hrs hrc
    by_cases hltn : ys.length < n.toNat
    · have hi1 : (ys.length : Int) < n := by omega
      cases cj with
      | none =>
        have CGN := Lib.hid (CG.out none _ H.out.cur)
        obtain ⟨m, hm⟩ : ∃ m, n.toNat - ys.length = m + 1 := ⟨n.toNat - ys.length - 1, by omega⟩
        have HZ : Hid (rc = (ys.map (fun p : PR => p), none)) := Lib.hid (by rw [HRC.out, hm]; simp [rowsN])
        clear hm CG
        go_wp2_with (first | (go_at_call 50; (with_reducible refine CGN.out.mono ?_); rintro e w1 ⟨rfl, rfl⟩) | fail)
        go_ret
        refine ⟨va, vc, ys, rfl, ownsRow_mono H.out.own (by omega), by rw [HZ.out], by rw [HZ.out]; exact H.out.cur, H.out.grown, fun y hy => HX.out.mono (w.heap.size + 1) w.heap.size wr y (by omega) (H.out.ext y hy)⟩
      | some l =>
        have CGN := Lib.hid (CG.out (some l) _ H.out.cur)
        have hpe : pot (some l) = l.length + 1 := rfl
        rw [hpe] at hpt
        have hlp : pot (some l) ≤ 10000001 := by rw [hpe]; omega
        clear hpe
        have TKN := Lib.hid (TK.out _ _ H.out.cur (fun r hr => by have := H.out.far r hr; have := H.out.size; omega) hlp)
        obtain ⟨m, hm⟩ : ∃ m, n.toNat - ys.length = m + 1 := ⟨n.toNat - ys.length - 1, by omega⟩
        have HZ : Hid (rc = (ys.map (fun p : PR => p) ++ ((curPr (some l)).1 :: (rowsN curPr m (curPr (some l)).2).1), (rowsN curPr m (curPr (some l)).2).2)) := Lib.hid (by rw [HRC.out, hm]; rfl)
        have hpf := curPr_pf l
        clear HRC CG
        unfold TakeB at TKN
        generalize curPr (some l) = pz at *
        obtain ⟨x, cz⟩ := pz
        dsimp only at TKN HZ hpf
        go_wp2_with (first | (go_at_call 50; (with_reducible refine CGN.out.mono ?_); rintro e w1 ⟨rfl, rfl⟩) | (go_at_call 55; (with_reducible refine TKN.out.mono ?_); rintro e wq ⟨y, rfl, hpl, hc, hg, hx⟩; have HPL := Lib.hid hpl; have HXY := Lib.hid (HX.out.mono wr.heap.size (w.heap.size + 1) wq y H.out.size hx); replace H := Lib.hid (H.out.call HX.out hc hg); clear hpl hc hg hx; obtain ⟨key, ⟨k, b, nn, f, t⟩⟩ := y; dsimp only) | (at_builtin; refine wp_appK1 elemPr (by decide) rfl _ _ rfl (w.heap.size + 1) ys.length _ _ rfl H.out.own (PR.cells ⟨key, ⟨k, b, nn, f, t⟩⟩) rfl rfl (by simp [PR.cells, Value.oneCell']) ?_ ?_ ?_ ?_))
        · omega
        · omega
        · exact H.out.size
        intro v' w6 hown6 hgr hb6
        have HN := Lib.hid (H.out.push HX.out hown6 hgr HXY.out)
        obtain ⟨va', vc', rfl⟩ := owns_shape hown6
        clear hown6 hgr hb6
        go_wp2_with fail
        go_roundw
        case rel => exact ⟨ys ++ [⟨key, ⟨k, b, nn, f, t⟩⟩], cz, va', vc', by simp, by simp; omega, by simp, by simpa using HN.out, by rw [HZ.out, ← HPL.out]; simp only [List.length_append, List.length_cons, List.length_nil, Nat.zero_add, show n.toNat - (ys.length + 1) = m by omega, List.map_append, List.map_cons, List.map_nil, List.append_assoc, List.cons_append, List.nil_append], by simp; omega⟩
        case measure => simp [intOf]; omega
    · have hi1 : ¬ (ys.length : Int) < n := by omega
      have HZ : Hid (rc = (ys.map (fun p : PR => p), cj)) := Lib.hid (by rw [HRC.out, show n.toNat - ys.length = 0 by omega]; simp [rowsN])
      go_wp2_with fail
      go_ret
      refine ⟨va, vc, ys, rfl, ownsRow_mono H.out.own (by omega), by rw [HZ.out], by rw [HZ.out]; exact H.out.cur, H.out.grown, fun y hy => HX.out.mono (w.heap.size + 1) w.heap.size wr y (by omega) (H.out.ext y hy)⟩
end Go.Proofs.YtmbffncmogpkfaaGreatDoor
