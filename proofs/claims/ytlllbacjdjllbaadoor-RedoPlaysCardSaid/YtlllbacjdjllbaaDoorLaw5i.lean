
/- The laws on package redo: RedoPlays; few sectors, numbers out of its range. -/
import Derived.Test.YtlllbacjdjllbaaDoorRl5
import Derived.Test.YtlllbacjdjllbaaDoorLaw5h
import Derived.Test.YtlllbacjdjllbaaDoorRl7
import Derived.Deep.LoopGhost
import Derived.Deep.DeepCutAuto
import Derived.Deep.CutBlock
namespace Go.Proofs.YtlllbacjdjllbaaDoor
open Go Go.Proofs Go.Shelf Go.RowKit Go.Great
set_option linter.unusedVariables false
set_option linter.unusedSimpArgs false

theorem DrumAt.mono {lo lo' : Nat} {w : World} {D g m : Nat} {v : Value} {d : PD} (h : DrumAt lo w D g m v d) (hl : lo' ≤ lo) : DrumAt lo' w D g m v d :=
  ⟨h.blk, h.gb, h.mb, own_mono h.wb hl, ⟨h.ne.1, Nat.le_trans hl h.ne.2.1, Nat.le_trans hl h.ne.2.2.1, Nat.le_trans hl h.ne.2.2.2⟩, h.ok⟩
theorem RDAt.mono {lo lo' : Nat} {w : World} {X : Nat} {ov sv wv : Value} {d : PD} {left : Int} (h : RDAt lo w X ov sv wv d left) (hl : lo' ≤ lo) : RDAt lo' w X ov sv wv d left :=
  ⟨h.blk, own_mono h.old hl, own_mono h.s hl, own_mono h.w hl, h.ne, Nat.le_trans hl h.ge, h.ok, h.left⟩
theorem RLAt.mono {lo lo' : Nat} {w : World} {L X : Nat} {bv : Value} {l : PL} (h : RLAt lo w L X bv l) (hl : lo' ≤ lo) : RLAt lo' w L X bv l := ⟨h.blk, own_mono h.own hl, Nat.le_trans hl h.ge⟩
theorem LDAt.mono {lo lo' : Nat} {w : World} {L D g m : Nat} {bv v : Value} {l : PL} {d : PD} (h : LDAt lo w L D g m bv v l d) (hl : lo' ≤ lo) : LDAt lo' w L D g m bv v l d := ⟨h.log.mono hl, h.drum.mono hl⟩
theorem entF_le : ∀ (q : Nat) (c : Cur), (entF q c).1.length ≤ q
  | 0, none => by simp [entF]
  | 0, some [] => by simp [entF]
  | 0, some (_ :: _) => by simp [entF]
  | q + 1, none => by simp [entF]
  | q + 1, some [] => by simp [entF]
  | q + 1, some (x :: r) => by
    have := entF_le q (curStr (some (x :: r))).2
    simp only [entF, List.length_cons]
    omega
theorem entP_le (l : List UInt8) : (entP l).1.length ≤ l.length := entF_le _ _
theorem logP_ok {d : PD} (hd : d.ok) (hn : 4 ≤ d.n) : (logP d).ok d ∧ (logP d).count ≤ 6400 := by
  obtain ⟨h1, h2, h3, h4, h5⟩ := newest_ok d
  have hq : bankP d ≤ 99 := by unfold bankP; have := hd.n; omega
  have hl : (logB d).length ≤ 64 * bankP d := by
    unfold logB
    rw [List.length_take]
    omega
  have he := entP_le (logB d)
  exact ⟨⟨hn, ⟨h4, h5⟩, h1, hl, ⟨by show (0 : Int) ≤ ((entP (logB d)).1.length : Int); omega, by show ((entP (logB d)).1.length : Int) ≤ _; omega⟩⟩, by show ((entP (logB d)).1.length : Int) ≤ _; omega⟩
theorem lays_gen {l : PL} {d : PD} (hok : l.ok d) (hd : d.n ≤ 200) {k : Nat} (hk : k ≤ 1) {b p : List UInt8} {count : Int} (hc : 0 ≤ count ∧ count ≤ 1099511627776) :
    (laysP l d k b p count).2.1.ok (laysP l d k b p count).2.2 ∧ (laysP l d k b p count).2.2.n = d.n ∧ (laysP l d k b p count).2.2.wait.length ≤ d.wait.length + 101 ∧ ((laysP l d k b p count).2.1.count = l.count ∨ (laysP l d k b p count).2.1.count = count) := by
  by_cases hf : (b ++ lebStr p).length ≤ 64 * bankP d ∧ l.head.number < 1099511627776
  · obtain ⟨h1, h2, h3, h4⟩ := lays_step hok hd hk hc hf.1 hf.2 (p := p)
    refine ⟨h2, h3, h4, ?_⟩
    rcases h1 with ⟨_, _, h⟩ | ⟨_, h⟩
    · rw [h]; exact .inr rfl
    · rw [h]; exact .inl rfl
  · have e : ∃ r, laysP l d k b p count = (r, l, d) := by
      unfold laysP
      split
      · exact ⟨_, rfl⟩
      · rw [if_pos (by omega)]; exact ⟨_, rfl⟩
    obtain ⟨r, e⟩ := e
    rw [e]
    exact ⟨hok, rfl, Nat.le_add_right _ _, .inl rfl⟩
/-- a log and a drum that fit, j acts on. -/
structure Fit (l : PL) (d : PD) (j : Nat) : Prop where
  ok : l.ok d
  cnt : l.count ≤ 100000 + j
  n : d.n ≤ 20
  wait : d.wait.length ≤ 1000 * j
theorem Fit.append {l l1 : PL} {d d1 : PD} {j : Nat} {r : Int} {p : List UInt8} (h : Fit l d j) (hj : j ≤ 30) (he : appendP l d p = (r, l1, d1)) : Fit l1 d1 (j + 1) := by
  have hb := h.ok.bank
  have hc := h.ok.count
  have hcn := h.cnt
  have hn := h.n
  have hw := h.wait
  obtain ⟨q1, q2, q3, q4⟩ := lays_gen h.ok (by omega) (k := l.head.bank.toNat) (by omega) (b := l.b) (p := p) (count := l.count + 1) ⟨by omega, by omega⟩
  rw [show laysP l d l.head.bank.toNat l.b p (l.count + 1) = (r, l1, d1) from he] at q1 q2 q3 q4
  simp only at q1 q2 q3 q4
  exact ⟨q1, by push_cast; omega, by omega, by omega⟩
theorem Fit.reset {l l1 : PL} {d d1 : PD} {j : Nat} {r : Int} {p : List UInt8} (h : Fit l d j) (hj : j ≤ 30) (he : resetP l d p = (r, l1, d1)) : Fit l1 d1 (j + 1) := by
  have hb := h.ok.bank
  have hc := h.ok.count
  have hcn := h.cnt
  have hn := h.n
  have hw := h.wait
  obtain ⟨q1, q2, q3, q4⟩ := lays_gen h.ok (by omega) (k := (1 - l.head.bank).toNat) (by omega) (b := []) (p := p) (count := 1) ⟨by omega, by omega⟩
  rw [show laysP l d (1 - l.head.bank).toNat [] p 1 = (r, l1, d1) from he] at q1 q2 q3 q4
  simp only at q1 q2 q3 q4
  exact ⟨q1, by push_cast; omega, by omega, by omega⟩
theorem Fit.fuse {l : PL} {d : PD} {j : Nat} (h : Fit l d j) (n : Int) : Fit l { d with fuse := n } (j + 1) :=
  ⟨⟨h.ok.n, h.ok.no, h.ok.bank, h.ok.len, h.ok.count⟩, by have := h.cnt; push_cast; omega, h.n, by have := h.wait; show d.wait.length ≤ _; omega⟩
theorem Fit.opened {d : PD} {j : Nat} (hd : d.ok) (h4 : 4 ≤ d.n) (hn : d.n ≤ 20) (hw : d.wait.length ≤ 1000 * j) : Fit (logP d) d j := by
  obtain ⟨h1, h2⟩ := logP_ok hd h4
  exact ⟨h1, by omega, hn, hw⟩
/-- both logs and both drums in memory. -/
structure Two (w0 W : World) (D g m L L2 X : Nat) (v bv bv2 ov sv wv : Value) (lf : Int) (l : PL) (d : PD) (j : Nat) : Prop where
  ld : LDAt w0.heap.size W L D g m bv v l d
  rl : RLAt w0.heap.size W L2 X bv2 l
  rd : RDAt w0.heap.size W X ov sv wv d lf
  fit : Fit l d j
  bel : Below w0.heap.size w0 W
theorem XOpen_new {lo X : Nat} {ov sv wv : Value} {n : Nat} {lf : Int} {w : World} (h : RDAt lo w X ov sv wv (newP n) lf) (hn : 4 ≤ n) : Calls Tryd.prog 23 #[.pointer (some ⟨X, 0, none⟩)] w fun e w' =>
    ∃ L2 bv2 rv, e = .returned (.tuple #[.pointer (some ⟨L2, 0, none⟩), rv, .int .i64 0]) ∧ RLAt w.heap.size w' L2 X bv2 log0 ∧ Below w.heap.size w w' := by
  refine (XOpen_c h hn).mono ?_
  rintro e w' (⟨h1, L2, bv2, rv, rfl, h2, _, h3⟩ | ⟨h1, _⟩)
  · rw [logP_new n hn] at h2
    exact ⟨L2, bv2, rv, rfl, h2, h3⟩
  · rw [logB_new n hn, entP_nil] at h1
    cases h1
theorem RDAt.lo_le {lo X : Nat} {ov sv wv : Value} {d : PD} {lf : Int} {w : World} (h : RDAt lo w X ov sv wv d lf) : lo ≤ w.heap.size := by
  have := h.ge; have := h.blk.lt; omega
/-- what the loop of RedoPlays holds. -/
def PlaysRel (w : World) (n j : Nat) (s5 s6 s7 s10 : Value) (W : World) : Prop := ∃ (D g m L L2 X : Nat) (v bv bv2 ov sv wv : Value) (lf : Int) (l : PL) (d : PD), s5 = .pointer (some ⟨D, 0, none⟩) ∧ s6 = .pointer (some ⟨X, 0, none⟩) ∧ s7 = .pointer (some ⟨L, 0, none⟩) ∧ s10 = .pointer (some ⟨L2, 0, none⟩) ∧ d.n = n ∧ Two w W D g m L L2 X v bv bv2 ov sv wv lf l d j
set_option maxRecDepth 100000 in
set_option maxHeartbeats 16000000 in
theorem RedoPlays_out (a0 : Int) (v1 : Value) (x1 : List AA) (w : World) (w0 : (Lit.int .i64 a0).wf = true) (w1 : RowK 4 w v1 (x1.map AA.cells)) (y1 : ∀ p ∈ x1, p.at w ∧ okAA p) (z1 : x1.length ≤ 2199023255552) (hout : a0 < 0 ∨ 20 < a0) :
    Calls Tryd.prog 9 #[.int .i64 a0, v1] w fun e w' => e = .returned (.bool true) ∧ Below w.heap.size w w' := by
  have HLg := Lib.hid (long_c v1 x1 w w1 y1)
  obtain ⟨a, c, rfl, _⟩ := w1.shape
  rw [List.length_map] at *
  have HR := Lib.hid (fun W (hb : Below w.heap.size w W) => w1.below hb)
  have HY := Lib.hid y1
  clear w1 y1 w0
  by_cases h0 : a0 < 0
  · go_enter Tryd.func9, Tryd.ntmps9
    go_wp2_with (first | (go_at_call 21; (with_reducible refine (HLg.out).mono ?_); rintro e w2 ⟨r, rfl, hlr, hb⟩; have HB := Lib.hid hb; clear hlr hb; cases r) | fail)
    all_goals (go_ret; exact ⟨rfl, HB.out⟩)
  · have h1 : 20 < a0 := by omega
    go_enter Tryd.func9, Tryd.ntmps9
    go_wp2_with (first | (go_at_call 21; (with_reducible refine (HLg.out).mono ?_); rintro e w2 ⟨r, rfl, hlr, hb⟩; have HB := Lib.hid hb; clear hlr hb; cases r) | fail)
    all_goals (go_ret; exact ⟨rfl, HB.out⟩)
set_option maxRecDepth 100000 in
set_option maxHeartbeats 16000000 in
theorem RedoPlays_small (n : Nat) (v1 : Value) (x1 : List AA) (w : World) (w1 : RowK 4 w v1 (x1.map AA.cells)) (y1 : ∀ p ∈ x1, p.at w ∧ okAA p) (z1 : x1.length ≤ 2199023255552) (h20 : n ≤ 20) (h4 : ¬ 4 ≤ n) :
    Calls Tryd.prog 9 #[.int .i64 (n : Int), v1] w fun e w' => e = .returned (.bool true) ∧ Below w.heap.size w w' := by
  have HLg := Lib.hid (long_c v1 x1 w w1 y1)
  obtain ⟨a, c, rfl, _⟩ := w1.shape
  rw [List.length_map] at *
  have HR := Lib.hid (fun W (hb : Below w.heap.size w W) => w1.below hb)
  have HY := Lib.hid y1
  clear w1 y1
  have h0 : ¬ (n : Int) < 0 := by omega
  have h1 : ¬ 20 < (n : Int) := by omega
  have H4 := Lib.hid h4
  have HS4 : Hid (n < 4) := Lib.hid (by omega)
  clear h4
  go_enter Tryd.func9, Tryd.ntmps9
  go_wp2_with (first | (go_at_call 21; (with_reducible refine (HLg.out).mono ?_); rintro e w2 ⟨r, rfl, hlr, hb⟩; have HB := Lib.hid hb; clear hlr hb; cases r) | (go_at_call 10; (with_reducible refine (New_c _ n (by omega)).mono ?_); rintro e w3 ⟨D, g, m, rfl, hd, hb3⟩; have HD := Lib.hid hd; replace HB := Lib.hid (HB.out.trans (hb3.mono HB.out.size)); clear hd hb3) | (go_at_call 22; (with_reducible refine (RNew_c _ n (by omega)).mono ?_); rintro e w4 ⟨X, ov, sv, wv, lf, rfl, hx, hb4⟩; have HX := Lib.hid hx; replace HD := Lib.hid (HD.out.below hb4); replace HB := Lib.hid (HB.out.trans (hb4.mono HB.out.size)); clear hx hb4) | (go_at_call 11; (with_reducible refine (Open_few HD.out H4.out).mono ?_); rintro e wq ⟨rfl, rfl⟩) | (go_at_call 23; (have hxo := XOpen_small HX.out HS4.out; (with_reducible refine hxo.mono ?_); clear hxo); rintro e wq ⟨rfl, rfl⟩) | (go_at_call 16; (with_reducible refine (known5_c _).mono ?_); rintro e w9 ⟨rfl, hb9⟩; replace HB := Lib.hid (HB.out.trans (hb9.mono HB.out.size)); clear hb9) | fail)
  rotate_left
  · go_ret
    exact ⟨rfl, HB.out⟩
  go_loopw [13] (fun s13 wr => s13 = .int .i64 0 ∧ wr = w4) (fun _ _ => 0)
  case atStart => exact ⟨rfl, rfl⟩
  case round =>
    obtain ⟨rfl, rfl⟩ := hrel
    go_wp2_with (first | (go_at_call 16; (with_reducible refine (known5_c _).mono ?_); rintro e w9 ⟨rfl, hb9⟩; replace HB := Lib.hid (HB.out.trans (hb9.mono HB.out.size)); clear hb9) | fail)
    go_ret
    exact ⟨rfl, HB.out⟩
end Go.Proofs.YtlllbacjdjllbaaDoor
