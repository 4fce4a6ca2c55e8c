
/- Contracts of the reference's drum: what it is in memory; alive, Waiting, Fuse. -/
import Derived.Test.YtlllbacjdjllbaaDoorLaw5a
namespace Go.Proofs.YtlllbacjdjllbaaDoor
open Go Go.Proofs Go.Shelf Go.RowKit Go.Great
set_option linter.unusedVariables false
set_option linter.unusedSimpArgs false

def tX : TypeId := 84
def tStr : TypeId := 9
def tRw : TypeId := 92
def tRL : TypeId := 59
/-- nothing has turned but the reference's drums that lie from lo on. -/
def notR (W : World) (k : Nat) : Prop := ∀ cs t fr, W.heap[k]? = some (.cells cs t fr) → t ≠ tX ∧ t ≠ tStr ∧ t ≠ tRw
structure ChR (lo : Nat) (w w' : World) : Prop where
  os : w'.os = w.os
  tape : w'.tape = w.tape
  output : w'.output = w.output
  size : w.heap.size ≤ w'.heap.size
  block : ∀ k, k < w.heap.size → (k < lo ∨ notR w k) → w'.heap[k]? = w.heap[k]?
theorem ChR.refl (lo : Nat) (w : World) : ChR lo w w := ⟨rfl, rfl, rfl, Nat.le_refl _, fun _ _ _ => rfl⟩
theorem ChR.trans {lo : Nat} {a b c : World} (h : ChR lo a b) (k : ChR lo b c) : ChR lo a c :=
  ⟨k.os.trans h.os, k.tape.trans h.tape, k.output.trans h.output, Nat.le_trans h.size k.size, fun i hi hd => by
    have e := h.block i hi hd
    rw [← e]
    refine k.block i (Nat.lt_of_lt_of_le hi h.size) ?_
    rcases hd with hd | hd
    · exact .inl hd
    · right; intro cs t fr hc; rw [e] at hc; exact hd cs t fr hc⟩
theorem ChR.ofBelow {lo : Nat} {w w' : World} (h : Below w.heap.size w w') : ChR lo w w' := ⟨h.os, h.tape, h.output, h.size, fun k hk _ => h.block k hk⟩
theorem ChR.below {lo : Nat} {w0 w w' : World} (h : ChR lo w w') (h0 : Below w0.heap.size w0 w) (hl : w0.heap.size ≤ lo) : Below w0.heap.size w0 w' :=
  h0.trans ⟨h.os, h.tape, h.output, h.size, fun k hk => h.block k (Nat.lt_of_lt_of_le hk h0.size) (.inl (by omega))⟩
theorem BlkT.chr {lo : Nat} {w w' : World} {g : Nat} {cs : List Value} {t : TypeId} (h : BlkT w g cs t) (hc : ChR lo w w') (ht : t ≠ tX ∧ t ≠ tStr ∧ t ≠ tRw) : BlkT w' g cs t := by
  have e := hc.block g h.lt (.inr (fun cs' t' fr' he => by unfold BlkT at h; rw [h] at he; simp only [Option.some.injEq, Obj.cells.injEq] at he; rw [← he.2.1]; exact ht))
  unfold BlkT at h ⊢
  rw [e]; exact h
theorem own_chr {lo : Nat} {w w' : World} {B e k n : Nat} {v : Value} {xs : List Value} (h : w.ownsRow B e k v n xs) (hc : ChR lo w w') (ht : e ≠ tX ∧ e ≠ tStr ∧ e ≠ tRw) : w'.ownsRow B e k v n xs := by
  refine ⟨h.1, ?_⟩
  rcases h.2 with h' | ⟨g, cap, cur, rfl, hB, hg, rest⟩
  · exact .inl h'
  · refine .inr ⟨g, cap, cur, rfl, hB, ?_, rest⟩
    rw [hc.block g (Array.getElem?_eq_some_iff.1 hg).1 (.inr (fun cs' t' fr' he => by rw [hg] at he; simp only [Option.some.injEq, Obj.cells.injEq] at he; rw [← he.2.1]; exact ht))]
    exact hg
/-- one block of the reference's is written. -/
theorem ChR.grown {lo : Nat} {w W W' : World} {g : Nat} (h : ChR lo w W) (hg : W.grownBy W' (some g)) (hlo : lo ≤ g) (ht : ∃ cs t fr, W.heap[g]? = some (.cells cs t fr) ∧ (t = tX ∨ t = tStr ∨ t = tRw)) : ChR lo w W' := by
  refine ⟨hg.os.trans h.os, hg.tape.trans h.tape, hg.output.trans h.output, Nat.le_trans h.size hg.size, fun k hk hd => ?_⟩
  have hne : k ≠ g := by
    rintro rfl
    rcases hd with hd | hd
    · omega
    · obtain ⟨cs, t, fr, h1, h2⟩ := ht
      have e := h.block k hk (.inr hd)
      rw [e] at h1
      obtain ⟨a, b, c⟩ := hd _ _ _ h1
      rcases h2 with rfl | rfl | rfl
      · exact a rfl
      · exact b rfl
      · exact c rfl
  exact (hg.block k (Nat.lt_of_lt_of_le hk h.size) (by simp [hne])).trans (h.block k hk hd)
/-- the program's drum and log stay. -/
theorem DrumAt.chr {lo lo' : Nat} {W W' : World} {D g m : Nat} {v : Value} {d : PD} (h : DrumAt lo W D g m v d) (hc : ChR lo' W W') : DrumAt lo W' D g m v d :=
  ⟨h.blk.chr hc (by decide), h.gb.chr hc (by decide), h.mb.chr hc (by decide), own_chr h.wb hc (by decide), h.ne, h.ok⟩
theorem LDAt.chr {lo lo' : Nat} {W W' : World} {L D g m : Nat} {bv v : Value} {l : PL} {d : PD} (h : LDAt lo W L D g m bv v l d) (hc : ChR lo' W W') : LDAt lo W' L D g m bv v l d :=
  ⟨⟨h.log.blk.chr hc (by decide), own_chr h.log.own hc (by decide), h.log.ge⟩, h.drum.chr hc⟩
/-- sectors as texts. -/
def strsOf (l : List UInt8) (n : Nat) : List Value := (List.range n).map (fun i => strV (sec l i))
def rcell (x : Int × List UInt8) : List Value := [.int .i64 x.1, strV x.2]
/-- the reference's drum. -/
structure RDAt (lo : Nat) (W : World) (X : Nat) (ov sv wv : Value) (d : PD) (left : Int) : Prop where
  blk : BlkT W X [ov, sv, wv, .int .i64 left, .bool d.dead] tX
  old : W.ownsRow lo tStr 1 ov d.n (strsOf d.good d.n)
  s : W.ownsRow lo tStr 1 sv d.n (strsOf d.now d.n)
  w : W.ownsRow lo tRw 2 wv d.wait.length (d.wait.flatMap rcell)
  ne : ov.ownBlock = none ∨ ov.ownBlock ≠ sv.ownBlock
  ge : lo ≤ X
  ok : d.ok
  left : (left = d.fuse ∨ d.dead = true) ∧ -1 ≤ left ∧ left ≤ 9223372036854775807
theorem RDAt.below {lo : Nat} {W W' : World} {X : Nat} {ov sv wv : Value} {d : PD} {left : Int} (h : RDAt lo W X ov sv wv d left) (hb : Below W.heap.size W W') : RDAt lo W' X ov sv wv d left :=
  ⟨h.blk.below hb, own_belowE h.old hb, own_belowE h.s hb, own_belowE h.w hb, h.ne, h.ge, h.ok, h.left⟩
theorem RDAt.chl {lo lo' : Nat} {W W' : World} {X : Nat} {ov sv wv : Value} {d : PD} {left : Int} (h : RDAt lo W X ov sv wv d left) (hc : ChL lo' W W') : RDAt lo W' X ov sv wv d left :=
  ⟨h.blk.chl hc (by decide), own_chl h.old hc (by decide), own_chl h.s hc (by decide), own_chl h.w hc (by decide), h.ne, h.ge, h.ok, h.left⟩
/-- a cell of the reference's drum is set. -/
theorem RDAt.cells {lo : Nat} {W : World} {X : Nat} {ov sv wv : Value} {d : PD} {left : Int} (h : RDAt lo W X ov sv wv d left) (j : Nat) (u : Value) :
    BlkT (W.setCell ⟨X, j, none⟩ u) X ([ov, sv, wv, .int .i64 left, .bool d.dead].set j u) tX ∧ (W.setCell ⟨X, j, none⟩ u).ownsRow lo tStr 1 ov d.n (strsOf d.good d.n) ∧ (W.setCell ⟨X, j, none⟩ u).ownsRow lo tStr 1 sv d.n (strsOf d.now d.n) ∧ (W.setCell ⟨X, j, none⟩ u).ownsRow lo tRw 2 wv d.wait.length (d.wait.flatMap rcell) ∧ ChR lo W (W.setCell ⟨X, j, none⟩ u) :=
  ⟨h.blk.set j u, Go.ownsRow_setCell_other (a := (⟨X, j, none⟩ : Addr)) h.old (h.blk.apartO h.old (by decide)) u, Go.ownsRow_setCell_other (a := (⟨X, j, none⟩ : Addr)) h.s (h.blk.apartO h.s (by decide)) u, Go.ownsRow_setCell_other (a := (⟨X, j, none⟩ : Addr)) h.w (h.blk.apartO h.w (by decide)) u, (ChR.refl lo W).grown (grownBy_set W X j u) h.ge ⟨_, _, _, h.blk, .inl rfl⟩⟩
theorem RDAt.setLeft {lo : Nat} {W : World} {X : Nat} {ov sv wv : Value} {d : PD} {left : Int} (h : RDAt lo W X ov sv wv d left) (l f : Int) (hf : -1 ≤ f ∧ f ≤ 9223372036854775807) (hl : (l = f ∨ d.dead = true) ∧ -1 ≤ l ∧ l ≤ 9223372036854775807) :
    RDAt lo (W.setCell ⟨X, 3, none⟩ (.int .i64 l)) X ov sv wv { d with fuse := f } l ∧ ChR lo W (W.setCell ⟨X, 3, none⟩ (.int .i64 l)) := by
  obtain ⟨h1, h2, h3, h4, h5⟩ := h.cells 3 (.int .i64 l)
  exact ⟨⟨h1, h2, h3, h4, h.ne, h.ge, ⟨h.ok.n, h.ok.good, h.ok.now, h.ok.wait, hf⟩, hl⟩, h5⟩
theorem RDAt.setDead {lo : Nat} {W : World} {X : Nat} {ov sv wv : Value} {d : PD} {left : Int} (h : RDAt lo W X ov sv wv d left) (f : Int) (hf : -1 ≤ f ∧ f ≤ 9223372036854775807) :
    RDAt lo (W.setCell ⟨X, 4, none⟩ (.bool true)) X ov sv wv { d with dead := true, fuse := f } left ∧ ChR lo W (W.setCell ⟨X, 4, none⟩ (.bool true)) := by
  obtain ⟨h1, h2, h3, h4, h5⟩ := h.cells 4 (.bool true)
  exact ⟨⟨h1, h2, h3, h4, h.ne, h.ge, ⟨h.ok.n, h.ok.good, h.ok.now, h.ok.wait, hf⟩, .inr rfl, h.left.2⟩, h5⟩
/-- a call on the reference's drum that leaves its rows where they are. -/
def RDTo (lo X : Nat) (ov sv wv : Value) (w : World) (r : Value) (d : PD) (e : Ending) (w' : World) : Prop := ∃ left, e = .returned r ∧ RDAt lo w' X ov sv wv d left ∧ ChR lo w w'
section
variable {lo X : Nat} {ov sv wv : Value} {d : PD} {left : Int} {w : World}
set_option maxRecDepth 20000 in
set_option maxHeartbeats 2000000 in
theorem alive_c (h : RDAt lo w X ov sv wv d left) : Calls Tryd.prog 49 #[.pointer (some ⟨X, 0, none⟩)] w (RDTo lo X ov sv wv w (.bool (livesP d).1) (livesP d).2) := by
  have hf := h.ok.fuse
  have hl := h.left
  have H := Lib.hid h
  have c3 := h.blk.blk.cell 3 _ rfl
  have c4 := h.blk.blk.cell 4 _ rfl
  have f3 := h.blk.blk.thaw 3
  have f4 := h.blk.blk.thaw 4
  clear h
  obtain ⟨n, good, now, wait, dead, fuse⟩ := d
  simp only at hf hl c3 c4
  have hb1 := hl.2.1
  have hb2 := hl.2.2
  by_cases h0 : left = 0
  · subst h0
    obtain ⟨f, hff⟩ : ∃ f, f = if dead = true then fuse else -1 := ⟨_, rfl⟩
    have HS := Lib.hid (H.out.setDead f (by rw [hff]; split <;> omega))
    have HL : Hid (livesP ⟨n, good, now, wait, dead, fuse⟩ = (false, ⟨n, good, now, wait, true, f⟩)) := Lib.hid (by
      subst hff
      unfold livesP
      cases dead
      · have e : (0 : Int) = fuse := by rcases hl.1 with h | h; exact h; cases h
        subst e; rfl
      · rfl)
    rw [HL.out]
    clear hl hff
    go_enter Tryd.func49, Tryd.ntmps49
    go_wp2_with fail
    go_ret
    exact ⟨0, rfl, HS.out⟩
  · by_cases h1 : 0 < left
    · obtain ⟨f, hff⟩ : ∃ f, f = if dead = true then fuse else left - 1 := ⟨_, rfl⟩
      have HS := Lib.hid (H.out.setLeft (left - 1) f (by rw [hff]; split <;> omega) ⟨by (cases dead; exact .inl hff.symm; exact .inr rfl), by omega, by omega⟩)
      have HL : Hid (livesP ⟨n, good, now, wait, dead, fuse⟩ = (!dead, ⟨n, good, now, wait, dead, f⟩)) := Lib.hid (by
        subst hff
        unfold livesP
        cases dead
        · have e : left = fuse := by rcases hl.1 with h | h; exact h; cases h
          subst e
          have e2 : (left == 0) = false := by simpa using h0
          simp only [e2, Bool.false_eq_true, if_false, Bool.not_false]
          congr 2
          omega
        · rfl)
      rw [HL.out]
      clear hl hff
      go_enter Tryd.func49, Tryd.ntmps49
      go_wp2_with fail
      go_ret
      exact ⟨left - 1, rfl, HS.out⟩
    · have e1 : left = -1 := by omega
      subst e1
      have HL : Hid (livesP ⟨n, good, now, wait, dead, fuse⟩ = (!dead, ⟨n, good, now, wait, dead, fuse⟩)) := Lib.hid (by
        unfold livesP
        cases dead
        · have e : (-1 : Int) = fuse := by rcases hl.1 with h | h; exact h; cases h
          subst e; rfl
        · rfl)
      rw [HL.out]
      clear hl
      go_enter Tryd.func49, Tryd.ntmps49
      go_wp2_with fail
      go_ret
      exact ⟨-1, rfl, H.out, ChR.refl _ _⟩
theorem RWaiting_c (h : RDAt lo w X ov sv wv d left) : Calls Tryd.prog 50 #[.pointer (some ⟨X, 0, none⟩)] w fun e w' => e = .returned (.int .i64 (d.wait.length : Int)) ∧ w = w' := by
  obtain ⟨wa, wc, rfl⟩ := owns_shape h.w
  have c2 := h.blk.blk.cell 2 _ rfl
  clear h
  go_enter Tryd.func50, Tryd.ntmps50
  go_wp2_with fail
  go_ret
  exact ⟨rfl, rfl⟩
theorem RFuse_c (h : RDAt lo w X ov sv wv d left) (n : Int) (hn : n ≤ 9223372036854775807) : Calls Tryd.prog 26 #[.pointer (some ⟨X, 0, none⟩), .int .i64 n] w (RDTo lo X ov sv wv w (.tuple #[]) { d with fuse := max n (-1) }) := by
  have HS := Lib.hid (h.setLeft (max n (-1)) (max n (-1)) (by omega) ⟨.inl rfl, by omega, by omega⟩)
  have c3 := h.blk.blk.cell 3 _ rfl
  have f3 := h.blk.blk.thaw 3
  clear h
  go_enter Tryd.func26, Tryd.ntmps26
  go_wp2_with fail
  go_end0
  exact ⟨_, rfl, HS.out⟩
theorem strs_get {l : List UInt8} {n i : Nat} (hi : i < n) : (strsOf l n)[i]? = some (strV (sec l i)) := by
  unfold strsOf
  rw [List.getElem?_map, List.getElem?_range hi]
  rfl
theorem strs_len (l : List UInt8) (n : Nat) : (strsOf l n).length = n := by simp [strsOf]
/-- a row as it is read. -/
def RowTo (w : World) (l : List UInt8) (e : Ending) (w' : World) : Prop := ∃ v', e = .returned v' ∧ RowAt w' v' (bytesV l) ∧ Below w.heap.size w w'
set_option maxRecDepth 20000 in
set_option maxHeartbeats 2000000 in
theorem RRead_c (h : RDAt lo w X ov sv wv d left) (i : Int) : Calls Tryd.prog 45 #[.pointer (some ⟨X, 0, none⟩), .int .i64 i] w (RowTo w (readP d i)) := by
  obtain ⟨sa, sc, rfl⟩ := owns_shape h.s
  have c1 := h.blk.blk.cell 1 _ rfl
  have hn := h.ok.n
  by_cases h1 : i < 0
  · have e : readP d i = [] := by unfold readP; rw [if_neg (by omega)]
    rw [e]
    clear h
    go_enter Tryd.func45, Tryd.ntmps45
    go_wp2_with fail
    go_ret
    exact ⟨_, rfl, RowAt.nil _, Below.refl _ _⟩
  by_cases h2 : (d.n : Int) ≤ i
  · have e : readP d i = [] := by unfold readP; rw [if_neg (by omega)]
    rw [e]
    clear h
    go_enter Tryd.func45, Tryd.ntmps45
    go_wp2_with fail
    go_ret
    exact ⟨_, rfl, RowAt.nil _, Below.refl _ _⟩
  obtain ⟨k, rfl⟩ : ∃ k : Nat, i = (k : Int) := ⟨i.toNat, by omega⟩
  have hk : k < d.n := by omega
  have e : readP d (k : Int) = sec d.now k := by unfold readP; rw [if_pos ⟨by omega, by omega⟩, Int.toNat_natCast]
  rw [e]
  have hr := RowAt.ofOwns h.s
  obtain ⟨B, o, rfl, hB, hx⟩ := hr.cellAt k (by rw [strs_len]; exact hk)
  have hx2 : w.cell? ⟨B, o + k, none⟩ = some (strV (sec d.now k)) := by
    rw [hx]
    have := strs_get (l := d.now) hk
    rw [List.getElem?_eq_getElem (by rw [strs_len]; exact hk)] at this
    exact this
  have hl := sec_len h.ok.now hk
  obtain ⟨c, w', hc, hru, hb⟩ := conv_rowU (sec d.now k) (by rw [hl]; decide) w w.heap.size (Nat.le_refl _)
  have HRU := Lib.hid hru
  have HB := Lib.hid hb
  unfold strV at hx2
  clear h hx hr hl hru hb e
  generalize sec d.now k = s at *
  go_enter Tryd.func45, Tryd.ntmps45
  go_wp2_with fail
  go_ret
  exact ⟨_, rfl, HRU.out.1, HB.out⟩
end
end Go.Proofs.YtlllbacjdjllbaaDoor
