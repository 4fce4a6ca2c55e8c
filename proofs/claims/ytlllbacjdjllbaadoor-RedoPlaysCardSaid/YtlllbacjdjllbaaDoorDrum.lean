
/- Contracts of package drum: what a drum is in memory; Len, Waiting, Fuse, lives. -/
import Derived.Test.YtlllbacjdjllbaaDoorKeep
import Derived.Test.YtlllbacjdjllbaaDoorRowM
import Derived.Test.YtlllbacjdjllbaaDoorRowN
namespace Go.Proofs.YtlllbacjdjllbaaDoor
open Go Go.Proofs Go.RowKit
set_option linter.unusedVariables false
set_option linter.unusedSimpArgs false

/-- a drum, plainly: n sectors, all bytes that last, all bytes as written last, the writes that wait. -/
structure PD where
  n : Nat
  good : List UInt8
  now : List UInt8
  wait : List (Int × List UInt8)
  dead : Bool
  fuse : Int
structure PD.ok (d : PD) : Prop where
  n : d.n ≤ 200
  good : d.good.length = 64 * d.n
  now : d.now.length = 64 * d.n
  wait : ∀ x ∈ d.wait, x.2.length = 64 ∧ 0 ≤ x.1 ∧ x.1 < d.n
  fuse : -1 ≤ d.fuse ∧ d.fuse ≤ 9223372036854775807
def tD : TypeId := 65
def tS : TypeId := 78
def tW : TypeId := 80
def wcell (x : Int × List UInt8) : List Value := .int .i64 x.1 :: bytesV x.2
def BlkT (W : World) (g : Nat) (cs : List Value) (t : TypeId) : Prop := W.heap[g]? = some (.cells cs.toArray t)
theorem BlkT.blk {W : World} {g : Nat} {cs : List Value} {t : TypeId} (h : BlkT W g cs t) : Blk W g cs := ⟨(Array.getElem?_eq_some_iff.1 h).1, t, h⟩
theorem BlkT.lt {W : World} {g : Nat} {cs : List Value} {t : TypeId} (h : BlkT W g cs t) : g < W.heap.size := (Array.getElem?_eq_some_iff.1 h).1
theorem BlkT.set {W : World} {g : Nat} {cs : List Value} {t : TypeId} (h : BlkT W g cs t) (j : Nat) (v : Value) : BlkT (W.setCell ⟨g, j, none⟩ v) g (cs.set j v) t := by
  unfold BlkT at h ⊢
  simp only [World.setCell, Array.getElem?_modify, h]
  simp
theorem BlkT.other {W : World} {g q : Nat} {cs : List Value} {t : TypeId} (h : BlkT W q cs t) (hq : q ≠ g) (j : Nat) (v : Value) : BlkT (W.setCell ⟨g, j, none⟩ v) q cs t := by
  unfold BlkT at h ⊢
  rw [← h]
  exact Below.heap_setCell W ⟨g, j, none⟩ _ q hq
theorem BlkT.new (W : World) (cs : List Value) (t : TypeId) : BlkT (W.alloc (.cells cs.toArray t)) W.heap.size cs t := by
  show (W.heap.push _)[_]? = _
  rw [Array.getElem?_push, if_pos rfl]
theorem BlkT.apart {W : World} {g q : Nat} {cs cs' : List Value} {t t' : TypeId} (h : BlkT W g cs t) (h' : BlkT W q cs' t') (hne : t ≠ t') : g ≠ q := by
  intro e; subst e
  unfold BlkT at h h'
  rw [h] at h'
  simp only [Option.some.injEq, Obj.cells.injEq] at h'
  exact hne h'.2.1
theorem BlkT.apartO {W : World} {g lo k n : Nat} {cs : List Value} {t e : TypeId} {v : Value} {xs : List Value} (h : BlkT W g cs t) (h' : W.ownsRow lo e k v n xs) (hne : t ≠ e) : v.ownBlock ≠ some g := by
  intro hv
  rcases h'.2 with ⟨rfl, _⟩ | ⟨q, cap, cur, rfl, _, hg, _⟩
  · simp [Value.ownBlock] at hv
  · simp only [Value.ownBlock, Option.some.injEq] at hv
    subst hv
    unfold BlkT at h
    rw [h] at hg
    simp only [Option.some.injEq, Obj.cells.injEq] at hg
    exact hne hg.2.1
/-- is block k no part of any drum? -/
def notD (W : World) (k : Nat) : Prop := ∀ cs t fr, W.heap[k]? = some (.cells cs t fr) → t ≠ tD ∧ t ≠ tS ∧ t ≠ tW
/-- nothing has turned but drums that lie from lo on. -/
structure Chg (lo : Nat) (w w' : World) : Prop where
  os : w'.os = w.os
  tape : w'.tape = w.tape
  output : w'.output = w.output
  size : w.heap.size ≤ w'.heap.size
  block : ∀ k, k < w.heap.size → (k < lo ∨ notD w k) → w'.heap[k]? = w.heap[k]?
theorem Chg.refl (lo : Nat) (w : World) : Chg lo w w := ⟨rfl, rfl, rfl, Nat.le_refl _, fun _ _ _ => rfl⟩
theorem Chg.trans {lo : Nat} {a b c : World} (h : Chg lo a b) (k : Chg lo b c) : Chg lo a c :=
  ⟨k.os.trans h.os, k.tape.trans h.tape, k.output.trans h.output, Nat.le_trans h.size k.size, fun i hi hd => by
    have e := h.block i hi hd
    rw [← e]
    refine k.block i (Nat.lt_of_lt_of_le hi h.size) ?_
    rcases hd with hd | hd
    · exact .inl hd
    · right; intro cs t fr hc; rw [e] at hc; exact hd cs t fr hc⟩
theorem Chg.ofBelow {lo : Nat} {w w' : World} (h : Below w.heap.size w w') : Chg lo w w' := ⟨h.os, h.tape, h.output, h.size, fun k hk _ => h.block k hk⟩
theorem Chg.below {lo : Nat} {w0 w w' : World} (h : Chg lo w w') (h0 : Below w0.heap.size w0 w) (hl : w0.heap.size ≤ lo) : Below w0.heap.size w0 w' :=
  h0.trans ⟨h.os, h.tape, h.output, h.size, fun k hk => h.block k (Nat.lt_of_lt_of_le hk h0.size) (.inl (by omega))⟩
/-- one block of a drum is written. -/
theorem Chg.set {lo : Nat} {w W : World} {g : Nat} {cs : List Value} {t : TypeId} (h : Chg lo w W) (hb : BlkT w g cs t) (hg : lo ≤ g) (ht : t = tD ∨ t = tS ∨ t = tW) (j : Nat) (v : Value) : Chg lo w (W.setCell ⟨g, j, none⟩ v) :=
  ⟨h.os, h.tape, h.output, by simpa [World.setCell] using h.size, fun k hk hd => by
    have hne : k ≠ g := by
      rcases hd with hd | hd
      · omega
      · intro e; subst e
        have := hd _ _ _ hb
        rcases ht with rfl | rfl | rfl <;> simp at this
    rw [Below.heap_setCell W ⟨g, j, none⟩ v k hne]
    exact h.block k hk hd⟩
structure DrumAt (lo : Nat) (W : World) (D g m : Nat) (v : Value) (d : PD) : Prop where
  blk : BlkT W D [.slice (some ⟨g, 0, none⟩) d.n d.n, .slice (some ⟨m, 0, none⟩) d.n d.n, v, .bool d.dead, .int .i64 d.fuse] tD
  gb : BlkT W g (bytesV d.good) tS
  mb : BlkT W m (bytesV d.now) tS
  wb : W.ownsRow lo tW 65 v d.wait.length (d.wait.flatMap wcell)
  ne : g ≠ m ∧ lo ≤ D ∧ lo ≤ g ∧ lo ≤ m
  ok : d.ok
/-- a call on a drum gives r and leaves it as d says. -/
def DrumTo (lo D g m : Nat) (w : World) (r : Value) (d : PD) (e : Ending) (w' : World) : Prop := ∃ v', e = .returned r ∧ DrumAt lo w' D g m v' d ∧ Chg lo w w'
theorem DrumAt.cells {lo : Nat} {W : World} {D g m : Nat} {v : Value} {d : PD} (h : DrumAt lo W D g m v d) :
    (W.cell? ⟨D, 0, none⟩ = some (.slice (some ⟨g, 0, none⟩) d.n d.n) ∧ W.cell? ⟨D, 1, none⟩ = some (.slice (some ⟨m, 0, none⟩) d.n d.n) ∧ W.cell? ⟨D, 2, none⟩ = some v ∧ W.cell? ⟨D, 3, none⟩ = some (.bool d.dead) ∧ W.cell? ⟨D, 4, none⟩ = some (.int .i64 d.fuse)) ∧
    (W.frozen? ⟨D, 0, none⟩ = false ∧ W.frozen? ⟨D, 1, none⟩ = false ∧ W.frozen? ⟨D, 2, none⟩ = false ∧ W.frozen? ⟨D, 3, none⟩ = false ∧ W.frozen? ⟨D, 4, none⟩ = false) :=
  have b := h.blk.blk
  ⟨⟨b.cell 0 _ rfl, b.cell 1 _ rfl, b.cell 2 _ rfl, b.cell 3 _ rfl, b.cell 4 _ rfl⟩, b.thaw 0, b.thaw 1, b.thaw 2, b.thaw 3, b.thaw 4⟩
theorem BlkT.chg {lo : Nat} {w w' : World} {g : Nat} {cs : List Value} {t : TypeId} (h : BlkT w g cs t) (hc : Chg lo w w') (ht : t ≠ tD ∧ t ≠ tS ∧ t ≠ tW) : BlkT w' g cs t := by
  unfold BlkT at h ⊢
  rw [hc.block g (BlkT.lt h) (.inr (fun cs' t' fr' he => by rw [h] at he; simp only [Option.some.injEq, Obj.cells.injEq] at he; rw [← he.2.1]; exact ht))]
  exact h
theorem own_chg {lo : Nat} {w w' : World} {B e k n : Nat} {v : Value} {xs : List Value} (h : w.ownsRow B e k v n xs) (hc : Chg lo w w') (ht : e ≠ tD ∧ e ≠ tS ∧ e ≠ tW) : w'.ownsRow B e k v n xs := by
  refine ⟨h.1, ?_⟩
  rcases h.2 with h' | ⟨g, cap, cur, rfl, hB, hg, rest⟩
  · exact .inl h'
  · refine .inr ⟨g, cap, cur, rfl, hB, ?_, rest⟩
    rw [hc.block g (Array.getElem?_eq_some_iff.1 hg).1 (.inr (fun cs' t' fr' he => by rw [hg] at he; simp only [Option.some.injEq, Obj.cells.injEq] at he; rw [← he.2.1]; exact ht))]
    exact hg
/-- a drum stays through what is no drum's. -/
theorem DrumAt.below {lo : Nat} {W W' : World} {D g m : Nat} {v : Value} {d : PD} (h : DrumAt lo W D g m v d) (hb : Below W.heap.size W W') : DrumAt lo W' D g m v d := by
  have k : ∀ {g cs t}, BlkT W g cs t → BlkT W' g cs t := fun h' => by
    have := hb.block _ h'.lt
    unfold BlkT at h' ⊢
    rw [this]; exact h'
  refine ⟨k h.blk, k h.gb, k h.mb, ?_, h.ne, h.ok⟩
  refine ⟨h.wb.1, ?_⟩
  rcases h.wb.2 with h' | ⟨g, cap, cur, rfl, hB, hg, rest⟩
  · exact .inl h'
  · exact .inr ⟨g, cap, cur, rfl, hB, (hb.block g (Array.getElem?_eq_some_iff.1 hg).1).trans hg, rest⟩
section
variable {lo D g m : Nat} {v : Value} {d : PD} {w : World}
theorem Len_c (h : DrumAt lo w D g m v d) : Calls Tryd.prog 32 #[.pointer (some ⟨D, 0, none⟩)] w fun e w' => e = .returned (.int .i64 (d.n : Int)) ∧ w = w' := by
  obtain ⟨⟨_, h1, _, _, _⟩, _⟩ := h.cells
  have hn := h.ok.n
  clear h
  go_enter Tryd.func32, Tryd.ntmps32
  go_wp2
  go_ret
  exact ⟨rfl, rfl⟩
theorem Len_nil (w : World) : Calls Tryd.prog 32 #[.pointer none] w fun e w' => e = .returned (.int .i64 0) ∧ w = w' := by
  go_enter Tryd.func32, Tryd.ntmps32
  go_wp2
  go_ret
  exact ⟨rfl, rfl⟩
theorem Waiting_c (h : DrumAt lo w D g m v d) : Calls Tryd.prog 17 #[.pointer (some ⟨D, 0, none⟩)] w fun e w' => e = .returned (.int .i64 (d.wait.length : Int)) ∧ w = w' := by
  obtain ⟨⟨_, _, h2, _, _⟩, _⟩ := h.cells
  obtain ⟨va, vc, rfl⟩ := owns_shape h.wb
  clear h
  go_enter Tryd.func17, Tryd.ntmps17
  go_wp2
  go_ret
  exact ⟨rfl, rfl⟩
theorem grown_set (w : World) (B o : Nat) (u : Value) : w.grownBy (w.setCell ⟨B, o, none⟩ u) (some B) :=
  ⟨rfl, rfl, rfl, by simp, fun k _ hk => Below.heap_setCell w _ _ k (by simpa using hk)⟩
theorem setDrum (h : DrumAt lo w D g m v d) (dead : Bool) (fuse : Int) (hf : -1 ≤ fuse ∧ fuse ≤ 9223372036854775807) : DrumAt lo ((w.setCell ⟨D, 3, none⟩ (.bool dead)).setCell ⟨D, 4, none⟩ (.int .i64 fuse)) D g m v { d with dead := dead, fuse := fuse } := by
  have hDg : g ≠ D := fun e => (h.blk.apart h.gb (by decide)) e.symm
  have hDm : m ≠ D := fun e => (h.blk.apart h.mb (by decide)) e.symm
  have hw := h.blk.apartO h.wb (by decide)
  refine ⟨(h.blk.set 3 _).set 4 _, (h.gb.other hDg _ _).other hDg _ _, (h.mb.other hDm _ _).other hDm _ _, ?_, h.ne, ⟨h.ok.n, h.ok.good, h.ok.now, h.ok.wait, hf⟩⟩
  exact (h.wb.kept (grown_set w D 3 _) (.inr hw)).kept (grown_set _ D 4 _) (.inr hw)
theorem chgDrum (h : DrumAt lo w D g m v d) (j k : Nat) (a b : Value) : Chg lo w ((w.setCell ⟨D, j, none⟩ a).setCell ⟨D, k, none⟩ b) :=
  ((Chg.refl lo w).set h.blk h.ne.2.1 (.inl rfl) j a).set h.blk h.ne.2.1 (.inl rfl) k b
end
/-- is something still done? what is left. -/
def livesP (d : PD) : Bool × PD := if d.dead then (false, d) else (!(d.fuse == 0), { d with dead := d.fuse == 0, fuse := max (d.fuse - 1) (-1) })
section
variable {lo D g m : Nat} {v : Value} {d : PD} {w : World}
set_option maxHeartbeats 1000000 in
theorem lives_c (h : DrumAt lo w D g m v d) : Calls Tryd.prog 48 #[.pointer (some ⟨D, 0, none⟩)] w fun e w' => e = .returned (.bool (livesP d).1) ∧ DrumAt lo w' D g m v (livesP d).2 ∧ Chg lo w w' := by
  obtain ⟨⟨h0, h1, h2, h3, h4⟩, f0, f1, f2, f3, f4⟩ := h.cells
  have hf := h.ok.fuse
  have HS := Lib.hid (fun dead fuse hf => setDrum h dead fuse hf)
  have HC := Lib.hid (fun j k a b => chgDrum h j k a b)
  have HR := Lib.hid h
  cases hd : d.dead
  case true =>
    have HL : Hid (livesP d = (false, d)) := Lib.hid (by unfold livesP; rw [if_pos hd])
    rw [HL.out]
    rw [hd] at h3
    clear h
    go_enter Tryd.func48, Tryd.ntmps48
    go_wp2
    go_ret
    exact ⟨rfl, HR.out, Chg.refl _ _⟩
  case false =>
    have HL : Hid (livesP d = (!(d.fuse == 0), { d with dead := d.fuse == 0, fuse := max (d.fuse - 1) (-1) })) := Lib.hid (by unfold livesP; rw [if_neg (by simp [hd])])
    rw [HL.out]
    rw [hd] at h3
    have hw : IntKind.i64.wrap (d.fuse - 1) = d.fuse - 1 := by rw [IntKind.wrap_i64]; omega
    have HF : Hid (-1 ≤ max (d.fuse - 1) (-1) ∧ max (d.fuse - 1) (-1) ≤ 9223372036854775807) := Lib.hid (by omega)
    clear h HL hd
    by_cases hm : -1 ≤ d.fuse - 1
    · rw [show max (d.fuse - 1) (-1) = d.fuse - 1 by omega]
      go_enter Tryd.func48, Tryd.ntmps48
      go_wp2
      go_ret
      exact ⟨rfl, HS.out _ _ (by omega), HC.out _ _ _ _⟩
    · rw [show max (d.fuse - 1) (-1) = -1 by omega]
      have hm2 : d.fuse - 1 < -1 := by omega
      go_enter Tryd.func48, Tryd.ntmps48
      go_wp2
      go_ret
      exact ⟨rfl, HS.out _ _ (by omega), HC.out _ _ _ _⟩
theorem lives_nil (w : World) : Calls Tryd.prog 48 #[.pointer none] w fun e w' => e = .returned (.bool false) ∧ w = w' := by
  go_enter Tryd.func48, Tryd.ntmps48
  go_wp2
  go_ret
  exact ⟨rfl, rfl⟩
theorem setFuse (h : DrumAt lo w D g m v d) (fuse : Int) (hf : -1 ≤ fuse ∧ fuse ≤ 9223372036854775807) : DrumAt lo (w.setCell ⟨D, 4, none⟩ (.int .i64 fuse)) D g m v { d with fuse := fuse } ∧ Chg lo w (w.setCell ⟨D, 4, none⟩ (.int .i64 fuse)) := by
  have hDg : g ≠ D := fun e => (h.blk.apart h.gb (by decide)) e.symm
  have hDm : m ≠ D := fun e => (h.blk.apart h.mb (by decide)) e.symm
  have hw := h.blk.apartO h.wb (by decide)
  exact ⟨⟨h.blk.set 4 _, h.gb.other hDg _ _, h.mb.other hDm _ _, h.wb.kept (grown_set w D 4 _) (.inr hw), h.ne, ⟨h.ok.n, h.ok.good, h.ok.now, h.ok.wait, hf⟩⟩, (Chg.refl lo w).set h.blk h.ne.2.1 (.inl rfl) 4 _⟩
set_option maxHeartbeats 1000000 in
theorem Fuse_c (h : DrumAt lo w D g m v d) (n : Int) (hn : n ≤ 9223372036854775807) : Calls Tryd.prog 12 #[.pointer (some ⟨D, 0, none⟩), .int .i64 n] w fun e w' => e = .returned (.tuple #[]) ∧ DrumAt lo w' D g m v { d with fuse := max n (-1) } ∧ Chg lo w w' := by
  obtain ⟨⟨h0, h1, h2, h3, h4⟩, f0, f1, f2, f3, f4⟩ := h.cells
  have HS := Lib.hid (fun fuse hf => setFuse h fuse hf)
  clear h
  by_cases hm : -1 ≤ n
  · rw [show max n (-1) = n by omega]
    go_enter Tryd.func12, Tryd.ntmps12
    go_wp2
    go_end0
    exact ⟨rfl, (HS.out n (by omega)).1, (HS.out n (by omega)).2⟩
  · rw [show max n (-1) = -1 by omega]
    have hm2 : n < -1 := by omega
    go_enter Tryd.func12, Tryd.ntmps12
    go_wp2
    go_end0
    exact ⟨rfl, (HS.out (-1) (by omega)).1, (HS.out (-1) (by omega)).2⟩
end
end Go.Proofs.YtlllbacjdjllbaaDoor
