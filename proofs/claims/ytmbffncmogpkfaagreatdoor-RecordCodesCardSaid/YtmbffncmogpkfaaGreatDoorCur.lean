
/- Contracts of package leb's Cursor: what each method gives, and what is left. -/
import Derived.Test.YtmbffncmogpkfaaGreatDoorRowAt
import Derived.Test.YtmbffncmogpkfaaGreatDoorLebP
import Derived.Test.YtmbffncmogpkfaaGreatDoorReal
import Derived.BigQuiet
import Derived.Deep.QuietTactic
namespace Go.Proofs.YtmbffncmogpkfaaGreatDoor
open Go Go.RowKit
set_option linter.unusedVariables false
variable {R : Option Nat}

/-- the row v, of the bytes l, does not lie in the block B (or has no cell). -/
def Apart (R : Option Nat) (v : Value) (B : Nat) (l : List UInt8) : Prop := (v.ownBlock = none ∨ v.ownBlock = R ∨ l = []) ∧ R ≠ some B
theorem Apart.part {v v' : Value} {B : Nat} {l l' : List UInt8} (h : Apart R v B l) (hp : PartOf v' v) (hl : l = [] → l' = []) : Apart R v' B l' := by
  refine ⟨?_, h.2⟩
  rcases h.1 with h | h | h
  · left
    rcases hp with e | e <;> rw [e]
    exact h
  · rcases hp with e | e <;> rw [e]
    · exact .inl rfl
    · exact .inr (.inl h)
  · exact .inr (.inr (hl h))
theorem Apart.ofRow {w : World} {v : Value} {l : List UInt8} {B : Nat} (h : RowAt w v (bytesV l)) (hB : w.heap.size ≤ B) : ∃ R, Apart R v B l ∧ ∀ r, R = some r → r < w.heap.size ∧ v.ownBlock = some r := by
  cases l with
  | nil => exact ⟨none, ⟨.inr (.inr rfl), by simp⟩, by simp⟩
  | cons x r =>
    obtain ⟨a, c, rfl⟩ := h.shape
    obtain ⟨b, o, rfl, hlt, _⟩ := h.cellAt 0 (by simp)
    exact ⟨some b, ⟨.inr (.inl rfl), by simp; omega⟩, by intro r hr; cases hr; exact ⟨hlt, rfl⟩⟩
theorem RowAt.grownA {w w' : World} {v : Value} {l : List UInt8} {B : Nat} (h : RowAt w v (bytesV l)) (hg : w.grownBy w' (some B)) (ha : Apart R v B l) : RowAt w' v (bytesV l) := by
  rcases ha with ⟨ha | ha | rfl, hR⟩
  · exact h.grown hg (.inl ha)
  · exact h.grown hg (.inr (by rw [ha]; exact hR))
  · refine ⟨h.1, ?_⟩
    rcases h.2 with ⟨h1, h2⟩ | ⟨x, c, h1, h2, _⟩
    · exact .inl ⟨h1, h2⟩
    · exact .inr ⟨x, c, h1, h2, fun i hi => by simp at hi⟩
/-- the block B is a cursor that stands as c says. -/
def CurAt (R : Option Nat) (w : World) (B : Nat) (c : Cur) : Prop :=
  ∃ v, w.cell? ⟨B, 0, none⟩ = some v ∧ w.cell? ⟨B, 1, none⟩ = some (.bool c.isNone) ∧ w.frozen? ⟨B, 0, none⟩ = false ∧ w.frozen? ⟨B, 1, none⟩ = false ∧ RowAt w v (bytesV (c.getD [])) ∧ Apart R v B (c.getD [])

theorem CurAt.below {w w' : World} {B : Nat} {c : Cur} (h : CurAt R w B c) (hb : Below w.heap.size w w') : CurAt R w' B c := by
  obtain ⟨v, h0, h1, f0, f1, hr, hne⟩ := h
  have hlt : B < w.heap.size := World.block_lt_of_cell? w ⟨B, 0, none⟩ h0
  exact ⟨v, by rw [hb.cell hlt]; exact h0, by rw [hb.cell hlt]; exact h1, by rw [hb.frozen hlt]; exact f0, by rw [hb.frozen hlt]; exact f1, hr.below hb, hne⟩
theorem CurAt.grown {w w' : World} {B C : Nat} {c : Cur} (h : CurAt R w B c) (hg : w.grownBy w' (some C)) (hBC : B ≠ C) (hv : R ≠ some C) : CurAt R w' B c := by
  obtain ⟨v, h0, h1, f0, f1, hr, hne⟩ := h
  have hlt : B < w.heap.size := World.block_lt_of_cell? w ⟨B, 0, none⟩ h0
  have e : w'.heap[B]? = w.heap[B]? := hg.block B hlt (by simpa using hBC)
  exact ⟨v, by rw [World.cell?_of_block e]; exact h0, by rw [World.cell?_of_block e]; exact h1, by rw [World.frozen?_of_block (a := ⟨B, 0, none⟩) e]; exact f0, by rw [World.frozen?_of_block (a := ⟨B, 1, none⟩) e]; exact f1, hr.grownA (B := C) hg ⟨hne.1, hv⟩, hne⟩
theorem CurAt.ne {w : World} {B : Nat} {c : Cur} (h : CurAt R w B c) : R ≠ some B := by
  obtain ⟨_, _, _, _, _, _, hne⟩ := h
  exact hne.2
theorem cell_same {w : World} {a : Addr} {v u : Value} (h : w.cell? a = some u) : (w.setCell a v).cell? a = some v := World.cell?_setCell_same _ _ _ h
theorem cell_other {w : World} {a b : Addr} {v : Value} (h : a ≠ b) : (w.setCell a v).cell? b = w.cell? b := World.cell?_setCell_other _ _ _ _ h
theorem grownBy_refl (w : World) (r : Option Nat) : w.grownBy w r := ⟨rfl, rfl, rfl, Nat.le_refl _, fun _ _ _ => rfl⟩
theorem grownBy_trans {a b c : World} {r : Option Nat} (h : a.grownBy b r) (k : b.grownBy c r) : a.grownBy c r :=
  ⟨k.os.trans h.os, k.tape.trans h.tape, k.output.trans h.output, Nat.le_trans h.size k.size, fun i hi hr => (k.block i (Nat.lt_of_lt_of_le hi h.size) hr).trans (h.block i hi hr)⟩
theorem grownBy_set (w : World) (B o : Nat) (u : Value) : w.grownBy (w.setCell ⟨B, o, none⟩ u) (some B) :=
  ⟨rfl, rfl, rfl, by simp, fun k _ hk => Below.heap_setCell w _ _ k (by simpa using hk)⟩

set_option maxHeartbeats 400000 in
theorem Good_c (B : Nat) (c : Cur) (w : World) (h : CurAt R w B c) :
    Calls Tryz.prog 50 #[.pointer (some ⟨B, 0, none⟩)] w fun e w' => e = .returned (.bool c.isSome) ∧ w = w' := by
  obtain ⟨v, h0, h1, f0, f1, hr, hne⟩ := h
  clear h0 f0 f1 hr hne
  cases c
  all_goals
    simp only [Option.isNone] at h1
    go_enter Tryz.func50, Tryz.ntmps50
    go_wp2
    go_ret
    exact ⟨rfl, rfl⟩
set_option maxHeartbeats 400000 in
theorem Good_nil (w : World) :
    Calls Tryz.prog 50 #[.pointer none] w fun e w' => e = .returned (.bool false) ∧ w = w' := by
  go_enter Tryz.func50, Tryz.ntmps50
  go_wp2
  go_ret
  exact ⟨rfl, rfl⟩

/-- a call on a cursor gives e, the cursor then stands as c; nothing else has turned. -/
def CurTo (R : Option Nat) (B : Nat) (w : World) (r : Value) (c : Cur) (e : Ending) (w' : World) : Prop := e = .returned r ∧ CurAt R w' B c ∧ w.grownBy w' (some B)

theorem cur_dead {w : World} {B : Nat} {c : Cur} (h : CurAt R w B c) : CurAt R ((w.setCell ⟨B, 0, none⟩ (.slice none 0 0)).setCell ⟨B, 1, none⟩ (.bool true)) B none ∧ w.grownBy ((w.setCell ⟨B, 0, none⟩ (.slice none 0 0)).setCell ⟨B, 1, none⟩ (.bool true)) (some B) := by
  obtain ⟨v, h0, h1, f0, f1, hr, hne⟩ := h
  have e0 : (w.setCell ⟨B, 0, none⟩ (.slice none 0 0)).cell? ⟨B, 0, none⟩ = some (.slice none 0 0) := cell_same h0
  have e1 : (w.setCell ⟨B, 0, none⟩ (.slice none 0 0)).cell? ⟨B, 1, none⟩ = some (.bool c.isNone) := by rw [cell_other (by simp)]; exact h1
  refine ⟨⟨.slice none 0 0, by rw [cell_other (by simp)]; exact e0, cell_same e1, by simp [f0], by simp [f1], RowAt.nil _, .inr (.inr rfl), hne.2⟩, ?_⟩
  exact grownBy_trans (grownBy_set _ _ _ _) (grownBy_set _ _ _ _)
theorem cur_left {w : World} {B : Nat} {l l' : List UInt8} {v' : Value} (h : CurAt R w B (some l)) (hr' : RowAt w v' (bytesV l')) (hne' : Apart R v' B l') : CurAt R (w.setCell ⟨B, 0, none⟩ v') B (some l') ∧ w.grownBy (w.setCell ⟨B, 0, none⟩ v') (some B) := by
  obtain ⟨v, h0, h1, f0, f1, hr, hne⟩ := h
  have hg := grownBy_set w B 0 v'
  exact ⟨⟨v', cell_same h0, by rw [cell_other (by simp)]; exact h1, by simp [f0], by simp [f1], hr'.grownA hg hne', hne'⟩, hg⟩

set_option maxHeartbeats 400000 in
theorem errs_c (B : Nat) (c : Cur) (w : World) (h : CurAt R w B c) :
    Calls Tryz.prog 74 #[.pointer (some ⟨B, 0, none⟩)] w (CurTo R B w (.tuple #[]) none) := by
  have hd := Lib.hid (cur_dead h)
  obtain ⟨v, h0, h1, f0, f1, hr, hne⟩ := h
  clear hr hne
  go_enter Tryz.func74, Tryz.ntmps74
  go_wp2
  go_end0
  exact ⟨rfl, hd.out.1, hd.out.2⟩
set_option maxHeartbeats 400000 in
theorem errs_nil (w : World) : Calls Tryz.prog 74 #[.pointer none] w fun e w' => e = .returned (.tuple #[]) ∧ w = w' := by
  go_enter Tryz.func74, Tryz.ntmps74
  go_wp2
  go_end0
  exact ⟨rfl, rfl⟩

theorem elemSz (w : World) : (sizeOf (Tryz.prog.elem 23)).run Tryz.prog w = .ok 1 w := by kernel_rfl
theorem elemU : Tryz.prog.underlying 23 = some (.slice (Tryz.prog.elem 23)) := by kernel_rfl

/-- a call on a cursor gives bytes, and leaves it as c says. -/
def CurBytes (R : Option Nat) (B : Nat) (w : World) (l : List UInt8) (c : Cur) (e : Ending) (w' : World) : Prop := ∃ v, e = .returned v ∧ RowAt w' v (bytesV l) ∧ Apart R v B l ∧ CurAt R w' B c ∧ w.grownBy w' (some B)

set_option maxHeartbeats 800000 in
theorem take_c (B : Nat) (c : Cur) (n : Int) (w : World) (h : CurAt R w B c) :
    Calls Tryz.prog 73 #[.pointer (some ⟨B, 0, none⟩), .int .i64 n] w (CurBytes R B w (curTake n c).1 (curTake n c).2) := by
  have H := Lib.hid h
  cases c with
  | none =>
    have HE : Hid (curTake n none = ([], none)) := Lib.hid rfl
    clear h
    go_enter Tryz.func73, Tryz.ntmps73
    go_wp2_with (first | (go_at_call 50; (with_reducible refine (Good_c B none _ H.out).mono ?_); rintro e w' ⟨rfl, rfl⟩) | (go_at_call 74; (with_reducible refine (errs_c B none _ H.out).mono ?_); rintro e w' ⟨rfl, h1, h2⟩))
    go_ret
    rw [HE.out]
    exact ⟨_, rfl, RowAt.nil _, ⟨.inr (.inr rfl), H.out.ne⟩, h1, h2⟩
  | some l =>
    obtain ⟨v, h0, h1, f0, f1, hr0, hne⟩ := h
    have hr : RowAt w v (bytesV l) := hr0
    clear hr0
    by_cases hn : 0 ≤ n ∧ n ≤ l.length
    · obtain ⟨k, rfl⟩ := Int.eq_ofNat_of_zero_le hn.1
      have hk : k ≤ l.length := by omega
      have hlen : (bytesV l).length = l.length := by simp
      obtain ⟨va, ha, hra, hpa⟩ := hr.sliceHi elemU elemSz k (by rw [hlen]; exact hk)
      obtain ⟨vb, hb, hrb, hpb⟩ := hr.sliceLo elemU elemSz k (by rw [hlen]; exact hk)
      have hln := hr.lenRun elemU 3
      rw [hlen] at hln
      have edl : List.drop k (bytesV l) = bytesV (l.drop k) := by simp [bytesV, List.map_drop]
      have etk : List.take k (bytesV l) = bytesV (l.take k) := by simp [bytesV, List.map_take]
      rw [edl] at hrb
      rw [etk] at hra
      obtain ⟨xb, cb, rfl⟩ := hrb.shape
      have hdl : (bytesV (l.drop k)).length = l.length - k := by simp
      rw [hdl] at hb hrb hpb
      have hneb : Apart R (Value.slice xb (l.length - k) cb) B (l.drop k) := Apart.part hne hpb (fun e => by simp at e; simp [e])
      have hnea : Apart R va B (l.take k) := Apart.part hne hpa (fun e => by simp at e; simp [e])
      have HC := Lib.hid (cur_left H.out hrb hneb)
      have HA := Lib.hid (hra.grownA (grownBy_set w B 0 (.slice xb (l.length - k) cb)) hnea)
      have HNA := Lib.hid hnea
      have hd1 : decide ((k : Int) < 0) = false := by simp
      have hd2 : decide (l.length < k) = false := by simp; omega
      have HE : Hid (curTake (k : Int) (some l) = (l.take k, some (l.drop k))) := by
        show _ = _
        simp only [curTake]; rw [if_pos hn]; simp
      clear hlen hn hra hrb hpa hpb hnea hneb hne hr edl etk hdl hk
      generalize l.length - k = nd at *
      go_enter Tryz.func73, Tryz.ntmps73
      go_wp2_with (first | (go_at_call 50; (with_reducible refine (Good_c B (some l) _ H.out).mono ?_); rintro e w' ⟨rfl, rfl⟩))
      go_ret
      rw [HE.out]
      exact ⟨_, rfl, HA.out, HNA.out, HC.out.1, HC.out.2⟩
    · have hln := hr.lenRun elemU 3
      rw [bytesV_length] at hln
      have HE : Hid (curTake n (some l) = ([], none)) := by
        show _ = _
        simp only [curTake]; rw [if_neg hn]
      by_cases h0n : n < 0
      · have hd : decide (n < 0) = true := by simp [h0n]
        clear hn hr hne
        go_enter Tryz.func73, Tryz.ntmps73
        go_wp2_with (first | (go_at_call 50; (with_reducible refine (Good_c B (some l) _ H.out).mono ?_); rintro e w' ⟨rfl, rfl⟩) | (go_at_call 74; (with_reducible refine (errs_c B (some l) _ H.out).mono ?_); rintro e w' ⟨rfl, hq1, hq2⟩))
        go_ret
        rw [HE.out]
        exact ⟨_, rfl, RowAt.nil _, ⟨.inr (.inr rfl), H.out.ne⟩, hq1, hq2⟩
      · have hd : decide (n < 0) = false := by simp; omega
        have hgt : decide ((l.length : Int) < n) = true := by simp; omega
        clear hn hr hne
        go_enter Tryz.func73, Tryz.ntmps73
        go_wp2_with (first | (go_at_call 50; (with_reducible refine (Good_c B (some l) _ H.out).mono ?_); rintro e w' ⟨rfl, rfl⟩) | (go_at_call 74; (with_reducible refine (errs_c B (some l) _ H.out).mono ?_); rintro e w' ⟨rfl, hq1, hq2⟩))
        go_ret
        rw [HE.out]
        exact ⟨_, rfl, RowAt.nil _, ⟨.inr (.inr rfl), H.out.ne⟩, hq1, hq2⟩

theorem valL_snoc (pre : List UInt8) (x : UInt8) : valL (pre ++ [x]) = valL pre + 128 ^ pre.length * (x.toNat % 128) := by
  induction pre with
  | nil => simp [valL]
  | cons b pre ih =>
    have e : valL (b :: pre ++ [x]) = b.toNat % 128 + 128 * valL (pre ++ [x]) := rfl
    rw [e, ih, show valL (b :: pre) = b.toNat % 128 + 128 * valL pre from rfl, List.length_cons, Nat.pow_succ, Nat.mul_add, Nat.add_assoc, Nat.mul_comm (128 ^ pre.length) 128, Nat.mul_assoc]
theorem valL_lt (pre : List UInt8) : valL pre < 128 ^ pre.length := by
  induction pre with
  | nil => simp [valL]
  | cons b pre ih =>
    rw [show valL (b :: pre) = b.toNat % 128 + 128 * valL pre from rfl, List.length_cons, Nat.pow_succ]
    omega
theorem andNot128 (x : UInt8) : bits .andNot .u8 (x.toNat : Int) 128 = ((x.toNat % 128 : Nat) : Int) := by
  have h : ∀ n : Fin 256, bits .andNot .u8 (n.val : Int) 128 = ((n.val % 128 : Nat) : Int) := by decide +kernel
  exact h ⟨x.toNat, UInt8.toNat_lt x⟩
theorem pow7 (j : Nat) : (2 : Int) ^ (7 * j) = ((128 ^ j : Nat) : Int) := by
  rw [show (128 : Nat) = 2 ^ 7 from rfl, ← Nat.pow_mul]; simp
theorem p128 (j : Nat) (h : j ≤ 9) : 128 ^ j ≤ 9223372036854775808 := by
  have : 128 ^ j ≤ 128 ^ 9 := Nat.pow_le_pow_right (by omega) h
  have e : (128 : Nat) ^ 9 = 9223372036854775808 := by decide +kernel
  omega
/-- a seven's shift to its place, and back. -/
theorem shl7 (m j : Nat) (hm : m < 128) : IntKind.u64.wrap ((m : Int) * 2 ^ (7 * j)) = ((m * 128 ^ j % W64 : Nat) : Int) := by
  rw [pow7, IntKind.wrap_u64, ← Int.natCast_mul]; unfold W64; generalize m * 128 ^ j = s; omega
theorem back7 (m j : Nat) : ((((m * 128 ^ j % W64 : Nat) : Int) / 2 ^ (7 * j) != (m : Int)) = !decide (m * 128 ^ j < W64)) := by
  rw [pow7]
  have hp : 0 < 128 ^ j := Nat.pow_pos (by omega)
  by_cases h : m * 128 ^ j < W64
  · rw [Nat.mod_eq_of_lt h, ← Int.natCast_ediv, Nat.mul_div_cancel _ hp]; simp [h]
  · have hW : 0 < W64 := by unfold W64; omega
    have hlt := Nat.mod_lt (m * 128 ^ j) hW
    generalize m * 128 ^ j % W64 = s at *
    rw [← Int.natCast_ediv]
    have : s / 128 ^ j ≠ m := by
      intro e
      have := Nat.div_mul_le_self s (128 ^ j)
      rw [e] at this; omega
    simp only [h, decide_false, Bool.not_false, bne_iff_ne, ne_eq]
    omega
theorem or7 (v m j : Nat) (hv : v < 128 ^ j) (hj : j ≤ 9) (h : m * 128 ^ j < W64) : bits .or .u64 (v : Int) ((m * 128 ^ j % W64 : Nat) : Int) = ((v + 128 ^ j * m : Nat) : Int) := by
  have h9 := p128 j hj
  have e : (128 : Nat) ^ j = 2 ^ (7 * j) := by rw [show (128 : Nat) = 2 ^ 7 from rfl, ← Nat.pow_mul]
  rw [Nat.mod_eq_of_lt h]
  unfold W64 at h
  have e64 : (2 : Int) ^ 64 = 18446744073709551616 := by decide +kernel
  have g1 : (v : Int) < 2 ^ 64 := by rw [e64]; omega
  have g2 : ((m * 128 ^ j : Nat) : Int) < 2 ^ 64 := by rw [e64]; generalize m * 128 ^ j = s at *; omega
  have g3 : ((m * 128 ^ j : Nat) : Int) % 2 ^ (7 * j) = 0 := by rw [pow7, ← Int.natCast_emod, Nat.mul_mod_left]; rfl
  rw [bits_join_low .u64 64 (by decide) wraps_u64 (7 * j) (v : Int) ((m * 128 ^ j : Nat) : Int) (by omega) (by rw [pow7]; exact_mod_cast hv) g1 (by omega) g3 g2]
  rw [Nat.mul_comm (128 ^ j) m]; push_cast; rfl
theorem val_bd {v m j : Nat} (hv : v < 128 ^ j) (hj : j ≤ 9) : v + 128 ^ j * m < W64 ↔ m * 128 ^ j < W64 := by
  have h9 := p128 j hj
  constructor
  · intro h
    rw [Nat.mul_comm]; omega
  · intro h
    -- both are whole numbers of 128 ^ j, and so is W64
    obtain ⟨q, hq⟩ : ∃ q, W64 = q * 128 ^ j := by
      rcases Nat.lt_or_ge j 10 with h10 | h10
      · have : j = 0 ∨ j = 1 ∨ j = 2 ∨ j = 3 ∨ j = 4 ∨ j = 5 ∨ j = 6 ∨ j = 7 ∨ j = 8 ∨ j = 9 := by omega
        unfold W64
        rcases this with rfl | rfl | rfl | rfl | rfl | rfl | rfl | rfl | rfl | rfl
        · exact ⟨18446744073709551616, by decide +kernel⟩
        · exact ⟨144115188075855872, by decide +kernel⟩
        · exact ⟨1125899906842624, by decide +kernel⟩
        · exact ⟨8796093022208, by decide +kernel⟩
        · exact ⟨68719476736, by decide +kernel⟩
        · exact ⟨536870912, by decide +kernel⟩
        · exact ⟨4194304, by decide +kernel⟩
        · exact ⟨32768, by decide +kernel⟩
        · exact ⟨256, by decide +kernel⟩
        · exact ⟨2, by decide +kernel⟩
      · omega
    rw [hq] at h ⊢
    have hm : m < q := Nat.lt_of_mul_lt_mul_right h
    have : (m + 1) * 128 ^ j ≤ q * 128 ^ j := Nat.mul_le_mul_right _ hm
    rw [Nat.add_mul, Nat.one_mul] at this
    rw [Nat.mul_comm (128 ^ j) m]; omega

/-- what 'unsigned' takes. -/
def curU : Cur → Nat × Cur
  | none => (0, none)
  | some l => match decU l with
    | some (z, r) => (z, some r)
    | none => (0, none)
theorem curU_some {l r : List UInt8} {z : Nat} (h : Dec l (some (z, r))) : curU (some l) = (z, some r) := by
  simp only [curU, decU_eq h]
theorem curU_none {l : List UInt8} (h : Dec l none) : curU (some l) = (0, none) := by
  simp only [curU, decU_eq h]
theorem curTake_nil (l : List UInt8) (h : l = []) : curTake 1 (some l) = ([], none) := by subst h; rfl
theorem curTake_cons (x : UInt8) (r : List UInt8) : curTake 1 (some (x :: r)) = ([x], some r) := by
  simp only [curTake]; rw [if_pos (by simp; omega)]; rfl

set_option maxRecDepth 100000 in
set_option maxHeartbeats 1000000 in
theorem unsigned_c (B : Nat) (c : Cur) (w : World) (h : CurAt R w B c) :
    Calls Tryz.prog 49 #[.pointer (some ⟨B, 0, none⟩)] w (CurTo R B w (.int .u64 (curU c).1) (curU c).2) := by
  cases c with
  | none =>
    have H := Lib.hid h
    clear h
    go_enter Tryz.func49, Tryz.ntmps49
    go_wp2_with fail
    go_loopw [3, 4] (fun z i wr => wr = w) (fun _ i _ => 0)
    case atStart => rfl
    case round =>
      subst hrel
      go_wp2_with fail
      with_reducible refine (take_c B none 1 wr H.out).mono ?_
      rintro e w1 ⟨v1, rfl, hr1, hne1, hc1, hg1⟩
      obtain ⟨a1, c1, rfl⟩ := hr1.shape
      have HC := Lib.hid hc1
      clear hr1 hc1
      go_wp2_with fail
      go_ret
      exact ⟨rfl, HC.out, hg1⟩
  | some l =>
    have H := Lib.hid h
    clear h
    go_enter Tryz.func49, Tryz.ntmps49
    go_wp2_with fail
    go_loopw [3, 4] (fun z i wr => ∃ pre rest : List UInt8, l = pre ++ rest ∧ (∀ b ∈ pre, 128 ≤ b.toNat) ∧ pre.length ≤ 10 ∧ z = .int .u64 (valL pre) ∧ i = .int .i64 ((7 * pre.length : Nat) : Int) ∧ CurAt R wr B (some rest) ∧ w.grownBy wr (some B)) (fun _ i _ => 70 - (intOf i).toNat)
    case atStart => exact ⟨[], l, rfl, by simp, by simp, rfl, rfl, H.out, grownBy_refl _ _⟩
    case round =>
      obtain ⟨pre, rest, hl, hpre, hp10, rfl, rfl, hcur, hg⟩ := hrel
      have HL := Lib.hid hl
      have HP := Lib.hid hpre
      have HG := Lib.hid hg
      have H10 := Lib.hid hp10
      clear hl hpre hg hp10
      cases rest with
      | nil =>
        go_wp2_with fail
        with_reducible refine (take_c B (some []) 1 wr hcur).mono ?_
        rw [curTake_nil [] rfl]
        rintro e w1 ⟨v1, rfl, hr1, hne1, hc1, hg1⟩
        obtain ⟨a1, c1, rfl⟩ := hr1.shape
        have HC := Lib.hid hc1
        clear hr1 hc1 hcur
        go_wp2_with fail
        go_ret
        have e : curU (some l) = (0, none) := curU_none (by have e1 := HL.out; rw [List.append_nil] at e1; rw [e1]; exact dec_short HP.out)
        rw [e]
        exact ⟨rfl, HC.out, grownBy_trans HG.out hg1⟩
      | cons x r =>
        go_wp2_with fail
        with_reducible refine (take_c B (some (x :: r)) 1 wr hcur).mono ?_
        rw [curTake_cons]
        rintro e w1 ⟨v1, rfl, hr1, hne1, hc1, hg1⟩
        obtain ⟨a1, c1, rfl⟩ := hr1.shape
        obtain ⟨b1, o1, rfl, hlt1, hx1⟩ := hr1.cellAt 0 (by simp)
        simp only [bytesV, List.map_cons, List.getElem_cons_zero, byteV, List.map_nil, List.length_singleton, Nat.add_zero] at hx1 ⊢
        have HG1 := Lib.hid (grownBy_trans HG.out hg1)
        have HC1 := Lib.hid hc1
        have hA := andNot128 x
        have hx256 : x.toNat < 256 := UInt8.toNat_lt x
        have hS := shl7 (x.toNat % 128) pre.length (by omega)
        have hT := back7 (x.toNat % 128) pre.length
        have hO := Lib.hid (or7 (valL pre) (x.toNat % 128) pre.length (valL_lt pre))
        have hV := Lib.hid (valL_snoc pre x)
        have hVB := Lib.hid (val_bd (m := x.toNat % 128) (valL_lt pre))
        have hm : x.toNat % 128 < 128 := Nat.mod_lt _ (by omega)
        have hw : IntKind.u64.wrap ((x.toNat % 128 : Nat) : Int) = ((x.toNat % 128 : Nat) : Int) := by rw [IntKind.wrap_u64]; omega
        have HL2 := Lib.hid (show x.toNat < 128 ∨ x.toNat % 128 + 128 = x.toNat by omega)
        clear hr1 hcur hne1 hlt1 hg1 hc1
        by_cases hz : pre ≠ [] ∧ x.toNat = 0
        · have hj : decide (0 < 7 * (pre.length : Int)) = true := by
            have := List.length_pos_iff.2 hz.1
            simp; omega
          have hx0 := hz.2
          have HD : Hid (curU (some l) = (0, none)) := Lib.hid (curU_none (by rw [HL.out]; exact dec_zero HP.out hz.1 hz.2))
          rw [hx0] at hx1
          generalize hJ : pre.length = J at *
          clear hz hA hS hT hm hw hx0 hx256 hJ
          go_wp2_with (first | (go_at_call 74; (with_reducible refine (errs_c B (some r) _ HC1.out).mono ?_); rintro e w' ⟨rfl, hq1, hq2⟩))
          go_ret
          rw [HD.out]
          exact ⟨rfl, hq1, grownBy_trans HG1.out hq2⟩
        · have hxne : pre ≠ [] → x.toNat ≠ 0 := fun h1 h2 => hz ⟨h1, h2⟩
          by_cases hj9 : pre.length ≤ 9
          case neg =>
            have hj : decide (0 < 7 * (pre.length : Int)) = true := by simp; omega
            have hjw : decide (64 ≤ 7 * (pre.length : Int)) = true := by simp; omega
            have hx0 : ((x.toNat : Int) == 0) = false := by
              have := hxne (by intro h; rw [h] at hj9; simp at hj9)
              simp; omega
            have HD : Hid (curU (some l) = (0, none)) := Lib.hid (curU_none (by rw [HL.out]; exact dec_long HP.out (by omega)))
            generalize hJ : pre.length = J at *
            generalize x.toNat % 128 * 128 ^ J % W64 = S at *
            generalize x.toNat % 128 = m at *
            clear hz hT hm hx256 hJ hxne hj9
            go_wp2_with (first | (go_at_call 74; (with_reducible refine (errs_c B (some r) _ HC1.out).mono ?_); rintro e w' ⟨rfl, hq1, hq2⟩))
            go_ret
            rw [HD.out]
            exact ⟨rfl, hq1, grownBy_trans HG1.out hq2⟩
          case pos =>
            have hjw : decide (64 ≤ 7 * (pre.length : Int)) = false := by simp; omega
            have hlt64 : 7 * (pre.length : Int) < 64 := by omega
            by_cases hof : x.toNat % 128 * 128 ^ pre.length < W64
            case neg =>
              have hT2 := hT
              simp only [hof, decide_false, Bool.not_false] at hT2
              have HD : Hid (curU (some l) = (0, none)) := Lib.hid (curU_none (by
                rw [HL.out]
                rcases HL2.out with hlo | hhi
                · exact dec_big HP.out hlo (by rw [hV.out, hVB.out hj9]; exact hof)
                · have h9 : pre.length = 9 := by
                    rcases Nat.lt_or_ge pre.length 9 with h9 | h9
                    · exfalso
                      apply hof
                      have h8 : 128 ^ pre.length ≤ 128 ^ 8 := Nat.pow_le_pow_right (by omega) (by omega)
                      have e8 : (128 : Nat) ^ 8 = 72057594037927936 := by decide +kernel
                      have : x.toNat % 128 * 128 ^ pre.length ≤ 127 * 72057594037927936 := Nat.mul_le_mul (by omega) (by omega)
                      unfold W64; omega
                    · omega
                  have := dec_long (pre := pre ++ [x]) (rest := r) (by
                    intro b hb
                    rcases List.mem_append.1 hb with hb | hb
                    · exact HP.out b hb
                    · rw [List.mem_singleton.1 hb]; omega) (by simp; omega)
                  simpa using this))
              by_cases hp0 : pre = []
              case pos =>
                exfalso
                apply hof
                rw [hp0]; unfold W64; simp; omega
              case neg =>
                have hj : decide (0 < 7 * (pre.length : Int)) = true := by have := List.length_pos_iff.2 hp0; simp; omega
                have hx0 : ((x.toNat : Int) == 0) = false := by have := hxne hp0; simp; omega
                generalize hJ : pre.length = J at *
                generalize x.toNat % 128 * 128 ^ J % W64 = S at *
                generalize x.toNat % 128 = m at *
                clear hz hT hm hx256 hJ hxne hj9 hof hp0
                go_wp2_with (first | (go_at_call 74; (with_reducible refine (errs_c B (some r) _ HC1.out).mono ?_); rintro e w' ⟨rfl, hq1, hq2⟩))
                go_ret
                rw [HD.out]
                exact ⟨rfl, hq1, grownBy_trans HG1.out hq2⟩
            case pos =>
              have hT2 := hT
              simp only [hof, decide_true, Bool.not_true] at hT2
              have hO2 := hO.out hj9 hof
              rw [← hV.out] at hO2
              rcases HL2.out with hlo | hhi
              · have hlo2 : decide ((x.toNat : Int) < 128) = true := by simp; omega
                have HD : Hid (curU (some l) = (valL (pre ++ [x]), some r)) := Lib.hid (curU_some (by
                  rw [HL.out]
                  exact dec_some HP.out hlo hxne (by rw [hV.out, hVB.out hj9]; exact hof)))
                by_cases hp0 : pre = []
                all_goals
                  first
                  | (have hj : decide (0 < 7 * (pre.length : Int)) = false := by (rw [hp0]; simp))
                  | (have hj : decide (0 < 7 * (pre.length : Int)) = true := by (have := List.length_pos_iff.2 hp0; simp; omega))
                  try (have hx0 : ((x.toNat : Int) == 0) = false := by (have := hxne hp0; simp; omega))
                  generalize valL (pre ++ [x]) = V at *
                  generalize valL pre = V0 at *
                  generalize hJ : pre.length = J at *
                  generalize x.toNat % 128 * 128 ^ J % W64 = S at *
                  generalize x.toNat % 128 = m at *
                  clear hz hT hm hx256 hJ hxne hj9 hof hp0 hlo
                  go_wp2_with fail
                  go_ret
                  rw [HD.out]
                  exact ⟨rfl, HC1.out, HG1.out⟩
              · have hlo2 : decide ((x.toNat : Int) < 128) = false := by simp; omega
                have HN : Hid (pre.length + 1 ≤ 10) := Lib.hid (by omega)
                have HPX : Hid (∀ b ∈ pre ++ [x], 128 ≤ b.toNat) := Lib.hid (by
                    intro b hb
                    rcases List.mem_append.1 hb with hb | hb
                    · exact HP.out b hb
                    · rw [List.mem_singleton.1 hb]; omega)
                by_cases hp0 : pre = []
                all_goals
                  first
                  | (have hj : decide (0 < 7 * (pre.length : Int)) = false := by (rw [hp0]; simp))
                  | (have hj : decide (0 < 7 * (pre.length : Int)) = true := by (have := List.length_pos_iff.2 hp0; simp; omega))
                  try (have hx0 : ((x.toNat : Int) == 0) = false := by (have := hxne hp0; simp; omega))
                  generalize hVV : valL (pre ++ [x]) = V at *
                  have HVV := Lib.hid hVV
                  generalize valL pre = V0 at *
                  generalize hJ : pre.length = J at *
                  have HJ := Lib.hid hJ
                  generalize x.toNat % 128 * 128 ^ J % W64 = S at *
                  generalize x.toNat % 128 = m at *
                  clear hz hT hm hx256 hJ hxne hj9 hof hp0 hVV hhi
                  go_wp2_with fail
                  go_roundw
                  case rel => exact ⟨pre ++ [x], r, by rw [HL.out]; simp, HPX.out, by have := HN.out; have := HJ.out; simp; omega, by rw [HVV.out], by have := HN.out; have := HJ.out; simp only [List.length_append, List.length_singleton]; go_num, HC1.out, HG1.out⟩
                  case measure => have := HN.out; have := HJ.out; simp [intOf]; omega
end Go.Proofs.YtmbffncmogpkfaaGreatDoor
