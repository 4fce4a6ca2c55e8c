
/- The reference's Cursor. -/
import Derived.Test.YtmbffncmogpkfaaGreatDoorLaw3
import Derived.Test.YtmbffncmogpkfaaGreatDoorCur2
import Derived.Lib.VarintBits
import Derived.Deep.RegionHeld3
namespace Go.Proofs.YtmbffncmogpkfaaGreatDoor
open Go Go.RowKit
set_option linter.unusedVariables false
variable {R : Option Nat}

theorem fail_c (B : Nat) (c : Cur) (w : World) (h : CurAt R w B c) :
    Calls Tryz.prog 56 #[.pointer (some ⟨B, 0, none⟩)] w (CurTo R B w (.tuple #[]) none) := by
  obtain ⟨v, h0, h1, f0, f1, hr, hne⟩ := h
  have e1 : (w.setCell ⟨B, 1, none⟩ (.bool true)).cell? ⟨B, 1, none⟩ = some (.bool true) := cell_same h1
  have e0 : (w.setCell ⟨B, 1, none⟩ (.bool true)).cell? ⟨B, 0, none⟩ = some v := by rw [cell_other (by simp)]; exact h0
  have H : Hid (CurAt R ((w.setCell ⟨B, 1, none⟩ (.bool true)).setCell ⟨B, 0, none⟩ (.slice none 0 0)) B none) := Lib.hid ⟨.slice none 0 0, cell_same e0, by rw [cell_other (by simp)]; exact e1, by simp [f0], by simp [f1], RowAt.nil _, .inr (.inr rfl), hne.2⟩
  clear hr hne e0 e1
  go_enter Tryz.func56, Tryz.ntmps56
  go_wp2
  go_end0
  exact ⟨rfl, H.out, grownBy_trans (grownBy_set _ _ _ _) (grownBy_set _ _ _ _)⟩
theorem and127 (x : UInt8) : bits .and .u8 (x.toNat : Int) 127 = (x.toNat : Int) % 128 := by
  have := UInt8.toNat_lt x
  exact u8_and127 _ (by omega) (by omega)
theorem str_ne {a b : List UInt8} (h : a ≠ b) : ((⟨a.toArray⟩ : ByteArray) != ⟨b.toArray⟩) = true := by
  have e : ((⟨a.toArray⟩ : ByteArray) == ⟨b.toArray⟩) = (a.toArray == b.toArray) := rfl
  show (!((⟨a.toArray⟩ : ByteArray) == ⟨b.toArray⟩)) = true
  rw [e]
  simpa using h
theorem grown_of_below {w w' : World} (B : Nat) (h : Below w.heap.size w w') : w.grownBy w' (some B) := ⟨h.os, h.tape, h.output, h.size, fun k hk _ => h.block k hk⟩
theorem seven (V : Nat) (y : UInt8) : bits .or .u64 (IntKind.u64.wrap (((V % W64 : Nat) : Int) * 128)) ((y.toNat : Int) % 128) = (((y.toNat % 128 + 128 * V) % W64 : Nat) : Int) := by
  have e64 : (2 : Int) ^ 64 = 18446744073709551616 := by decide +kernel
  have e7 : (2 : Int) ^ 7 = 128 := by decide +kernel
  have hy := UInt8.toNat_lt y
  rw [IntKind.wrap_u64]
  unfold W64
  rw [bits_join .u64 64 (by decide) wraps_u64 7 _ ((y.toNat : Int) % 128) (by omega) (by rw [e7]; omega) (by rw [e64]; omega) (by omega) (by rw [e7]; omega) (by rw [e64]; omega)]
  omega
theorem canon (Z : Nat) (P pre : List UInt8) (x : UInt8) (hP : P = pre ++ [x]) (hpre : ∀ b ∈ pre, 128 ≤ b.toNat) (hx : x.toNat < 128) : lebInt (unzig (valL P % W64)) = P ↔ valL P < W64 ∧ (pre ≠ [] → x.toNat ≠ 0) := by
  unfold lebInt
  rw [zig_unzig]
  constructor
  · intro h
    have h1 := valL_uv (valL P % W64)
    rw [h] at h1
    have hW : valL P % W64 < W64 := Nat.mod_lt _ (by unfold W64; omega)
    refine ⟨by omega, fun hp hz => ?_⟩
    obtain ⟨p, y, e1, e2, e3, e4, e5⟩ := uv_form (valL P % W64)
    rw [h, hP] at e1
    obtain ⟨a, b, _⟩ := first_low pre p x y [] [] hpre e2 hx e3 e1
    subst a; subst b
    exact e5 hp hz
  · intro ⟨h1, h2⟩
    rw [Nat.mod_eq_of_lt h1, hP]
    exact uv_of pre x hpre hx h2
end Go.Proofs.YtmbffncmogpkfaaGreatDoor
