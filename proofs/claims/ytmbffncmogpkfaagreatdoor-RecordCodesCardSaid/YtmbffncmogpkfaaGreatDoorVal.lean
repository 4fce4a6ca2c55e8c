
/- Contracts of package value: isText. -/
import Derived.Test.YtmbffncmogpkfaaGreatDoorReal
import Derived.Test.YtmbffncmogpkfaaGreatDoorRowAt
import Derived.Shelf.GgClosure.StringsIndexFuncTop
import Derived.Shelf.Lay
import Derived.Ground.GgwProg
import Derived.Ground.NamesProg
namespace Go.Proofs.YtmbffncmogpkfaaGreatDoor
open Go Go.Proofs Go.Shelf Go.RowKit
set_option linter.unusedVariables false

shelf_lay LaysGw.n15 Ggw 15 at Tryz as Tryz.l15
/-- no rune of a text. -/
def badR (r : Nat) : Bool := decide (r < 32) || decide (126 < r)
def okB (b : UInt8) : Bool := decide (32 ≤ b.toNat) && decide (b.toNat ≤ 126)
theorem bad_c (w : World) : PredAt Tryz.prog 102 #[] encR badR w := fun W r _ => by
  unfold FnGives badR
  by_cases h1 : r < 32 <;> by_cases h2 : 126 < r
  all_goals
    have z1 : (r : Int) < 32 ↔ r < 32 := by omega
    have z2 : (126 : Int) < (r : Int) ↔ 126 < r := by omega
    go_enter Tryz.func102, Tryz.ntmps102
    go_wp2
    all_goals first | (exfalso; omega) | (go_ret; exact ⟨by simp [h1, h2], 0, rfl⟩)
/-- the first byte tells whether the rune is one of ASCII. -/
theorem decode_high (s : ByteArray) (pos : Nat) (h : pos < s.size) (ha : 128 ≤ (s[pos]'h).toNat) : 128 ≤ (Utf8.decode s pos).1 := by
  have e : s.get! (pos + 0) = s[pos]'h := by
    show s.get! pos = _
    simp [ByteArray.get!, getElem!_pos, h]
    rfl
  have hn : ¬ (s[pos]'h).toNat < 128 := by omega
  simp only [Utf8.decode, e, hn, if_false]
  have hr : 128 ≤ Utf8.runeError := by decide
  repeat' split
  all_goals
    first
    | exact hr
    | (rename_i hq; simp at hq ⊢; omega)
theorem first_bad (s : List UInt8) : ∀ (n pos : Nat), s.length - pos ≤ n → (decide (Lib.idxFuncFrom badR true ⟨s.toArray⟩ n pos < 0) = (s.drop pos).all okB) := by
  intro n
  induction n with
  | zero =>
    intro pos h
    rw [List.drop_of_length_le (by omega)]
    rfl
  | succ n ih =>
    intro pos h
    have hsz : (⟨s.toArray⟩ : ByteArray).size = s.length := by simp [ByteArray.size]
    unfold Lib.idxFuncFrom
    by_cases hp : pos < s.length
    · have hp2 : pos < (⟨s.toArray⟩ : ByteArray).size := by rw [hsz]; exact hp
      have hg : (⟨s.toArray⟩ : ByteArray)[pos]'hp2 = s[pos] := rfl
      rw [if_pos hp2, List.drop_eq_getElem_cons hp, List.all_cons]
      by_cases ha : (s[pos]).toNat < 128
      · have hd := decode_ascii (⟨s.toArray⟩ : ByteArray) pos hp2 (by rw [hg]; exact ha)
        rw [hg] at hd
        rw [hd]
        by_cases hb : badR (s[pos]).toNat = true
        · rw [if_pos hb]
          have : okB s[pos] = false := by
            unfold badR at hb; unfold okB
            simp at hb ⊢; omega
          rw [this]
          simp
        · rw [if_neg hb]
          have : okB s[pos] = true := by
            unfold badR at hb; unfold okB
            simp at hb ⊢; omega
          rw [this, Bool.true_and]
          exact ih (pos + 1) (by omega)
      · have hd := decode_high (⟨s.toArray⟩ : ByteArray) pos hp2 (by rw [hg]; omega)
        have hb : badR (Utf8.decode (⟨s.toArray⟩ : ByteArray) pos).1 = true := by unfold badR; simp; omega
        rw [if_pos hb]
        have : okB s[pos] = false := by unfold okB; simp; omega
        rw [this]
        simp
    · have hp2 : ¬ pos < (⟨s.toArray⟩ : ByteArray).size := by rw [hsz]; exact hp
      rw [if_neg hp2, List.drop_of_length_le (by omega)]
      rfl
theorem idx_ok (s : List UInt8) : decide (Lib.idxFunc badR true ⟨s.toArray⟩ < 0) = s.all okB := by
  have := first_bad s s.length 0 (by omega)
  simpa [Lib.idxFunc, ByteArray.size] using this
/-- may this be a text? -/
def isT (s : List UInt8) : Bool := decide (s.length ≤ 12) && s.all okB
set_option maxHeartbeats 400000 in
theorem isText_c (s : List UInt8) (w : World) : Calls Tryz.prog 85 #[.string ⟨s.toArray⟩] w fun e w' => e = .returned (.bool (isT s)) ∧ Below w.heap.size w w' := by
  have hC := Any.strings_IndexFunc Tryz.l15 102 #[] (enters_of Tryz.func102 (by kernel_rfl) rfl) badR ⟨s.toArray⟩ w (bad_c w)
  change Calls Tryz.prog 103 #[_, .func (.func 102) #[] #[]] _ _ at hC
  have HI := Lib.hid (idx_ok s)
  generalize Lib.idxFunc badR true ⟨s.toArray⟩ = ix at *
  have HC := Lib.hid hC
  clear hC
  by_cases hl : s.length ≤ 12
  · have h1 : decide ((s.length : Int) ≤ 12) = true := by simp; omega
    have H : Hid (isT s = decide (ix < 0)) := Lib.hid (by rw [HI.out]; unfold isT; simp [hl])
    clear hl
    go_enter Tryz.func85, Tryz.ntmps85
    go_wp2_with (go_at_call 103; (with_reducible refine HC.out.mono ?_); rintro e w' ⟨rfl, hb⟩)
    go_ret
    rw [H.out]
    exact ⟨rfl, hb⟩
  · have h1 : decide ((s.length : Int) ≤ 12) = false := by simp; omega
    have H : Hid (isT s = false) := Lib.hid (by unfold isT; simp [hl])
    clear hl
    go_enter Tryz.func85, Tryz.ntmps85
    go_wp2_with fail
    go_ret
    rw [H.out]
    exact ⟨rfl, Below.refl _ _⟩
end Go.Proofs.YtmbffncmogpkfaaGreatDoor
