
/- Contracts of package value: isText. -/
import Derived.Test.YthbjkkfpahhfiaaReal
import Derived.Test.YthbjkkfpahhfiaaRowAt
import Derived.Shelf.GgClosure.StringsIndexFuncTop
import Derived.Shelf.Lay
import Derived.Ground.GgwProg
import Derived.Ground.NamesProg
namespace Go.Proofs.Ythbjkkfpahhfiaa
open Go Go.Proofs Go.Shelf Go.RowKit
set_option linter.unusedVariables false

/-- no rune of a text. -/
def badR (r : Nat) : Bool := decide (r < 32) || decide (126 < r)
def okB (b : UInt8) : Bool := decide (32 ≤ b.toNat) && decide (b.toNat ≤ 126)
/-- the first byte tells whether the rune is one of ASCII. -/
theorem decode_high (s : ByteArray) (pos : Nat) (h : pos < s.size) (ha : 128 ≤ (s[pos]'h).toNat) : 128 ≤ (Utf8.decode s pos).1 := by
  have e : s.get! (pos + 0) = s[pos]'h := by
    show s.get! pos = _
    simp [ByteArray.get!, getElem!_pos, h]
    rfl
  have hn : ¬ (s[pos]'h).toNat < 128 := by omega
  simp only [Utf8.decode, e, hn, if_false]
  have hr : 128 ≤ Utf8.runeError := by decide
  repeat' split
  all_goals
    first
    | exact hr
    | (rename_i hq; simp at hq ⊢; omega)
theorem first_bad (s : List UInt8) : ∀ (n pos : Nat), s.length - pos ≤ n → (decide (Lib.idxFuncFrom badR true ⟨s.toArray⟩ n pos < 0) = (s.drop pos).all okB) := by
  intro n
  induction n with
  | zero =>
    intro pos h
    rw [List.drop_of_length_le (by omega)]
    rfl
  | succ n ih =>
    intro pos h
    have hsz : (⟨s.toArray⟩ : ByteArray).size = s.length := by simp [ByteArray.size]
    unfold Lib.idxFuncFrom
    by_cases hp : pos < s.length
    · have hp2 : pos < (⟨s.toArray⟩ : ByteArray).size := by rw [hsz]; exact hp
      have hg : (⟨s.toArray⟩ : ByteArray)[pos]'hp2 = s[pos] := rfl
      rw [if_pos hp2, List.drop_eq_getElem_cons hp, List.all_cons]
      by_cases ha : (s[pos]).toNat < 128
      · have hd := decode_ascii (⟨s.toArray⟩ : ByteArray) pos hp2 (by rw [hg]; exact ha)
        rw [hg] at hd
        rw [hd]
        by_cases hb : badR (s[pos]).toNat = true
        · rw [if_pos hb]
          have : okB s[pos] = false := by
            unfold badR at hb; unfold okB
            simp at hb ⊢; omega
          rw [this]
          simp
        · rw [if_neg hb]
          have : okB s[pos] = true := by
            unfold badR at hb; unfold okB
            simp at hb ⊢; omega
          rw [this, Bool.true_and]
          exact ih (pos + 1) (by omega)
      · have hd := decode_high (⟨s.toArray⟩ : ByteArray) pos hp2 (by rw [hg]; omega)
        have hb : badR (Utf8.decode (⟨s.toArray⟩ : ByteArray) pos).1 = true := by unfold badR; simp; omega
        rw [if_pos hb]
        have : okB s[pos] = false := by unfold okB; simp; omega
        rw [this]
        simp
    · have hp2 : ¬ pos < (⟨s.toArray⟩ : ByteArray).size := by rw [hsz]; exact hp
      rw [if_neg hp2, List.drop_of_length_le (by omega)]
      rfl
theorem idx_ok (s : List UInt8) : decide (Lib.idxFunc badR true ⟨s.toArray⟩ < 0) = s.all okB := by
  have := first_bad s s.length 0 (by omega)
  simpa [Lib.idxFunc, ByteArray.size] using this
/-- may this be a text? -/
def isT (s : List UInt8) : Bool := decide (s.length ≤ 12) && s.all okB
end Go.Proofs.Ythbjkkfpahhfiaa
