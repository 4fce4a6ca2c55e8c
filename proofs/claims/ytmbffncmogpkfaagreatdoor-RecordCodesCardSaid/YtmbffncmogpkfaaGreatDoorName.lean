
/- Contracts: what may be a name (record.IsName, the reference's), or nothing. -/
import Derived.Test.YtmbffncmogpkfaaGreatDoorRowAt
import Derived.Test.YtmbffncmogpkfaaGreatDoorReal
import Derived.Test.YtmbffncmogpkfaaGreatDoorVal2
import Derived.Shelf.Strings.SlTrimAscii
import Derived.Shelf.Lay
import Derived.Ground.NamesProg
namespace Go.Proofs.YtmbffncmogpkfaaGreatDoor
open Go Go.Proofs Go.Shelf Go.RowKit
set_option linter.unusedVariables false
set_option linter.unusedSimpArgs false

shelf_lay Lays.n160 Nm 160 at Tryz as Tryz.l160
def letterB (b : UInt8) : Bool := decide (97 ≤ b.toNat) && decide (b.toNat ≤ 122)
def nameB (s : List UInt8) : Bool := s.all letterB && decide (1 ≤ s.length) && decide (s.length ≤ 8)
def abc : List UInt8 := [97, 98, 99, 100, 101, 102, 103, 104, 105, 106, 107, 108, 109, 110, 111, 112, 113, 114, 115, 116, 117, 118, 119, 120, 121, 122]
theorem abc_has (b : UInt8) : abc.contains b = letterB b := by
  have h : ∀ n : Nat, n < 256 → abc.contains (UInt8.ofNat n) = letterB (UInt8.ofNat n) := by decide +kernel
  have := h b.toNat b.toNat_lt
  rwa [UInt8.ofNat_toNat] at this
theorem dw_nil {α : Type} (p : α → Bool) (l : List α) : l.dropWhile p = [] ↔ ∀ x ∈ l, p x = true := by
  induction l with
  | nil => simp
  | cons a l ih =>
    cases h : p a
    · rw [List.dropWhile_cons_of_neg (by simp [h])]; simp [h]
    · rw [List.dropWhile_cons_of_pos h, ih]; simp [h]
theorem dw_head {α : Type} (p : α → Bool) (l : List α) (c : α) (t : List α) (h : l.dropWhile p = c :: t) : p c = false := by
  induction l with
  | nil => simp at h
  | cons a l ih =>
    cases hp : p a
    · rw [List.dropWhile_cons_of_neg (by simp [hp])] at h; simp at h; rw [← h.1]; exact hp
    · rw [List.dropWhile_cons_of_pos hp] at h; exact ih h
theorem trim_all (s cs : List UInt8) : (Lib.trimS s cs = []) ↔ s.all (cs.contains ·) = true := by
  unfold Lib.trimS Lib.trimLeftS Lib.trimRightS
  rw [dw_nil, List.all_eq_true]
  constructor
  · intro h b hb
    cases hr : s.reverse.dropWhile (cs.contains ·) with
    | nil =>
      rw [dw_nil] at hr
      exact hr b (by simpa using hb)
    | cons c t =>
      have h1 := dw_head _ _ c t hr
      have h2 := h c (by rw [hr]; simp)
      rw [h1] at h2
      cases h2
  · intro h b hb
    have he : s.reverse.dropWhile (cs.contains ·) = [] := (dw_nil _ _).2 (fun x hx => h x (by simpa using hx))
    rw [he] at hb
    simp at hb
theorem trim_name (s : List UInt8) : (Lib.trimS s abc).isEmpty = s.all letterB := by
  rw [Bool.eq_iff_iff, List.isEmpty_iff, trim_all]
  have : (fun b => abc.contains b) = letterB := funext abc_has
  rw [this]
theorem run_at_list0 (w : World) (l : List UInt8) (j : Nat) (h : j < l.length) :
    (Instr.index 9 (.string ⟨l.toArray⟩) (.int .i64 (j : Int))).run Tryz.prog w = .ok (.int .u8 ((l[j]).toNat : Int)) w := by
  rw [run_index_string w 9 _ _ _ Tryz.underlying9, dif_pos ⟨by omega, by simp [ByteArray.size]; omega⟩]
  rfl
theorem all_take_s (p : UInt8 → Bool) (l : List UInt8) (j : Nat) (h : j < l.length) : (l.take (j + 1)).all p = ((l.take j).all p && p l[j]) := by
  rw [List.take_succ_eq_append_getElem h, List.all_append]; simp
theorem all_bad_s (p : UInt8 → Bool) (l : List UInt8) (j : Nat) (h : j < l.length) (hb : p l[j] = false) : l.all p = false := by
  rw [List.all_eq_false]; exact ⟨l[j], List.getElem_mem h, by simp [hb]⟩
theorem nameB_eq (t : List UInt8) : nameB t = (t.all letterB && decide (1 ≤ t.length) && decide (t.length ≤ 8)) := rfl
set_option maxHeartbeats 1000000 in
theorem RIsName_c (t : List UInt8) (w : World) (hl : t.length ≤ 9223372036854775807) : Calls Tryz.prog 93 #[.string ⟨t.toArray⟩] w fun e w' => e = .returned (.bool (nameB t)) ∧ w = w' := by
  go_enter Tryz.func93, Tryz.ntmps93
  go_wp2_with fail
  go_loopw [3] (fun i wr => ∃ j : Nat, j ≤ t.length ∧ i = .int .i64 (j : Int) ∧ (t.take j).all letterB = true ∧ wr = w) (fun i _ => t.length - (intOf i).toNat)
  case atStart => exact ⟨0, by omega, rfl, rfl, rfl⟩
  case round =>
    obtain ⟨j, hj, rfl, ht, rfl⟩ := hrel
    by_cases hlt : j < t.length
    · have hat := fun w => run_at_list0 w t j hlt
      have hs := all_take_s letterB t j hlt
      rw [ht, Bool.true_and] at hs
      have hbd := all_bad_s letterB t j hlt
      have hok : letterB t[j] = (decide (97 ≤ t[j].toNat) && decide (t[j].toNat ≤ 122)) := rfl
      rw [hok] at hs hbd
      have HS := Lib.hid hs
      have HD : Hid (_ → nameB t = false) := Lib.hid (fun h => by rw [nameB_eq, hbd h]; simp)
      clear hs hbd hok ht
      go_wp2_with fail
      all_goals
        first
        | (go_ret; exact ⟨by rw [HD.out (by simp; omega)]; rfl, by first | rfl | trivial⟩)
        | (go_roundw
           case rel => exact ⟨j + 1, by omega, by go_num, by rw [HS.out]; simp; omega, by first | rfl | trivial⟩
           case measure => simp [intOf]; omega)
    · rw [List.take_of_length_le (by omega)] at ht
      have HT : Hid (nameB t = (decide ((1 : Int) ≤ (t.length : Int)) && decide ((t.length : Int) ≤ 8))) := Lib.hid (by rw [nameB_eq, ht, Bool.true_and]; congr 1 <;> exact decide_eq_decide.2 (by omega))
      clear ht
      cases h1 : decide ((1 : Int) ≤ (t.length : Int))
      all_goals
        go_wp2_with fail
        go_ret
        exact ⟨by rw [HT.out, h1]; rfl, by first | rfl | trivial⟩
set_option maxHeartbeats 1000000 in
theorem IsName_c (t : List UInt8) (w : World) (hl : t.length ≤ 9223372036854775807) : Calls Tryz.prog 37 #[.string ⟨t.toArray⟩] w (Gives w (.bool (nameB t))) := by
  have HT : Hid (∀ w : World, Calls Tryz.prog 61 #[.string ⟨t.toArray⟩, .string ⟨#[97, 98, 99, 100, 101, 102, 103, 104, 105, 106, 107, 108, 109, 110, 111, 112, 113, 114, 115, 116, 117, 118, 119, 120, 121, 122]⟩] w fun e w' => e = .returned (.string ⟨(Lib.trimS t abc).toArray⟩) ∧ Below w.heap.size w w') := Lib.hid (fun w => Any.strings_Trim_laid Tryz.l160 (by kernel_rfl) ⟨t.toArray⟩ ⟨abc.toArray⟩ w hl (by decide) (ascii_of_all (by decide)))
  cases h0 : t.isEmpty
  · by_cases h8 : (t.length : Int) ≤ 8
    · have h1 : decide (1 ≤ t.length) = true := by
        cases t with
        | nil => simp at h0
        | cons => simp
      have h9 : decide (t.length ≤ 8) = true := decide_eq_true (by omega)
      have HV : Hid (nameB t = (Lib.trimS t abc).isEmpty) := Lib.hid (by rw [nameB_eq, h9, h1, trim_name]; simp)
      clear h1 h9
      generalize Lib.trimS t abc = tr at *
      go_enter Tryz.func37, Tryz.ntmps37
      go_wp2_with (first | (go_at_call 61; (with_reducible refine (HT.out _).mono ?_); rintro e wq ⟨rfl, hq⟩))
      go_ret
      exact ⟨by rw [HV.out]; rfl, hq⟩
    · have HV : Hid (nameB t = false) := Lib.hid (by rw [nameB_eq, show decide (t.length ≤ 8) = false from decide_eq_false (by omega), Bool.and_false])
      go_enter Tryz.func37, Tryz.ntmps37
      go_wp2_with fail
      go_ret
      exact ⟨by rw [HV.out]; rfl, Below.refl _ w⟩
  · have HV : Hid (nameB t = false) := Lib.hid (by
      cases t with
      | nil => decide
      | cons => simp at h0)
    go_enter Tryz.func37, Tryz.ntmps37
    go_wp2_with fail
    go_ret
    exact ⟨by rw [HV.out]; rfl, Below.refl _ w⟩
end Go.Proofs.YtmbffncmogpkfaaGreatDoor
