
/- How the arguments of a row are opened: slices of one-cell elements, texts. -/
import Derived.Test.YtmbffncmogpkfaaGreatDoorRowAt
import Derived.ProofKit
import Derived.OpenShut
import Derived.Deep.Slices
namespace Go.Proofs.YtmbffncmogpkfaaGreatDoor
open Go Go.RowKit Go.ChangeShapes Go.WideShapes Go.Deep
set_option linter.unusedVariables false

theorem own : ownKnob Tryz.prog.godebug = none := by kernel_rfl
theorem laidOut : laidOutB Tryz.prog = true := by kernel_rfl

theorem exists_list {X : Type} (n : Nat) (P : Nat → X → Prop) (h : ∀ i, i < n → ∃ x, P i x) : ∃ xs : List X, xs.length = n ∧ ∀ i (hi : i < xs.length), P i xs[i] := by
  induction n with
  | zero => exact ⟨[], rfl, fun i hi => by simp at hi⟩
  | succ n ih =>
    obtain ⟨xs, hl, hx⟩ := ih (fun i hi => h i (by omega))
    obtain ⟨x, hp⟩ := h n (by omega)
    refine ⟨xs ++ [x], by simp [hl], fun i hi => ?_⟩
    by_cases hin : i < xs.length
    · rw [List.getElem_append_left hin]; exact hx i hin
    · have : i = n := by simp at hi; omega
      subst this
      rw [List.getElem_append_right (by omega)]
      simpa [hl] using hp

section
variable {H : Type} {enc : TypeId × Value → H} {w : World} {spare : Nat → Bool} {held : Bool}
/-- A SLICE OF ONE-CELL ELEMENTS, OPENED. -/
theorem open_row1 {X : Type} (mk : X → Value) (ok : X → Prop) {t e : TypeId} (ht : Tryz.prog.underlying t = some (.slice e)) (hk : Tryz.prog.cellsOf e = 1)
    (hel : ∀ (n : Nat) (cs : List Value) y, DataW.trod enc Tryz.prog w 0 spare held n e cs = some y → ∃ x, cs = [mk x] ∧ ok x)
    {a : Option Addr} {len cap : Nat} {d : DataW H} {ps : List MemPlace} (h : DataW.Trod enc Tryz.prog w 0 spare held t (.slice a len cap) d ps) :
    ∃ xs : List X, RowAt w (.slice a len cap) (xs.map mk) ∧ ∀ x ∈ xs, ok x := by
  obtain ⟨fuel, hf⟩ := h
  rcases open_slice ht hf with ⟨hcs, _⟩ | ⟨a', len', cap', m, n, D, Pl, hcs, _, hl, hm, hmm, _, hi⟩
  · simp [Value.cells] at hcs
    obtain ⟨rfl, rfl, rfl⟩ := hcs
    exact ⟨[], RowAt.nil w, by simp⟩
  · simp [Value.cells] at hcs
    obtain ⟨rfl, rfl, rfl⟩ := hcs
    rw [hk] at hi
    have hlm : len ≤ m := by rw [hmm]; split <;> omega
    obtain ⟨xs, hxl, hx⟩ := exists_list len (fun i x => w.cell? (a'.add i) = some (mk x) ∧ ok x) (fun i hi' => by
      obtain ⟨cs', hc, ht'⟩ := hi i (by omega)
      obtain ⟨_, hcl, hat⟩ := World.cells?_some hc
      obtain ⟨x, rfl, hx⟩ := hel n cs' _ ht'
      have := hat 0 (by omega)
      rw [Nat.mul_one] at this
      have e0 : (a'.add i).add 0 = a'.add i := by simp [Addr.add]
      rw [e0] at this
      exact ⟨x, by simpa using this, hx⟩)
    refine ⟨xs, ⟨by rw [List.length_map]; omega, .inr ⟨a', cap, by rw [List.length_map, hxl], by rw [List.length_map, hxl]; exact hl, fun i hi' => ?_⟩⟩, fun x hx' => ?_⟩
    · rw [List.length_map] at hi'
      rw [(hx i hi').1]; simp
    · obtain ⟨i, hi', rfl⟩ := List.getElem_of_mem hx'
      exact (hx i hi').2
end
theorem i64_ok {n : Int} (h : (Lit.int .i64 n).wf = true) : -9223372036854775808 ≤ n ∧ n ≤ 9223372036854775807 := by
  simp [Lit.wf, IntKind.min, IntKind.max, IntKind.signed, IntKind.bits] at h; omega
theorem u8_ok {n : Int} (h : (Lit.int .u8 n).wf = true) : ∃ b : UInt8, n = (b.toNat : Int) := by
  simp [Lit.wf, IntKind.min, IntKind.max, IntKind.signed, IntKind.bits] at h
  refine ⟨n.toNat.toUInt8, ?_⟩
  have : (n.toNat.toUInt8).toNat = n.toNat := by simp [Nat.toUInt8]; omega
  omega
theorem bytes_of (s : ByteArray) : (⟨s.data.toList.toArray⟩ : ByteArray) = s := by cases s; simp

section
variable {H : Type} {enc : TypeId × Value → H} {w : World} {spare : Nat → Bool} {held : Bool}
theorem open_intsA {t e : TypeId} (ht : Tryz.prog.underlying t = some (.slice e)) (he : Tryz.prog.underlying e = some (.int .i64)) (hk : Tryz.prog.cellsOf e = 1)
    {a : Option Addr} {len cap : Nat} {d : DataW H} {ps : List MemPlace} (h : DataW.Trod enc Tryz.prog w 0 spare held t (.slice a len cap) d ps) :
    ∃ ns : List Int, RowAt w (.slice a len cap) (ns.map (Value.int .i64)) ∧ ∀ n ∈ ns, -9223372036854775808 ≤ n ∧ n ≤ 9223372036854775807 :=
  open_row1 (Value.int .i64) _ ht hk (fun n cs y hy => by
    obtain ⟨m, rfl, _, hw⟩ := DataW.trod_int he hy
    exact ⟨m, rfl, i64_ok hw⟩) h
theorem open_bytesA {t e : TypeId} (ht : Tryz.prog.underlying t = some (.slice e)) (he : Tryz.prog.underlying e = some (.int .u8)) (hk : Tryz.prog.cellsOf e = 1)
    {a : Option Addr} {len cap : Nat} {d : DataW H} {ps : List MemPlace} (h : DataW.Trod enc Tryz.prog w 0 spare held t (.slice a len cap) d ps) :
    ∃ l : List UInt8, RowAt w (.slice a len cap) (bytesV l) := by
  obtain ⟨xs, h1, _⟩ := open_row1 byteV (fun _ => True) ht hk (fun n cs y hy => by
    obtain ⟨m, rfl, _, hw⟩ := DataW.trod_int he hy
    obtain ⟨b, rfl⟩ := u8_ok hw
    exact ⟨b, rfl, trivial⟩) h
  exact ⟨xs, h1⟩
theorem open_u64sA {t e : TypeId} (ht : Tryz.prog.underlying t = some (.slice e)) (he : Tryz.prog.underlying e = some (.int .u64)) (hk : Tryz.prog.cellsOf e = 1)
    {a : Option Addr} {len cap : Nat} {d : DataW H} {ps : List MemPlace} (h : DataW.Trod enc Tryz.prog w 0 spare held t (.slice a len cap) d ps) :
    ∃ ns : List Nat, RowAt w (.slice a len cap) (ns.map (fun n : Nat => Value.int .u64 (n : Int))) ∧ ∀ n ∈ ns, n < 18446744073709551616 :=
  open_row1 (fun n : Nat => Value.int .u64 (n : Int)) _ ht hk (fun n cs y hy => by
    obtain ⟨m, rfl, _, hw⟩ := DataW.trod_int he hy
    obtain ⟨k, rfl, hk⟩ := u64_nat hw
    exact ⟨k, rfl, hk⟩) h
theorem open_boolsA {t e : TypeId} (ht : Tryz.prog.underlying t = some (.slice e)) (he : Tryz.prog.underlying e = some .bool) (hk : Tryz.prog.cellsOf e = 1)
    {a : Option Addr} {len cap : Nat} {d : DataW H} {ps : List MemPlace} (h : DataW.Trod enc Tryz.prog w 0 spare held t (.slice a len cap) d ps) :
    ∃ bs : List Bool, RowAt w (.slice a len cap) (bs.map Value.bool) := by
  obtain ⟨xs, h1, _⟩ := open_row1 Value.bool (fun _ => True) ht hk (fun n cs y hy => by
    obtain ⟨m, rfl, _⟩ := DataW.trod_bool he hy
    exact ⟨m, rfl, trivial⟩) h
  exact ⟨xs, h1⟩
theorem open_strsA {t e : TypeId} (ht : Tryz.prog.underlying t = some (.slice e)) (he : Tryz.prog.underlying e = some .string) (hk : Tryz.prog.cellsOf e = 1)
    {a : Option Addr} {len cap : Nat} {d : DataW H} {ps : List MemPlace} (h : DataW.Trod enc Tryz.prog w 0 spare held t (.slice a len cap) d ps) :
    ∃ ss : List (List UInt8), RowAt w (.slice a len cap) (ss.map (fun s => Value.string ⟨s.toArray⟩)) ∧ ∀ s ∈ ss, s.length ≤ maxLen :=
  open_row1 (fun s : List UInt8 => Value.string ⟨s.toArray⟩) _ ht hk (fun n cs y hy => by
    obtain ⟨s, rfl, _, hw⟩ := DataW.trod_string he hy
    exact ⟨s.data.toList, by rw [bytes_of], by rw [Array.length_toList]; exact hw⟩) h
end
end Go.Proofs.YtmbffncmogpkfaaGreatDoor
