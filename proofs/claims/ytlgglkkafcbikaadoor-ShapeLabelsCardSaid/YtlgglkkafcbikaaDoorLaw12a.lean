/- The laws on package shape: ShapeTypes, ShapeEither. -/
import Derived.Test.YtlgglkkafcbikaaDoorShape3
namespace Go.Proofs.YtlgglkkafcbikaaDoor
open Go Go.Proofs Go.RowKit
set_option linter.unusedVariables false
set_option linter.unusedSimpArgs false

theorem Blk.newAt (w : World) (cs : List Value) (t : TypeId) (g : Nat) (hg : g = w.heap.size) : Blk (w.alloc (.cells cs.toArray t)) g cs := by subst hg; exact Blk.new w cs t
/-- a byte of its own as a text. -/
theorem conv_one (x : UInt8) (W : World) (B : Nat) (hB : B = W.heap.size) :
    (convert 38 9 (.slice (some ⟨B, 0, none⟩) 1 1)).run Tryd.prog (W.alloc (.cells #[.int .u8 ((x.toNat : Nat) : Int)] 5)) = .ok (.string ⟨#[x]⟩) (W.alloc (.cells #[.int .u8 ((x.toNat : Nat) : Int)] 5)) := by
  subst hB
  have h := RowAt.new W (bytesV [x]) 5 1 (show (1 : Nat) ≤ maxLen by decide) (Nat.le_refl 1)
  exact RowAt.toStr h 38 9 5 Tryd.underlying38 Tryd.underlying5 Tryd.underlying9
theorem byte_of (a : Int) (h0 : 0 ≤ a) (h7 : a ≤ 7) : ∃ x : UInt8, 97 + a = ((x.toNat : Nat) : Int) ∧ a = (x.toNat : Int) - 97 := by
  refine ⟨UInt8.ofNat (97 + a.toNat), ?_, ?_⟩ <;> (rw [UInt8.toNat_ofNat']; omega)
set_option maxRecDepth 100000 in
set_option maxHeartbeats 4000000 in
theorem ShapeTypes_core (a0 : Int) (a1 : Int) (a2 : Int) (a3 : Int) (w : World) (w0 : (Lit.int .i64 a0).wf = true) (w1 : (Lit.int .i64 a1).wf = true) (w2 : (Lit.int .i64 a2).wf = true) (w3 : (Lit.int .i64 a3).wf = true) :
    Calls Tryd.prog 6 #[.int .i64 a0, .int .i64 a1, .int .i64 a2, .int .i64 a3] w fun e w' => e = .returned (.bool true) ∧ Below w.heap.size w w' := by
  clear w0 w1 w2 w3
  by_cases hg : (0 ≤ a0 ∧ a0 ≤ 7) ∧ (0 ≤ a1 ∧ a1 ≤ 7) ∧ (1 ≤ a2 ∧ a2 ≤ 9) ∧ (1 ≤ a3 ∧ a3 ≤ 9)
  · obtain ⟨⟨g0, g1⟩, ⟨g2, g3⟩, ⟨g4, g5⟩, ⟨g6, g7⟩⟩ := hg
    obtain ⟨x, hx, hx2⟩ := byte_of a0 g0 g1
    obtain ⟨y, hy, hy2⟩ := byte_of a1 g2 g3
    have hc1 := conv_one x w w.heap.size rfl
    have hwx : IntKind.u8.wrap ((x.toNat : Nat) : Int) = ((x.toNat : Nat) : Int) := by rw [IntKind.wrap_u8]; omega
    have hwy : IntKind.u8.wrap ((y.toNat : Nat) : Int) = ((y.toNat : Nat) : Int) := by rw [IntKind.wrap_u8]; omega
    have hc2 := conv_one y ((w.alloc (.cells #[.int .u8 ((x.toNat : Nat) : Int)] 5)).alloc (.cells #[.int .i64 a2, .int .i64 a3, .string ⟨#[x]⟩, .float .f64 0] 30)) (w.heap.size + 1 + 1) (by simp)
    have e1 : joinsB ⟨0, 0, [y], false⟩ ⟨a2, a3, [x], 0⟩ a2 a3 = (a0 == a1) := by
      have : (y == x) = (a0 == a1) := by
        rw [Bool.eq_iff_iff, beq_iff_eq, beq_iff_eq]
        constructor
        · rintro rfl; omega
        · intro h; exact UInt8.toNat_inj.1 (by omega)
      simp [joinsB, this]
    have e2 : joinsB ⟨0, 0, [], false⟩ ⟨a2, a3, [x], 0⟩ a2 a3 = true := by simp [joinsB]
    have e3 : joinsB ⟨0, 0, [], false⟩ ⟨a2, a3, [x], 0⟩ a3 a2 = (a2 == a3) := by
      simp only [joinsB]; rw [Bool.eq_iff_iff]; simp; omega
    have e4 : joinsB ⟨0, 0, [], false⟩ ⟨a2, a3, [x], 0⟩ 10 a3 = false := by
      simp [joinsB]; omega
    have J1 := Lib.hid (fun w => Joins_c ⟨0, 0, [y], false⟩ ⟨a2, a3, [x], 0⟩ a2 a3 w)
    have J2 := Lib.hid (fun w => Joins_c ⟨0, 0, [], false⟩ ⟨a2, a3, [x], 0⟩ a2 a3 w)
    have J3 := Lib.hid (fun w => Joins_c ⟨0, 0, [], false⟩ ⟨a2, a3, [x], 0⟩ a3 a2 w)
    have J4 := Lib.hid (fun w => Joins_c ⟨0, 0, [], false⟩ ⟨a2, a3, [x], 0⟩ 10 a3 w)
    rw [e1] at J1
    rw [e2] at J2
    rw [e3] at J3
    rw [e4] at J4
    unfold PE.v ED.v at *
    clear hx2 hy2 e1 e2 e3 e4
    have H0 : Hid (Keep w (fun w' => Blk w' (w.heap.size + 1) [.int .i64 a2, .int .i64 a3, .string ⟨#[x]⟩, .float .f64 0] ∧ Blk w' (w.heap.size + 1 + 1 + 1) [.int .i64 0, .int .i64 0, .string ⟨#[y]⟩, .bool false])
        ((((w.alloc (.cells #[.int .u8 ((x.toNat : Nat) : Int)] 5)).alloc (.cells #[.int .i64 a2, .int .i64 a3, .string ⟨#[x]⟩, .float .f64 0] 30)).alloc (.cells #[.int .u8 ((y.toNat : Nat) : Int)] 5)).alloc (.cells #[.int .i64 0, .int .i64 0, .string ⟨#[y]⟩, .bool false] 34))) := by
      have b1 := ((Blk.newAt (w.alloc (.cells #[.int .u8 ((x.toNat : Nat) : Int)] 5)) [.int .i64 a2, .int .i64 a3, .string ⟨#[x]⟩, .float .f64 0] 30 (w.heap.size + 1) (by simp)).alloc (.cells #[.int .u8 ((y.toNat : Nat) : Int)] 5)).alloc (.cells #[.int .i64 0, .int .i64 0, .string ⟨#[y]⟩, .bool false] 34)
      have b2 := Blk.newAt (((w.alloc (.cells #[.int .u8 ((x.toNat : Nat) : Int)] 5)).alloc (.cells #[.int .i64 a2, .int .i64 a3, .string ⟨#[x]⟩, .float .f64 0] 30)).alloc (.cells #[.int .u8 ((y.toNat : Nat) : Int)] 5)) [.int .i64 0, .int .i64 0, .string ⟨#[y]⟩, .bool false] 34 (w.heap.size + 1 + 1 + 1) (by simp)
      exact Lib.hid ⟨⟨b1, b2⟩, ((((Below.refl _ w).alloc (Nat.le_refl _) _).alloc (by simp) _).alloc (by simp; omega) _).alloc (by simp; omega) _, fun w' hb => ⟨b1.below hb, b2.below hb⟩⟩
    have HFF : Hid (∀ W : World, Blk W (w.heap.size + 1) [.int .i64 a2, .int .i64 a3, .string ⟨#[x]⟩, .float .f64 0] ∧ Blk W (w.heap.size + 1 + 1 + 1) [.int .i64 0, .int .i64 0, .string ⟨#[y]⟩, .bool false] →
        W.cell? ⟨w.heap.size + 1, 0, none⟩ = some (.int .i64 a2) ∧ W.cell? ⟨w.heap.size + 1, 1, none⟩ = some (.int .i64 a3) ∧ W.cell? ⟨w.heap.size + 1, 2, none⟩ = some (.string ⟨#[x]⟩) ∧ W.cell? ⟨w.heap.size + 1, 3, none⟩ = some (.float .f64 0) ∧
        W.cell? ⟨w.heap.size + 1 + 1 + 1, 0, none⟩ = some (.int .i64 0) ∧ W.cell? ⟨w.heap.size + 1 + 1 + 1, 1, none⟩ = some (.int .i64 0) ∧ W.cell? ⟨w.heap.size + 1 + 1 + 1, 2, none⟩ = some (.string ⟨#[y]⟩) ∧ W.cell? ⟨w.heap.size + 1 + 1 + 1, 3, none⟩ = some (.bool false)) :=
      Lib.hid (fun W h => ⟨h.1.cell 0 _ rfl, h.1.cell 1 _ rfl, h.1.cell 2 _ rfl, h.1.cell 3 _ rfl, h.2.cell 0 _ rfl, h.2.cell 1 _ rfl, h.2.cell 2 _ rfl, h.2.cell 3 _ rfl⟩)
    cases hab : (a0 == a1) <;> cases hft : (a2 == a3)
    all_goals
      rw [hab] at J1
      rw [hft] at J3
      go_enter Tryd.func6, Tryd.ntmps6
      go_wp2_with (first | (go_at_call 16; (with_reducible refine (J1.out _).mono ?_); rintro e wq ⟨rfl, hq⟩; have HT := Lib.hid (Keep.on (Hid.out (by assumption)) hq); clear hq; have hk := HFF.out _ HT.out.facts) | (go_at_call 16; (with_reducible refine (J2.out _).mono ?_); rintro e wq ⟨rfl, hq⟩; have HT := Lib.hid (Keep.on (Hid.out (by assumption)) hq); clear hq; have hk := HFF.out _ HT.out.facts) | (go_at_call 16; (with_reducible refine (J3.out _).mono ?_); rintro e wq ⟨rfl, hq⟩; have HT := Lib.hid (Keep.on (Hid.out (by assumption)) hq); clear hq; have hk := HFF.out _ HT.out.facts) | (go_at_call 16; (with_reducible refine (J4.out _).mono ?_); rintro e wq ⟨rfl, hq⟩; have HT := Lib.hid (Keep.on (Hid.out (by assumption)) hq); clear hq; have hk := HFF.out _ HT.out.facts) | (go_at_call 13; (with_reducible refine (known12_c _).mono ?_); rintro e wq ⟨rfl, hq⟩; have HT := Lib.hid (Keep.on (Hid.out (by assumption)) hq); clear hq))
      go_ret
      exact ⟨rfl, HT.out.below⟩
  · go_enter Tryd.func6, Tryd.ntmps6
    go_wp2_with fail
    all_goals first | (exfalso; omega) | (go_ret; exact ⟨rfl, Below.refl _ w⟩)
end Go.Proofs.YtlgglkkafcbikaaDoor
