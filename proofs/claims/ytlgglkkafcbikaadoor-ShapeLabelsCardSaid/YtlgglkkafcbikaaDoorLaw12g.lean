/- The laws on package shape: ShapeLabels. -/
import Derived.Test.YtlgglkkafcbikaaDoorShape3
import Derived.Test.YtlgglkkafcbikaaDoorRowM
import Derived.Test.YtlgglkkafcbikaaDoorFits
import Derived.Test.YtlgglkkafcbikaaDoorLaw12a
import Derived.Test.YtlgglkkafcbikaaDoorLaw12e
import Derived.Deep.AppendLies
import Derived.Deep.RegionLaw
import Derived.BigQuiet
namespace Go.Proofs.YtlgglkkafcbikaaDoor
open Go Go.Proofs Go.RowKit
set_option linter.unusedVariables false
set_option linter.unusedSimpArgs false

theorem elemS : ElemK 39 9 1 16 [.string ⟨#[]⟩] := elemK_of (z := .string ⟨#[]⟩) Tryd.underlying39 (by kernel_rfl) rfl rfl
theorem and7 (x : Int) : bits .and .i64 x 7 = x % 8 := by
  show IntKind.i64.wrap ((BitVec.ofInt 64 x &&& BitVec.ofInt 64 7).toNat : Int) = _
  rw [BitVec.toNat_and, BitVec.toNat_ofInt, show (BitVec.ofInt 64 7).toNat = 2 ^ 3 - 1 by decide, Nat.and_two_pow_sub_one_eq_mod, IntKind.wrap_i64]
  omega
/-- the letter of a number. -/
def lab (x : Int) : List UInt8 := [UInt8.ofNat (97 + (x % 8).toNat)]
theorem and7N (x : Int) : ∃ (q : Nat) (y : UInt8), bits .and .i64 x 7 = (q : Int) ∧ q < 8 ∧ (q : Int) = x % 8 ∧ 97 + (q : Int) = ((y.toNat : Nat) : Int) ∧ IntKind.u8.wrap ((y.toNat : Nat) : Int) = ((y.toNat : Nat) : Int) ∧ IntKind.i64.wrap ((y.toNat : Nat) : Int) = ((y.toNat : Nat) : Int) ∧ lab x = [y] := by
  have h8 : 0 ≤ x % 8 ∧ x % 8 < 8 := by omega
  refine ⟨(x % 8).toNat, UInt8.ofNat (97 + (x % 8).toNat), by rw [and7]; omega, by omega, by omega, by rw [UInt8.toNat_ofNat']; omega, by rw [UInt8.toNat_ofNat', IntKind.wrap_u8]; omega, by rw [UInt8.toNat_ofNat', IntKind.wrap_i64]; omega, rfl⟩
theorem conv_oneD (x : UInt8) (W : World) :
    (convert 38 9 (.slice (some ⟨W.heap.size, 0, none⟩) 1 1)).run Tryd.prog (W.alloc (.cells #[.int .u8 ((x.toNat : Nat) : Int)] 5)).drew = .ok (.string ⟨#[x]⟩) (W.alloc (.cells #[.int .u8 ((x.toNat : Nat) : Int)] 5)).drew := by
  have h := RowAt.new W (bytesV [x]) 5 1 (show (1 : Nat) ≤ maxLen by decide) (Nat.le_refl 1)
  exact RowAt.toStr (w := (W.alloc (.cells #[.int .u8 ((x.toNat : Nat) : Int)] 5)).drew) (h.below (Below.refl _ _).drew) 38 9 5 Tryd.underlying38 Tryd.underlying5 Tryd.underlying9
/-- so many labels laid. -/
def FL (w : World) (x0 : List Int) (j : Nat) (wr : World) : Prop := ∃ va vc, Blk wr w.heap.size [.slice va j vc, .slice none 0 0] ∧ wr.ownsRow (w.heap.size + 1) 9 1 (.slice va j vc) j ((x0.take j).map (fun x => strV (lab x))) ∧ Below w.heap.size w wr ∧ w.heap.size + 1 ≤ wr.heap.size
theorem lab_snoc (x0 : List Int) (j : Nat) (h : j < x0.length) : (x0.take (j + 1)).map (fun x => strV (lab x)) = (x0.take j).map (fun x => strV (lab x)) ++ [strV (lab x0[j])] := by
  rw [List.take_succ_eq_append_getElem h, List.map_append]; rfl
theorem below_drewN {B : Nat} {a w : World} (h : Below B a w) (n : Nat) : Below B a (w.drewN n) := ⟨h.os, h.tape, h.output, h.size, h.block⟩
theorem FL.next {w W w6 : World} {x0 : List Int} {j : Nat} {va va' : Option Addr} {vc vc' : Nat} {o1 o2 : Obj} {row : Option Nat} (hj : j < x0.length) (hrow : row = (Value.slice va j vc).ownBlock)
    (hb0 : Blk W w.heap.size [.slice va j vc, .slice none 0 0]) (hown : W.ownsRow (w.heap.size + 1) 9 1 (.slice va j vc) j ((x0.take j).map (fun x => strV (lab x)))) (hbl : Below w.heap.size w W) (hsz : w.heap.size + 1 ≤ W.heap.size)
    (hown6 : w6.ownsRow (w.heap.size + 1) 9 1 (.slice va' (j + 1) vc') (j + 1) ((x0.take j).map (fun x => strV (lab x)) ++ [strV (lab x0[j])])) (hgr : ((W.alloc o1).alloc o2).drew.grownBy w6 row) :
    w6.cell? ⟨w.heap.size, 0, none⟩ = some (.slice va j vc) ∧ w6.frozen? ⟨w.heap.size, 0, none⟩ = false ∧ FL w x0 (j + 1) (w6.setCell ⟨w.heap.size, 0, none⟩ (.slice va' (j + 1) vc')) := by
  have hne : row ≠ some w.heap.size := by rw [hrow]; intro h; have := (hown.lt _ h).1; omega
  have hB : Blk ((W.alloc o1).alloc o2).drew w.heap.size [.slice va j vc, .slice none 0 0] := (hb0.alloc o1).alloc o2
  have hB6 := hB.grown hgr hne
  have hbl6 : Below w.heap.size w w6 := by
    refine (((hbl.alloc (by omega) o1).alloc (by simp; omega) o2).drew).grown hgr (by simp; omega) (fun q hq => ?_)
    rw [hrow] at hq
    have := (hown.lt _ hq).1; omega
  have hs6 : w.heap.size + 1 ≤ w6.heap.size := by have := hgr.size; simp at this; omega
  refine ⟨hB6.cell 0 _ rfl, hB6.thaw 0, va', vc', hB6.set 0 _, ?_, hbl6.setCell (by show w.heap.size ≤ w.heap.size; omega) _, by simpa [World.setCell] using hs6⟩
  rw [lab_snoc x0 j hj]
  exact ownsRow_setCell_below hown6 (by show w.heap.size < w.heap.size + 1; omega) _
theorem news_one {w : World} {g : Nat} {x : Value} (h : Blk w g [x]) : ∀ j u, [x][j]? = some u → w.cell? ((⟨g, 0, none⟩ : Addr).add j) = some u := fun j u hu => by
  rw [addr_add, Nat.zero_add]; exact h.cell j u hu
theorem FL.drewN {w : World} {x0 : List Int} {j : Nat} {wr : World} (h : FL w x0 j wr) (n : Nat) : FL w x0 j (wr.drewN n) := by
  obtain ⟨va, vc, h1, h2, h3, h4⟩ := h
  exact ⟨va, vc, h1, h2, below_drewN h3 n, h4⟩
theorem any_snoc' (x0 : List Int) (j : Nat) (h : j < x0.length) (p : Int → Bool) : (x0.take (j + 1)).any p = ((x0.take j).any p || p x0[j]) := by
  rw [List.take_succ_eq_append_getElem h, List.any_append]; simp
theorem lab_eq (x : Int) (a : Int) (y : UInt8) (h0 : 0 ≤ a) (h7 : a ≤ 7) (hy : 97 + a = ((y.toNat : Nat) : Int)) : (lab x == [y]) = (x % 8 == a) := by
  have : lab x = [UInt8.ofNat (97 + (x % 8).toNat)] := rfl
  rw [this, Bool.eq_iff_iff, beq_iff_eq, beq_iff_eq, List.cons.injEq, and_iff_left rfl, ← UInt8.toNat_inj, UInt8.toNat_ofNat']
  omega
theorem lab_fits (x0 : List Int) (a : Int) (y : UInt8) (h0 : 0 ≤ a) (h7 : a ≤ 7) (hy : 97 + a = ((y.toNat : Nat) : Int)) : fitsB ⟨[y], [], zV, zV⟩ (x0.map lab) [] = x0.any (fun x => x % 8 == a) := by
  simp only [fitsB, List.isEmpty_cons, List.isEmpty_nil, Bool.false_or, Bool.true_or, Bool.and_true, List.any_map]
  congr 1
  funext x
  exact lab_eq x a y h0 h7 hy
set_option maxRecDepth 100000 in
set_option maxHeartbeats 4000000 in
theorem ShapeLabels_core (v0 : Value) (x0 : List Int) (a1 : Int) (w : World) (w0 : RowAt w v0 (x0.map (Value.int .i64))) (y0 : ∀ n ∈ x0, -9223372036854775808 ≤ n ∧ n ≤ 9223372036854775807) (w1 : (Lit.int .i64 a1).wf = true) :
    Calls Tryd.prog 9 #[v0, .int .i64 a1] w fun e w' => e = .returned (.bool true) ∧ Below w.heap.size w w' := by
  clear w1
  obtain ⟨a, c, rfl⟩ := w0.shape
  rw [List.length_map] at w0 ⊢
  have HR := Lib.hid w0
  clear w0
  have m9 : maxLen = 9223372036854775807 := by decide
  have hml := HR.out.1
  rw [m9, List.length_map] at hml
  clear m9
  by_cases hg : x0.length ≤ 3 ∧ 0 ≤ a1 ∧ a1 ≤ 7
  · obtain ⟨g0, g1, g2⟩ := hg
    go_enter Tryd.func9, Tryd.ntmps9
    go_wp2_with fail
    have HSt : Hid (FL w x0 0 (w.alloc (.cells #[.slice none 0 0, .slice none 0 0] 42))) := Lib.hid ⟨none, 0, Blk.new w [.slice none 0 0, .slice none 0 0] _, ⟨by simp, .inl ⟨rfl, rfl⟩⟩, (Below.refl _ w).alloc (Nat.le_refl _) _, by simp⟩
    go_loopw [6, 7] (fun u i wr => ∃ j : Nat, j ≤ x0.length ∧ i = .int .i64 (j : Int) ∧ (∃ b, u = .bool b ∧ b = (x0.take j).any (fun x => x % 8 == a1)) ∧ FL w x0 j wr) (fun _ i _ => x0.length - (intOf i).toNat)
    case atStart => exact ⟨0, by omega, rfl, ⟨_, rfl, rfl⟩, HSt.out⟩
    case round =>
      clear HSt
      obtain ⟨j, hj, rfl, ⟨b, rfl, hb⟩, ⟨va, vc, hb0, hown, hbl, hsz⟩⟩ := hrel
      have HB := Lib.hid hb
      clear hb
      by_cases hlt : j < x0.length
      · obtain ⟨B, o, rfl, hB, hxw⟩ := HR.out.cellAt j (by simpa using hlt)
        have hx := (hbl.cell (p := ⟨B, o + j, none⟩) hB).trans hxw
        rw [List.getElem_map] at hx hxw
        have hi1 : (j : Int) < (x0.length : Int) := by omega
        obtain ⟨q, y, hq1, hq2, hq3, hy1, hy2, hy4, hy3⟩ := and7N x0[j]
        have HS := Lib.hid (lab_snoc x0 j hlt)
        have HAN := Lib.hid (any_snoc' x0 j hlt (fun x => x % 8 == a1))
        rw [hy3] at HS
        generalize hxj : x0[j] = xj at *
        have HXJ := Lib.hid hxj
        have HX := Lib.hid hxw
        have HQ := Lib.hid hq3
        have HY := Lib.hid hy3
        clear hxj hxw hq3 hy3
        by_cases hj0 : 0 < j
        case' pos =>
          obtain ⟨B', o', e', hB', hx'⟩ := HR.out.cellAt (j - 1) (by simp; omega)
          simp only [Option.some.injEq, Addr.mk.injEq, and_true] at e'
          obtain ⟨rfl, rfl⟩ := e'
          have hx' := (hbl.cell (p := ⟨B, o + (j - 1), none⟩) hB).trans hx'
          rw [List.getElem_map] at hx'
          obtain ⟨q', y', hq1', hq2', hq3', hrest⟩ := and7N x0[j - 1]
          generalize x0[j - 1] = xj' at *
          clear hq3' hrest
          have hi0 : (0 : Int) < (j : Int) := by omega
          by_cases hqq : q ≤ q'
          case pos =>
            go_wp2_with fail
            go_quiet (fail)
            go_wp2_with fail
            go_ret
            exact ⟨rfl, below_drewN hbl nq⟩
          case' neg =>
            go_wp2_with fail
            go_quiet (fail)
            clear hx' hq1'
            go_wp2_with fail
        case' neg =>
          have hi0 : decide ((0 : Int) < (j : Int)) = false := decide_eq_false (by omega)
          go_wp2_with fail
          go_quiet (fail)
          go_wp2_with fail
        all_goals
          obtain ⟨W, hW⟩ : ∃ W, W = wr.drewN nq := ⟨_, rfl⟩
          rw [← hW]
          replace hown : W.ownsRow (w.heap.size + 1) 9 1 (.slice va j vc) j ((x0.take j).map (fun x => strV (lab x))) := by rw [hW]; exact hown
          replace hb0 : Blk W w.heap.size [.slice va j vc, .slice none 0 0] := by rw [hW]; exact hb0
          replace hbl : Below w.heap.size w W := by rw [hW]; exact below_drewN hbl nq
          replace hsz : w.heap.size + 1 ≤ W.heap.size := by rw [hW]; exact hsz
          replace hx : W.cell? ⟨B, o + j, none⟩ = some (.int .i64 xj) := by rw [hW]; exact hx
          clear hW
          have hx1 := fun o1 => (cell_below' (o := o + j) ((Below.refl _ W).alloc (Nat.le_refl _) o1) (show B < W.heap.size by omega)).trans hx
          have hg0 := hb0.cell 0 _ rfl
          have hg1 := fun o1 => (hb0.alloc o1).cell 0 _ rfl
          have hg2 := fun o1 o2 => ((hb0.alloc o1).alloc o2).cell 0 _ rfl
          have hcv := conv_oneD y W
          have HNX := Lib.hid (fun va' vc' w6 h1 h2 => FL.next (va' := va') (vc' := vc') (w6 := w6) (o1 := .cells #[.int .u8 ((y.toNat : Nat) : Int)] 5) (o2 := .cells #[.string ⟨#[y]⟩] 9) hlt rfl hb0 hown hbl hsz h1 h2)
          have HO := Lib.hid (show (((W.alloc (.cells #[.int .u8 ((y.toNat : Nat) : Int)] 5)).alloc (.cells #[.string ⟨#[y]⟩] 9)).drew).ownsRow (w.heap.size + 1) 9 1 (.slice va j vc) j ((x0.take j).map (fun x => strV (lab x))) from (hown.alloc _).alloc _)
          have HNW := Lib.hid (news_one (show Blk ((W.alloc (.cells #[.int .u8 ((y.toNat : Nat) : Int)] 5)).alloc (.cells #[.string ⟨#[y]⟩] 9)).drew (W.heap.size + 1) [.string ⟨#[y]⟩] from Blk.newAt (W.alloc (.cells #[.int .u8 ((y.toNat : Nat) : Int)] 5)) [.string ⟨#[y]⟩] 9 (W.heap.size + 1) (by simp)))
          clear hown hb0 hbl
          go_region_law (refine step_appK elemS (by decide) rfl _ _ rfl (w.heap.size + 1) j _ _ rfl HO.out ⟨W.heap.size + 1, 0, none⟩ 1 [.string ⟨#[y]⟩] rfl rfl HNW.out (by simp [Value.oneCell']) (by omega) (by omega) (by simp; omega) ?_; intro va' vc' w6 hown6 hgr; obtain ⟨e0, e1, hN⟩ := HNX.out _ _ _ (by rw [HXJ.out, HY.out]; exact hown6) hgr; have HN := Lib.hid hN; clear hN hown6 hgr)
        all_goals
          clear hx hx1 hg0 hg1 hg2 hcv HNX HO HNW e0 e1
          generalize w6.setCell ⟨w.heap.size, 0, none⟩ (.slice va' (j + 1) vc') = W7 at *
          have hx7 : W7.cell? ⟨B, o + j, none⟩ = some (.int .i64 xj) := by
            obtain ⟨_, _, _, _, hb7, _⟩ := HN.out
            rw [hb7.cell hB]; exact HX.out
          have HBN : Hid ((b || ((q : Int) == a1)) = (x0.take (j + 1)).any (fun x => x % 8 == a1)) := Lib.hid (by rw [HAN.out, ← HB.out, HQ.out])
          clear hy1 hy2 hy4
          cases b <;> cases hqa : ((q : Int) == a1)
          all_goals
            rw [hqa] at HBN
            go_wp2_with fail
            exact ⟨⟨j + 1, by omega, by go_num, ⟨_, rfl, HBN.out⟩, HN.out⟩, by simp [intOf]; omega⟩
      · obtain rfl : j = x0.length := by omega
        rw [List.take_of_length_le (Nat.le_refl _)] at HB hown
        have hrow := RowAt.ofOwns hown
        rw [show x0.map (fun x => strV (lab x)) = (x0.map lab).map strV by simp] at hrow
        obtain ⟨y, hy1, hy3⟩ := byte_of a1 g1 g2
        have hy2 : IntKind.u8.wrap ((y.toNat : Nat) : Int) = ((y.toNat : Nat) : Int) := by rw [IntKind.wrap_u8]; omega
        have hcv := conv_one y wr wr.heap.size rfl
        have H0 := Lib.hid (Keep.mk (w0 := w) (F := fun X => Blk X w.heap.size [.slice va x0.length vc, .slice none 0 0] ∧ RowAt X (.slice va x0.length vc) ((x0.map lab).map strV)) (w := wr.alloc (.cells #[.int .u8 ((y.toNat : Nat) : Int)] 5)) ⟨hb0.alloc _, hrow.alloc _⟩ (hbl.alloc (by omega) _) (fun X h => ⟨(hb0.alloc _).below h, (hrow.alloc _).below h⟩))
        have HF1 := Lib.hid (fun W (h : RowAt W (.slice va x0.length vc) ((x0.map lab).map strV)) => Fits_c ⟨[y], [], zV, zV⟩ (x0.map lab) [] (.slice va x0.length vc) (.slice none 0 0) W h (RowK.nil 6 W) (by simp) (show (0 : Nat) < W64 by decide) (show (0 : Nat) < W64 by decide))
        have HF2 := Lib.hid (fun W (h : RowAt W (.slice va x0.length vc) ((x0.map lab).map strV)) => Fits_c ⟨[], [], zV, zV⟩ (x0.map lab) [] (.slice va x0.length vc) (.slice none 0 0) W h (RowK.nil 6 W) (by simp) (show (0 : Nat) < W64 by decide) (show (0 : Nat) < W64 by decide))
        rw [lab_fits x0 a1 y g1 g2 hy1, ← HB.out] at HF1
        rw [show fitsB ⟨[], [], zV, zV⟩ (x0.map lab) [] = true by simp [fitsB]] at HF2
        have hk0 := H0.out.facts.1.cell 0 _ rfl
        have hk1 := H0.out.facts.1.cell 1 _ rfl
        have hbb : (b == b) = true := by simp
        unfold PN.v zV at HF1 HF2
        dsimp only at HF1 HF2
        clear hy3 hb0 hown hrow HB hbl
        go_wp2_with (first | (go_at_call 18; (with_reducible refine (HF1.out _ H0.out.facts.2).mono ?_); rintro e wq ⟨rfl, hq⟩; have HT := Lib.hid (Keep.on H0.out hq); clear hq; have hk0 := HT.out.facts.1.cell 0 _ rfl; have hk1 := HT.out.facts.1.cell 1 _ rfl) | (go_at_call 18; (with_reducible refine (HF2.out _ HT.out.facts.2).mono ?_); rintro e wq ⟨rfl, hq⟩; have HT := Lib.hid (Keep.on HT.out hq); clear hq) | (go_at_call 13; (with_reducible refine (known12_c _).mono ?_); rintro e wq ⟨rfl, hq⟩; have HT := Lib.hid (Keep.on HT.out hq); clear hq))
        go_ret
        exact ⟨rfl, HT.out.below⟩
  · go_enter Tryd.func9, Tryd.ntmps9
    go_wp2_with fail
    all_goals first | (exfalso; omega) | (go_ret; exact ⟨rfl, Below.refl _ w⟩)
end Go.Proofs.YtlgglkkafcbikaaDoor
