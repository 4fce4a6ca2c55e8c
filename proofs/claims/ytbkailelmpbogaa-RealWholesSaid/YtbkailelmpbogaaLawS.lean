/- The walks of the laws on package real that add (RealSums, RealWholes, RealEdges). -/
import Derived.Test.YtbkailelmpbogaaSum
import Derived.Test.YtbkailelmpbogaaLaw1
import Derived.Test.YtbkailelmpbogaaWhole
namespace Go.Proofs.Ytbkailelmpbogaa
open Go Go.RowKit
set_option linter.unusedVariables false

theorem infoF : (Try.prog.info? 24).map (fun i => (i.zero, i.size, i.bytes)) = some (some (.float .f64 0), 1, 8) := by kernel_rfl

theorem take_getD_snoc (zs : List Int) (k : Nat) (h : k < zs.length) : zs.take (k + 1) = zs.take k ++ [zs.getD k 0] := by
  rw [List.take_succ_eq_append_getElem h]; simp [List.getD, List.getElem?_eq_getElem h]

/-- the cells that hold the words of some numbers. -/
def fcells (zs : List Int) : List Value := zs.map (fun z => Value.float .f64 z.toNat)
theorem fcells_length (zs : List Int) : (fcells zs).length = zs.length := by simp [fcells]

theorem IsRow.at {k : IntKind} {w : World} {a0 : Option Addr} {len0 cap0 : Nat} {z0 : List Int} (w0 : IsRow k w a0 len0 cap0 z0) :
    len0 ≤ z0.length ∧ ∀ i, i < len0 → ∃ b o, a0 = some ⟨b, o, none⟩ ∧ w.cell? ⟨b, o + i, none⟩ = some (.int k (z0.getD i 0)) := by
  constructor
  · rcases w0 with ⟨rfl, rfl, rfl, rfl⟩ | ⟨x, rfl, hl, hm, hz, hc, hwz⟩ <;> omega
  · intro i hlt
    rcases w0 with ⟨rfl, rfl, rfl, rfl⟩ | ⟨x, rfl, hl, hm, hz, hc, hwz⟩
    · omega
    · have h1 := hc i (by omega)
      obtain ⟨b, o, spot⟩ := x
      have hspot : spot = none := by
        have h0 := hc 0 (by omega)
        simpa [Addr.add] using World.cell?_spot h0
      subst hspot
      refine ⟨b, o, rfl, ?_⟩
      have e : (⟨b, o, none⟩ : Addr).add i = ⟨b, o + i, none⟩ := by cases i <;> simp [Addr.add]
      rw [← e]; exact h1

set_option maxHeartbeats 1000000 in
theorem RealSums_walk (a0 : Option Addr) (len0 cap0 : Nat) (z0 : List Int) (w : World) (w0 : IsRow .u64 w a0 len0 cap0 z0) :
    Calls Try.prog 3 #[.slice a0 len0 cap0] w fun e w' => e = .returned (.bool true) ∧ Below w.heap.size w w' := by
  by_cases hbig : 200 < len0
  · have hb' : (200 : Int) < (len0 : Int) := by omega
    go_enter Try.func3, Try.ntmps3
    go_wp2
    go_ret
    exact ⟨rfl, Below.refl _ _⟩
  · obtain ⟨i0, hi, hz0, hz1, hz2⟩ := info_parts infoF
    obtain ⟨hz, hcell⟩ := w0.at
    have HC := Lib.hid hcell
    clear hcell w0
    go_enter Try.func3, Try.ntmps3
    go_wp2
    go_loopw [3, 4] (fun v i wr => ∃ k : Nat, k ≤ len0 ∧ i = .int .i64 k ∧ wr.ownsRow w.heap.size 24 1 v k (fcells (z0.take k)) ∧ Below w.heap.size w wr) (fun _ i _ => len0 - (intOf i).toNat)
    case atStart => exact ⟨0, by omega, rfl, ⟨rfl, .inl ⟨rfl, rfl⟩⟩, Below.refl _ _⟩
    case round =>
      obtain ⟨k, hk, rfl, hown, hb⟩ := hrel
      by_cases hlt : k < len0
      · obtain ⟨b, o, rfl, hc⟩ := HC.out k hlt
        have hbl : b < w.heap.size := World.block_lt_of_cell? w ⟨b, o + k, none⟩ hc
        have hc2 : wr.cell? ⟨b, o + k, none⟩ = some (.int .u64 (z0.getD k 0)) := by rw [hb.cell hbl]; exact hc
        have HT := Lib.hid (show fcells (z0.take (k + 1)) = fcells (z0.take k) ++ [Value.float .f64 (z0.getD k 0).toNat] by rw [take_getD_snoc z0 k (by omega)]; simp [fcells])
        have hsz := hb.size
        generalize z0.getD k 0 = z at *
        clear hc
        go_wp2_with (at_builtin; refine wpList_append_own _ rfl _ _ 23 rfl w.heap.size 24 i0 (.float .f64 0) 1 8 Try.underlying23 hi hz0 hz1 hz2 rfl (by decide) _ _ _ rfl (hown.alloc _) ⟨wr.heap.size, 0, none⟩ 1 1 [.float .f64 z.toNat] rfl rfl ?c1 ?c2 ?c3 ?c4 ?c5 ?_)
        case c1 => exact cell_one_new _ _ _
        case c2 => simp [Value.oneCell']
        case c3 => unfold maxLen; omega
        case c4 => omega
        case c5 => simp; omega
        intro v' w1 hown' hg _
        have hb' : Below w.heap.size w w1 := (hb.alloc hsz _).grown hg (by simp; omega) (fun j hj => (hown.lt j hj).1)
        rw [← HT.out] at hown'
        clear hown hg hc2
        go_wp2
        go_roundw
        case rel => exact ⟨k + 1, by omega, by go_num, hown', hb'⟩
        case measure => simp [intOf]; omega
      · obtain rfl : k = len0 := by omega
        have hs0 : sumN [] = 0 := by decide +kernel
        have hown0 := hown
        obtain ⟨hl, hv⟩ := hown
        rcases hv with ⟨rfl, h0⟩ | ⟨g, cap, cur, rfl, hbg, hgg, hnc, hcm, hcs, htk⟩
        · clear HC
          go_wp2_with (first | (go_at_call 14; (with_reducible refine (Sum_nil _).mono ?_); rintro e w' ⟨rfl, rfl⟩) | (go_at_call 15; (with_reducible refine (RSum_nil _).mono ?_); rintro e w' ⟨rfl, rfl⟩) | (go_at_call 13; (with_reducible refine (Same_c _ _ _).mono ?_); rintro e w' ⟨rfl, rfl⟩) | (go_at_call 16; (with_reducible refine (known_c _).mono ?_); rintro e w' ⟨rfl, rfl⟩))
          go_ret
          exact ⟨rfl, hb⟩
        · have hf : ((z0.take k).map Int.toNat).length = k := by simp; omega
          have hcells : ∀ i, i < ((z0.take k).map Int.toNat).length → wr.cell? ⟨g, 0 + i, none⟩ = some (.float .f64 (((z0.take k).map Int.toNat).getD i 0)) := by
            intro i hi
            have hik : i < k := by omega
            rw [Nat.zero_add, hown0.cellAt i (by omega)]
            have h1 : (z0.take k)[i]? = some (z0.getD i 0) := by
              rw [List.getElem?_take, if_pos hik, List.getElem?_eq_getElem (by omega)]; simp [List.getD, List.getElem?_eq_getElem (show i < z0.length by omega)]
            simp only [fcells, List.getD, List.getElem?_map, h1]; rfl
          have hF := Lib.hid hf
          have hCE := Lib.hid hcells
          clear hcells hgg htk hcs hl HC hown0
          generalize hg : (z0.take k).map Int.toNat = fs at *
          clear hg
          obtain rfl : fs.length = k := hF.out
          clear hf hF hk hlt
          go_wp2_with fail
          with_reducible refine (Sum_c g 0 cap fs _ (by omega) hCE.out).mono ?_
          rintro e w1 ⟨rfl, ⟨m, rfl⟩⟩
          go_wp2_with fail
          with_reducible refine (RSum_c g 0 cap fs (wr.drewN m) (by omega) (fun i hi => (World.cell?_drewN ..).trans (hCE.out i hi))).mono ?_
          rintro e w1 ⟨rfl, ⟨m2, rfl⟩⟩
          go_wp2_with (first | (go_at_call 14; (with_reducible refine (Sum_nil _).mono ?_); rintro e w' ⟨rfl, rfl⟩) | (go_at_call 13; (with_reducible refine (Same_c _ _ _).mono ?_); rintro e w' ⟨rfl, rfl⟩) | (go_at_call 16; (with_reducible refine (known_c _).mono ?_); rintro e w' ⟨rfl, rfl⟩))
          go_ret
          exact ⟨rfl, below_drewN hb _⟩
set_option maxHeartbeats 400000 in
theorem Inf_c (w : World) : Calls Try.prog 24 #[.int .i64 1] w fun e w' => e = .returned (.float .f64 infBits) ∧ w = w' := by
  go_enter Try.func24, Try.ntmps24
  go_wp2
  go_ret
  exact ⟨rfl, rfl⟩
def nan2 : Nat := 9221120237041090561
set_option maxHeartbeats 400000 in
theorem NaN_c (w : World) : Calls Try.prog 25 #[] w fun e w' => e = .returned (.float .f64 nan2) ∧ w = w' := by
  go_enter Try.func25, Try.ntmps25
  go_wp2
  go_ret
  exact ⟨rfl, rfl⟩

theorem Sum_2 (b x y : Nat) (w : World) (h0 : w.cell? ⟨b, 0, none⟩ = some (.float .f64 x)) (h1 : w.cell? ⟨b, 1, none⟩ = some (.float .f64 y)) :
    Calls Try.prog 14 #[.slice (some ⟨b, 0, none⟩) 2 2] w fun e w' => e = .returned (.float .f64 (sumN [x, y])) ∧ Drawn w w' :=
  Sum_c b 0 2 [x, y] w (by simp) (fun i hi => by
    match i, hi with
    | 0, _ => exact h0
    | 1, _ => exact h1)
theorem Sum_1 (b x : Nat) (w : World) (h0 : w.cell? ⟨b, 0, none⟩ = some (.float .f64 x)) :
    Calls Try.prog 14 #[.slice (some ⟨b, 0, none⟩) 1 1] w fun e w' => e = .returned (.float .f64 (sumN [x])) ∧ Drawn w w' :=
  Sum_c b 0 1 [x] w (by simp) (fun i hi => by
    match i, hi with
    | 0, _ => exact h0)

theorem order_nan_left {a b : Nat} (h : isNaNB a = true) : FloatKind.f64.format.order a b = none := by
  rw [isNaNB_eq] at h
  unfold Ieee.Format.order
  rw [dbl, read_nan a (by simpa using h)]
  cases Ieee.double.read b <;> rfl
theorem weight_nan {a : Nat} (h : isNaNB a = true) : weightB a = false := by
  unfold weightB; rw [order_nan_left h]; rfl
theorem sum_one_nan {a : Nat} (h : isNaNB a = true) : sumN [4607182418800017408, a] = nanBits := by
  have e : sumO [4607182418800017408, a] = none := by
    have h0 : Ieee.double.add 0 4607182418800017408 = some 4607182418800017408 := by decide +kernel
    have hn : Ieee.double.add 4607182418800017408 a = none := by
      rw [isNaNB_eq] at h
      unfold Ieee.Format.add
      rw [read_nan a (by simpa using h)]
      cases Ieee.double.read 4607182418800017408 <;> rfl
    simp [sumO, h0, hn]
  unfold sumN; rw [e]
theorem nan2_nan : isNaNB nan2 = true := by decide +kernel
def ninf : Nat := 18442240474082181120
theorem key_inf : keyN infBits = 18442240474082181120 := by decide +kernel
theorem key_ninf : keyN ninf = 4503599627370495 := by decide +kernel
theorem key_bd {a : Nat} (ha : a < W64) (hn : isNaNB a = false) : 4503599627370495 ≤ keyN a ∧ keyN a ≤ 18442240474082181120 := by
  unfold keyN; rw [norm_of_not hn]
  rw [isNaNB_eq] at hn
  simp at hn
  unfold topBit; unfold W64 at ha
  split <;> omega
theorem neg_inf : Op.negFloat .f64 infBits = ninf := by decide +kernel

set_option maxHeartbeats 2000000 in
theorem RealEdges_walk (a0 : Int) (w0 : (Lit.int .u64 a0).wf = true) (w : World) :
    Calls Try.prog 10 #[.int .u64 a0] w fun e w' => e = .returned (.bool true) ∧ Below w.heap.size w w' := by
  obtain ⟨a, rfl, ha⟩ := u64_nat w0
  have hA : a < W64 := ha
  have hI : infBits < W64 := by decide
  have hN2 : nan2 < W64 := by decide
  clear ha w0
  cases na : isNaNB a
  · have c1 : cmpN a infBits ≤ 0 := by
      have := key_bd hA na
      have h : cmpN a infBits = cmpI (keyN a) (keyN infBits) := rfl
      rw [h, key_inf]; unfold cmpI; split <;> (try split) <;> omega
    have c2 : cmpN ninf a ≤ 0 := by
      have := key_bd hA na
      have h : cmpN ninf a = cmpI (keyN ninf) (keyN a) := rfl
      rw [h, key_ninf]; unfold cmpI; split <;> (try split) <;> omega
    have c3 : cmpN a nan2 = -1 := by rw [cmpN_turn nan2 a, cmp_nan_left hA nan2_nan na]
    have c4 : cmpN topBit 0 = -1 := by decide +kernel
    have c5 : weightB topBit = true := by decide +kernel
    have c6 : weightB a = (FloatKind.f64.format.order a 0 == some .gt || FloatKind.f64.format.order a 0 == some .eq) := rfl
    have c7 : sumN [infBits, ninf] = nanBits := by decide +kernel
    have c8 : sumN [topBit] = 0 := by decide +kernel
    have c9 := neg_inf
    have l1 : ninf < W64 := by decide
    have l2 : topBit < W64 := by decide
    have l3 : 0 < W64 := by decide
    unfold isNaNB at na
    go_enter Try.func10, Try.ntmps10
    go_wp2_with (first | (go_at_call 21; (with_reducible refine (Cmp_c _ _ (by assumption) (by assumption) _).mono ?_); rintro e w' ⟨rfl, rfl⟩) | (go_at_call 26; (with_reducible refine (Weight_c _ _).mono ?_); rintro e w' ⟨rfl, rfl⟩) | (go_at_call 23; (with_reducible refine (RNaN_c _).mono ?_); rintro e w' ⟨rfl, rfl⟩) | (go_at_call 24; (with_reducible refine (Inf_c _).mono ?_); rintro e w' ⟨rfl, rfl⟩) | (go_at_call 25; (with_reducible refine (NaN_c _).mono ?_); rintro e w' ⟨rfl, rfl⟩) | (go_at_call 27; (with_reducible refine (Copysign_c _).mono ?_); rintro e w' ⟨rfl, rfl⟩) | (go_at_call 13; (with_reducible refine (Same_c _ _ _).mono ?_); rintro e w' ⟨rfl, rfl⟩) | (go_at_call 14; (with_reducible refine (Sum_2 _ infBits ninf _ (by go_simp) (by go_simp)).mono ?_); rintro e w' ⟨rfl, ⟨m, rfl⟩⟩) | (go_at_call 14; (with_reducible refine (Sum_1 _ topBit _ (by go_simp)).mono ?_); rintro e w' ⟨rfl, ⟨m2, rfl⟩⟩) | (go_at_call 16; (with_reducible refine (known_c _).mono ?_); rintro e w' ⟨rfl, rfl⟩))
    go_ret
    exact ⟨rfl, by repeat' (first | exact Below.refl _ _ | refine below_drewN ?_ _ | refine Below.alloc ?_ (by simp) _)⟩
  · have c1 := cmp_nan_left hI na (by decide +kernel)
    have c2 := cmp_nan_both na nan2_nan
    have c3 := weight_nan na
    have c4 := sum_one_nan na
    unfold isNaNB at na
    go_enter Try.func10, Try.ntmps10
    go_wp2_with (first | (go_at_call 21; (with_reducible refine (Cmp_c _ _ (by assumption) (by assumption) _).mono ?_); rintro e w' ⟨rfl, rfl⟩) | (go_at_call 26; (with_reducible refine (Weight_c _ _).mono ?_); rintro e w' ⟨rfl, rfl⟩) | (go_at_call 23; (with_reducible refine (RNaN_c _).mono ?_); rintro e w' ⟨rfl, rfl⟩) | (go_at_call 24; (with_reducible refine (Inf_c _).mono ?_); rintro e w' ⟨rfl, rfl⟩) | (go_at_call 25; (with_reducible refine (NaN_c _).mono ?_); rintro e w' ⟨rfl, rfl⟩) | (go_at_call 13; (with_reducible refine (Same_c _ _ _).mono ?_); rintro e w' ⟨rfl, rfl⟩) | (go_at_call 14; (with_reducible refine (Sum_2 _ 4607182418800017408 a _ (by go_simp) (by go_simp)).mono ?_); rintro e w' ⟨rfl, ⟨m, rfl⟩⟩) | (go_at_call 16; (with_reducible refine (known_c _).mono ?_); rintro e w' ⟨rfl, rfl⟩))
    go_ret
    exact ⟨rfl, by repeat' (first | exact Below.refl _ _ | refine below_drewN ?_ _ | refine Below.alloc ?_ (by simp) _)⟩
theorem sum_fl (ns : List Int) (h : ∀ n ∈ ns, n.natAbs ≤ 600000) (hl : ns.length ≤ 100) : sumN (ns.map flN) = flN ns.sum := by
  have e : sumO (ns.map flN) = some (flN ns.sum) := by
    have := fold_fl 600000 ns 0 h (by simp; omega)
    rw [Int.zero_add] at this
    exact this
  have hb := sum_bd 600000 ns h
  unfold sumN; rw [e]
  exact norm_of_not (rep_not_nan (flN_rep _ (by omega)))

set_option maxHeartbeats 2000000 in
theorem RealWholes_walk (a0 : Option Addr) (len0 cap0 : Nat) (z0 : List Int) (a1 : Int) (a2 : Int) (w : World) (w0 : IsRow .i64 w a0 len0 cap0 z0) (w1 : (Lit.int .i64 a1).wf = true) (w2 : (Lit.int .i64 a2).wf = true) :
    Calls Try.prog 6 #[.slice a0 len0 cap0, .int .i64 a1, .int .i64 a2] w fun e w' => e = .returned (.bool true) ∧ Below w.heap.size w w' := by
  clear w1 w2
  by_cases hbig : 100 < len0
  · have hb' : (100 : Int) < (len0 : Int) := by omega
    go_enter Try.func6, Try.ntmps6
    go_wp2
    go_ret
    exact ⟨rfl, Below.refl _ _⟩
  · obtain ⟨i0, hi, hz0, hz1, hz2⟩ := info_parts infoF
    obtain ⟨hz, hcell⟩ := w0.at
    have HC := Lib.hid hcell
    clear hcell w0
    have hx0 := and_mask a1 28 268435456 (by decide +kernel) (by omega)
    have hy0 := and_mask a2 28 268435456 (by decide +kernel) (by omega)
    rw [show ((268435456 - 1 : Nat) : Int) = 268435455 from rfl] at hx0 hy0
    obtain ⟨x, hx, x1, x2⟩ : ∃ x : Int, bits .and .i64 a1 268435455 = x ∧ 0 ≤ x ∧ x < 268435456 := ⟨_, hx0, by omega, by omega⟩
    obtain ⟨y, hy, y1, y2⟩ : ∃ y : Int, bits .and .i64 a2 268435455 = y ∧ 0 ≤ y ∧ y < 268435456 := ⟨_, hy0, by omega, by omega⟩
    clear hx0 hy0
    have HX := Lib.hid hx
    have HY := Lib.hid hy
    clear hx hy
    go_enter Try.func6, Try.ntmps6
    go_wp2
    go_loopw [7, 8, 9] (fun s v i wr => ∃ ns : List Int, ns.length ≤ len0 ∧ i = .int .i64 ns.length ∧ s = .int .i64 ns.sum ∧ (∀ n ∈ ns, n.natAbs ≤ 600000) ∧ wr.ownsRow w.heap.size 24 1 v ns.length ((ns.map flN).map (fun b => Value.float .f64 b)) ∧ Below w.heap.size w wr) (fun _ _ i _ => len0 - (intOf i).toNat)
    case atStart => exact ⟨[], by simp, rfl, rfl, by simp, ⟨rfl, .inl ⟨rfl, rfl⟩⟩, Below.refl _ _⟩
    case round =>
      obtain ⟨ns, hk, rfl, rfl, hall, hown, hb⟩ := hrel
      have hsb := sum_bd 600000 ns hall
      have HA := Lib.hid hall
      clear hall
      by_cases hlt : ns.length < len0
      · obtain ⟨b, o, rfl, hc⟩ := HC.out ns.length hlt
        have hbl : b < w.heap.size := World.block_lt_of_cell? w ⟨b, o + ns.length, none⟩ hc
        have hc2 : wr.cell? ⟨b, o + ns.length, none⟩ = some (.int .i64 (z0.getD ns.length 0)) := by rw [hb.cell hbl]; exact hc
        have hsz := hb.size
        generalize z0.getD ns.length 0 = z at *
        have hm := and_mask z 20 1048576 (by decide +kernel) (by omega)
        rw [show ((1048576 - 1 : Nat) : Int) = 1048575 from rfl] at hm
        have m1 : 0 ≤ z % ((1048576 : Nat) : Int) := by omega
        have m2 : z % ((1048576 : Nat) : Int) < 1048576 := by omega
        generalize z % ((1048576 : Nat) : Int) = r at *
        have hfl := floatOfInt_eq (r - 500000) (by omega)
        have s1 : -100000000 ≤ ns.sum := by omega
        have s2 : ns.sum ≤ 100000000 := by omega
        clear hc hsb
        go_wp2_with (at_builtin; refine wpList_append_own _ rfl _ _ 23 rfl w.heap.size 24 i0 (.float .f64 0) 1 8 Try.underlying23 hi hz0 hz1 hz2 rfl (by decide) _ _ _ rfl (hown.alloc _) ⟨wr.heap.size, 0, none⟩ 1 1 [.float .f64 (flN (r - 500000))] rfl rfl ?c1 ?c2 ?c3 ?c4 ?c5 ?_)
        case c1 => exact cell_one_new _ _ _
        case c2 => simp [Value.oneCell']
        case c3 => unfold maxLen; omega
        case c4 => omega
        case c5 => simp; omega
        intro v' w1 hown' hg _
        have hb' : Below w.heap.size w w1 := (hb.alloc hsz _).grown hg (by simp; omega) (fun j hj => (hown.lt j hj).1)
        clear hown hg hc2
        have h1 : (ns ++ [r - 500000]).length = ns.length + 1 := by simp
        have h2 : (ns ++ [r - 500000]).sum = ns.sum + (r - 500000) := by simp
        have HR := Lib.hid (show w1.ownsRow w.heap.size 24 1 v' (ns ++ [r - 500000]).length (((ns ++ [r - 500000]).map flN).map (fun b => Value.float .f64 b)) by rw [h1]; simpa using hown')
        have HL1 := Lib.hid h1
        have HL2 := Lib.hid h2
        clear h1 h2 hown'
        go_wp2
        go_roundw
        case rel => exact ⟨ns ++ [r - 500000], by rw [HL1.out]; omega, by rw [HL1.out]; go_num, by rw [HL2.out], fun n hn => by rcases List.mem_append.1 hn with h | h; exact HA.out n h; simp at h; omega, HR.out, hb'⟩
        case measure => simp [intOf]; omega
      · have hsum := sum_fl ns HA.out (by omega)
        have hfs := floatOfInt_eq ns.sum (by omega)
        have hfx := floatOfInt_eq x (by omega)
        have hfy := floatOfInt_eq y (by omega)
        have hcm := cmp_fl (a := x) (b := y) (by omega) (by omega)
        have hlx := flN_lt x (by omega)
        have hly := flN_lt y (by omega)
        have hse : (FloatKind.f64.format.order (flN ns.sum) (flN ns.sum) == some .eq) = true := by rw [self_eq, rep_not_nan (flN_rep _ (by omega))]; rfl
        have hx := HX.out
        have hy := HY.out
        obtain ⟨hl, hv⟩ := hown
        have hS : ∀ v, v = u8 → Calls Try.prog 14 #[v] wr fun e w' => e = .returned (.float .f64 (flN ns.sum)) ∧ Drawn wr w' := by
          intro v hv'
          subst hv'
          rcases hv with ⟨hv, h0⟩ | ⟨g, cap, cur, hv, hbg, hgg, hnc, hcm, hcs, htk⟩
          · rw [hv]
            have hns : ns = [] := List.length_eq_zero_iff.1 h0
            rw [hns] at hsum ⊢
            exact (Sum_nil wr).mono fun e w' h => ⟨by rw [h.1]; exact congrArg (fun b => Ending.returned (Value.float .f64 b)) hsum, ⟨0, h.2.symm⟩⟩
          · rw [hv]
            have := Sum_c g 0 cap (ns.map flN) wr (by rw [List.length_map]; omega) (fun i hi => by
              rw [List.length_map] at hi
              rw [Nat.zero_add]
              subst hv
              rw [World.ownsRow.cellAt ⟨hl, .inr ⟨g, cap, cur, rfl, hbg, hgg, hnc, hcm, hcs, htk⟩⟩ i (by omega)]
              simp [List.getD, hi])
            rw [List.length_map, hsum] at this
            exact this
        have HS := Lib.hid (hS u8 rfl)
        clear hS hv hl hsum HC HX HY HA
        rcases (by omega : x < y ∨ x = y ∨ y < x) with hxy | hxy | hxy
        · have hc : cmpN (flN x) (flN y) = -1 := by
            rw [hcm]; simp [cmpI, hxy]
          clear hcm
          go_wp2_with (first | (go_at_call 14; with_reducible refine HS.out.mono ?_; rintro e w' ⟨rfl, hd⟩) | (go_at_call 21; (with_reducible refine (Cmp_c _ _ (by assumption) (by assumption) _).mono ?_); rintro e w' ⟨rfl, rfl⟩) | (go_at_call 16; (with_reducible refine (known_c _).mono ?_); rintro e w' ⟨rfl, rfl⟩))
          go_ret
          exact ⟨rfl, Below.trans hb (hd.below _)⟩
        · have hc : cmpN (flN x) (flN y) = 0 := by
            rw [hcm]; rw [hxy, cmpI_self]
          subst hxy
          clear hcm
          go_wp2_with (first | (go_at_call 14; with_reducible refine HS.out.mono ?_; rintro e w' ⟨rfl, hd⟩) | (go_at_call 21; (with_reducible refine (Cmp_c _ _ (by assumption) (by assumption) _).mono ?_); rintro e w' ⟨rfl, rfl⟩) | (go_at_call 16; (with_reducible refine (known_c _).mono ?_); rintro e w' ⟨rfl, rfl⟩))
          go_ret
          exact ⟨rfl, Below.trans hb (hd.below _)⟩
        · have hc : cmpN (flN x) (flN y) = 1 := by
            rw [hcm]; have : ¬ x < y := by omega
            simp [cmpI, hxy, this]
          clear hcm
          go_wp2_with (first | (go_at_call 14; with_reducible refine HS.out.mono ?_; rintro e w' ⟨rfl, hd⟩) | (go_at_call 21; (with_reducible refine (Cmp_c _ _ (by assumption) (by assumption) _).mono ?_); rintro e w' ⟨rfl, rfl⟩) | (go_at_call 16; (with_reducible refine (known_c _).mono ?_); rintro e w' ⟨rfl, rfl⟩))
          go_ret
          exact ⟨rfl, Below.trans hb (hd.below _)⟩
end Go.Proofs.Ytbkailelmpbogaa
