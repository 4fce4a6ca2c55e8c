
/- Contracts of package leb's writers and of the reference's: the bytes that each gives. -/
import Derived.Test.YtmbffncmogpkfaaGreatDoorRowAt
import Derived.Test.YtmbffncmogpkfaaGreatDoorLebP
import Derived.Test.YtmbffncmogpkfaaGreatDoorReal
import Derived.Laws.AppendOwnNone
import Derived.Lib.AppendStr
import Derived.Lib.BufferMore
namespace Go.Proofs.YtmbffncmogpkfaaGreatDoor
open Go Go.RowKit
set_option linter.unusedVariables false

theorem infoB : (Tryz.prog.info? 5).map (fun i => (i.zero, i.size, i.bytes)) = some (some (.int .u8 0), 1, 1) := by kernel_rfl
theorem elemB : Elem1 23 5 1 := elem1_of Tryz.underlying23 infoB rfl
/-- a call gives a slice of its own with these bytes; nothing that was there has turned. -/
def OwnB (w : World) (l : List UInt8) (e : Ending) (w' : World) : Prop :=
  ∃ v', e = .returned v' ∧ w'.ownsRow w.heap.size 5 1 v' l.length (bytesV l) ∧ Below w.heap.size w w'
theorem isB : Tryz.prog.underlying 23 = some (.slice 5) := Tryz.underlying23

set_option maxHeartbeats 400000 in
theorem Clone_c (v : Value) (l : List UInt8) (w : World) (h : RowAt w v (bytesV l)) (hb : l.length ≤ 70368744177664) :
    Calls Tryz.prog 41 #[v] w (OwnB w l) := by
  obtain ⟨i0, hi, hz0, hz1, hz2⟩ := info_parts infoB
  rcases h.2 with ⟨rfl, h0⟩ | ⟨x, c, rfl, _, hc⟩
  · have hl : l = [] := by simpa [bytesV] using h0
    subst hl
    have hq := fun w => Lib.run_eql_slice_nil_nil (P := Tryz.prog) w 0 0 isB
    clear h h0 hb
    go_enter Tryz.func41, Tryz.ntmps41
    go_wp2
    go_ret
    exact ⟨_, rfl, ⟨rfl, .inl ⟨rfl, rfl⟩⟩, Below.refl _ _⟩
  · have hq := fun w => Lib.run_eql_slice_some_nil (P := Tryz.prog) w x (bytesV l).length c isB
    have hn : (bytesV l).length = l.length := bytesV_length l
    rw [hn] at hq ⊢
    clear h
    have HC := Lib.hid hc
    have HN := Lib.hid hn
    clear hc hn
    go_enter Tryz.func41, Tryz.ntmps41
    go_wp2_with (at_builtin; refine wpList_append_own _ rfl _ _ 23 rfl w.heap.size 5 i0 (.int .u8 0) 1 1 Tryz.underlying23 hi hz0 hz1 hz2 rfl (by decide) (.slice (some ⟨w.heap.size, 0, none⟩) 0 0) 0 [] rfl ?c0 x l.length c (bytesV l) rfl ?c1 ?c2 (bytesV_one l) ?c3 ?c4 ?c5 ?_)
    case c0 => exact ⟨rfl, .inr ⟨w.heap.size, 0, #[], rfl, Nat.le_refl _, (MapKept.heap_alloc w _).1, Nat.le_refl _, Nat.zero_le _, rfl, rfl⟩⟩
    case c1 => rw [HN.out, Nat.mul_one]
    case c2 =>
      intro j u hu
      have hj := (List.getElem?_eq_some_iff.1 hu).1
      have := HC.out j hj
      have hlt : (x.add j).block < w.heap.size := World.block_lt_of_cell? w _ this
      rw [((Below.refl _ w).alloc (Nat.le_refl _) _).cell hlt, this]
      rw [List.getElem?_eq_getElem hj] at hu
      exact hu
    case c3 => unfold maxLen; omega
    case c4 => omega
    case c5 => simp
    intro v' w1 hown' hg _
    have hb' : Below w.heap.size w w1 := ((Below.refl _ w).alloc (Nat.le_refl _) _).grown hg (by simp) (fun j hj => by simp [Value.ownBlock] at hj; omega)
    have HR := Lib.hid hown'
    clear hown' hg
    go_wp2
    go_ret
    exact ⟨_, rfl, by simpa using HR.out, hb'⟩
/-- a call gives an owned row with bytes behind those it was handed. -/
def OwnApp (B : Nat) (w : World) (n : Nat) (xs : List Value) (l : List UInt8) (e : Ending) (w' : World) : Prop :=
  ∃ v', e = .returned v' ∧ w'.ownsRow B 5 1 v' (n + l.length) (xs ++ bytesV l) ∧ Below B w w'

theorem byte_or (z : Nat) (h : z < W64) : bits .or .u8 ((z : Int) % 256) 128 = (z : Int) % 128 + 128 := by
  rw [Lib.u8_or128_any _ (by omega) (by omega)]; omega
theorem byteV_nat {n : Nat} (h : n < 256) : byteV n.toUInt8 = .int .u8 (n : Int) := by unfold byteV; rw [u8_of_lt h]

set_option maxRecDepth 100000 in
set_option maxHeartbeats 1000000 in
theorem number_c (B n : Nat) (v : Value) (xs : List Value) (z : Nat) (w : World) (hown : w.ownsRow B 5 1 v n xs) (hz : z < W64) (hn : n ≤ 70368744177664) (hB : B ≤ w.heap.size) :
    Calls Tryz.prog 42 #[v, .int .u64 (z : Int)] w (OwnApp B w n xs (Lib.uvarint z)) := by
  obtain ⟨i0, hi, hz0, hz1, hz2⟩ := info_parts infoB
  have hlen := Lib.uvarint_length64 hz
  go_enter Tryz.func42, Tryz.ntmps42
  go_wp2
  go_loopw [0, 1] (fun vc zc wr => ∃ (zn : Nat) (pre : List UInt8), zc = .int .u64 (zn : Int) ∧ zn < W64 ∧ pre ++ Lib.uvarint zn = Lib.uvarint z ∧ wr.ownsRow B 5 1 vc (n + pre.length) (xs ++ bytesV pre) ∧ Below B w wr) (fun _ zc _ => (intOf zc).toNat)
  case atStart => exact ⟨z, [], rfl, hz, rfl, by simpa [bytesV] using hown, Below.refl _ _⟩
  case round =>
    obtain ⟨zn, pre, rfl, hzn, hpre, hown1, hb⟩ := hrel
    have hpl : pre.length + (Lib.uvarint zn).length = (Lib.uvarint z).length := by rw [← hpre]; simp
    have hpos := Lib.uvarint_pos zn
    have hsz := hb.size
    have hbnd : n + pre.length + 1 ≤ 70368744177674 := by omega
    clear hown hlen hn hz
    by_cases hc : 128 ≤ zn
    · have hu := Lib.uvarint_big hc
      have hor := byte_or zn hzn
      have hbv : byteV (zn % 128 + 128).toUInt8 = .int .u8 ((zn : Int) % 128 + 128) := by rw [byteV_nat (by omega)]; rfl
      have HP := Lib.hid (show (pre ++ [(zn % 128 + 128).toUInt8]) ++ Lib.uvarint (zn / 128) = Lib.uvarint z by rw [← hpre, hu]; simp)
      have HV := Lib.hid hbv
      have HZ := Lib.hid hzn
      have HB := Lib.hid hbnd
      clear hu hpre hpl hbv hzn hbnd
      go_wp2_with (at_builtin; refine wpList_append_own _ rfl _ _ 23 rfl B 5 i0 (.int .u8 0) 1 1 Tryz.underlying23 hi hz0 hz1 hz2 rfl (by decide) _ _ _ rfl (hown1.alloc _) ⟨wr.heap.size, 0, none⟩ 1 1 [.int .u8 ((zn : Int) % 128 + 128)] rfl rfl ?c1 ?c2 ?c3 ?c4 ?c5 ?_)
      case c1 => exact cell_one_new _ _ _
      case c2 => simp [Value.oneCell']
      case c3 => have := HB.out; unfold maxLen; omega
      case c4 => have := HB.out; omega
      case c5 => simp; omega
      intro v' w1 hown' hg _
      have hb' : Below B w w1 := (hb.alloc (by omega) _).grown hg (by simp; omega) (fun j hj => (hown1.lt j hj).1)
      have hown2 : w1.ownsRow B 5 1 v' (n + (pre ++ [(zn % 128 + 128).toUInt8]).length) (xs ++ bytesV (pre ++ [(zn % 128 + 128).toUInt8])) := by
        have e : bytesV (pre ++ [(zn % 128 + 128).toUInt8]) = bytesV pre ++ [Value.int .u8 ((zn : Int) % 128 + 128)] := by rw [bytesV_append]; simp only [bytesV, List.map_cons, List.map_nil, HV.out]
        rw [e, List.length_append, ← Nat.add_assoc]
        exact hown'
      have HO := Lib.hid hown2
      clear hown' hg hown1 hown2
      go_wp2
      go_roundw
      case rel => exact ⟨zn / 128, pre ++ [(zn % 128 + 128).toUInt8], by go_num, by have := HZ.out; omega, HP.out, HO.out, hb'⟩
      case measure => simp [intOf]; omega
    · have hu := Lib.uvarint_small (show zn < 128 by omega)
      have hbv : byteV zn.toUInt8 = .int .u8 (zn : Int) := byteV_nat (by omega)
      have hmod : (zn : Int) % 256 = zn := by omega
      have HP := Lib.hid (show pre ++ [zn.toUInt8] = Lib.uvarint z by rw [← hpre, hu])
      have HV := Lib.hid hbv
      have HB := Lib.hid hbnd
      clear hu hpre hpl hbv hzn hbnd
      go_wp2_with (at_builtin; refine wpList_append_own _ rfl _ _ 23 rfl B 5 i0 (.int .u8 0) 1 1 Tryz.underlying23 hi hz0 hz1 hz2 rfl (by decide) _ _ _ rfl (hown1.alloc _) ⟨wr.heap.size, 0, none⟩ 1 1 [.int .u8 (zn : Int)] rfl rfl ?c1 ?c2 ?c3 ?c4 ?c5 ?_)
      case c1 => exact cell_one_new _ _ _
      case c2 => simp [Value.oneCell']
      case c3 => have := HB.out; unfold maxLen; omega
      case c4 => have := HB.out; omega
      case c5 => simp; omega
      intro v' w1 hown' hg _
      have hb' : Below B w w1 := (hb.alloc (by omega) _).grown hg (by simp; omega) (fun j hj => (hown1.lt j hj).1)
      have hown2 : w1.ownsRow B 5 1 v' (n + (Lib.uvarint z).length) (xs ++ bytesV (Lib.uvarint z)) := by
        rw [← HP.out, List.length_append, ← Nat.add_assoc]
        have e : bytesV (pre ++ [zn.toUInt8]) = bytesV pre ++ [Value.int .u8 (zn : Int)] := by rw [bytesV_append]; simp only [bytesV, List.map_cons, List.map_nil, HV.out]
        rw [e]
        exact hown'
      have HO := Lib.hid hown2
      clear hown' hg hown1 hown2
      go_wp2
      go_ret
      exact ⟨_, rfl, HO.out, hb'⟩
theorem xor_comm_u64 (a b : Int) : bits .xor .u64 a b = bits .xor .u64 b a := by
  show IntKind.u64.wrap ((BitVec.ofInt 64 a ^^^ BitVec.ofInt 64 b).toNat : Int) = IntKind.u64.wrap ((BitVec.ofInt 64 b ^^^ BitVec.ofInt 64 a).toNat : Int)
  rw [BitVec.xor_comm]
theorem zig_bits {n : Int} (h0 : -9223372036854775808 ≤ n) (h1 : n ≤ 9223372036854775807) :
    bits .xor .u64 (IntKind.u64.wrap (IntKind.u64.wrap n * 2)) (IntKind.u64.wrap (n / 9223372036854775808)) = ((Lib.zigzag n : Nat) : Int) := by
  by_cases hn : n < 0
  · have e : IntKind.u64.wrap (n / 9223372036854775808) = IntKind.u64.max := by rw [IntKind.wrap_u64, u64max]; omega
    rw [e, xor_comm_u64]
    exact Lib.zigzag_neg h0 hn
  · have e : IntKind.u64.wrap (n / 9223372036854775808) = ((0 : Nat) : Int) := by rw [IntKind.wrap_u64]; omega
    have e2 : IntKind.u64.wrap (IntKind.u64.wrap n * 2) = (((2 * n).toNat : Nat) : Int) := by rw [IntKind.wrap_u64, IntKind.wrap_u64]; omega
    rw [e, e2, u64_xor_nat _ _ (by omega) (by omega), Nat.xor_zero]
    unfold Lib.zigzag
    rw [if_pos (by omega)]
def intsV (ns : List Int) : List Value := ns.map (Value.int .i64)
theorem RowAt.shapeI {w : World} {v : Value} {ns : List Int} (h : RowAt w v (intsV ns)) : ∃ a c, v = .slice a ns.length c := by
  obtain ⟨a, c, e⟩ := h.shape; exact ⟨a, c, by rw [e]; simp [intsV]⟩
theorem RowAt.shapeB {w : World} {v : Value} {l : List UInt8} (h : RowAt w v (bytesV l)) : ∃ a c, v = .slice a l.length c := by
  obtain ⟨a, c, e⟩ := h.shape; exact ⟨a, c, by rw [e]; simp⟩
def IntsOk (ns : List Int) : Prop := ∀ n ∈ ns, -9223372036854775808 ≤ n ∧ n ≤ 9223372036854775807
theorem lebInts_len : ∀ (ns : List Int), IntsOk ns → (lebInts ns).length ≤ 10 * ns.length
  | [], _ => by simp [lebInts]
  | n :: ns, h => by
    have h1 := lebInts_len ns (fun m hm => h m (by simp [hm]))
    have h2 := lebInt_len n (h n (by simp)).1 (h n (by simp)).2
    simp only [lebInts, List.flatMap_cons, List.length_append, List.length_cons] at *
    omega
theorem lebInts_snoc (ns : List Int) (n : Int) : lebInts (ns ++ [n]) = lebInts ns ++ lebInt n := by simp [lebInts]
theorem take_snoc' {α : Type} (l : List α) (k : Nat) (h : k < l.length) : l.take (k + 1) = l.take k ++ [l[k]] := List.take_succ_eq_append_getElem h

set_option maxRecDepth 100000 in
set_option maxHeartbeats 1000000 in
theorem Int_c (vb vn : Value) (l : List UInt8) (ns : List Int) (w : World) (h1 : RowAt w vb (bytesV l)) (h2 : RowAt w vn (intsV ns)) (hok : IntsOk ns) (hb : l.length + 10 * ns.length ≤ 35184372088832) :
    Calls Tryz.prog 12 #[vb, vn] w (OwnB w (l ++ lebInts ns)) := by
  obtain ⟨a, c, rfl⟩ := h2.shape
  have hl2 : (intsV ns).length = ns.length := by simp [intsV]
  rw [hl2] at h2 ⊢
  have hm : ns.length ≤ 35184372088832 := by omega
  have H2 := Lib.hid h2
  have HO := Lib.hid hok
  have HB := Lib.hid hb
  clear h2 hok hb hl2
  go_enter Tryz.func12, Tryz.ntmps12
  go_wp2_with fail
  with_reducible refine (Clone_c vb l w h1 (by have := HB.out; omega)).mono ?_
  rintro e w1 ⟨v1, rfl, hown1, hb1⟩
  go_wp2_with fail
  go_loopw [0, 11] (fun v i wr => ∃ k : Nat, k ≤ ns.length ∧ i = .int .i64 k ∧ wr.ownsRow w.heap.size 5 1 v (l ++ lebInts (ns.take k)).length (bytesV (l ++ lebInts (ns.take k))) ∧ Below w.heap.size w wr) (fun _ i _ => ns.length - (intOf i).toNat)
  case atStart => exact ⟨0, by omega, rfl, by simpa [lebInts] using hown1, hb1⟩
  case round =>
    obtain ⟨k, hk, rfl, hown, hbw⟩ := hrel
    by_cases hlt : k < ns.length
    · obtain ⟨b, o, rfl, hbl, hc⟩ := H2.out.cellAt k (by simpa [intsV] using hlt)
      have hc2 : wr.cell? ⟨b, o + k, none⟩ = some (.int .i64 ns[k]) := by rw [hbw.cell hbl, hc]; simp [intsV]
      have hn := HO.out ns[k] (List.getElem_mem hlt)
      have ht := take_snoc' ns k hlt
      have hs := lebInts_snoc (ns.take k) ns[k]
      rw [← ht] at hs
      have hlen := lebInts_len (ns.take k) (fun m hm => HO.out m (List.mem_of_mem_take hm))
      have htl : (ns.take k).length ≤ k := List.length_take_le _ _
      have hsz := hbw.size
      have HS := Lib.hid hs
      have HL : Hid ((l ++ lebInts (ns.take k)).length ≤ 35184372088832) := by have := HB.out; show _ ≤ _; rw [List.length_append]; omega
      clear hs ht hlen htl hc
      generalize ns[k] = n at *
      have hz := zig_bits hn.1 hn.2
      have hzl := zig_lt hn.1 hn.2
      go_wp2_with fail
      with_reducible refine (number_c w.heap.size _ u0 _ (Lib.zigzag n) wr hown hzl (by have := HL.out; omega) hsz).mono ?_
      rintro e w2 ⟨v2, rfl, hown2, hb2⟩
      have hown3 : w2.ownsRow w.heap.size 5 1 v2 (l ++ lebInts (ns.take (k + 1))).length (bytesV (l ++ lebInts (ns.take (k + 1)))) := by
        rw [HS.out, ← List.append_assoc, List.length_append, bytesV_append]
        exact hown2
      have HO3 := Lib.hid hown3
      clear hown hown2 hown3 hz hzl
      go_wp2_with fail
      go_roundw
      case rel => exact ⟨k + 1, by omega, by go_num, HO3.out, hbw.trans hb2⟩
      case measure => simp [intOf]; omega
    · have hk' : ns.take k = ns := List.take_of_length_le (by omega)
      rw [hk'] at hown
      have HO3 := Lib.hid hown
      clear hown hk'
      go_wp2_with fail
      go_ret
      exact ⟨_, rfl, HO3.out, hbw⟩
def strsV (ss : List (List UInt8)) : List Value := ss.map strV
/-- the bytes of texts, with room for the numbers ahead of them. -/
def strsRoom (ss : List (List UInt8)) : Nat := (ss.map (fun s => 10 + s.length)).sum
theorem lebStr_len (s : List UInt8) (h : s.length ≤ 9223372036854775807) : (lebStr s).length ≤ 10 + s.length := by
  have := lebInt_len (s.length : Int) (by omega) (by omega)
  unfold lebStr; rw [List.length_append]; omega
theorem lebStrs_snoc (ss : List (List UInt8)) (s : List UInt8) : lebStrs (ss ++ [s]) = lebStrs ss ++ lebStr s := by simp [lebStrs]
theorem strsRoom_snoc (ss : List (List UInt8)) (s : List UInt8) : strsRoom (ss ++ [s]) = strsRoom ss + (10 + s.length) := by simp [strsRoom]
theorem strsRoom_take (ss : List (List UInt8)) (k : Nat) : strsRoom (ss.take k) ≤ strsRoom ss := by
  have h : ss = ss.take k ++ ss.drop k := (List.take_append_drop k ss).symm
  have : strsRoom ss = strsRoom (ss.take k) + strsRoom (ss.drop k) := by
    have g : strsRoom (ss.take k ++ ss.drop k) = strsRoom (ss.take k) + strsRoom (ss.drop k) := by simp only [strsRoom, List.map_append, List.sum_append]
    rw [← h] at g; exact g
  omega
theorem lebStrs_len : ∀ (ss : List (List UInt8)), strsRoom ss ≤ 9223372036854775807 → (lebStrs ss).length ≤ strsRoom ss
  | [], _ => by simp [lebStrs, strsRoom]
  | s :: ss, h => by
    have e : strsRoom (s :: ss) = (10 + s.length) + strsRoom ss := by simp [strsRoom]
    rw [e] at h ⊢
    have h1 := lebStrs_len ss (by omega)
    have h2 := lebStr_len s (by omega)
    simp only [lebStrs, List.flatMap_cons, List.length_append] at *
    omega
theorem RowAt.shapeS {w : World} {v : Value} {ss : List (List UInt8)} (h : RowAt w v (strsV ss)) : ∃ a c, v = .slice a ss.length c := by
  obtain ⟨a, c, e⟩ := h.shape; exact ⟨a, c, by rw [e]; simp [strsV]⟩
theorem strCells_eq (s : List UInt8) : Lib.strCells ⟨s.toArray⟩ = bytesV s := by simp [Lib.strCells, bytesV, byteV]

set_option maxRecDepth 100000 in
set_option maxHeartbeats 1000000 in
theorem Str_c (vb vs : Value) (l : List UInt8) (ss : List (List UInt8)) (w : World) (h1 : RowAt w vb (bytesV l)) (h2 : RowAt w vs (strsV ss)) (hb : l.length + strsRoom ss ≤ 17592186044416) :
    Calls Tryz.prog 15 #[vb, vs] w (OwnB w (l ++ lebStrs ss)) := by
  obtain ⟨i0, hi, hz0, hz1, hz2⟩ := info_parts infoB
  obtain ⟨a, c, rfl⟩ := h2.shape
  have hl2 : (strsV ss).length = ss.length := by simp [strsV]
  rw [hl2] at h2 ⊢
  have hm : ss.length ≤ 17592186044416 := by
    have : ss.length ≤ strsRoom ss := by
      clear h2 hb hl2
      induction ss with
      | nil => simp
      | cons s ss ih => simp [strsRoom] at *; omega
    omega
  have H2 := Lib.hid h2
  have HB := Lib.hid hb
  clear h2 hb hl2
  go_enter Tryz.func15, Tryz.ntmps15
  go_wp2_with fail
  with_reducible refine (Clone_c vb l w h1 (by have := HB.out; omega)).mono ?_
  rintro e w1 ⟨v1, rfl, hown1, hb1⟩
  go_wp2_with fail
  go_loopw [0, 11] (fun v i wr => ∃ k : Nat, k ≤ ss.length ∧ i = .int .i64 k ∧ wr.ownsRow w.heap.size 5 1 v (l ++ lebStrs (ss.take k)).length (bytesV (l ++ lebStrs (ss.take k))) ∧ Below w.heap.size w wr) (fun _ i _ => ss.length - (intOf i).toNat)
  case atStart => exact ⟨0, by omega, rfl, by simpa [lebStrs] using hown1, hb1⟩
  case round =>
    obtain ⟨k, hk, rfl, hown, hbw⟩ := hrel
    by_cases hlt : k < ss.length
    · obtain ⟨b, o, rfl, hbl, hc⟩ := H2.out.cellAt k (by simpa [strsV] using hlt)
      have hc2 : wr.cell? ⟨b, o + k, none⟩ = some (.string ⟨ss[k].toArray⟩) := by rw [hbw.cell hbl, hc]; simp [strsV, strV]
      have ht := take_snoc' ss k hlt
      have hs := lebStrs_snoc (ss.take k) ss[k]
      have hr := strsRoom_snoc (ss.take k) ss[k]
      rw [← ht] at hs hr
      have hrt := strsRoom_take ss (k + 1)
      have hb0 := HB.out
      have hlen := lebStrs_len (ss.take k) (by omega)
      have hsl := hbw.size
      have HS := Lib.hid hs
      have hL : (l ++ lebStrs (ss.take k)).length + 10 + ss[k].length ≤ 17592186044416 := by rw [List.length_append]; omega
      have HL := Lib.hid hL
      clear hs ht hlen hc hr hrt hb0 hL
      generalize ss[k] = s at *
      generalize hLL : l ++ lebStrs (ss.take k) = L at *
      have HLL := Lib.hid hLL
      have HI := Lib.hid (Int_c u0 (.slice (some ⟨wr.heap.size, 0, none⟩) 1 1) L [(s.length : Int)] (wr.alloc (.cells #[.int .i64 (s.length : Int)] 3)) ((RowAt.ofOwns hown).alloc _) (RowAt.new (hc := by simp) wr [.int .i64 (s.length : Int)] 3 1 (by unfold maxLen; simp)) (by intro n hn; simp at hn; have := HL.out; omega) (by have := HL.out; simp; omega))
      clear hLL
      go_wp2_with fail
      with_reducible refine HI.out.mono ?_
      rintro e w2 ⟨v2, rfl, hown2, hb2⟩
      have e1 : lebInts [(s.length : Int)] = lebInt s.length := by simp [lebInts]
      rw [e1] at hown2
      have hbw2 : Below w.heap.size w w2 := (hbw.alloc hsl _).trans (hb2.mono (by simp; omega))
      have hsl2 := hbw2.size
      have hown3 : w2.ownsRow w.heap.size 5 1 v2 (L ++ lebInt s.length).length (bytesV (L ++ lebInt s.length)) := ownsRow_mono hown2 (by simp; omega)
      have hll := lebInt_len (s.length : Int) (by omega) (by have := HL.out; omega)
      have HLL2 : Hid ((L ++ lebInt s.length).length + s.length ≤ 17592186044416) := by show _ ≤ _; have := HL.out; rw [List.length_append]; omega
      clear hown hown2 e1 hb2 hll
      go_wp2_with (at_builtin; refine Lib.wpList_append_own_string _ rfl _ _ 23 9 rfl w.heap.size 5 i0 Tryz.underlying23 Tryz.underlying9 hi hz0 hz1 hz2 _ _ _ rfl hown3 ⟨s.toArray⟩ rfl ?c3 ?c4 ?c5 ?_)
      case c3 => have := HLL2.out; rw [List.length_append] at this; unfold maxLen; simp [ByteArray.size]; omega
      case c4 => have := HLL2.out; rw [List.length_append] at this; simp [ByteArray.size]; omega
      case c5 => exact hsl2
      intro v3 w3 hown4 hg _
      have hb3 : Below w.heap.size w w3 := hbw2.grown hg hsl2 (fun j hj => (hown3.lt j hj).1)
      have hown5 : w3.ownsRow w.heap.size 5 1 v3 (l ++ lebStrs (ss.take (k + 1))).length (bytesV (l ++ lebStrs (ss.take (k + 1)))) := by
        rw [strCells_eq] at hown4
        have e2 : l ++ lebStrs (ss.take (k + 1)) = (L ++ lebInt s.length) ++ s := by rw [HS.out, ← List.append_assoc, HLL.out]; unfold lebStr; simp
        rw [e2, List.length_append, bytesV_append]
        rw [show L.length + (lebInt (s.length : Int)).length + s.length = (L ++ lebInt (s.length : Int)).length + s.length from by rw [List.length_append]] at hown4
        exact hown4
      have HO := Lib.hid hown5
      clear hown4 hown5 hown3 hg
      go_wp2
      go_roundw
      case rel => exact ⟨k + 1, by omega, by go_num, HO.out, hb3⟩
      case measure => simp [intOf]; omega
    · have hk' : ss.take k = ss := List.take_of_length_le (by omega)
      rw [hk'] at hown
      have HO3 := Lib.hid hown
      clear hown hk'
      go_wp2_with fail
      go_ret
      exact ⟨_, rfl, HO3.out, hbw⟩
def realsV (fs : List Nat) : List Value := fs.map (Value.float .f64)
theorem beL_get : ∀ (n k j : Nat) (h : j < (beL n k).length), (beL n k)[j] = (k / 256 ^ (n - 1 - j)).toUInt8
  | 0, k, j, h => by simp [beL] at h
  | n + 1, k, 0, h => by simp [beL]
  | n + 1, k, j + 1, h => by
    have := beL_get n k j (by simpa [beL] using h)
    simp only [beL, List.getElem_cons_succ, this]
    rw [show n + 1 - 1 - (j + 1) = n - 1 - j from by omega]
theorem lebReals_len (fs : List Nat) : (lebReals fs).length = 8 * fs.length := by
  induction fs with
  | nil => rfl
  | cons f fs ih => simp only [lebReals, List.flatMap_cons, List.length_append, List.length_cons] at *; rw [ih, show (lebReal f).length = 8 from beL_length 8 _]; omega
theorem lebReals_snoc (fs : List Nat) (f : Nat) : lebReals (fs ++ [f]) = lebReals fs ++ lebReal f := by simp [lebReals]

set_option maxRecDepth 100000 in
set_option maxHeartbeats 1000000 in
theorem Real_c (vb vf : Value) (l : List UInt8) (fs : List Nat) (w : World) (h1 : RowAt w vb (bytesV l)) (h2 : RowAt w vf (realsV fs)) (hok : ∀ f ∈ fs, f < W64) (hb : l.length + 8 * fs.length ≤ 17592186044416) :
    Calls Tryz.prog 14 #[vb, vf] w (OwnB w (l ++ lebReals fs)) := by
  obtain ⟨i0, hi, hz0, hz1, hz2⟩ := info_parts infoB
  obtain ⟨a, c, rfl⟩ := h2.shape
  have hl2 : (realsV fs).length = fs.length := by simp [realsV]
  rw [hl2] at h2 ⊢
  have hm : fs.length ≤ 17592186044416 := by omega
  have H2 := Lib.hid h2
  have HB := Lib.hid hb
  have HO := Lib.hid hok
  clear h2 hb hl2 hok
  go_enter Tryz.func14, Tryz.ntmps14
  go_wp2_with fail
  with_reducible refine (Clone_c vb l w h1 (by have := HB.out; omega)).mono ?_
  rintro e w1 ⟨v1, rfl, hown1, hb1⟩
  go_wp2_with fail
  go_loopw [0, 13] (fun v i wr => ∃ k : Nat, k ≤ fs.length ∧ i = .int .i64 k ∧ wr.ownsRow w.heap.size 5 1 v (l ++ lebReals (fs.take k)).length (bytesV (l ++ lebReals (fs.take k))) ∧ Below w.heap.size w wr) (fun _ i _ => fs.length - (intOf i).toNat)
  case atStart => exact ⟨0, by omega, rfl, by simpa [lebReals] using hown1, hb1⟩
  case round =>
    obtain ⟨k, hk, rfl, hown, hbw⟩ := hrel
    by_cases hlt : k < fs.length
    · obtain ⟨b, o, rfl, hbl, hc⟩ := H2.out.cellAt k (by simpa [realsV] using hlt)
      have hc2 : wr.cell? ⟨b, o + k, none⟩ = some (.float .f64 fs[k]) := by rw [hbw.cell hbl, hc]; simp [realsV]
      have hf := HO.out fs[k] (List.getElem_mem hlt)
      have ht := take_snoc' fs k hlt
      have hs := lebReals_snoc (fs.take k) fs[k]
      rw [← ht] at hs
      have hlen := lebReals_len (fs.take k)
      have htl : (fs.take k).length ≤ k := List.length_take_le _ _
      have hsl := hbw.size
      have HS := Lib.hid hs
      have hL : (l ++ lebReals (fs.take k)).length ≤ 17592186044416 := by have := HB.out; rw [List.length_append]; omega
      have HL := Lib.hid hL
      clear hs ht hlen hc htl hL
      generalize fs[k] = f at *
      generalize hLL : l ++ lebReals (fs.take k) = L at *
      have HLL := Lib.hid hLL
      have HK := Lib.hid (keyN_lt hf)
      clear hLL
      go_wp2_with (first | (go_at_call 43; (with_reducible refine (Key_c _ (by assumption) _).mono ?_); rintro e w' ⟨rfl, rfl⟩))
      generalize hK : keyN f = K at *
      have HKE := Lib.hid hK
      clear hK hf
      obtain ⟨wo, rfl⟩ : ∃ wo : World, wo = wr := ⟨_, rfl⟩
      go_loopw [0, 19] (fun v i wr => ∃ j : Nat, j ≤ 8 ∧ i = .int .i64 j ∧ wr.ownsRow w.heap.size 5 1 v (L ++ (beL 8 K).take j).length (bytesV (L ++ (beL 8 K).take j)) ∧ Below w.heap.size w wr) (fun _ i _ => 8 - (intOf i).toNat)
      case atStart => exact ⟨0, by omega, rfl, by simpa using hown, hbw⟩
      case round =>
        clear hbw hown
        obtain ⟨j, hj, rfl, hown, hbw⟩ := hrel
        by_cases hj8 : j < 8
        · obtain ⟨m, hm⟩ : ∃ m, m + j = 7 := ⟨7 - j, by omega⟩
          have hg : (beL 8 K)[j]'(by rw [beL_length]; exact hj8) = (K / 256 ^ (7 - j)).toUInt8 := beL_get 8 K j (by rw [beL_length]; exact hj8)
          have ht := take_snoc' (beL 8 K) j (by rw [beL_length]; exact hj8)
          rw [hg] at ht
          have hv : byteV ((K / 256 ^ (7 - j)).toUInt8) = .int .u8 ((K : Int) / 2 ^ (8 * (7 - j)) % 256) := by
            unfold byteV
            rw [show ((K / 256 ^ (7 - j)).toUInt8).toNat = K / 256 ^ (7 - j) % 256 from by simp [Nat.toUInt8]]
            rw [show (2 : Int) ^ (8 * (7 - j)) = ((256 ^ (7 - j) : Nat) : Int) from by rw [show (256 : Nat) = 2 ^ 8 from rfl, ← Nat.pow_mul]; simp]
            simp
          have hln : ((beL 8 K).take j).length ≤ 8 := by rw [List.length_take, beL_length]; omega
          have hB2 : (L ++ (beL 8 K).take j).length ≤ 17592186044424 := by have := HL.out; rw [List.length_append]; omega
          have hb3 := Lib.hid hB2
          have HT := Lib.hid ht
          have HV := Lib.hid hv
          have hbs := hbw.size
          clear ht hv hg hB2 hln hm
          generalize hX : L ++ (beL 8 K).take j = X at *
          have HX := Lib.hid hX
          clear hX
          go_wp2_with (at_builtin; refine wp_app1 elemB rfl _ _ rfl w.heap.size _ _ _ rfl hown _ rfl rfl ?c1 ?c2 ?c3 ?_)
          case c1 => have := hb3.out; omega
          case c2 => have := hb3.out; omega
          case c3 => exact hbs
          intro v' w2 hown2 hb2 _
          have hown3 : w2.ownsRow w.heap.size 5 1 v' (L ++ (beL 8 K).take (j + 1)).length (bytesV (L ++ (beL 8 K).take (j + 1))) := by
            rw [HT.out, ← List.append_assoc, HX.out, List.length_append, bytesV_append]
            simp only [bytesV, List.map_cons, List.map_nil, HV.out]
            exact hown2
          have HO3 := Lib.hid hown3
          clear hown2 hown3 hown
          go_wp2
          go_roundw
          case rel => exact ⟨j + 1, by omega, by go_num, HO3.out, hbw.trans hb2⟩
          case measure => simp [intOf]; omega
        · have hk' : (beL 8 K).take j = beL 8 K := List.take_of_length_le (by rw [beL_length]; omega)
          rw [hk'] at hown
          have hown3 : wr.ownsRow w.heap.size 5 1 u0 (l ++ lebReals (fs.take (k + 1))).length (bytesV (l ++ lebReals (fs.take (k + 1)))) := by
            rw [HS.out, ← List.append_assoc, HLL.out, show lebReal f = beL 8 K from by rw [← HKE.out]; rfl]
            exact hown
          have HO3 := Lib.hid hown3
          clear hown hown3 hk'
          go_wp2_with fail
          go_roundw
          case rel => exact ⟨k + 1, by omega, by go_num, HO3.out, hbw⟩
          case measure => simp [intOf]; omega
    · have hk' : fs.take k = fs := List.take_of_length_le (by omega)
      rw [hk'] at hown
      have HO3 := Lib.hid hown
      clear hown hk'
      go_wp2_with fail
      go_ret
      exact ⟨_, rfl, HO3.out, hbw⟩
set_option maxRecDepth 100000 in
set_option maxHeartbeats 1000000 in
theorem RIntZ_c (n : Int) (z : Nat) (w : World) (hz : z < W64) (hzn : (0 ≤ n ∧ IntKind.u64.wrap (IntKind.u64.wrap n * 2) = (z : Int)) ∨ (n < 0 ∧ bits .xor .u64 IntKind.u64.max (IntKind.u64.wrap (IntKind.u64.wrap n * 2)) = (z : Int))) :
    Calls Tryz.prog 46 #[.int .i64 n] w (OwnB w (Lib.uvarint z)) := by
  have loop : ∀ (K : Prop), K → K := fun _ h => h
  have hlen := Lib.uvarint_length64 hz
  have HZ0 := Lib.hid hz
  have HLN := Lib.hid hlen
  clear hz hlen loop
  rcases hzn with ⟨h0, hz⟩ | ⟨h0, hz⟩
  all_goals
    go_enter Tryz.func46, Tryz.ntmps46
    go_wp2
    clear hz h0
    go_loopw [3, 4] (fun zc vc wr => ∃ (zn : Nat) (pre : List UInt8), zc = .int .u64 (zn : Int) ∧ zn < W64 ∧ pre ++ Lib.uvarint zn = Lib.uvarint z ∧ wr.ownsRow w.heap.size 5 1 vc pre.length (bytesV pre) ∧ Below w.heap.size w wr) (fun zc _ _ => (intOf zc).toNat)
    case atStart => exact ⟨z, [], rfl, HZ0.out, rfl, owns_nil _ _ _, Below.refl _ _⟩
    case round =>
      obtain ⟨zn, pre, rfl, hzn, hpre, hown1, hb⟩ := hrel
      have hpl : pre.length + (Lib.uvarint zn).length = (Lib.uvarint z).length := by rw [← hpre]; simp
      have hpos := Lib.uvarint_pos zn
      have hsz := hb.size
      have hbnd : pre.length + 1 ≤ 10 := by have := HLN.out; omega
      by_cases hc : 128 ≤ zn
      · have hu := Lib.uvarint_big hc
        have hor := byte_or zn hzn
        have hbv : byteV (zn % 128 + 128).toUInt8 = .int .u8 ((zn : Int) % 128 + 128) := by rw [byteV_nat (by omega)]; rfl
        have HP := Lib.hid (show (pre ++ [(zn % 128 + 128).toUInt8]) ++ Lib.uvarint (zn / 128) = Lib.uvarint z by rw [← hpre, hu]; simp)
        have HV := Lib.hid hbv
        have HZ := Lib.hid hzn
        have HB := Lib.hid hbnd
        clear hu hpre hpl hbv hzn hbnd hpos
        go_wp2_with (at_builtin; refine wp_app1 elemB rfl _ _ rfl w.heap.size _ _ _ rfl hown1 (.int .u8 ((zn : Int) % 128 + 128)) rfl rfl ?_ ?_ ?_ ?_)
        · have := HB.out; omega
        · have := HB.out; omega
        · exact hsz
        intro v' w1 hown' hb' _
        have hown2 : w1.ownsRow w.heap.size 5 1 v' (pre ++ [(zn % 128 + 128).toUInt8]).length (bytesV (pre ++ [(zn % 128 + 128).toUInt8])) := by
          rw [bytesV_append, List.length_append]
          simp only [bytesV, List.map_cons, List.map_nil, HV.out]
          exact hown'
        have HO := Lib.hid hown2
        clear hown' hown1 hown2
        go_wp2
        go_roundw
        case rel => exact ⟨zn / 128, pre ++ [(zn % 128 + 128).toUInt8], by go_num, by have := HZ.out; omega, HP.out, HO.out, hb.trans hb'⟩
        case measure => simp [intOf]; omega
      · have hu := Lib.uvarint_small (show zn < 128 by omega)
        have hbv : byteV zn.toUInt8 = .int .u8 (zn : Int) := byteV_nat (by omega)
        have hmod : (zn : Int) % 256 = zn := by omega
        have HP := Lib.hid (show pre ++ [zn.toUInt8] = Lib.uvarint z by rw [← hpre, hu])
        have HV := Lib.hid hbv
        have HB := Lib.hid hbnd
        clear hu hpre hpl hbv hzn hbnd hpos
        go_wp2_with (at_builtin; refine wp_app1 elemB rfl _ _ rfl w.heap.size _ _ _ rfl hown1 (.int .u8 (zn : Int)) rfl rfl ?_ ?_ ?_ ?_)
        · have := HB.out; omega
        · have := HB.out; omega
        · exact hsz
        intro v' w1 hown' hb' _
        have hown2 : w1.ownsRow w.heap.size 5 1 v' (Lib.uvarint z).length (bytesV (Lib.uvarint z)) := by
          rw [← HP.out, bytesV_append, List.length_append]
          simp only [bytesV, List.map_cons, List.map_nil, HV.out]
          exact hown'
        have HO := Lib.hid hown2
        clear hown' hown1 hown2
        go_wp2
        go_ret
        exact ⟨_, rfl, HO.out, hb.trans hb'⟩

theorem RInt_c (n : Int) (w : World) (h0 : -9223372036854775808 ≤ n) (h1 : n ≤ 9223372036854775807) : Calls Tryz.prog 46 #[.int .i64 n] w (OwnB w (lebInt n)) := by
  refine RIntZ_c n (Lib.zigzag n) w (zig_lt h0 h1) ?_
  by_cases hn : n < 0
  · exact .inr ⟨hn, Lib.zigzag_neg h0 hn⟩
  · refine .inl ⟨by omega, ?_⟩
    rw [IntKind.wrap_u64, IntKind.wrap_u64, Lib.zigzag_nonneg (by omega)]; omega

set_option maxRecDepth 100000 in
set_option maxHeartbeats 1000000 in
theorem RStr_c (s : List UInt8) (w : World) (hb : s.length ≤ 17592186044416) : Calls Tryz.prog 20 #[.string ⟨s.toArray⟩] w (OwnB w (lebStr s)) := by
  have hl := lebInt_len (s.length : Int) (by omega) (by omega)
  have HL := Lib.hid hl
  have HB := Lib.hid hb
  clear hl hb
  go_enter Tryz.func20, Tryz.ntmps20
  go_wp2_with fail
  with_reducible refine (RInt_c (s.length : Int) w (by omega) (by have := HB.out; omega)).mono ?_
  rintro e w1 ⟨v1, rfl, hown1, hb1⟩
  obtain ⟨c, w2, hcv, hr, hb2⟩ := conv_bytes 9 23 5 Tryz.underlying9 Tryz.underlying23 Tryz.underlying5 s (by have := HB.out; unfold maxLen; omega) w1
  have hown2 : w2.ownsRow w.heap.size 5 1 v1 (lebInt (s.length : Int)).length (bytesV (lebInt (s.length : Int))) := hown1.kept ⟨hb2.os, hb2.tape, hb2.output, hb2.size, fun k hk _ => hb2.block k hk⟩ (by cases h : v1.ownBlock <;> simp : v1.ownBlock = none ∨ v1.ownBlock ≠ none)
  have hbs := hb1.size
  have hbs2 := hb2.size
  have HR := Lib.hid hr
  clear hown1 hr
  go_wp2_with (at_builtin; refine wp_appRow elemB rfl _ _ rfl w.heap.size _ _ _ rfl hown2 _ (bytesV s) rfl HR.out (bytesV_one s) ?_ ?_ ?_ ?_)
  · have := HL.out; have := HB.out; simp; omega
  · have := HL.out; have := HB.out; simp; omega
  · omega
  intro v' w3 hown3 hb3
  have hown4 : w3.ownsRow w.heap.size 5 1 v' (lebStr s).length (bytesV (lebStr s)) := by
    unfold lebStr
    rw [List.length_append, bytesV_append]
    exact hown3
  have HO := Lib.hid hown4
  clear hown2 hown3 hown4
  go_wp2
  go_ret
  exact ⟨_, rfl, HO.out, hb1.trans ((hb2.mono hbs).trans hb3)⟩
end Go.Proofs.YtmbffncmogpkfaaGreatDoor
