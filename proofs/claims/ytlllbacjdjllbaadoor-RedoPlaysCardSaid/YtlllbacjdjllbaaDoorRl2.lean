
/- Contracts of the reference's log: numbers laid; put. -/
import Derived.Test.YtlllbacjdjllbaaDoorRl1
namespace Go.Proofs.YtlllbacjdjllbaaDoor
open Go Go.Proofs Go.Shelf Go.RowKit Go.Great
set_option linter.unusedVariables false
set_option linter.unusedSimpArgs false

set_option maxRecDepth 20000 in
set_option maxHeartbeats 4000000 in
theorem RInts_c (vn : Value) (ns : List Int) (w : World) (h2 : RowAt w vn (intsV ns)) (hok : IntsOk ns) (hb : ns.length ≤ 1000) : Calls Tryd.prog 69 #[vn] w (OwnB w (lebInts ns)) := by
  obtain ⟨na, nc, rfl⟩ := h2.shape
  have hln : (intsV ns).length = ns.length := by simp [intsV]
  rw [hln] at h2 ⊢
  have HN := Lib.hid h2
  have HO := Lib.hid hok
  clear h2 hok
  obtain ⟨N, hN⟩ : ∃ N, ns.length = N := ⟨_, rfl⟩
  rw [hN] at HN ⊢
  have HNL := Lib.hid hN
  go_enter Tryd.func69, Tryd.ntmps69
  go_wp2_with fail
  go_loopw [3, 4] (fun b i wr => ∃ (j : Nat) (va : Option Addr) (vc : Nat), i = .int .i64 (j : Int) ∧ j ≤ N ∧ b = .slice va (lebInts (ns.take j)).length vc ∧ wr.ownsRow w.heap.size 5 1 b (lebInts (ns.take j)).length (bytesV (lebInts (ns.take j))) ∧ Below w.heap.size w wr) (fun _ i _ => N - (intOf i).toNat)
  case atStart => exact ⟨0, none, 0, rfl, Nat.zero_le _, rfl, World.ownsRow_nil _ _ _ _, Below.refl _ _⟩
  case round =>
    obtain ⟨j, va, vc, rfl, hjN, rfl, ho, hbel⟩ := hrel
    have HS := Lib.hid ho
    have HB := Lib.hid hbel
    by_cases hj : j < N
    · have hj1 : (j : Int) < (N : Int) := by omega
      obtain ⟨B, o, rfl, hB, hx⟩ := (HN.out.below hbel).cellAt j (by rw [hln]; omega)
      have hx2 : wr.cell? ⟨B, o + j, none⟩ = some (.int .i64 (ns[j]'(by omega))) := by rw [hx]; simp [intsV]
      have hmem : ns[j]'(by omega) ∈ ns := List.getElem_mem _
      have hbd := HO.out _ hmem
      have htk : ns.take (j + 1) = ns.take j ++ [ns[j]'(by omega)] := by rw [List.take_add_one, List.getElem?_eq_getElem (by omega)]; rfl
      have hl1 := lebInts_len (ns.take j) (fun n hn => HO.out n (List.mem_of_mem_take hn))
      have hl2 := lebInt_len (ns[j]'(by omega)) hbd.1 hbd.2
      have HTK := Lib.hid htk
      have HLL := Lib.hid (show (lebInts (ns.take j)).length ≤ 10 * 1000 ∧ (lebInt (ns[j]'(by omega))).length ≤ 10 from ⟨by rw [List.length_take] at hl1; omega, hl2⟩)
      have HRI := Lib.hid (RInt_c (ns[j]'(by omega)) wr hbd.1 hbd.2)
      clear ho hbel hx hmem htk hl1 hl2
      generalize ns[j]'(by omega) = z at *
      obtain ⟨L, hL⟩ : ∃ L, lebInts (ns.take j) = L := ⟨_, rfl⟩
      rw [hL] at HS HLL ⊢
      have HLE := Lib.hid hL
      clear hL
      have HTL : Hid (lebInts (ns.take (j + 1)) = L ++ lebInt z) := Lib.hid (by rw [HTK.out, lebInts_snoc, HLE.out])
      go_wp2_with (first | (go_at_call 67; (with_reducible refine (HRI.out).mono ?_); rintro e w5 ⟨vr, rfl, hown5, hb5⟩; have HR5 := Lib.hid (RowAt.ofOwns hown5); obtain ⟨ra, rc, rfl⟩ := (RowAt.ofOwns hown5).shapeB; have HS5 := Lib.hid (own_belowE HS.out hb5); have HB5 := Lib.hid (HB.out.trans (hb5.mono HB.out.size)); clear hown5 hb5) | (at_builtin; refine wp_appRow elemB rfl _ _ rfl w.heap.size L.length _ (bytesV L) rfl HS5.out _ (bytesV (lebInt z)) rfl HR5.out (bytesV_one _) (by rw [bytesV_length]; have := HLL.out; omega) (by rw [bytesV_length]; have := HLL.out; omega) HB5.out.size ?_; intro v7 w7 hown7 hb7; rw [show L.length + (bytesV (lebInt z)).length = (lebInts (ns.take (j + 1))).length from by rw [HTL.out, List.length_append, bytesV_length], ← bytesV_append, ← HTL.out] at hown7; obtain ⟨va7, vc7, rfl⟩ := owns_shape hown7; have HO7 := Lib.hid hown7; have HB7 := Lib.hid (HB5.out.trans hb7); clear hown7 hb7) | fail)
      exact ⟨⟨j + 1, va7, vc7, rfl, hj, rfl, HO7.out, HB7.out⟩, by simp [intOf]; omega⟩
    · have hj1 : ¬ (j : Int) < (N : Int) := by omega
      have ht : ns.take j = ns := List.take_of_length_le (by omega)
      rw [ht] at HS ⊢
      clear ho hbel
      go_wp2_with fail
      go_ret
      exact ⟨_, rfl, HS.out, HB.out⟩
end Go.Proofs.YtlllbacjdjllbaaDoor
