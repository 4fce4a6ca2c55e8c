
/- The reference's Real: the bytes of a number's key. -/
import Derived.Test.YtmbffncmogpkfaaGreatDoorLeb
namespace Go.Proofs.YtmbffncmogpkfaaGreatDoor
open Go Go.RowKit
set_option linter.unusedVariables false

set_option maxRecDepth 100000 in
set_option maxHeartbeats 1000000 in
theorem RReal_c (f : Nat) (w : World) (hf : f < W64) : Calls Tryz.prog 21 #[.float .f64 f] w (OwnB w (lebReal f)) := by
  have HK := Lib.hid (keyN_lt hf)
  go_enter Tryz.func21, Tryz.ntmps21
  go_wp2_with (first | (go_at_call 47; (with_reducible refine (RKey_c _ (by assumption) _).mono ?_); rintro e w' ⟨rfl, rfl⟩))
  generalize hK : keyN f = K at *
  have HKE := Lib.hid (show lebReal f = beL 8 K by rw [← hK]; rfl)
  clear hK hf
  go_loopw [4, 5] (fun v i wr => ∃ j : Nat, j ≤ 8 ∧ i = .int .i64 (7 - (j : Int)) ∧ wr.ownsRow w.heap.size 5 1 v ((beL 8 K).take j).length (bytesV ((beL 8 K).take j)) ∧ Below w.heap.size w wr) (fun _ i _ => (intOf i + 1).toNat)
  case atStart => exact ⟨0, by omega, rfl, owns_nil _ _ _, Below.refl _ _⟩
  case round =>
    obtain ⟨j, hj, rfl, hown, hbw⟩ := hrel
    by_cases hj8 : j < 8
    · have hg : (beL 8 K)[j]'(by rw [beL_length]; exact hj8) = (K / 256 ^ (7 - j)).toUInt8 := beL_get 8 K j (by rw [beL_length]; exact hj8)
      have ht := take_snoc' (beL 8 K) j (by rw [beL_length]; exact hj8)
      rw [hg] at ht
      obtain ⟨m, hm⟩ : ∃ m, m + j = 7 := ⟨7 - j, by omega⟩
      have e1 : (7 : Int) - (j : Int) = (m : Int) := by omega
      have hv : byteV ((K / 256 ^ (7 - j)).toUInt8) = .int .u8 ((K : Int) / 2 ^ (8 * m) % 256) := by
        unfold byteV
        rw [show 7 - j = m from by omega, show ((K / 256 ^ m).toUInt8).toNat = K / 256 ^ m % 256 from by simp [Nat.toUInt8]]
        rw [show (2 : Int) ^ (8 * m) = ((256 ^ m : Nat) : Int) from by rw [show (256 : Nat) = 2 ^ 8 from rfl, ← Nat.pow_mul]; simp]
        simp
      have hln : ((beL 8 K).take j).length ≤ 8 := by rw [List.length_take, beL_length]; omega
      have hb3 := Lib.hid hln
      have HT := Lib.hid ht
      have HV := Lib.hid hv
      have hbs := hbw.size
      have HM := Lib.hid hm
      clear ht hv hg hln
      generalize hX : (beL 8 K).take j = X at *
      have HX := Lib.hid hX
      clear hX
      rw [e1]
      have hm7 : m ≤ 7 := by omega
      clear e1 hm
      go_wp2_with (at_builtin; refine wp_app1 elemB rfl _ _ rfl w.heap.size _ _ _ rfl hown _ rfl rfl ?c1 ?c2 ?c3 ?_)
      case c1 => have := hb3.out; omega
      case c2 => have := hb3.out; omega
      case c3 => exact hbs
      intro v' w2 hown2 hb2 _
      have hown3 : w2.ownsRow w.heap.size 5 1 v' ((beL 8 K).take (j + 1)).length (bytesV ((beL 8 K).take (j + 1))) := by
        rw [HT.out, List.length_append, bytesV_append]
        simp only [bytesV, List.map_cons, List.map_nil, HV.out]
        exact hown2
      have HO3 := Lib.hid hown3
      clear hown2 hown3 hown
      go_wp2
      go_roundw
      case rel => exact ⟨j + 1, by omega, by have := HM.out; go_num, HO3.out, hbw.trans hb2⟩
      case measure => simp [intOf]
    · have hk' : (beL 8 K).take j = beL 8 K := List.take_of_length_le (by rw [beL_length]; omega)
      rw [hk'] at hown
      have hown3 : wr.ownsRow w.heap.size 5 1 u4 (lebReal f).length (bytesV (lebReal f)) := by rw [HKE.out]; exact hown
      have HO3 := Lib.hid hown3
      obtain rfl : j = 8 := by omega
      clear hown hown3 hk'
      go_wp2_with fail
      go_ret
      exact ⟨_, rfl, HO3.out, hbw⟩
end Go.Proofs.YtmbffncmogpkfaaGreatDoor
