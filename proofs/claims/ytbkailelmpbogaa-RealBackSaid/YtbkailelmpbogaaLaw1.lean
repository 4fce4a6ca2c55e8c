/- The walks of the laws on package real (part 1). -/
import Derived.Test.YtbkailelmpbogaaReal
import Derived.Test.YtbkailelmpbogaaBase
namespace Go.Proofs.Ytbkailelmpbogaa
open Go Go.RowKit

set_option maxHeartbeats 400000 in
theorem known_c (w : World) : Calls Try.prog 16 #[] w fun e w' => e = .returned (.bool true) ∧ w = w' := by
  go_enter Try.func16, Try.ntmps16
  go_wp2_with fail
  with_reducible refine (Key_c 0 (by decide) _).mono ?_
  rintro e w' ⟨rfl, rfl⟩
  rw [key_zero]
  go_wp2_with fail
  with_reducible refine (Copysign_c _).mono ?_
  rintro e w' ⟨rfl, rfl⟩
  go_wp2_with fail
  with_reducible refine (Key_c topBit (by decide) _).mono ?_
  rintro e w' ⟨rfl, rfl⟩
  rw [key_nzero]
  go_wp2_with fail
  with_reducible refine (Key_c 4607182418800017408 (by decide) _).mono ?_
  rintro e w' ⟨rfl, rfl⟩
  rw [key_one]
  go_wp2_with fail
  go_ret
  exact ⟨rfl, rfl⟩

set_option maxHeartbeats 400000 in
theorem RealBack_walk (a0 : Int) (w0 : (Lit.int .u64 a0).wf = true) (w : World) :
    Calls Try.prog 4 #[.int .u64 a0] w fun e w' => e = .returned (.bool true) ∧ Below w.heap.size w w' := by
  obtain ⟨n, rfl, hn⟩ := u64_nat w0
  have hN : n < W64 := hn
  have ho := ofN_key hN
  have hnn := normN_norm n
  have hk := keyN_lt hN
  clear hn w0
  go_enter Try.func4, Try.ntmps4
  go_wp2_with (first | (go_at_call 18; (with_reducible refine (Key_c _ (by assumption) _).mono ?_); rintro e w' ⟨rfl, rfl⟩) | (go_at_call 17; (with_reducible refine (Of_c _ (by assumption) _).mono ?_); rintro e w' ⟨rfl, rfl⟩) | (go_at_call 19; (with_reducible refine (RNorm_c _ _).mono ?_); rintro e w' ⟨rfl, rfl⟩) | (go_at_call 13; (with_reducible refine (Same_c _ _ _).mono ?_); rintro e w' ⟨rfl, rfl⟩) | (go_at_call 20; (with_reducible refine (Norm_c _ _).mono ?_); rintro e w' ⟨rfl, rfl⟩) | (go_at_call 16; (with_reducible refine (known_c _).mono ?_); rintro e w' ⟨rfl, rfl⟩))
  go_ret
  exact ⟨rfl, Below.refl _ _⟩
end Go.Proofs.Ytbkailelmpbogaa
