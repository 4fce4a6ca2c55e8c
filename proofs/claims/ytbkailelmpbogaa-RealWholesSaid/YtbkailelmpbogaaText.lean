import Derived.Test.YtbkailelmpbogaaReal
import Derived.Test.YtbkailelmpbogaaBase
namespace Go.Proofs.Ytbkailelmpbogaa
open Go Go.RowKit

def hexd (d : Nat) : UInt8 := if d < 10 then (48 + d).toUInt8 else (87 + d).toUInt8
def digs : Nat → Nat → List UInt8
  | 0, _ => []
  | n + 1, k => hexd (k / 16 ^ n % 16) :: digs n k
def cellsT (k i : Nat) : List Value := List.replicate (16 - i) (.int .u8 0) ++ (digs i k).map (fun d => .int .u8 (d.toNat : Int))

theorem digs_length (n k : Nat) : (digs n k).length = n := by induction n with | zero => rfl | succ n ih => simp [digs, ih]
theorem hexd_get : ∀ d : Fin 16, ((⟨#[48, 49, 50, 51, 52, 53, 54, 55, 56, 57, 97, 98, 99, 100, 101, 102]⟩ : ByteArray)[d.val]'d.isLt) = hexd d.val := by decide +kernel
theorem cellsT_get (K k : Nat) (h : k < 16) : (cellsT K k)[15 - k]? = some (.int .u8 0) := by
  unfold cellsT
  rw [List.getElem?_append_left (by simp; omega), List.getElem?_replicate, if_pos (by omega)]
theorem cellsT_set (K k : Nat) (h : k < 16) : (cellsT K k).set (15 - k) (.int .u8 ((hexd (K / 16 ^ k % 16)).toNat : Int)) = cellsT K (k + 1) := by
  unfold cellsT
  rw [List.set_append_left _ _ (by simp; omega)]
  simp only [digs, List.map_cons]
  obtain ⟨m, hm⟩ : ∃ m, 15 - k = m := ⟨_, rfl⟩
  rw [show 16 - k = m + 1 from by omega, show 16 - (k + 1) = m from by omega, hm, List.replicate_succ', List.set_append_right _ _ (by simp)]
  simp
theorem shr_and (K k : Nat) (h : K < W64) : bits .and .u64 ((K : Int) / 2 ^ (4 * k)) 15 = ((K / 16 ^ k % 16 : Nat) : Int) := by
  have e : (2 : Int) ^ (4 * k) = ((16 ^ k : Nat) : Int) := by
    rw [show (16 : Nat) = 2 ^ 4 from rfl, ← Nat.pow_mul]; simp
  rw [e, ← Int.natCast_ediv]
  have hl : K / 16 ^ k < 18446744073709551616 := Nat.lt_of_le_of_lt (Nat.div_le_self _ _) h
  have := u64_and_nat (K / 16 ^ k) 15 hl (by omega)
  rw [show ((15 : Nat) : Int) = 15 from rfl] at this
  rw [this, nat_mask4]
theorem text_back (K : Nat) (w : World) : (convert 48 9 (.slice (some ⟨w.heap.size, 0, none⟩) 16 16)).run Try.prog (w.alloc (.cells (cellsT K 16).toArray 5)) = .ok (.string ⟨(digs 16 K).toArray⟩) (w.alloc (.cells (cellsT K 16).toArray 5)) := by
  have h := run_convert_bytes_back (P := Try.prog) (w.alloc (.cells (cellsT K 16).toArray 5)) 48 9 5 ⟨w.heap.size, 0, none⟩ 16 (digs 16 K) Try.underlying48 Try.underlying5 Try.underlying9 (fun j hj => by
    have e : (⟨w.heap.size, 0, none⟩ : Addr).add j = ⟨w.heap.size, j, none⟩ := by cases j <;> simp [Addr.add]
    rw [e, World.cell?_alloc_mark]
    simp [cellsT, List.getElem?_eq_getElem hj])
  rw [digs_length] at h
  exact h
set_option maxHeartbeats 400000 in
theorem Text_c (b : Nat) (hb : b < W64) (w : World) :
    Calls Try.prog 22 #[.float .f64 b] w fun e w' => e = .returned (.string ⟨(digs 16 (keyN b)).toArray⟩) ∧ Below w.heap.size w w' := by
  have hk := keyN_lt hb
  have HK : Hid (keyN b < W64) := hk
  clear hk
  have hmk : ∀ w, (Instr.makeSlice 48 (.int .i64 16) (.int .i64 16)).run Try.prog w = .ok (.slice (some ⟨w.heap.size, 0, none⟩) 16 16) (w.alloc (.cells #[.int .u8 0, .int .u8 0, .int .u8 0, .int .u8 0, .int .u8 0, .int .u8 0, .int .u8 0, .int .u8 0, .int .u8 0, .int .u8 0, .int .u8 0, .int .u8 0, .int .u8 0, .int .u8 0, .int .u8 0, .int .u8 0] 5)) := fun _ => by kernel_rfl
  go_enter Try.func22, Try.ntmps22
  go_wp2_with (first | (go_at_call 18; (with_reducible refine (Key_c _ (by assumption) _).mono ?_); rintro e w' ⟨rfl, rfl⟩))
  generalize hKe : keyN b = K at *
  have HE := Lib.hid hKe; clear hKe
  go_loopw [11] (fun i wr => ∃ k : Nat, k ≤ 16 ∧ i = .int .i64 k ∧ wr = w.alloc (.cells (cellsT K k).toArray 5)) (fun i _ => 16 - (intOf i).toNat)
  case atStart => exact ⟨0, by omega, rfl, rfl⟩
  case round =>
    obtain ⟨k, hk, rfl, rfl⟩ := hrel
    by_cases hlt : k < 16
    · have hx := shr_and K k HK.out
      have hd : K / 16 ^ k % 16 < 16 := Nat.mod_lt _ (by omega)
      have hg := hexd_get ⟨_, hd⟩
      have hc := cellsT_get K k hlt
      have HS := Lib.hid (cellsT_set K k hlt)
      simp only at hg
      generalize K / 16 ^ k % 16 = d at *
      clear hb hmk
      go_wp2
      go_roundw
      case rel => exact ⟨k + 1, by omega, by go_num, by rw [HS.out]⟩
      case measure => simp [intOf]; omega
    · obtain rfl : k = 16 := by omega
      have hcv := text_back K w
      clear hmk
      go_wp2
      go_ret
      exact ⟨by rw [HE.out]; rfl, (Below.refl _ _).alloc (Nat.le_refl _) _⟩

def topd : Nat → Nat → List UInt8
  | 0, _ => []
  | j + 1, k => topd j k ++ [hexd (k / 16 ^ (15 - j) % 16)]
theorem topd_length (j k : Nat) : (topd j k).length = j := by induction j with | zero => rfl | succ n ih => simp [topd, ih]
theorem topd_all (k : Nat) : topd 16 k = digs 16 k := rfl
theorem hex_cut : ∀ d : Fin 16, (⟨#[48, 49, 50, 51, 52, 53, 54, 55, 56, 57, 97, 98, 99, 100, 101, 102]⟩ : ByteArray).extract d.val (d.val + 1) = ⟨[hexd d.val].toArray⟩ := by decide +kernel

set_option maxHeartbeats 400000 in
theorem RText_c (b : Nat) (hb : b < W64) (w : World) :
    Calls Try.prog 32 #[.float .f64 b] w fun e w' => e = .returned (.string ⟨(digs 16 (keyN b)).toArray⟩) ∧ w = w' := by
  have hk := keyN_lt hb
  have HK : Hid (keyN b < W64) := hk
  clear hk
  go_enter Try.func32, Try.ntmps32
  go_wp2_with (first | (go_at_call 29; (with_reducible refine (RKey_c _ (by assumption) _).mono ?_); rintro e w' ⟨rfl, rfl⟩))
  generalize hKe : keyN b = K at *
  have HE := Lib.hid hKe; clear hKe
  clear hb
  go_loop [5, 6] (fun s i => ∃ j : Nat, j ≤ 16 ∧ i = .int .i64 (15 - (j : Int)) ∧ s = .string ⟨(topd j K).toArray⟩) (fun _ i => (intOf i + 1).toNat)
  case atStart => exact ⟨0, by omega, rfl, rfl⟩
  case round =>
    obtain ⟨j, hj, rfl, rfl⟩ := hrel
    by_cases hlt : j < 16
    · obtain ⟨k, hk⟩ : ∃ k, k + j = 15 := ⟨15 - j, by omega⟩
      obtain rfl : j = 15 - k := by omega
      have hx := shr_and K k HK.out
      have hd : K / 16 ^ k % 16 < 16 := Nat.mod_lt _ (by omega)
      have hg := hex_cut ⟨_, hd⟩
      have hl := topd_length (15 - k) K
      have e1 : (15 : Int) - ((15 - k : Nat) : Int) = (k : Int) := by omega
      have HS := Lib.hid (show topd (15 - k + 1) K = topd (15 - k) K ++ [hexd (K / 16 ^ k % 16)] by simp only [topd]; rw [show 15 - (15 - k) = k from by omega])
      simp only at hg
      generalize K / 16 ^ k % 16 = d at *
      rw [e1]
      have hz : (topd (15 - k) K).length ≤ 15 := by omega
      clear e1 hl
      go_wp2
      go_round
      case rel => exact ⟨15 - k + 1, by omega, by go_num, by rw [HS.out]; exact congrArg Value.string (ByteArray.mk_append_mk (topd (15 - k) K) [hexd d])⟩
      case measure => simp [intOf]
    · obtain rfl : j = 16 := by omega
      go_wp2
      go_ret
      exact ⟨by rw [HE.out]; rfl, rfl⟩
/-! the texts stand as the keys do -/
theorem hexd_lt : ∀ a b : Fin 16, decide (hexd a.val < hexd b.val) = decide (a.val < b.val) := by decide +kernel
theorem hexd_eq : ∀ a b : Fin 16, (hexd a.val == hexd b.val) = decide (a.val = b.val) := by decide +kernel
theorem lex_pair (p u v x y : Nat) (la : x < p) (lb : y < p) : (decide (u < v) || decide (u = v) && decide (x < y)) = decide (p * u + x < p * v + y) := by
  rcases Nat.lt_trichotomy u v with h | h | h
  · have : p * (u + 1) ≤ p * v := Nat.mul_le_mul_left _ h
    rw [Nat.mul_add, Nat.mul_one] at this
    have q : p * u + x < p * v + y := by omega
    simp [h, q]
  · subst h; simp
  · have : p * (v + 1) ≤ p * u := Nat.mul_le_mul_left _ h
    rw [Nat.mul_add, Nat.mul_one] at this
    have q : ¬ p * u + x < p * v + y := by omega
    have h' : ¬ u < v := by omega
    have h'' : ¬ u = v := by omega
    simp [h', h'', q]
theorem digs_less (n : Nat) : ∀ a b : Nat, Op.bytesLess (digs n a) (digs n b) = decide (a % 16 ^ n < b % 16 ^ n) := by
  induction n with
  | zero => intro a b; simp [digs, Op.bytesLess, Nat.mod_one]
  | succ n ih =>
    intro a b
    have h1 := hexd_lt ⟨a / 16 ^ n % 16, Nat.mod_lt _ (by omega)⟩ ⟨b / 16 ^ n % 16, Nat.mod_lt _ (by omega)⟩
    have h2 := hexd_eq ⟨a / 16 ^ n % 16, Nat.mod_lt _ (by omega)⟩ ⟨b / 16 ^ n % 16, Nat.mod_lt _ (by omega)⟩
    simp only at h1 h2
    simp only [digs, Op.bytesLess]
    rw [h1, h2, ih]
    have e : ∀ x : Nat, x % 16 ^ (n + 1) = 16 ^ n * (x / 16 ^ n % 16) + x % 16 ^ n := by
      intro x; rw [Nat.pow_succ, Nat.mod_mul]; omega
    rw [e a, e b]
    clear h1 h2
    have la : a % 16 ^ n < 16 ^ n := Nat.mod_lt _ (Nat.pow_pos (by omega))
    have lb : b % 16 ^ n < 16 ^ n := Nat.mod_lt _ (Nat.pow_pos (by omega))
    exact lex_pair _ _ _ _ _ la lb
theorem less_irrefl (l : List UInt8) : Op.bytesLess l l = false := by
  induction l with
  | nil => rfl
  | cons a l ih => simp [Op.bytesLess, ih]
theorem text_less {a b : Nat} (ha : a < W64) (hb : b < W64) : Op.bytesLess (digs 16 a) (digs 16 b) = decide (a < b) := by
  rw [digs_less, show (16 : Nat) ^ 16 = W64 from by decide +kernel, Nat.mod_eq_of_lt ha, Nat.mod_eq_of_lt hb]
theorem text_eq {a b : Nat} (ha : a < W64) (hb : b < W64) : (digs 16 a == digs 16 b) = decide (a = b) := by
  by_cases h : a = b
  · subst h; simp
  · have hne : digs 16 a ≠ digs 16 b := by
      intro he
      have h1 := text_less ha hb
      have h2 := text_less hb ha
      rw [he, less_irrefl] at h1
      rw [he, less_irrefl] at h2
      simp at h1 h2
      omega
    simp [h, hne]
end Go.Proofs.Ytbkailelmpbogaa
