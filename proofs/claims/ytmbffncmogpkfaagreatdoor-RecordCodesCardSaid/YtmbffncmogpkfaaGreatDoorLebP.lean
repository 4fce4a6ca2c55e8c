
/- Plain facts on numbers as bytes (chapter 3): what a byte list reads as, that it is read in one way only. No program in sight. -/
import Derived.Test.YtmbffncmogpkfaaGreatDoorFl
import Derived.Lib.Varint
import Derived.Lib.Zigzag
namespace Go.Proofs.YtmbffncmogpkfaaGreatDoor
open Go Go.RowKit

/-- the number that bytes bear, seven bits each, the least first. -/
def valL : List UInt8 → Nat
  | [] => 0
  | b :: t => b.toNat % 128 + 128 * valL t
def lebInt (n : Int) : List UInt8 := Lib.uvarint (Lib.zigzag n)
def lebInts (ns : List Int) : List UInt8 := ns.flatMap lebInt
def lebStr (s : List UInt8) : List UInt8 := lebInt (s.length : Int) ++ s
def lebStrs (ss : List (List UInt8)) : List UInt8 := ss.flatMap lebStr
/-- n bytes of a number, the greatest first. -/
def beL : Nat → Nat → List UInt8
  | 0, _ => []
  | n + 1, k => (k / 256 ^ n).toUInt8 :: beL n k
def lebReal (f : Nat) : List UInt8 := beL 8 (keyN f)
def lebReals (fs : List Nat) : List UInt8 := fs.flatMap lebReal
/-- the number back out of a zig-zag. -/
def unzig (z : Nat) : Int := if z % 2 = 0 then ((z / 2 : Nat) : Int) else -((z / 2 : Nat) : Int) - 1

theorem unzig_zig (n : Int) : unzig (Lib.zigzag n) = n := by
  unfold unzig Lib.zigzag
  split <;> split at * <;> omega
theorem zig_unzig (z : Nat) : Lib.zigzag (unzig z) = z := by
  unfold unzig Lib.zigzag
  split <;> split <;> omega
theorem unzig_bd {z : Nat} (h : z < W64) : -9223372036854775808 ≤ unzig z ∧ unzig z ≤ 9223372036854775807 := by
  unfold unzig; unfold W64 at h
  split <;> omega

theorem u8_of_lt {n : Nat} (h : n < 256) : (n.toUInt8).toNat = n := by
  simp [Nat.toUInt8, Nat.mod_eq_of_lt h]

/-- the bytes of a number: high ones, then a low one, which is not nought if another stands ahead. -/
theorem uv_form : ∀ z : Nat, ∃ pre x, Lib.uvarint z = pre ++ [x] ∧ (∀ b ∈ pre, 128 ≤ b.toNat) ∧ x.toNat < 128 ∧ valL (Lib.uvarint z) = z ∧ (pre ≠ [] → x.toNat ≠ 0) := by
  intro z
  induction z using Nat.strongRecOn with
  | ind z ih =>
    by_cases h : z < 128
    · rw [Lib.uvarint_small h]
      have e : (z.toUInt8).toNat = z := u8_of_lt (by omega)
      refine ⟨[], z.toUInt8, rfl, by simp, by omega, ?_, by simp⟩
      simp only [valL, e]; omega
    · rw [Lib.uvarint_big (by omega)]
      obtain ⟨pre, x, h1, h2, h3, h4, h5⟩ := ih (z / 128) (by omega)
      have e : ((z % 128 + 128).toUInt8).toNat = z % 128 + 128 := u8_of_lt (by omega)
      refine ⟨(z % 128 + 128).toUInt8 :: pre, x, by rw [h1]; rfl, ?_, h3, ?_, ?_⟩
      · intro b hb
        rcases List.mem_cons.1 hb with rfl | hb
        · omega
        · exact h2 b hb
      · simp only [valL, e, h4]; omega
      · intro _
        by_cases hp : pre = []
        · subst hp
          rw [h1] at h4
          simp [valL] at h4
          omega
        · exact h5 hp
theorem valL_uv (z : Nat) : valL (Lib.uvarint z) = z := by
  obtain ⟨_, _, _, _, _, h, _⟩ := uv_form z; exact h

theorem uv_of : ∀ (pre : List UInt8) (x : UInt8), (∀ b ∈ pre, 128 ≤ b.toNat) → x.toNat < 128 → (pre ≠ [] → x.toNat ≠ 0) → Lib.uvarint (valL (pre ++ [x])) = pre ++ [x]
  | [], x, _, h2, _ => by
    have e : valL ([] ++ [x]) = x.toNat := by simp [valL]; omega
    rw [e, Lib.uvarint_small h2]
    simp
  | b :: pre, x, h1, h2, h3 => by
    have hb := h1 b (by simp)
    have hb2 : b.toNat < 256 := UInt8.toNat_lt b
    have hx := h3 (by simp)
    have hpos : 0 < valL (pre ++ [x]) := by
      clear h1 h3 hb hb2
      induction pre with
      | nil => simp [valL]; omega
      | cons c pre ih => simp only [List.cons_append, valL]; omega
    have e : valL (b :: pre ++ [x]) = b.toNat % 128 + 128 * valL (pre ++ [x]) := rfl
    rw [e, Lib.uvarint_big (by omega)]
    have e1 : (b.toNat % 128 + 128 * valL (pre ++ [x])) / 128 = valL (pre ++ [x]) := by omega
    have e2 : (b.toNat % 128 + 128 * valL (pre ++ [x])) % 128 = b.toNat % 128 := by omega
    rw [e1, e2, uv_of pre x (fun c hc => h1 c (by simp [hc])) h2 (fun _ => hx)]
    have e3 : b.toNat % 128 + 128 = b.toNat := by omega
    rw [e3]
    simp

/-- the first low byte stands at one place. -/
theorem first_low : ∀ (a b : List UInt8) (x y : UInt8) (r t : List UInt8), (∀ c ∈ a, 128 ≤ c.toNat) → (∀ c ∈ b, 128 ≤ c.toNat) → x.toNat < 128 → y.toNat < 128 → a ++ x :: r = b ++ y :: t → a = b ∧ x = y ∧ r = t
  | [], [], x, y, r, t, _, _, _, _, h => by simp at h; exact ⟨rfl, h.1, h.2⟩
  | [], c :: b, x, y, r, t, _, h2, hx, _, h => by
    simp at h
    have := h2 c (by simp)
    rw [← h.1] at this; omega
  | c :: a, [], x, y, r, t, h1, _, _, hy, h => by
    simp at h
    have := h1 c (by simp)
    rw [h.1] at this; omega
  | c :: a, d :: b, x, y, r, t, h1, h2, hx, hy, h => by
    simp at h
    obtain ⟨e1, e2, e3⟩ := first_low a b x y r t (fun c hc => h1 c (by simp [hc])) (fun c hc => h2 c (by simp [hc])) hx hy h.2
    exact ⟨by rw [h.1, e1], e2, e3⟩

/-- what may be read as a number ahead of a rest. -/
def Dec (l : List UInt8) : Option (Nat × List UInt8) → Prop
  | some (z, r) => z < W64 ∧ l = Lib.uvarint z ++ r
  | none => ∀ z r, z < W64 → l ≠ Lib.uvarint z ++ r

theorem uv_inj {z z' : Nat} {r r' : List UInt8} (h : Lib.uvarint z ++ r = Lib.uvarint z' ++ r') : z = z' ∧ r = r' := by
  obtain ⟨p, x, h1, h2, h3, h4, _⟩ := uv_form z
  obtain ⟨p', x', g1, g2, g3, g4, _⟩ := uv_form z'
  rw [h1, g1, List.append_assoc, List.append_assoc] at h
  obtain ⟨e1, e2, e3⟩ := first_low p p' x x' r r' h2 g2 h3 g3 h
  rw [h1, e1, e2, ← g1, g4] at h4
  exact ⟨h4.symm, e3⟩
theorem Dec.unique {l : List UInt8} {a b : Option (Nat × List UInt8)} (ha : Dec l a) (hb : Dec l b) : a = b := by
  cases a with
  | none =>
    cases b with
    | none => rfl
    | some q => obtain ⟨z, r⟩ := q; exact absurd hb.2 (ha z r hb.1)
  | some p =>
    obtain ⟨z, r⟩ := p
    cases b with
    | none => exact absurd ha.2 (hb z r ha.1)
    | some q =>
      obtain ⟨z', r'⟩ := q
      have := ha.2.symm.trans hb.2
      obtain ⟨e1, e2⟩ := uv_inj this
      rw [e1, e2]

/-- THE READING of bytes as a number. -/
def decU (l : List UInt8) : Option (Nat × List UInt8) :=
  let pre := l.takeWhile (fun b => decide (128 ≤ b.toNat))
  match l.drop pre.length with
  | [] => none
  | x :: r => if valL (pre ++ [x]) < W64 ∧ (pre ≠ [] → x.toNat ≠ 0) then some (valL (pre ++ [x]), r) else none

theorem dec_some {pre : List UInt8} {x : UInt8} {r : List UInt8} (h1 : ∀ b ∈ pre, 128 ≤ b.toNat) (h2 : x.toNat < 128) (h3 : pre ≠ [] → x.toNat ≠ 0) (h4 : valL (pre ++ [x]) < W64) :
    Dec (pre ++ x :: r) (some (valL (pre ++ [x]), r)) :=
  ⟨h4, by rw [uv_of pre x h1 h2 h3]; simp⟩
theorem dec_short {pre : List UInt8} (h1 : ∀ b ∈ pre, 128 ≤ b.toNat) : Dec pre none := by
  intro z r _ h
  obtain ⟨p, x, e1, _, e3, _, _⟩ := uv_form z
  rw [e1] at h
  have : x ∈ pre := by rw [h]; simp
  have := h1 x this
  omega
theorem dec_zero {pre : List UInt8} {x : UInt8} {r : List UInt8} (h1 : ∀ b ∈ pre, 128 ≤ b.toNat) (hp : pre ≠ []) (hx : x.toNat = 0) : Dec (pre ++ x :: r) none := by
  intro z t _ h
  obtain ⟨p, y, e1, e2, e3, _, e5⟩ := uv_form z
  rw [e1, List.append_assoc] at h
  obtain ⟨a, b, _⟩ := first_low pre p x y r t h1 e2 (by omega) e3 h
  subst a; subst b
  exact e5 hp hx
theorem dec_big {pre : List UInt8} {x : UInt8} {r : List UInt8} (h1 : ∀ b ∈ pre, 128 ≤ b.toNat) (h2 : x.toNat < 128) (h4 : ¬ valL (pre ++ [x]) < W64) : Dec (pre ++ x :: r) none := by
  intro z t hz h
  obtain ⟨p, y, e1, e2, e3, e4, e5⟩ := uv_form z
  rw [e1, List.append_assoc] at h
  obtain ⟨a, b, _⟩ := first_low pre p x y r t h1 e2 h2 e3 h
  subst a; subst b
  rw [e1] at e4
  omega
/-- more high bytes than a number of 64 digits has. -/
theorem valL_ge : ∀ (pre : List UInt8) (x : UInt8), x.toNat < 128 → (pre ≠ [] → x.toNat ≠ 0) → pre ≠ [] → 128 ^ pre.length ≤ valL (pre ++ [x])
  | [], _, _, _, h => absurd rfl h
  | [b], x, hx, h0, _ => by
    have := h0 (by simp)
    simp [valL]; omega
  | b :: c :: pre, x, hx, h0, _ => by
    have ih := valL_ge (c :: pre) x hx (fun _ => h0 (by simp)) (by simp)
    have e : valL (b :: c :: pre ++ [x]) = b.toNat % 128 + 128 * valL (c :: pre ++ [x]) := rfl
    rw [e, List.length_cons, Nat.pow_succ]
    omega
theorem dec_long {pre : List UInt8} {rest : List UInt8} (h1 : ∀ b ∈ pre, 128 ≤ b.toNat) (hl : 10 ≤ pre.length) : Dec (pre ++ rest) none := by
  intro z t hz h
  obtain ⟨p, y, e1, e2, e3, e4, e5⟩ := uv_form z
  rw [e1, List.append_assoc] at h
  -- the low byte lies behind pre
  have hlen : pre.length ≤ p.length := by
    rcases Nat.lt_or_ge p.length pre.length with hlt | hge
    · exfalso
      have g1 : (pre ++ rest)[p.length]? = some y := by rw [h, List.getElem?_append_right (by omega)]; simp
      rw [List.getElem?_append_left hlt] at g1
      have hm : y ∈ pre := List.mem_of_getElem? g1
      have := h1 y hm
      omega
    · exact hge
  have hp : p ≠ [] := by intro hp; rw [hp] at hlen; simp at hlen; rw [hlen] at hl; simp at hl
  have hv := valL_ge p y e3 e5 hp
  rw [← e1, e4] at hv
  have : 128 ^ 10 ≤ 128 ^ p.length := Nat.pow_le_pow_right (by omega) (by omega)
  have e10 : (128 : Nat) ^ 10 = 1180591620717411303424 := by decide +kernel
  unfold W64 at hz
  omega

theorem takeWhile_split (l : List UInt8) : ∃ rest, l = l.takeWhile (fun b => decide (128 ≤ b.toNat)) ++ rest ∧ l.drop (l.takeWhile (fun b => decide (128 ≤ b.toNat))).length = rest ∧ (∀ b ∈ l.takeWhile (fun b => decide (128 ≤ b.toNat)), 128 ≤ b.toNat) ∧ (∀ x r, rest = x :: r → x.toNat < 128) := by
  induction l with
  | nil => exact ⟨[], by simp⟩
  | cons a l ih =>
    by_cases h : 128 ≤ a.toNat
    · obtain ⟨rest, h1, h2, h3, h4⟩ := ih
      have e : (a :: l).takeWhile (fun b => decide (128 ≤ b.toNat)) = a :: l.takeWhile (fun b => decide (128 ≤ b.toNat)) := by simp [h]
      refine ⟨rest, ?_, ?_, ?_, h4⟩
      · rw [e, List.cons_append, ← h1]
      · rw [e]; simpa using h2
      · rw [e]; intro b hb
        rcases List.mem_cons.1 hb with rfl | hb
        · exact h
        · exact h3 b hb
    · have e : (a :: l).takeWhile (fun b => decide (128 ≤ b.toNat)) = [] := by simp [h]
      exact ⟨a :: l, by rw [e]; simp, by rw [e]; rfl, by rw [e]; simp, by intro x r hx; simp at hx; rw [← hx.1]; omega⟩
theorem decU_dec (l : List UInt8) : Dec l (decU l) := by
  obtain ⟨rest, h1, h2, h3, h4⟩ := takeWhile_split l
  unfold decU
  generalize l.takeWhile (fun b => decide (128 ≤ b.toNat)) = pre at *
  simp only [h2]
  cases rest with
  | nil => simp only; rw [h1]; simpa using dec_short h3
  | cons x r =>
    have hx := h4 x r rfl
    simp only
    by_cases hc : valL (pre ++ [x]) < W64 ∧ (pre ≠ [] → x.toNat ≠ 0)
    · rw [if_pos hc, h1]; exact dec_some h3 hx hc.2 hc.1
    · rw [if_neg hc, h1]
      by_cases hv : valL (pre ++ [x]) < W64
      · have : ¬ (pre ≠ [] → x.toNat ≠ 0) := fun h => hc ⟨hv, h⟩
        have hp : pre ≠ [] := fun hp => this (fun h => absurd hp h)
        have hz : x.toNat = 0 := by
          rcases Nat.eq_zero_or_pos x.toNat with hz | hz
          · exact hz
          · exact absurd (fun _ => by omega) this
        exact dec_zero h3 hp hz
      · exact dec_big h3 hx hv
theorem decU_eq {l : List UInt8} {o : Option (Nat × List UInt8)} (h : Dec l o) : decU l = o := (decU_dec l).unique h
theorem decU_uv {z : Nat} (hz : z < W64) (r : List UInt8) : decU (Lib.uvarint z ++ r) = some (z, r) := decU_eq ⟨hz, rfl⟩
theorem zig_lt {n : Int} (h0 : -9223372036854775808 ≤ n) (h1 : n ≤ 9223372036854775807) : Lib.zigzag n < W64 := Lib.zigzag_lt h0 h1
theorem decU_int {n : Int} (h0 : -9223372036854775808 ≤ n) (h1 : n ≤ 9223372036854775807) (r : List UInt8) : decU (lebInt n ++ r) = some (Lib.zigzag n, r) := decU_uv (zig_lt h0 h1) r
theorem lebInt_len (n : Int) (h0 : -9223372036854775808 ≤ n) (h1 : n ≤ 9223372036854775807) : (lebInt n).length ≤ 10 := Lib.uvarint_length64 (zig_lt h0 h1)
theorem lebInt_pos (n : Int) : 1 ≤ (lebInt n).length := Lib.uvarint_pos _

/-- A CURSOR: none: it erred; some l: l is left. -/
abbrev Cur := Option (List UInt8)
def curInt : Cur → Int × Cur
  | none => (0, none)
  | some l => match decU l with
    | some (z, r) => (unzig z, some r)
    | none => (0, none)
def curTake (n : Int) : Cur → List UInt8 × Cur
  | none => ([], none)
  | some l => if 0 ≤ n ∧ n ≤ l.length then (l.take n.toNat, some (l.drop n.toNat)) else ([], none)
def curStr (c : Cur) : List UInt8 × Cur := curTake (curInt c).1 (curInt c).2
def beVal (l : List UInt8) : Nat := l.foldl (fun k b => k * 256 + b.toNat) 0
def curReal : Cur → Nat × Cur
  | none => (0, none)
  | some l => if 8 ≤ l.length then (if (ofN (beVal (l.take 8))).2 = true then ((ofN (beVal (l.take 8))).1, some (l.drop 8)) else (0, none)) else (0, none)

theorem beL_length (n k : Nat) : (beL n k).length = n := by induction n with | zero => rfl | succ n ih => simp [beL, ih]
theorem beVal_snoc (l : List UInt8) (b : UInt8) : beVal (l ++ [b]) = beVal l * 256 + b.toNat := by simp [beVal, List.foldl_append]
theorem beFold (l : List UInt8) : ∀ a : Nat, l.foldl (fun k b => k * 256 + b.toNat) a = a * 256 ^ l.length + beVal l := by
  induction l with
  | nil => intro a; simp [beVal]
  | cons b l ih =>
    intro a
    simp only [List.foldl_cons, List.length_cons]
    rw [ih, show beVal (b :: l) = l.foldl (fun k b => k * 256 + b.toNat) (0 * 256 + b.toNat) from rfl, ih]
    rw [Nat.pow_succ, Nat.zero_mul, Nat.zero_add, Nat.add_mul, Nat.mul_assoc, Nat.mul_comm 256]
    omega
theorem beVal_lt (l : List UInt8) : beVal l < 256 ^ l.length := by
  induction l with
  | nil => simp [beVal]
  | cons b l ih =>
    rw [show beVal (b :: l) = l.foldl (fun k b => k * 256 + b.toNat) (0 * 256 + b.toNat) from rfl, beFold, List.length_cons, Nat.pow_succ]
    have hb : b.toNat < 256 := UInt8.toNat_lt b
    have : (b.toNat + 1) * 256 ^ l.length ≤ 256 * 256 ^ l.length := Nat.mul_le_mul_right _ hb
    rw [Nat.add_mul, Nat.one_mul] at this
    rw [Nat.zero_mul, Nat.zero_add, Nat.mul_comm (256 ^ l.length) 256]
    omega
theorem beVal_beL (n : Nat) : ∀ k : Nat, beVal (beL n k) = k % 256 ^ n := by
  induction n with
  | zero => intro k; simp [beL, beVal, Nat.mod_one]
  | succ n ih =>
    intro k
    rw [show beL (n + 1) k = (k / 256 ^ n).toUInt8 :: beL n k from rfl]
    rw [show beVal ((k / 256 ^ n).toUInt8 :: beL n k) = (beL n k).foldl (fun k b => k * 256 + b.toNat) (0 * 256 + ((k / 256 ^ n).toUInt8).toNat) from rfl, beFold, ih, beL_length]
    have e : ((k / 256 ^ n).toUInt8).toNat = k / 256 ^ n % 256 := by simp [Nat.toUInt8]
    rw [e, Nat.zero_mul, Nat.zero_add, Nat.pow_succ, Nat.mod_mul, Nat.mul_comm (256 ^ n)]
    omega
theorem beL_beVal : ∀ l : List UInt8, beL l.length (beVal l) = l := by
  intro l
  induction l with
  | nil => rfl
  | cons b l ih =>
    have hv : beVal (b :: l) = b.toNat * 256 ^ l.length + beVal l := by
      rw [show beVal (b :: l) = l.foldl (fun k b => k * 256 + b.toNat) (0 * 256 + b.toNat) from rfl, beFold]; simp
    have hl := beVal_lt l
    have hp : 0 < 256 ^ l.length := Nat.pow_pos (by omega)
    have e1 : (b.toNat * 256 ^ l.length + beVal l) / 256 ^ l.length = b.toNat := by
      rw [Nat.add_comm, Nat.add_mul_div_right _ _ hp, Nat.div_eq_of_lt hl]; omega
    have hmod : ∀ (n k q : Nat), beL n (q * 256 ^ n + k) = beL n k := by
      intro n
      induction n with
      | zero => intros; rfl
      | succ n ihn =>
        intro k q
        have hq : 0 < 256 ^ n := Nat.pow_pos (by omega)
        have e3 : q * 256 ^ (n + 1) + k = (q * 256) * 256 ^ n + k := by rw [Nat.pow_succ, Nat.mul_assoc, Nat.mul_comm 256]
        rw [show beL (n + 1) (q * 256 ^ (n + 1) + k) = ((q * 256 ^ (n + 1) + k) / 256 ^ n).toUInt8 :: beL n (q * 256 ^ (n + 1) + k) from rfl, e3, ihn]
        have e4 : ((q * 256) * 256 ^ n + k) / 256 ^ n = q * 256 + k / 256 ^ n := by
          rw [Nat.add_comm, Nat.add_mul_div_right _ _ hq, Nat.add_comm]
        rw [e4]
        have e5 : (q * 256 + k / 256 ^ n).toUInt8 = (k / 256 ^ n).toUInt8 := by
          apply UInt8.toNat_inj.1
          simp [Nat.toUInt8]
        rw [e5]; rfl
    rw [List.length_cons, hv, show beL (l.length + 1) (b.toNat * 256 ^ l.length + beVal l) = ((b.toNat * 256 ^ l.length + beVal l) / 256 ^ l.length).toUInt8 :: beL l.length (b.toNat * 256 ^ l.length + beVal l) from rfl, e1, hmod, ih]
    simp
theorem beVal8_lt {l : List UInt8} (h : l.length = 8) : beVal l < W64 := by
  have := beVal_lt l
  rw [h] at this
  rw [show W64 = 256 ^ 8 from by decide +kernel]
  exact this
theorem curReal_back {f : Nat} (hf : f < W64) (r : List UInt8) : curReal (some (lebReal f ++ r)) = (normN f, some r) := by
  have hl : (lebReal f).length = 8 := beL_length 8 _
  have h8 : 8 ≤ (lebReal f ++ r).length := by simp [hl]
  have ht : (lebReal f ++ r).take 8 = lebReal f := by rw [← hl]; simp
  have hd : (lebReal f ++ r).drop 8 = r := by rw [← hl]; simp
  have hk : beVal (lebReal f) = keyN f := by
    unfold lebReal; rw [beVal_beL, show (256 : Nat) ^ 8 = W64 from by decide +kernel, Nat.mod_eq_of_lt (keyN_lt hf)]
  simp only [curReal]
  rw [if_pos h8, ht, hd, hk, ofN_key hf]
  simp
theorem curInt_back {n : Int} (h0 : -9223372036854775808 ≤ n) (h1 : n ≤ 9223372036854775807) (r : List UInt8) : curInt (some (lebInt n ++ r)) = (n, some r) := by
  simp only [curInt, decU_int h0 h1, unzig_zig]
theorem curStr_back {s : List UInt8} (h : s.length ≤ 9223372036854775807) (r : List UInt8) : curStr (some (lebStr s ++ r)) = (s, some r) := by
  unfold curStr lebStr
  rw [List.append_assoc, curInt_back (by omega) (by omega)]
  have : ((s.length : Nat) : Int) ≤ ((s.length : Nat) : Int) + (r.length : Int) := by omega
  simp [curTake, this]
end Go.Proofs.YtmbffncmogpkfaaGreatDoor
