
/- Package redo, plainly: what laying leaves on a drum, done or broken off, whatever a crash keeps. -/
import Derived.Test.YtlllbacjdjllbaaDoorPl3
namespace Go.Proofs.YtlllbacjdjllbaaDoor
open Go Go.Proofs Go.Shelf Go.RowKit Go.Great
set_option linter.unusedVariables false
set_option linter.unusedSimpArgs false

theorem lives_same (d : PD) : (livesP d).2.n = d.n ∧ (livesP d).2.now = d.now ∧ (livesP d).2.good = d.good ∧ (livesP d).2.wait = d.wait := by
  unfold livesP; split <;> exact ⟨rfl, rfl, rfl, rfl⟩
theorem write_cases {d : PD} {i : Int} {p : List UInt8} (hi : 0 ≤ i ∧ i < d.n ∧ p.length ≤ 64) :
    ((writeP d i p).1 = 0 ∧ (writeP d i p).2.now = upd d.now i.toNat (pad p) ∧ (writeP d i p).2.good = d.good ∧ (writeP d i p).2.wait = d.wait ++ [(i, pad p)]) ∨
    ((writeP d i p).1 = 9 ∧ (writeP d i p).2.now = d.now ∧ (writeP d i p).2.good = d.good ∧ (writeP d i p).2.wait = d.wait) := by
  obtain ⟨_, h2, h3, h4⟩ := lives_same d
  unfold writeP
  rw [if_pos hi]
  split
  · exact .inl ⟨rfl, by show upd (livesP d).2.now _ _ = _; rw [h2], h3, by show (livesP d).2.wait ++ _ = _; rw [h4]⟩
  · exact .inr ⟨rfl, h2, h3, h4⟩
theorem sync_cases (d : PD) : ((syncP d).1 = 0 ∧ (syncP d).2.now = d.now ∧ (syncP d).2.good = d.now ∧ (syncP d).2.wait = []) ∨ ((syncP d).1 = 9 ∧ (syncP d).2.now = d.now ∧ (syncP d).2.good = d.good ∧ (syncP d).2.wait = d.wait) := by
  obtain ⟨_, h2, h3, h4⟩ := lives_same d
  unfold syncP
  split
  · exact .inl ⟨rfl, h2, h2, rfl⟩
  · exact .inr ⟨rfl, h2, h3, h4⟩
/-- the writes of a bank's sectors, m of them from i on. -/
def wrs (base : Nat) (b : List UInt8) (i m : Nat) : List (Int × List UInt8) := (List.range m).map (fun t => (((base + i + t : Nat) : Int), pad (sec b (i + t))))
theorem wrs_succ (base : Nat) (b : List UInt8) (i m : Nat) : wrs base b i (m + 1) = (((base + i : Nat) : Int), pad (sec b i)) :: wrs base b (i + 1) m := by
  unfold wrs
  rw [List.range_succ_eq_map, List.map_cons, List.map_map]
  congr 1
  apply List.map_congr_left
  intro t _
  simp only [Function.comp, Nat.succ_eq_add_one]
  rw [show base + i + (t + 1) = base + (i + 1) + t by omega, show i + (t + 1) = i + 1 + t by omega]
theorem all_cons (s : List UInt8) (x : Int × List UInt8) (r : List (Int × List UInt8)) : allS s (x :: r) = allS (upd s x.1.toNat x.2) r := by
  unfold allS
  simp [crashS, List.replicate_succ]
theorem loop_form {k : Nat} {b : List UInt8} (hk : k ≤ 1) : ∀ (n i : Nat) (d : PD), 4 ≤ d.n → n + i ≤ bankP d →
    ∃ m, m ≤ n ∧ ((wrLoop n d k b i).1 = 0 → m = n) ∧ (wrLoop n d k b i).2.good = d.good ∧ (wrLoop n d k b i).2.wait = d.wait ++ wrs (2 + k * bankP d) b i m ∧ (wrLoop n d k b i).2.now = allS d.now (wrs (2 + k * bankP d) b i m)
  | 0, i, d, _, _ => ⟨0, Nat.le_refl _, fun _ => rfl, rfl, by simp [wrs, wrLoop], rfl⟩
  | n + 1, i, d, hn, hb => by
    have hc := write_cases (d := d) (i := ((2 + k * bankP d + i : Nat) : Int)) (p := sec b i) ⟨by omega, bank_lt hn hk (by omega), sec_le b i⟩
    have hnn := writeP_n d ((2 + k * bankP d + i : Nat) : Int) (sec b i)
    rw [wrLoop]
    rcases hc with ⟨h0, h1, h2, h3⟩ | ⟨h0, h1, h2, h3⟩
    · rw [if_pos h0]
      obtain ⟨m, hm, he, hg, hw, ho⟩ := loop_form (b := b) hk n (i + 1) (writeP d ((2 + k * bankP d + i : Nat) : Int) (sec b i)).2 (by rw [hnn]; exact hn) (by rw [bankP_n hnn]; omega)
      rw [bankP_n hnn] at hw ho
      refine ⟨m + 1, by omega, fun h => by rw [he h], hg.trans h2, ?_, ?_⟩
      · rw [hw, h3, wrs_succ, List.append_assoc]; rfl
      · rw [ho, h1, wrs_succ, all_cons]
    · rw [if_neg (by rw [h0]; decide)]
      exact ⟨0, Nat.zero_le _, fun h => (by rw [h0] at h; cases h), h2, (by rw [h3]; simp [wrs]), (by rw [h1]; rfl)⟩
theorem sec_app {a e : List UInt8} {i : Nat} (h : 64 * i ≤ a.length) : ∃ t, sec (a ++ e) i = sec a i ++ t ∧ (64 * i + 64 ≤ a.length → t = []) := by
  unfold sec
  rw [List.drop_append_of_le_length h, List.take_append]
  refine ⟨_, rfl, fun hl => ?_⟩
  rw [List.length_drop]
  have : 64 - (a.length - 64 * i) = 0 := by omega
  rw [this, List.take_zero]
theorem mem_wrs {base i m : Nat} {b : List UInt8} {x : Int × List UInt8} : x ∈ wrs base b i m ↔ ∃ t, t < m ∧ x = (((base + i + t : Nat) : Int), pad (sec b (i + t))) := by
  unfold wrs
  simp only [List.mem_map, List.mem_range]
  constructor
  · rintro ⟨t, h1, h2⟩; exact ⟨t, h1, h2.symm⟩
  · rintro ⟨t, h1, h2⟩; exact ⟨t, h1, h2.symm⟩
/-- what is laid: behind what is there, or in the other bank. -/
def Laid (l : HD3) (b : List UInt8) (k : Nat) (b0 : List UInt8) : Prop := k ≤ 1 ∧ ((k = l.bank.toNat ∧ b0 = b) ∨ (k ≠ l.bank.toNat ∧ b0 = []))
section
variable {n : Nat} {now : List UInt8} {hd : HD3} {b b0 e : List UInt8} {k : Nat}
theorem wrs_ok (h : Vw n now hd b) (hk : k ≤ 1) {bb : List UInt8} (hb : bb.length ≤ 64 * ((n - 2) / 2)) {i0 m : Nat} (hm : m ≤ (bb.length + 63) / 64 - i0) : WsOk n (wrs (2 + k * ((n - 2) / 2)) bb i0 m) := by
  intro x hx
  obtain ⟨t, ht, rfl⟩ := mem_wrs.1 hx
  have hk' : k * ((n - 2) / 2) ≤ 1 * ((n - 2) / 2) := Nat.mul_le_mul_right _ hk
  have := h.rg.1
  exact ⟨pad_len (sec_le _ _), by show (((2 + k * ((n - 2) / 2) + i0 + t : Nat) : Int)).toNat < n; omega⟩
/-- old entries stay, whatever of the new bank's writes is kept. -/
theorem mid (h : Vw n now hd b) (hl : Laid hd b k b0) (hb : (b0 ++ e).length ≤ 64 * ((n - 2) / 2)) {m : Nat} (hm : m ≤ ((b0 ++ e).length + 63) / 64 - b0.length / 64) (keep : List Bool) :
    Vw n (crashS now (wrs (2 + k * ((n - 2) / 2)) (b0 ++ e) (b0.length / 64) m) keep) hd b := by
  obtain ⟨hk, hl⟩ := hl
  have hw := wrs_ok h hk hb hm
  have hn := h.rg.1
  have hbk := h.bank
  have hfit := h.fits
  refine h.keep (mix_len _ _ _ hw h.len) (mix_out (by omega) hw h.len fun x hx => ?_) (mix_out (by omega) hw h.len fun x hx => ?_) fun i hi => ?_
  · obtain ⟨t, ht, rfl⟩ := mem_wrs.1 hx; show (((2 + k * ((n - 2) / 2) + b0.length / 64 + t : Nat) : Int)).toNat ≠ 0; omega
  · obtain ⟨t, ht, rfl⟩ := mem_wrs.1 hx; show (((2 + k * ((n - 2) / 2) + b0.length / 64 + t : Nat) : Int)).toNat ≠ 1; omega
  · have hkb : hd.bank.toNat * ((n - 2) / 2) ≤ 1 * ((n - 2) / 2) := Nat.mul_le_mul_right _ (by omega)
    rcases mix_sec (j := 2 + hd.bank.toNat * ((n - 2) / 2) + i) (n := n) (by omega) _ now keep hw h.len with hq | ⟨x, hx, h1, h2⟩
    · exact .inl hq
    · right
      obtain ⟨t, ht, rfl⟩ := mem_wrs.1 hx
      have h1' : 2 + k * ((n - 2) / 2) + b0.length / 64 + t = 2 + hd.bank.toNat * ((n - 2) / 2) + i := by
        have : (((2 + k * ((n - 2) / 2) + b0.length / 64 + t : Nat) : Int)).toNat = 2 + hd.bank.toNat * ((n - 2) / 2) + i := h1
        omega
      rw [h2]
      rcases hl with ⟨hke, rfl⟩ | ⟨hke, rfl⟩
      · subst hke
        have hit : b0.length / 64 + t = i := by omega
        rw [hit]
        obtain ⟨t', ht', _⟩ := sec_app (a := b0) (e := e) (i := i) (by omega)
        exact ⟨t' ++ List.replicate (64 - (sec (b0 ++ e) i).length) 0, by show pad _ = _; unfold pad; rw [ht', List.append_assoc]⟩
      · exfalso
        simp only [List.length_nil, List.nil_append] at h1' hm hb
        rcases (by omega : k = 0 ∨ k = 1) with rfl | rfl <;> rcases hbk with hbk | hbk <;> rw [hbk] at h1' hke <;> simp at h1' hke <;> omega
/-- the new bank stands whole. -/
theorem full (h : Vw n now hd b) (hl : Laid hd b k b0) (hb : (b0 ++ e).length ≤ 64 * ((n - 2) / 2)) (i : Nat) (hi : 64 * i < (b0 ++ e).length) :
    ∃ t, sec (allS now (wrs (2 + k * ((n - 2) / 2)) (b0 ++ e) (b0.length / 64) (((b0 ++ e).length + 63) / 64 - b0.length / 64))) (2 + k * ((n - 2) / 2) + i) = sec (b0 ++ e) i ++ t := by
  obtain ⟨hk, hl⟩ := hl
  have hw := wrs_ok h hk hb (Nat.le_refl (((b0 ++ e).length + 63) / 64 - b0.length / 64))
  have hn := h.rg.1
  have hk' : k * ((n - 2) / 2) ≤ 1 * ((n - 2) / 2) := Nat.mul_le_mul_right _ hk
  by_cases hlt : i < b0.length / 64
  · rcases hl with ⟨hke, rfl⟩ | ⟨_, rfl⟩
    · unfold allS
      rw [mix_out (n := n) (by omega) hw h.len fun x hx => ?_]
      · obtain ⟨t, ht⟩ := h.start i (by omega)
        obtain ⟨t', ht', he⟩ := sec_app (a := b0) (e := e) (i := i) (by omega)
        rw [he (by omega), List.append_nil] at ht'
        rw [ht', hke]
        exact ⟨t, ht⟩
      · obtain ⟨t, ht, rfl⟩ := mem_wrs.1 hx
        show (((2 + k * ((n - 2) / 2) + b0.length / 64 + t : Nat) : Int)).toNat ≠ _
        omega
    · simp at hlt
  · obtain ⟨x, hx, h1, h2⟩ := all_sec (n := n) (j := 2 + k * ((n - 2) / 2) + i) (by omega) h.len _ _ rfl hw ⟨_, mem_wrs.2 ⟨i - b0.length / 64, by omega, rfl⟩, by show (((2 + k * ((n - 2) / 2) + b0.length / 64 + (i - b0.length / 64) : Nat) : Int)).toNat = _; omega⟩
    obtain ⟨t, ht, rfl⟩ := mem_wrs.1 hx
    have h1' : (((2 + k * ((n - 2) / 2) + b0.length / 64 + t : Nat) : Int)).toNat = 2 + k * ((n - 2) / 2) + i := h1
    have hit : b0.length / 64 + t = i := by omega
    rw [h2]
    exact ⟨_, by show pad (sec (b0 ++ e) (b0.length / 64 + t)) = _; rw [hit]; rfl⟩
/-- the new head behind the new bank. -/
theorem newV (h : Vw n now hd b) (hl : Laid hd b k b0) (hb : (b0 ++ e).length ≤ 64 * ((n - 2) / 2)) (hno : hd.number + 1 ≤ 1099511627776) :
    Vw n (upd (allS now (wrs (2 + k * ((n - 2) / 2)) (b0 ++ e) (b0.length / 64) (((b0 ++ e).length + 63) / 64 - b0.length / 64))) ((hd.number + 1) % 2).toNat (pad (headB (hd.number + 1) k (b0 ++ e).length))) ⟨hd.number + 1, k, (b0 ++ e).length⟩ (b0 ++ e) := by
  have hm := mid (e := e) h hl hb (Nat.le_refl _) (List.replicate (wrs (2 + k * ((n - 2) / 2)) (b0 ++ e) (b0.length / 64) (((b0 ++ e).length + 63) / 64 - b0.length / 64)).length true)
  have hf := full (e := e) h hl hb
  have hm' : Vw n (allS now (wrs (2 + k * ((n - 2) / 2)) (b0 ++ e) (b0.length / 64) (((b0 ++ e).length + 63) / 64 - b0.length / 64))) hd b := hm
  generalize allS now (wrs (2 + k * ((n - 2) / 2)) (b0 ++ e) (b0.length / 64) (((b0 ++ e).length + 63) / 64 - b0.length / 64)) = s at *
  have hn := h.rg.1
  have hn2 := h.rg.2
  have h0 := h.no
  have hp : (pad (headB (hd.number + 1) k (b0 ++ e).length)).length = 64 := pad_len (headB_len (by omega) (by omega) hl.1 (by omega))
  have hk' : k * ((n - 2) / 2) ≤ 1 * ((n - 2) / 2) := Nat.mul_le_mul_right _ hl.1
  refine hm'.next (upd_len hm'.len (by omega) hp) hl.1 hno hb (sec_upd_same hm'.len (by omega) hp) (sec_upd_other hm'.len (by omega) (by omega) hp (by omega)) fun i hi => ?_
  rw [sec_upd_other hm'.len (by omega) (by omega) hp (by omega)]
  exact hf i hi
end
/-- a drum whose writes have all been made to last. -/
def Synced (d : PD) : Prop := d.good = d.now ∧ d.wait = []
/-- WHAT LAYING LEAVES: all is done, and the drum reads as the new; or it broke off, and whatever a crash keeps, the drum reads as the old or as the new. -/
theorem writes_view {d : PD} {hd : HD3} {b b0 e : List UInt8} {k : Nat} (h : Vw d.n d.now hd b) (hs : Synced d) (hl : Laid hd b k b0) (hb : (b0 ++ e).length ≤ 64 * bankP d) (hno : hd.number + 1 ≤ 1099511627776) :
    ((writesP d (hd.number + 1) k (b0 ++ e) b0.length).1 = 0 → Synced (writesP d (hd.number + 1) k (b0 ++ e) b0.length).2 ∧ Vw d.n (writesP d (hd.number + 1) k (b0 ++ e) b0.length).2.now ⟨hd.number + 1, k, (b0 ++ e).length⟩ (b0 ++ e)) ∧
    ((writesP d (hd.number + 1) k (b0 ++ e) b0.length).1 ≠ 0 → ∀ keep, Vw d.n (crashS (writesP d (hd.number + 1) k (b0 ++ e) b0.length).2.good (writesP d (hd.number + 1) k (b0 ++ e) b0.length).2.wait keep) hd b ∨
      Vw d.n (crashS (writesP d (hd.number + 1) k (b0 ++ e) b0.length).2.good (writesP d (hd.number + 1) k (b0 ++ e) b0.length).2.wait keep) ⟨hd.number + 1, k, (b0 ++ e).length⟩ (b0 ++ e)) := by
  have hn := h.rg.1
  have hn2 := h.rg.2
  have h0 := h.no
  have hq : bankP d = (d.n - 2) / 2 := rfl
  rw [hq] at hb
  have hi0 : b0.length / 64 ≤ ((b0 ++ e).length + 63) / 64 := by rw [List.length_append]; omega
  obtain ⟨m, hm, hme, hg, hw, hno'⟩ := loop_form (b := b0 ++ e) hl.1 (((b0 ++ e).length + 63) / 64 - b0.length / 64) (b0.length / 64) d hn (by rw [hq]; omega)
  have hln := loop_n k (b0 ++ e) (((b0 ++ e).length + 63) / 64 - b0.length / 64) (b0.length / 64) d
  have hmid := fun keep => mid (e := e) h hl hb hm keep
  have hnew := newV (e := e) h hl hb hno
  rw [hs.1] at hg
  rw [hs.2, List.nil_append, hq] at hw
  rw [hq] at hno'
  unfold writesP writesQ
  generalize wrLoop (((b0 ++ e).length + 63) / 64 - b0.length / 64) d k (b0 ++ e) (b0.length / 64) = r at *
  obtain ⟨e1, d1⟩ := r
  simp only at hme hg hw hno' hln ⊢
  by_cases he1 : e1 = 0
  · rw [if_pos he1]
    rw [hme he1] at hw hno' hmid
    unfold headW
    have hsc := sync_cases d1
    have hsn := syncP_n d1
    generalize syncP d1 = r2 at *
    obtain ⟨e2, d2⟩ := r2
    simp only at hsc hsn ⊢
    rcases hsc with ⟨rfl, a1, a2, a3⟩ | ⟨rfl, a1, a2, a3⟩
    · rw [if_pos rfl]
      have hwc := write_cases (d := d2) (i := (hd.number + 1) % 2) (p := headB (hd.number + 1) k (b0 ++ e).length) ⟨by omega, by omega, headB_len (by omega) (by omega) hl.1 (by omega)⟩
      generalize writeP d2 ((hd.number + 1) % 2) (headB (hd.number + 1) k (b0 ++ e).length) = r3 at *
      obtain ⟨e3, d3⟩ := r3
      simp only at hwc ⊢
      have hnow : d2.now = allS d.now (wrs (2 + k * ((d.n - 2) / 2)) (b0 ++ e) (b0.length / 64) (((b0 ++ e).length + 63) / 64 - b0.length / 64)) := a1.trans hno'
      have hgood : d2.good = allS d.now (wrs (2 + k * ((d.n - 2) / 2)) (b0 ++ e) (b0.length / 64) (((b0 ++ e).length + 63) / 64 - b0.length / 64)) := a2.trans hno'
      rcases hwc with ⟨rfl, b1, b2, b3⟩ | ⟨rfl, b1, b2, b3⟩
      · rw [if_pos rfl]
        have hs3 := sync_cases d3
        generalize syncP d3 = r4 at *
        obtain ⟨e4, d4⟩ := r4
        simp only at hs3 ⊢
        rw [hnow] at b1
        rcases hs3 with ⟨rfl, c1, c2, c3⟩ | ⟨rfl, c1, c2, c3⟩
        · refine ⟨fun _ => ⟨⟨by rw [c1, c2], c3⟩, by rw [c1, b1]; exact hnew⟩, fun h => absurd rfl h⟩
        · refine ⟨fun h => (by cases h), fun _ keep => ?_⟩
          rw [c2, c3, b2, b3, a3, hgood, List.nil_append]
          cases keep with
          | nil => exact .inl (hmid (List.replicate _ true))
          | cons x r =>
            cases x with
            | true =>
              right
              cases r <;> exact hnew
            | false =>
              left
              cases r <;> exact hmid (List.replicate _ true)
      · rw [if_neg (by decide)]
        refine ⟨fun h => (by cases h), fun _ keep => ?_⟩
        rw [b2, b3, a3, hgood]
        left
        cases keep <;> exact hmid (List.replicate _ true)
    · rw [if_neg (by decide)]
      refine ⟨fun h => (by cases h), fun _ keep => ?_⟩
      rw [a2, a3, hg, hw]
      exact .inl (hmid keep)
  · rw [if_neg he1]
    refine ⟨fun h => absurd h he1, fun _ keep => ?_⟩
    show Vw d.n (crashS d1.good d1.wait keep) hd b ∨ _
    rw [hg, hw]
    exact .inl (hmid keep)
end Go.Proofs.YtlllbacjdjllbaaDoor
