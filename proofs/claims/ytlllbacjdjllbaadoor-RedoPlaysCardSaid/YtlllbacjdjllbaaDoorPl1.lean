
/- Package redo, plainly: what is found on a new drum; a drum that lives; answers of writes. -/
import Derived.Test.YtlllbacjdjllbaaDoorRedo5
namespace Go.Proofs.YtlllbacjdjllbaaDoor
open Go Go.Proofs Go.Shelf Go.RowKit Go.Great
set_option linter.unusedVariables false
set_option linter.unusedSimpArgs false

theorem sec_zero (n i : Nat) (hi : i < n) : sec (List.replicate (64 * n) (0 : UInt8)) i = List.replicate 64 0 := by
  unfold sec
  rw [List.drop_replicate, List.take_replicate]
  congr 1
  omega
theorem lebInt_small (n : Nat) (h : n < 64) : lebInt (n : Int) = [(2 * n).toUInt8] := by
  unfold lebInt
  rw [show Lib.zigzag (n : Int) = 2 * n from by unfold Lib.zigzag; split <;> omega]
  rw [Lib.uvarint_small (by omega)]
theorem lebInt0 : lebInt 0 = [0] := lebInt_small 0 (by decide)
theorem headRd_zero : (headRd (List.replicate 64 (0 : UInt8))).1.number = 0 := by
  have e : (List.replicate 64 (0 : UInt8)) = lebInt 0 ++ List.replicate 63 0 := by rw [lebInt0]; rfl
  unfold headRd
  rw [e, curInt_back (by decide) (by decide)]
theorem headOf_new (n i : Nat) (hi : i < n) : (headOfP (newP n) i).2 = false := by
  unfold headOfP newP headOk
  simp only
  rw [sec_zero n i hi, headRd_zero]
  simp
theorem newest_new (n : Nat) (hn : 4 ≤ n) : newestP (newP n) = ⟨0, 0, 0⟩ := by
  unfold newestP newestOf
  rw [headOf_new n 0 (by omega), headOf_new n 1 (by omega)]
  rfl
theorem logB_new (n : Nat) (hn : 4 ≤ n) : logB (newP n) = [] := by
  unfold logB
  rw [newest_new n hn]
  rfl
theorem entP_nil : entP [] = ([], true) := by simp [entP, entF]
theorem logP_new (n : Nat) (hn : 4 ≤ n) : logP (newP n) = ⟨⟨0, 0, 0⟩, [], 0, false⟩ := by
  unfold logP
  rw [newest_new n hn, logB_new n hn, entP_nil]
  rfl
/-- a drum that does all. -/
def Alive (d : PD) : Prop := d.dead = false ∧ d.fuse = -1
theorem lives_alive {d : PD} (h : Alive d) : livesP d = (true, d) := by
  obtain ⟨h1, h2⟩ := h
  obtain ⟨n, g, no, wa, de, fu⟩ := d
  simp only at h1 h2
  subst h1 h2
  rfl
theorem write_alive {d : PD} (h : Alive d) {i : Int} {p : List UInt8} (hi : 0 ≤ i ∧ i < d.n ∧ p.length ≤ 64) : writeP d i p = (0, { d with now := upd d.now i.toNat (pad p), wait := d.wait ++ [(i, pad p)] }) := by
  unfold writeP
  rw [lives_alive h, if_pos rfl, if_pos hi]
theorem sync_alive {d : PD} (h : Alive d) : syncP d = (0, { d with good := d.now, wait := [] }) := by
  unfold syncP
  rw [lives_alive h, if_pos rfl]
theorem bank_lt {d : PD} (hn : 4 ≤ d.n) {k i : Nat} (hk : k ≤ 1) (hi : i < bankP d) : ((2 + k * bankP d + i : Nat) : Int) < d.n := by
  unfold bankP at *
  have : k * ((d.n - 2) / 2) ≤ 1 * ((d.n - 2) / 2) := Nat.mul_le_mul_right _ hk
  omega
theorem bankP_n {d d' : PD} (h : d'.n = d.n) : bankP d' = bankP d := by unfold bankP; rw [h]
theorem sec_le (b : List UInt8) (i : Nat) : (sec b i).length ≤ 64 := by unfold sec; rw [List.length_take]; omega
/-- a drum's answers are 0 or 9 where what is written is in its place. -/
theorem write_res {d : PD} {i : Int} {p : List UInt8} (hi : 0 ≤ i ∧ i < d.n ∧ p.length ≤ 64) : (writeP d i p).1 = 0 ∨ (writeP d i p).1 = 9 := by
  unfold writeP
  rw [if_pos hi]
  split
  · exact .inl rfl
  · exact .inr rfl
theorem sync_res (d : PD) : (syncP d).1 = 0 ∨ (syncP d).1 = 9 := by
  unfold syncP
  split
  · exact .inl rfl
  · exact .inr rfl
theorem loop_res {k : Nat} {b : List UInt8} (hk : k ≤ 1) : ∀ (n i : Nat) (d : PD), 4 ≤ d.n → n + i ≤ bankP d → ((wrLoop n d k b i).1 = 0 ∨ (wrLoop n d k b i).1 = 9) ∧ (wrLoop n d k b i).2.n = d.n
  | 0, i, d, _, _ => ⟨.inl rfl, rfl⟩
  | n + 1, i, d, hn, hb => by
    have hr := write_res (d := d) (i := ((2 + k * bankP d + i : Nat) : Int)) (p := sec b i) ⟨by omega, bank_lt hn hk (by omega), sec_le b i⟩
    have hnn := writeP_n d ((2 + k * bankP d + i : Nat) : Int) (sec b i)
    rw [wrLoop]
    split
    · have q := loop_res (b := b) hk n (i + 1) (writeP d ((2 + k * bankP d + i : Nat) : Int) (sec b i)).2 (by rw [hnn]; exact hn) (by rw [bankP_n hnn]; omega)
      exact ⟨q.1, q.2.trans hnn⟩
    · exact ⟨hr, hnn⟩
theorem headB_len {number : Int} {k len : Nat} (h0 : 0 ≤ number) (h1 : number ≤ 9223372036854775807) (hk : k ≤ 1) (hl : len ≤ 9223372036854775807) : (headB number k len).length ≤ 64 := by
  have := lebInts_len [number, (k : Int), (len : Int)] (by intro n hn; simp only [List.mem_cons, List.not_mem_nil, or_false] at hn; rcases hn with rfl | rfl | rfl <;> omega)
  unfold headB
  simp at this ⊢
  omega
theorem headW_res {d : PD} (hn : 4 ≤ d.n) {number : Int} {k len : Nat} (h0 : 0 ≤ number) (h1 : number ≤ 9223372036854775807) (hk : k ≤ 1) (hl : len ≤ 9223372036854775807) : ((headW d number k len).1 = 0 ∨ (headW d number k len).1 = 9) ∧ (headW d number k len).2.n = d.n := by
  have hs := syncP_n d
  have hw := writeP_n (syncP d).2 (number % 2) (headB number k len)
  have hr := write_res (d := (syncP d).2) (i := number % 2) (p := headB number k len) ⟨by omega, by rw [hs]; omega, headB_len h0 h1 hk hl⟩
  unfold headW
  split
  · split
    · exact ⟨sync_res _, (syncP_n _).trans (hw.trans hs)⟩
    · exact ⟨hr, hw.trans hs⟩
  · exact ⟨sync_res d, hs⟩
theorem writes_res {d : PD} (hn : 4 ≤ d.n) {number : Int} {k : Nat} {b : List UInt8} (n0 : Nat) (h0 : 0 ≤ number) (h1 : number ≤ 9223372036854775807) (hk : k ≤ 1) (hb : b.length ≤ 64 * bankP d) (hn0 : n0 ≤ b.length) (hd : d.n ≤ 200) :
    ((writesP d number k b n0).1 = 0 ∨ (writesP d number k b n0).1 = 9) ∧ (writesP d number k b n0).2.n = d.n := by
  have hq : bankP d ≤ 99 := by unfold bankP; omega
  have q := loop_res (b := b) hk ((b.length + 63) / 64 - n0 / 64) (n0 / 64) d hn (by omega)
  unfold writesP writesQ
  split
  · have q2 := headW_res (d := (wrLoop ((b.length + 63) / 64 - n0 / 64) d k b (n0 / 64)).2) (by rw [q.2]; exact hn) (number := number) (k := k) (len := b.length) h0 h1 hk (by omega)
    exact ⟨q2.1, q2.2.trans q.2⟩
  · exact q
theorem write_al {d : PD} (h : Alive d) {i : Int} {p : List UInt8} (hi : 0 ≤ i ∧ i < d.n ∧ p.length ≤ 64) : (writeP d i p).1 = 0 ∧ Alive (writeP d i p).2 := by
  rw [write_alive h hi]
  exact ⟨rfl, h.1, h.2⟩
theorem sync_al {d : PD} (h : Alive d) : (syncP d).1 = 0 ∧ Alive (syncP d).2 := by
  rw [sync_alive h]
  exact ⟨rfl, h.1, h.2⟩
theorem loop_al {k : Nat} {b : List UInt8} (hk : k ≤ 1) : ∀ (n i : Nat) (d : PD), 4 ≤ d.n → n + i ≤ bankP d → Alive d → (wrLoop n d k b i).1 = 0 ∧ Alive (wrLoop n d k b i).2
  | 0, i, d, _, _, h => ⟨rfl, h⟩
  | n + 1, i, d, hn, hb, h => by
    have hr := write_al h (i := ((2 + k * bankP d + i : Nat) : Int)) (p := sec b i) ⟨by omega, bank_lt hn hk (by omega), sec_le b i⟩
    have hnn := writeP_n d ((2 + k * bankP d + i : Nat) : Int) (sec b i)
    rw [wrLoop, if_pos hr.1]
    exact loop_al (b := b) hk n (i + 1) (writeP d ((2 + k * bankP d + i : Nat) : Int) (sec b i)).2 (by rw [hnn]; exact hn) (by rw [bankP_n hnn]; omega) hr.2
theorem writes_al {d : PD} (h : Alive d) (hn : 4 ≤ d.n) {number : Int} {k : Nat} {b : List UInt8} (n0 : Nat) (h0 : 0 ≤ number) (h1 : number ≤ 9223372036854775807) (hk : k ≤ 1) (hb : b.length ≤ 64 * bankP d) (hn0 : n0 ≤ b.length) (hd : d.n ≤ 200) :
    (writesP d number k b n0).1 = 0 ∧ Alive (writesP d number k b n0).2 := by
  have hq : bankP d ≤ 99 := by unfold bankP; omega
  have q := loop_al (b := b) hk ((b.length + 63) / 64 - n0 / 64) (n0 / 64) d hn (by omega) h
  have q' := loop_res (b := b) hk ((b.length + 63) / 64 - n0 / 64) (n0 / 64) d hn (by omega)
  unfold writesP writesQ
  rw [if_pos q.1]
  have s := sync_al q.2
  have w := write_al s.2 (i := number % 2) (p := headB number k b.length) ⟨by omega, by rw [syncP_n, q'.2]; omega, headB_len h0 h1 hk (by omega)⟩
  unfold headW
  rw [if_pos s.1, if_pos w.1]
  exact sync_al w.2
theorem lays_al {l : PL} {d : PD} (h : Alive d) (hl : l.dead = false) (hok : l.ok d) (hd : d.n ≤ 200) {k : Nat} (hk : k ≤ 1) {b p : List UInt8} {count : Int} (hb : (b ++ lebStr p).length ≤ 64 * bankP d) (hno : l.head.number < 1099511627776) :
    (laysP l d k b p count).1 = 0 ∧ (laysP l d k b p count).2.1 = ⟨⟨l.head.number + 1, k, (b ++ lebStr p).length⟩, b ++ lebStr p, count, false⟩ ∧ Alive (laysP l d k b p count).2.2 := by
  have q := writes_al h hok.n b.length (number := l.head.number + 1) (by have := hok.no.1; omega) (by omega) hk hb (by rw [List.length_append]; omega) hd
  unfold laysP
  rw [hl, if_neg (by decide), if_neg (by omega), if_pos q.1]
  exact ⟨rfl, rfl, q.2⟩
theorem loop_n (k : Nat) (b : List UInt8) : ∀ (n i : Nat) (d : PD), (wrLoop n d k b i).2.n = d.n
  | 0, _, _ => rfl
  | n + 1, i, d => by
    have hnn := writeP_n d ((2 + k * bankP d + i : Nat) : Int) (sec b i)
    rw [wrLoop]
    split
    · exact (loop_n k b n (i + 1) _).trans hnn
    · exact hnn
theorem headW_n (d : PD) (number bank bytes : Int) : (headW d number bank bytes).2.n = d.n := by
  have hs := syncP_n d
  have hw := writeP_n (syncP d).2 (number % 2) (headB number bank bytes)
  unfold headW
  split
  · split
    · exact (syncP_n _).trans (hw.trans hs)
    · exact hw.trans hs
  · exact hs
theorem writesP_n (d : PD) (number : Int) (k : Nat) (b : List UInt8) (n0 : Nat) : (writesP d number k b n0).2.n = d.n := by
  unfold writesP writesQ
  split
  · exact (headW_n _ _ _ _).trans (loop_n _ _ _ _ _)
  · exact loop_n _ _ _ _ _
theorem lays_n (l : PL) (d : PD) (k : Nat) (b p : List UInt8) (count : Int) : (laysP l d k b p count).2.2.n = d.n := by
  unfold laysP
  split
  · rfl
  · split
    · rfl
    · split
      · exact writesP_n _ _ _ _ _
      · exact writesP_n _ _ _ _ _
theorem loop_w (k : Nat) (b : List UInt8) : ∀ (n i : Nat) (d : PD), (wrLoop n d k b i).2.wait.length ≤ d.wait.length + n
  | 0, _, _ => Nat.le_add_right _ _
  | n + 1, i, d => by
    have hw := writeP_w d ((2 + k * bankP d + i : Nat) : Int) (sec b i)
    rw [wrLoop]
    split
    · have q := loop_w k b n (i + 1) (writeP d ((2 + k * bankP d + i : Nat) : Int) (sec b i)).2
      omega
    · omega
theorem headW_w (d : PD) (number bank bytes : Int) : (headW d number bank bytes).2.wait.length ≤ d.wait.length + 1 := by
  have hs := syncP_w d
  have hw := writeP_w (syncP d).2 (number % 2) (headB number bank bytes)
  have hs2 := syncP_w (writeP (syncP d).2 (number % 2) (headB number bank bytes)).2
  unfold headW
  split
  · split
    · omega
    · omega
  · omega
theorem writesP_w (d : PD) (number : Int) (k : Nat) (b : List UInt8) (n0 : Nat) : (writesP d number k b n0).2.wait.length ≤ d.wait.length + (b.length + 63) / 64 + 1 := by
  have q := loop_w k b ((b.length + 63) / 64 - n0 / 64) (n0 / 64) d
  have h := headW_w (wrLoop ((b.length + 63) / 64 - n0 / 64) d k b (n0 / 64)).2 number k b.length
  unfold writesP writesQ
  split
  · omega
  · omega
/-- what laying does to a log and a drum, whatever the fuse. -/
theorem lays_step {l : PL} {d : PD} (hok : l.ok d) (hd : d.n ≤ 200) {k : Nat} (hk : k ≤ 1) {b p : List UInt8} {count : Int} (hc : 0 ≤ count ∧ count ≤ 1099511627776) (hb : (b ++ lebStr p).length ≤ 64 * bankP d) (hno : l.head.number < 1099511627776) :
    ((l.dead = false ∧ (laysP l d k b p count).1 = 0 ∧ (laysP l d k b p count).2.1 = ⟨⟨l.head.number + 1, k, (b ++ lebStr p).length⟩, b ++ lebStr p, count, false⟩) ∨ ((laysP l d k b p count).1 = 9 ∧ (laysP l d k b p count).2.1 = { l with dead := true })) ∧
    (laysP l d k b p count).2.1.ok (laysP l d k b p count).2.2 ∧ (laysP l d k b p count).2.2.n = d.n ∧ (laysP l d k b p count).2.2.wait.length ≤ d.wait.length + 101 := by
  have q := writes_res hok.n b.length (number := l.head.number + 1) (by have := hok.no.1; omega) (by omega) hk hb (by rw [List.length_append]; omega) hd
  have qn := writesP_n d (l.head.number + 1) k (b ++ lebStr p) b.length
  have qw := writesP_w d (l.head.number + 1) k (b ++ lebStr p) b.length
  have hq : bankP d ≤ 99 := by unfold bankP; omega
  have ho := hok.n
  have h0 := hok.no
  unfold laysP
  cases hdd : l.dead with
  | true =>
    rw [if_pos rfl]
    refine ⟨.inr ⟨rfl, ?_⟩, hok, rfl, by simp⟩
    obtain ⟨h, lb, c, de⟩ := l
    simp only at hdd
    subst hdd
    rfl
  | false =>
    rw [if_neg (by decide), if_neg (by omega)]
    by_cases he : (writesP d (l.head.number + 1) k (b ++ lebStr p) b.length).1 = 0
    · rw [if_pos he]
      refine ⟨.inl ⟨rfl, rfl, rfl⟩, ⟨by rw [qn]; exact hok.n, ⟨by show (0 : Int) ≤ l.head.number + 1; omega, by show l.head.number + 1 ≤ (1099511627776 : Int); omega⟩, by show ((k : Int) = 0 ∨ (k : Int) = 1); omega, by rw [bankP_n qn]; exact hb, hc⟩, qn, by show (writesP d (l.head.number + 1) k (b ++ lebStr p) b.length).2.wait.length ≤ _; omega⟩
    · rw [if_neg he]
      refine ⟨.inr ⟨by have := q.1; simp only; omega, rfl⟩, ⟨by rw [qn]; exact hok.n, hok.no, hok.bank, by rw [bankP_n qn]; exact hok.len, hok.count⟩, qn, by show (writesP d (l.head.number + 1) k (b ++ lebStr p) b.length).2.wait.length ≤ _; omega⟩
theorem alive_new (n : Nat) : Alive (newP n) := ⟨rfl, rfl⟩
def log0 : PL := ⟨⟨0, 0, 0⟩, [], 0, false⟩
theorem log0_ok {d : PD} (hn : 4 ≤ d.n) : log0.ok d := ⟨hn, ⟨by decide, by decide⟩, .inl rfl, Nat.zero_le _, ⟨by decide, by decide⟩⟩
theorem lebStr_a : lebStr [97] = [2, 97] := by
  unfold lebStr
  rw [show (([97] : List UInt8).length : Int) = ((1 : Nat) : Int) from rfl, lebInt_small 1 (by decide)]
  rfl
theorem app0 : (appendP log0 (newP 4) [97]).1 = 0 ∧ (appendP log0 (newP 4) [97]).2.1 = ⟨⟨1, 0, 2⟩, [2, 97], 1, false⟩ := by
  have q := lays_al (l := log0) (alive_new 4) rfl (log0_ok (by decide)) (by decide) (k := 0) (by decide) (b := []) (p := [97]) (count := 1) (by rw [lebStr_a]; decide) (by decide)
  rw [lebStr_a] at q
  exact ⟨q.1, q.2.1⟩
end Go.Proofs.YtlllbacjdjllbaaDoor
