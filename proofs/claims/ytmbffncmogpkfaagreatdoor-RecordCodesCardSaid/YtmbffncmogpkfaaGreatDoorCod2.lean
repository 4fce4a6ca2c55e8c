
/- Package record's codec, plainly: how long the bytes are; how large what a cursor takes may be. -/
import Derived.Test.YtmbffncmogpkfaaGreatDoorCod
namespace Go.Proofs.YtmbffncmogpkfaaGreatDoor
open Go Go.Proofs Go.RowKit
set_option linter.unusedVariables false
set_option linter.unusedSimpArgs false

def sumR {X : Type} (f : X → Nat) (l : List X) : Nat := (l.map f).sum
theorem sumR_app {X : Type} (f : X → Nat) (l m : List X) : sumR f (l ++ m) = sumR f l + sumR f m := by simp [sumR]
theorem sumR_take {X : Type} (f : X → Nat) (l : List X) (j : Nat) : sumR f (l.take j) ≤ sumR f l := by
  have h : sumR f l = sumR f (l.take j) + sumR f (l.drop j) := by rw [← sumR_app, List.take_append_drop]
  omega
theorem sumR_snoc {X : Type} (f : X → Nat) (l : List X) (j : Nat) (h : j < l.length) : sumR f (l.take (j + 1)) = sumR f (l.take j) + f l[j] := by
  rw [List.take_succ_eq_append_getElem h, sumR_app]; simp [sumR]
theorem sumR_step {X : Type} (f : X → Nat) (l : List X) (j : Nat) (h : j < l.length) : sumR f (l.take j) + f l[j] ≤ sumR f l := by
  rw [← sumR_snoc f l j h]; exact sumR_take f l _
theorem sumR_cons {X : Type} (f : X → Nat) (x : X) (l : List X) : sumR f (x :: l) = f x + sumR f l := by simp [sumR]
theorem sumR_mem {X : Type} (f : X → Nat) {x : X} : ∀ {l : List X}, x ∈ l → f x ≤ sumR f l
  | y :: l, h => by
    rw [sumR_cons]
    rcases List.mem_cons.1 h with rfl | h
    · omega
    · have := sumR_mem f h; omega
theorem sumR_len {X : Type} (f : X → Nat) (hf : ∀ x, 1 ≤ f x) : ∀ l : List X, l.length ≤ sumR f l
  | [] => by simp
  | x :: l => by rw [sumR_cons]; have := sumR_len f hf l; have := hf x; simp; omega
theorem flatG_snoc {X : Type} (g : X → List UInt8) (l : List X) (j : Nat) (h : j < l.length) : (l.take (j + 1)).flatMap g = (l.take j).flatMap g ++ g l[j] := by
  rw [List.take_succ_eq_append_getElem h, List.flatMap_append]; simp
theorem flatG_len {X : Type} (g : X → List UInt8) (f : X → Nat) : ∀ l : List X, (∀ x ∈ l, (g x).length ≤ f x) → (l.flatMap g).length ≤ sumR f l
  | [], _ => by simp [sumR]
  | x :: l, h => by
    rw [List.flatMap_cons, List.length_append, sumR_cons]
    have := flatG_len g f l (fun y hy => h y (by simp [hy]))
    have := h x (by simp)
    omega
def roomV (v : V5) : Nat := 20 + v.t.length
def roomPr (p : PR) : Nat := 10 + p.key.length + roomV p.v
def roomNd (ss : List (List UInt8)) (ps : List PR) : Nat := 20 + strsRoom ss + sumR roomPr ps
def roomWr (x : WR) : Nat := 70 + x.ed.t.length + roomNd x.ss x.ps
def okP2 (p : PR) : Prop := i64R p.v.k ∧ i64R p.v.n ∧ p.v.f < W64 ∧ p.v.t.length ≤ 4398046511104 ∧ p.key.length ≤ 4398046511104
theorem lebReal_len (f : Nat) : (lebReal f).length = 8 := beL_length 8 _
theorem lebV_len {v : V5} (hk : i64R v.k) (hn : i64R v.n) (ht : v.t.length ≤ 4398046511104) : (lebV v).length ≤ roomV v := by
  have h1 := lebInt_len v.k hk.1 hk.2
  have h2 := lebInt_len v.n hn.1 hn.2
  have h3 := lebInt_len (b2i v.b) (b2i_r v.b).1 (b2i_r v.b).2
  have h4 := lebStr_len v.t (by omega)
  have h5 := lebReal_len v.f
  unfold lebV roomV
  rw [List.length_append]
  split
  · omega
  · split
    · omega
    · split
      · omega
      · split
        · omega
        · simp; omega
theorem lebPr_len {p : PR} (h : okP2 p) : (lebPr p).length ≤ roomPr p := by
  obtain ⟨h1, h2, h3, h4, h5⟩ := h
  have := lebV_len h1 h2 h4
  have := lebStr_len p.key (by omega)
  unfold lebPr roomPr
  rw [List.length_append]; omega
theorem strsRoom_mem {s : List UInt8} {ss : List (List UInt8)} (h : s ∈ ss) : 10 + s.length ≤ strsRoom ss := by
  have := sumR_mem (fun s : List UInt8 => 10 + s.length) h
  exact this
theorem lebNode_len {ss : List (List UInt8)} {ps : List PR} (hr : roomNd ss ps ≤ 4398046511104) (hp : ∀ p ∈ ps, okP2 p) : (lebNode ss ps).length ≤ roomNd ss ps := by
  have h1 := lebStrs_len ss (by unfold roomNd at hr; omega)
  have h2 := flatG_len lebPr roomPr ps (fun p hp' => lebPr_len (hp p hp'))
  have hs : ss.length ≤ strsRoom ss := sumR_len (fun s : List UInt8 => 10 + s.length) (by intro x; omega) ss
  have hq : ps.length ≤ sumR roomPr ps := sumR_len roomPr (by intro x; unfold roomPr; omega) ps
  have h3 := lebInt_len (ss.length : Int) (by omega) (by unfold roomNd at hr; omega)
  have h4 := lebInt_len (ps.length : Int) (by omega) (by unfold roomNd at hr; omega)
  unfold lebNode roomNd lebPrs at *
  simp only [List.length_append] at *
  omega
/-- what is known of a write's values. -/
def okW2 (x : WR) : Prop := i64R x.id ∧ i64R x.ed.a ∧ i64R x.ed.b ∧ x.ed.w < W64 ∧ (∀ p ∈ x.ps, okP2 p) ∧ roomWr x ≤ 4398046511104
theorem lebWr_len {x : WR} (h : okW2 x) : (lebWr x).length ≤ roomWr x := by
  obtain ⟨h1, h2, h3, h4, h5, h6⟩ := h
  have e1 := lebInt_len (b2i x.e) (b2i_r x.e).1 (b2i_r x.e).2
  have e2 := lebInt_len (b2i x.g) (b2i_r x.g).1 (b2i_r x.g).2
  have e3 := lebInt_len x.id h1.1 h1.2
  have e4 := lebInt_len x.ed.a h2.1 h2.2
  have e5 := lebInt_len x.ed.b h3.1 h3.2
  have e6 := lebNode_len (ss := x.ss) (ps := x.ps) (by unfold roomWr at h6; omega) h5
  have e7 := lebStr_len x.ed.t (by unfold roomWr at h6; omega)
  have e8 := lebReal_len x.ed.w
  unfold lebWr roomWr lebEd at *
  simp only [List.length_append]
  split
  · simp; omega
  · split
    · simp only [List.length_append]; omega
    · omega
theorem okW2_R {x : WR} (h : okW2 x) : okWR x := by
  obtain ⟨h1, h2, h3, h4, h5, h6⟩ := h
  have hs : x.ss.length ≤ strsRoom x.ss := sumR_len (fun s : List UInt8 => 10 + s.length) (by intro x; omega) x.ss
  have hq : x.ps.length ≤ sumR roomPr x.ps := sumR_len roomPr (by intro x; unfold roomPr; omega) x.ps
  unfold roomWr roomNd at h6
  exact ⟨fun s hs => by have := strsRoom_mem hs; omega, fun p hp => by have := (h5 p hp).2.2.2.2; omega, by omega, by omega, by omega, h4, h1⟩
theorem okW2_v {x : WR} (h : okW2 x) : okWv x := by
  have hr := okW2_R h
  exact ⟨hr.1, fun p hp => ⟨(h.2.2.2.2.1 p hp).2.1, (h.2.2.2.2.1 p hp).2.2.1, by have := (h.2.2.2.2.1 p hp).2.2.2.1; omega, by have := (h.2.2.2.2.1 p hp).2.2.2.2; omega⟩, hr.2.2.2.2.1, hr.2.2.2.2.2.1⟩

/-! ## what a cursor takes is no larger than what it used up -/
/-- what a cursor may still give. -/
def pot : Cur → Nat
  | none => 0
  | some l => l.length + 1
theorem curInt_pot (c : Cur) : i64R (curInt c).1 ∧ ((curInt c).2 = none ∧ (curInt c).1 = 0 ∨ ∃ l r, c = some l ∧ (curInt c).2 = some r ∧ r.length < l.length) := by
  have z : i64R 0 := ⟨by decide, by decide⟩
  cases c with
  | none => exact ⟨z, .inl ⟨rfl, rfl⟩⟩
  | some l =>
    have hd := decU_dec l
    cases h : decU l with
    | none =>
      have e : curInt (some l) = (0, none) := by simp only [curInt, h]
      rw [e]; exact ⟨z, .inl ⟨rfl, rfl⟩⟩
    | some p =>
      obtain ⟨q, r⟩ := p
      have e : curInt (some l) = (unzig q, some r) := by simp only [curInt, h]
      rw [h] at hd
      obtain ⟨h1, h2⟩ := hd
      rw [e]
      refine ⟨unzig_bd h1, .inr ⟨l, r, rfl, rfl, ?_⟩⟩
      have := Lib.uvarint_pos q
      rw [h2]; simp; omega
theorem curInt_p (c : Cur) : i64R (curInt c).1 ∧ 100 * pot (curInt c).2 ≤ 100 * pot c ∧ ((curInt c).2 = none ∨ 100 + 100 * pot (curInt c).2 ≤ 100 * pot c) := by
  obtain ⟨h1, h2⟩ := curInt_pot c
  refine ⟨h1, ?_⟩
  rcases h2 with ⟨h, h0⟩ | ⟨l, r, rfl, h, h'⟩
  · rw [h]; exact ⟨by simp [pot], .inl rfl⟩
  · rw [h]; simp only [pot]; exact ⟨by omega, .inr (by omega)⟩
theorem curStr_p (c : Cur) : ((curStr c).2 = none ∧ (curStr c).1 = []) ∨ 100 + 100 * (curStr c).1.length + 100 * pot (curStr c).2 ≤ 100 * pot c := by
  obtain ⟨_, h2⟩ := curInt_pot c
  unfold curStr
  rcases h2 with ⟨h, h0⟩ | ⟨l, r, rfl, h, h'⟩
  · rw [h]; exact .inl ⟨rfl, rfl⟩
  · rw [h]
    simp only [curTake]
    split
    · next hc =>
      right
      simp only [pot, List.length_take, List.length_drop]
      omega
    · exact .inl ⟨rfl, rfl⟩
theorem curReal_p (c : Cur) : (curReal c).1 < W64 ∧ ((curReal c).2 = none ∨ 100 + 100 * pot (curReal c).2 ≤ 100 * pot c) := by
  cases c with
  | none => exact ⟨by decide, .inl rfl⟩
  | some l =>
    simp only [curReal]
    split
    · next h8 =>
      split
      · next h =>
        refine ⟨?_, .inr (by simp only [pot, List.length_drop]; omega)⟩
        have hb : beVal (l.take 8) < W64 := beVal8_lt (by simp; omega)
        unfold ofN
        split
        · exact unkeyN_lt hb
        · show (0 : Nat) < W64; decide
      · exact ⟨by decide, .inl rfl⟩
    · exact ⟨by decide, .inl rfl⟩
theorem curStr_le (c : Cur) : 100 * (curStr c).1.length + 100 * pot (curStr c).2 ≤ 100 * pot c := by
  rcases curStr_p c with ⟨h1, h2⟩ | h
  · rw [h1, h2]; simp [pot]
  · omega
theorem curInt_none {c : Cur} (h : c = none) : curInt c = (0, none) := by subst h; rfl
theorem curReal_le (c : Cur) : 100 * pot (curReal c).2 ≤ 100 * pot c := by
  rcases (curReal_p c).2 with h | h
  · rw [h]; simp [pot]
  · omega
/-- the values that a cursor gives. -/
theorem curV_p (c : Cur) : i64R (curV c).1.k ∧ i64R (curV c).1.n ∧ (curV c).1.f < W64 ∧ 100 * (curV c).1.t.length + 100 * pot (curV c).2 ≤ 100 * pot c ∧ ((curV c).2 = none ∨ 100 + 100 * (curV c).1.t.length + 100 * pot (curV c).2 ≤ 100 * pot c) := by
  obtain ⟨h1, h2, h3⟩ := curInt_p c
  have z : i64R 0 := ⟨by decide, by decide⟩
  have zw : 0 < W64 := by decide
  unfold curV
  split
  · have hB := curInt_p (curInt c).2
    refine ⟨(show i64R 1 from ⟨by decide, by decide⟩), z, zw, by show 100 * 0 + 100 * pot (curInt _).2 ≤ _; omega, ?_⟩
    show (curInt _).2 = none ∨ 100 + 100 * 0 + 100 * pot (curInt _).2 ≤ _
    rcases hB.2.2 with h | h
    · exact .inl h
    · exact .inr (by omega)
  · split
    · have hB := curInt_p (curInt c).2
      refine ⟨(show i64R 2 from ⟨by decide, by decide⟩), hB.1, zw, by show 100 * 0 + 100 * pot (curInt _).2 ≤ _; omega, ?_⟩
      show (curInt _).2 = none ∨ 100 + 100 * 0 + 100 * pot (curInt _).2 ≤ _
      rcases hB.2.2 with h | h
      · exact .inl h
      · exact .inr (by omega)
    · split
      · have hB := curReal_p (curInt c).2
        have hC := curReal_le (curInt c).2
        refine ⟨(show i64R 3 from ⟨by decide, by decide⟩), z, hB.1, by show 100 * 0 + 100 * pot (curReal _).2 ≤ _; omega, ?_⟩
        show (curReal _).2 = none ∨ 100 + 100 * 0 + 100 * pot (curReal _).2 ≤ _
        rcases hB.2 with h | h
        · exact .inl h
        · exact .inr (by omega)
      · split
        · have hB := curStr_p (curInt c).2
          have hC := curStr_le (curInt c).2
          refine ⟨(show i64R 4 from ⟨by decide, by decide⟩), z, zw, by show 100 * (curStr _).1.length + 100 * pot (curStr _).2 ≤ _; omega, ?_⟩
          show (curStr _).2 = none ∨ 100 + 100 * (curStr _).1.length + 100 * pot (curStr _).2 ≤ _
          rcases hB with h | h
          · exact .inl h.1
          · exact .inr (by omega)
        · refine ⟨h1, z, zw, by show 100 * 0 + 100 * pot (curInt _).2 ≤ _; omega, ?_⟩
          show (curInt _).2 = none ∨ 100 + 100 * 0 + 100 * pot (curInt _).2 ≤ _
          rcases h3 with h | h
          · exact .inl h
          · exact .inr (by omega)
theorem curPr_p (c : Cur) : i64R (curPr c).1.v.k ∧ i64R (curPr c).1.v.n ∧ (curPr c).1.v.f < W64 ∧ 100 * ((curPr c).1.key.length + (curPr c).1.v.t.length) + 100 * pot (curPr c).2 ≤ 100 * pot c ∧ ((curPr c).2 = none ∨ roomPr (curPr c).1 + 100 * pot (curPr c).2 ≤ 100 * pot c) := by
  obtain ⟨h1, h2, h3, h4, h5⟩ := curV_p (curStr c).2
  have hS := curStr_le c
  refine ⟨h1, h2, h3, ?_, ?_⟩
  · show 100 * ((curStr c).1.length + (curV _).1.t.length) + 100 * pot (curV _).2 ≤ _; omega
  · show (curV _).2 = none ∨ (10 + (curStr c).1.length + (20 + (curV _).1.t.length)) + 100 * pot (curV _).2 ≤ _
    rcases h5 with h | h
    · exact .inl h
    · exact .inr (by omega)
theorem curPr_room (c : Cur) : roomPr (curPr c).1 + 100 * pot (curPr c).2 ≤ 100 * pot c + 30 := by
  obtain ⟨_, _, _, h4, h5⟩ := curPr_p c
  unfold roomPr roomV at *
  omega
/-- rows: at most the last one is taken behind an error. -/
theorem rowsN_p {X : Type} (f : Cur → X × Cur) (room : X → Nat) (D : Nat) (ok : X → Prop)
    (h1 : ∀ c, room (f c).1 + 100 * pot (f c).2 ≤ 100 * pot c + D) (h2 : ∀ c, (f c).2 = none ∨ room (f c).1 + 100 * pot (f c).2 ≤ 100 * pot c) (h3 : ∀ c, ok (f c).1) :
    ∀ (n : Nat) (c : Cur), sumR room (rowsN f n c).1 + 100 * pot (rowsN f n c).2 ≤ 100 * pot c + D ∧ (∀ x ∈ (rowsN f n c).1, ok x) ∧ ((rowsN f n c).2 = none ∨ sumR room (rowsN f n c).1 + 100 * pot (rowsN f n c).2 ≤ 100 * pot c)
  | 0, c => ⟨by simp [rowsN, sumR], by simp [rowsN], .inr (by simp [rowsN, sumR])⟩
  | n + 1, none => ⟨by simp [rowsN, sumR], by simp [rowsN], .inl rfl⟩
  | n + 1, some l => by
    obtain ⟨i1, i2, i3⟩ := rowsN_p f room D ok h1 h2 h3 n (f (some l)).2
    have k1 := h1 (some l)
    have k2 := h2 (some l)
    have k3 := h3 (some l)
    have e1 : (rowsN f (n + 1) (some l)).1 = (f (some l)).1 :: (rowsN f n (f (some l)).2).1 := rfl
    have e2 : (rowsN f (n + 1) (some l)).2 = (rowsN f n (f (some l)).2).2 := rfl
    rw [e1, e2, sumR_cons]
    rcases k2 with k2 | k2
    · have e3 : rowsN f n (f (some l)).2 = ([], none) := by rw [k2]; cases n <;> rfl
      rw [e3]
      refine ⟨?_, ?_, .inl rfl⟩
      · rw [k2] at k1; simpa [sumR, pot] using k1
      · intro x hx; simp at hx; subst hx; exact k3
    · refine ⟨by omega, ?_, ?_⟩
      · intro x hx
        rcases List.mem_cons.1 hx with rfl | hx
        · exact k3
        · exact i2 x hx
      · rcases i3 with i3 | i3
        · exact .inl i3
        · exact .inr (by omega)
theorem rowsC_str (c : Cur) : strsRoom (rowsC curStr c).1 + 100 * pot (rowsC curStr c).2 ≤ 100 * pot c + 10 ∧ ((rowsC curStr c).2 = none ∨ 100 + strsRoom (rowsC curStr c).1 + 100 * pot (rowsC curStr c).2 ≤ 100 * pot c) := by
  have hI := curInt_p c
  have h := rowsN_p curStr (fun s : List UInt8 => 10 + s.length) 10 (fun _ => True) (fun c => by have := curStr_le c; omega) (fun c => by rcases curStr_p c with h | h; exact .inl h.1; exact .inr (by omega)) (fun _ => trivial) (curInt c).1.toNat (curInt c).2
  obtain ⟨i1, _, i3⟩ := h
  change strsRoom (rowsC curStr c).1 + 100 * pot (rowsC curStr c).2 ≤ _ at i1
  change (rowsC curStr c).2 = none ∨ strsRoom (rowsC curStr c).1 + 100 * pot (rowsC curStr c).2 ≤ _ at i3
  refine ⟨by omega, ?_⟩
  rcases i3 with i3 | i3
  · exact .inl i3
  · rcases hI.2.2 with h | h
    · left
      unfold rowsC
      rw [h]; cases (curInt c).1.toNat
      · rfl
      · rfl
    · exact .inr (by omega)
def okPn (p : PR) : Prop := i64R p.v.k ∧ i64R p.v.n ∧ p.v.f < W64
theorem rowsC_pr (c : Cur) : sumR roomPr (rowsC curPr c).1 + 100 * pot (rowsC curPr c).2 ≤ 100 * pot c + 30 ∧ (∀ p ∈ (rowsC curPr c).1, okPn p) ∧ ((rowsC curPr c).2 = none ∨ 100 + sumR roomPr (rowsC curPr c).1 + 100 * pot (rowsC curPr c).2 ≤ 100 * pot c) := by
  have hI := curInt_p c
  have h := rowsN_p curPr roomPr 30 okPn curPr_room (fun c => (curPr_p c).2.2.2.2) (fun c => ⟨(curPr_p c).1, (curPr_p c).2.1, (curPr_p c).2.2.1⟩) (curInt c).1.toNat (curInt c).2
  obtain ⟨i1, i2, i3⟩ := h
  change sumR roomPr (rowsC curPr c).1 + 100 * pot (rowsC curPr c).2 ≤ _ at i1
  change (rowsC curPr c).2 = none ∨ sumR roomPr (rowsC curPr c).1 + 100 * pot (rowsC curPr c).2 ≤ _ at i3
  refine ⟨by omega, i2, ?_⟩
  rcases i3 with i3 | i3
  · exact .inl i3
  · rcases hI.2.2 with h | h
    · left
      unfold rowsC
      rw [h]; cases (curInt c).1.toNat
      · rfl
      · rfl
    · exact .inr (by omega)
theorem curHd_p (c : Cur) : i64R (curHd c).1.2.1 ∧ 100 * pot (curHd c).2 ≤ 100 * pot c ∧ ((curHd c).2 = none ∨ 300 + 100 * pot (curHd c).2 ≤ 100 * pot c) := by
  have a := curInt_p c
  have b := curInt_p (curInt c).2
  have d := curInt_p (curInt (curInt c).2).2
  refine ⟨b.1, by show 100 * pot (curInt (curInt (curInt c).2).2).2 ≤ _; omega, ?_⟩
  show (curInt (curInt (curInt c).2).2).2 = none ∨ 300 + 100 * pot (curInt (curInt (curInt c).2).2).2 ≤ _
  rcases a.2.2 with h | h
  · left; rw [h]; rfl
  · rcases b.2.2 with h' | h'
    · left; rw [h']; rfl
    · rcases d.2.2 with h'' | h''
      · exact .inl h''
      · exact .inr (by omega)
theorem curEd_p (c : Cur) : i64R (curEd c).1.a ∧ i64R (curEd c).1.b ∧ (curEd c).1.w < W64 ∧ 100 * (curEd c).1.t.length + 100 * pot (curEd c).2 ≤ 100 * pot c := by
  have a := curInt_p c
  have b := curInt_p (curInt c).2
  have d := curStr_le (curInt (curInt c).2).2
  have e := curReal_p (curStr (curInt (curInt c).2).2).2
  have e' := curReal_le (curStr (curInt (curInt c).2).2).2
  exact ⟨a.1, b.1, e.1, by show 100 * (curStr _).1.length + 100 * pot (curReal _).2 ≤ _; omega⟩
theorem curNd_p (c : Cur) : (∀ p ∈ (curNd c).1.2, okPn p) ∧ strsRoom (curNd c).1.1 + sumR roomPr (curNd c).1.2 + 100 * pot (curNd c).2 ≤ 100 * pot c + 40 := by
  have a := rowsC_str c
  have b := rowsC_pr (rowsC curStr c).2
  exact ⟨b.2.1, by show strsRoom (rowsC curStr c).1 + sumR roomPr (rowsC curPr _).1 + 100 * pot (rowsC curPr _).2 ≤ _; omega⟩
/-- what a cursor gives for a write. -/
def okWn (x : WR) : Prop := i64R x.id ∧ i64R x.ed.a ∧ i64R x.ed.b ∧ x.ed.w < W64 ∧ ∀ p ∈ x.ps, okPn p
theorem strsRoom_nil : strsRoom [] = 0 := rfl
theorem curWr_p (c : Cur) : okWn (curWr c).1 ∧ roomWr (curWr c).1 + 100 * pot (curWr c).2 ≤ 100 * pot c + 130 ∧ ((curWr c).2 = none ∨ roomWr (curWr c).1 + 100 * pot (curWr c).2 ≤ 100 * pot c) := by
  obtain ⟨h1, h2, h3⟩ := curHd_p c
  have z : i64R 0 := ⟨by decide, by decide⟩
  have zw : 0 < W64 := by decide
  have sn : sumR roomPr [] = 0 := rfl
  unfold curWr
  split
  · refine ⟨⟨h1, z, z, zw, by simp⟩, ?_, ?_⟩
    · simp only [roomWr, roomNd, strsRoom_nil, sn, noED, List.length_nil]; omega
    · simp only [roomWr, roomNd, strsRoom_nil, sn, noED, List.length_nil]
      rcases h3 with h | h
      · exact .inl h
      · exact .inr (by omega)
  · split
    · obtain ⟨e1, e2, e3, e4⟩ := curEd_p (curHd c).2
      refine ⟨⟨h1, e1, e2, e3, by simp⟩, ?_, ?_⟩
      · simp only [roomWr, roomNd, strsRoom_nil, sn]; omega
      · simp only [roomWr, roomNd, strsRoom_nil, sn]
        rcases h3 with h | h
        · left
          rw [h]; rfl
        · exact .inr (by omega)
    · obtain ⟨e1, e2⟩ := curNd_p (curHd c).2
      refine ⟨⟨h1, z, z, zw, e1⟩, ?_, ?_⟩
      · simp only [roomWr, roomNd, noED, List.length_nil]; omega
      · simp only [roomWr, roomNd, noED, List.length_nil]
        rcases h3 with h | h
        · left
          rw [h]; rfl
        · exact .inr (by omega)
theorem rowsC_wr (c : Cur) : sumR roomWr (rowsC curWr c).1 ≤ 100 * pot c + 130 ∧ (∀ x ∈ (rowsC curWr c).1, okWn x) := by
  have hI := curInt_p c
  have h := rowsN_p curWr roomWr 130 okWn (fun c => (curWr_p c).2.1) (fun c => (curWr_p c).2.2) (fun c => (curWr_p c).1) (curInt c).1.toNat (curInt c).2
  obtain ⟨i1, i2, i3⟩ := h
  change sumR roomWr (rowsC curWr c).1 + 100 * pot (rowsC curWr c).2 ≤ _ at i1
  exact ⟨by omega, i2⟩
/-- what is taken from so many bytes is small. -/
theorem curAll_p (l : List UInt8) (h : l.length ≤ 10000000) : sumR roomWr (curAll (some l)).1.2.2 ≤ 1000001000 ∧ (∀ x ∈ (curAll (some l)).1.2.2, okW2 x) ∧ i64R (curAll (some l)).1.1 ∧ i64R (curAll (some l)).1.2.1 := by
  have a := curInt_p (some l)
  have b := curInt_p (curInt (some l)).2
  have c := rowsC_wr (curInt (curInt (some l)).2).2
  have hp : pot (some l) = l.length + 1 := rfl
  have h1 : sumR roomWr (curAll (some l)).1.2.2 ≤ 1000001000 := by show sumR roomWr (rowsC curWr _).1 ≤ _; omega
  refine ⟨h1, fun x hx => ?_, a.1, b.1⟩
  obtain ⟨k1, k2, k3, k4, k5⟩ := c.2 x hx
  have hr := sumR_mem roomWr hx
  refine ⟨k1, k2, k3, k4, fun p hp => ?_, by omega⟩
  have hq := sumR_mem roomPr hp
  have : roomPr p ≤ roomWr x := by unfold roomWr roomNd; omega
  unfold roomPr roomV at this
  exact ⟨(k5 p hp).1, (k5 p hp).2.1, (k5 p hp).2.2, by omega, by omega⟩
end Go.Proofs.YtmbffncmogpkfaaGreatDoor
