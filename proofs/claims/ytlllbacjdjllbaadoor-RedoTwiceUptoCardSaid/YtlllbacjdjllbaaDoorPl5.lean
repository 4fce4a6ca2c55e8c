
/- Package redo: a log with its entries, on a drum that has lasted; appended to, reset, crashed, opened. -/
import Derived.Test.YtlllbacjdjllbaaDoorPl4
import Derived.Test.YtlllbacjdjllbaaDoorLaw5a
namespace Go.Proofs.YtlllbacjdjllbaaDoor
open Go Go.Proofs Go.Shelf Go.RowKit Go.Great
set_option linter.unusedVariables false
set_option linter.unusedSimpArgs false

def encs (es : List (List UInt8)) : List UInt8 := es.flatMap lebStr
theorem encs_snoc (es : List (List UInt8)) (p : List UInt8) : encs (es ++ [p]) = encs es ++ lebStr p := by simp [encs]
theorem lebStr_pos (s : List UInt8) : 1 ≤ (lebStr s).length := by
  have := lebInt_pos (s.length : Int)
  unfold lebStr
  rw [List.length_append]
  omega
theorem entF_encs : ∀ (es : List (List UInt8)) (q : Nat), (∀ s ∈ es, s.length ≤ 9223372036854775807) → (encs es).length ≤ q → entF q (some (encs es)) = (es, true)
  | [], q, _, _ => by simp [encs, entF]
  | s :: es, q, hs, hq => by
    have e : encs (s :: es) = lebStr s ++ encs es := by simp [encs]
    rw [e] at hq ⊢
    have h1 := lebStr_pos s
    rw [List.length_append] at hq
    have hb := curStr_back (hs s (List.mem_cons_self ..)) (encs es)
    obtain ⟨q', rfl⟩ : ∃ q', q = q' + 1 := ⟨q - 1, by omega⟩
    have ih := entF_encs es q' (fun x hx => hs x (List.mem_cons_of_mem _ hx)) (by omega)
    generalize lebStr s ++ encs es = l at *
    cases l with
    | nil => exfalso; simp [curStr, curInt, decU, curTake] at hb
    | cons x r =>
      rw [entF, hb]
      simp only [ih]
theorem entP_encs {es : List (List UInt8)} (hs : ∀ s ∈ es, s.length ≤ 9223372036854775807) : entP (encs es) = (es, true) := entF_encs es _ hs (Nat.le_refl _)
theorem encs_mem {es : List (List UInt8)} {s : List UInt8} (h : s ∈ es) : s.length ≤ (encs es).length := by
  induction es with
  | nil => cases h
  | cons x r ih =>
    have e : encs (x :: r) = lebStr x ++ encs r := by simp [encs]
    rw [e, List.length_append]
    rcases List.mem_cons.1 h with rfl | h
    · have : s.length ≤ (lebStr s).length := by unfold lebStr; rw [List.length_append]; omega
      omega
    · have := ih h; omega
theorem encs_count (es : List (List UInt8)) : es.length ≤ (encs es).length := by
  induction es with
  | nil => exact Nat.zero_le _
  | cons x r ih =>
    have e : encs (x :: r) = lebStr x ++ encs r := by simp [encs]
    have := lebStr_pos x
    rw [e, List.length_append, List.length_cons]
    omega
/-- the sectors read as these entries. -/
def Rd (n : Nat) (now : List UInt8) (es : List (List UInt8)) : Prop := ∃ hd, Vw n now hd (encs es)
/-- a log that lives, its entries, and a drum that has lasted. -/
structure Gd (l : PL) (d : PD) (es : List (List UInt8)) : Prop where
  view : Vw d.n d.now l.head (encs es)
  b : l.b = encs es
  sync : Synced d
  live : l.dead = false
  cnt : l.count = es.length
theorem Gd.ok {l : PL} {d : PD} {es : List (List UInt8)} (h : Gd l d es) : l.ok d := by
  have hv := h.view
  have hf := hv.fits
  have hc := encs_count es
  have hq : bankP d = (d.n - 2) / 2 := rfl
  have h2 := hv.rg.2
  exact ⟨hv.rg.1, hv.no, hv.bank, by rw [h.b, hq]; exact hf, by rw [h.cnt]; omega⟩
theorem Gd.new {n : Nat} (h4 : 4 ≤ n) (h2 : n ≤ 200) (fuse : Int) : Gd log0 { newP n with fuse := fuse } [] := ⟨Vw.zero h4 h2, rfl, ⟨rfl, rfl⟩, rfl, rfl⟩
theorem Gd.of {d : PD} {hd : HD3} {es : List (List UInt8)} (h : Vw d.n d.now hd (encs es)) (hs : Synced d) : Gd ⟨hd, encs es, es.length, false⟩ d es := ⟨h, rfl, hs, rfl, rfl⟩
/-- what is opened on such a drum. -/
theorem open_of {lo D g m : Nat} {v : Value} {d : PD} {w : World} (h : DrumAt lo w D g m v d) {hd : HD3} {es : List (List UInt8)} (hv : Vw d.n d.now hd (encs es)) : Calls Tryd.prog 11 #[.pointer (some ⟨D, 0, none⟩)] w (OpenLD lo w D g m v d ⟨hd, encs es, es.length, false⟩ es) := by
  obtain ⟨h1, h2⟩ := hv.reads
  have hf := hv.fits
  have h3 := hv.rg.2
  have he : entP (logB d) = (es, true) := by rw [h2]; exact entP_encs (fun s hs => by have := encs_mem hs; omega)
  exact OpenLD_c h hv.rg.1 he (by unfold logP; rw [he, h1, h2])
/-- what laying an entry comes to. -/
def LayTo (l : PL) (d : PD) (es es' : List (List UInt8)) (r : Int × PL × PD) : Prop :=
  r.2.2.n = d.n ∧ r.2.2.wait.length ≤ d.wait.length + 101 ∧
  ((r.1 = 0 ∧ r.2.1.head.number = l.head.number + 1 ∧ Gd r.2.1 r.2.2 es') ∨
   (r.1 = 9 ∧ r.2.1 = { l with dead := true } ∧ ∀ keep, Rd d.n (crashS r.2.2.good r.2.2.wait keep) es ∨ Rd d.n (crashS r.2.2.good r.2.2.wait keep) es'))
theorem lay_gd {l : PL} {d : PD} {es es' : List (List UInt8)} (h : Gd l d es) {p b0 : List UInt8} {k : Nat} {count : Int} (hl : Laid l.head (encs es) k b0) (he : encs es' = b0 ++ lebStr p) (hc : count = es'.length) (hb : (b0 ++ lebStr p).length ≤ 64 * bankP d) (hno : l.head.number < 1099511627776) : LayTo l d es es' (laysP l d k b0 p count) := by
  have hv := writes_view h.view h.sync hl (e := lebStr p) hb (by omega)
  have hcnt := encs_count es'
  have hq : bankP d ≤ 99 := by unfold bankP; have := h.view.rg.2; omega
  have s := lays_step (k := k) (b := b0) (p := p) (count := count) h.ok h.view.rg.2 hl.1 (by rw [hc]; rw [he] at hcnt; omega) hb hno
  obtain ⟨s1, s2, s3, s4⟩ := s
  have hform : laysP l d k b0 p count = if (writesP d (l.head.number + 1) k (b0 ++ lebStr p) b0.length).1 = 0 then (0, ⟨⟨l.head.number + 1, k, (b0 ++ lebStr p).length⟩, b0 ++ lebStr p, count, false⟩, (writesP d (l.head.number + 1) k (b0 ++ lebStr p) b0.length).2) else ((writesP d (l.head.number + 1) k (b0 ++ lebStr p) b0.length).1, { l with dead := true }, (writesP d (l.head.number + 1) k (b0 ++ lebStr p) b0.length).2) := by
    unfold laysP
    rw [h.live, if_neg (by decide), if_neg (by omega)]
  refine ⟨s3, s4, ?_⟩
  rw [hform] at s1 s3 ⊢
  by_cases hw : (writesP d (l.head.number + 1) k (b0 ++ lebStr p) b0.length).1 = 0
  · rw [if_pos hw] at s3 ⊢
    obtain ⟨v1, v2⟩ := hv.1 hw
    have s3' : (writesP d (l.head.number + 1) k (b0 ++ lebStr p) b0.length).2.n = d.n := s3
    refine .inl ⟨rfl, rfl, ⟨?_, he.symm, v1, rfl, hc⟩⟩
    show Vw (writesP d (l.head.number + 1) k (b0 ++ lebStr p) b0.length).2.n _ _ (encs es')
    rw [s3', he]
    exact v2
  · rw [if_neg hw] at s1 ⊢
    refine .inr ⟨?_, rfl, fun keep => ?_⟩
    · rcases s1 with ⟨_, s1, _⟩ | ⟨s1, _⟩
      · exact absurd s1 hw
      · exact s1
    · rcases hv.2 hw keep with q | q
      · exact .inl ⟨_, q⟩
      · exact .inr ⟨_, by rw [he]; exact q⟩
theorem append_gd {l : PL} {d : PD} {es : List (List UInt8)} (h : Gd l d es) {p : List UInt8} (hb : (encs es ++ lebStr p).length ≤ 64 * bankP d) (hno : l.head.number < 1099511627776) : LayTo l d es (es ++ [p]) (appendP l d p) := by
  have hbk := h.view.bank
  unfold appendP
  rw [h.b]
  exact lay_gd h ⟨by omega, .inl ⟨rfl, rfl⟩⟩ (encs_snoc es p) (by rw [h.cnt]; simp) hb hno
theorem reset_gd {l : PL} {d : PD} {es : List (List UInt8)} (h : Gd l d es) {p : List UInt8} (hb : (lebStr p).length ≤ 64 * bankP d) (hno : l.head.number < 1099511627776) : LayTo l d es [p] (resetP l d p) := by
  have hbk := h.view.bank
  unfold resetP
  exact lay_gd h ⟨by omega, .inr ⟨by omega, rfl⟩⟩ (by simp [encs]) rfl (by simpa using hb) hno
theorem crash_sync (d : PD) (keep : List Bool) : Synced (crashP d keep) := ⟨rfl, rfl⟩
theorem crash_alive (d : PD) (keep : List Bool) : Alive (crashP d keep) := ⟨rfl, rfl⟩
theorem crash_none {d : PD} (h : Synced d) (keep : List Bool) : (crashP d keep).now = d.now ∧ (crashP d keep).n = d.n := by
  unfold crashP
  rw [h.2, h.1]
  cases keep <;> exact ⟨rfl, rfl⟩
end Go.Proofs.YtlllbacjdjllbaaDoor
