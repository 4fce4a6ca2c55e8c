
/- Package record's codec, plainly: the bytes of writes; what a cursor takes; what was laid is taken back as it was. -/
import Derived.Test.YtmbffncmogpkfaaGreatDoorRec6
import Derived.Test.YtmbffncmogpkfaaGreatDoorLebP
namespace Go.Proofs.YtmbffncmogpkfaaGreatDoor
open Go Go.Proofs Go.RowKit
set_option linter.unusedVariables false
set_option linter.unusedSimpArgs false

def lebV (v : V5) : List UInt8 := lebInt v.k ++ (if v.k = 1 then lebInt (b2i v.b) else if v.k = 2 then lebInt v.n else if v.k = 3 then lebReal v.f else if v.k = 4 then lebStr v.t else [])
def lebPr (p : PR) : List UInt8 := lebStr p.key ++ lebV p.v
def lebPrs (ps : List PR) : List UInt8 := ps.flatMap lebPr
def lebNode (ss : List (List UInt8)) (ps : List PR) : List UInt8 := lebInt ss.length ++ lebStrs ss ++ lebInt ps.length ++ lebPrs ps
def lebEd (x : ED) : List UInt8 := lebInt x.a ++ lebInt x.b ++ lebStr x.t ++ lebReal x.w
def lebWr (x : WR) : List UInt8 := lebInt (b2i x.e) ++ lebInt x.id ++ lebInt (b2i x.g) ++ (if x.g = true then [] else if x.e = true then lebEd x.ed else lebNode x.ss x.ps)
def lebWrs (xs : List WR) : List UInt8 := xs.flatMap lebWr
def lebAll (nodes edges : Int) (xs : List WR) : List UInt8 := lebInt nodes ++ lebInt edges ++ lebInt xs.length ++ lebWrs xs

def curB (c : Cur) : Bool × Cur := ((curInt c).1 == 1, (curInt c).2)
def curV (c : Cur) : V5 × Cur :=
  if (curInt c).1 = 1 then (⟨1, (curB (curInt c).2).1, 0, 0, []⟩, (curB (curInt c).2).2)
  else if (curInt c).1 = 2 then (⟨2, false, (curInt (curInt c).2).1, 0, []⟩, (curInt (curInt c).2).2)
  else if (curInt c).1 = 3 then (⟨3, false, 0, (curReal (curInt c).2).1, []⟩, (curReal (curInt c).2).2)
  else if (curInt c).1 = 4 then (⟨4, false, 0, 0, (curStr (curInt c).2).1⟩, (curStr (curInt c).2).2)
  else (⟨(curInt c).1, false, 0, 0, []⟩, (curInt c).2)
def curPr (c : Cur) : PR × Cur := (⟨(curStr c).1, (curV (curStr c).2).1⟩, (curV (curStr c).2).2)
def rowsN {X : Type} (f : Cur → X × Cur) : Nat → Cur → List X × Cur
  | 0, c => ([], c)
  | _ + 1, none => ([], none)
  | n + 1, some l => ((f (some l)).1 :: (rowsN f n (f (some l)).2).1, (rowsN f n (f (some l)).2).2)
def rowsC {X : Type} (f : Cur → X × Cur) (c : Cur) : List X × Cur := rowsN f (curInt c).1.toNat (curInt c).2
def curEd (c : Cur) : ED × Cur :=
  (⟨(curInt c).1, (curInt (curInt c).2).1, (curStr (curInt (curInt c).2).2).1, (curReal (curStr (curInt (curInt c).2).2).2).1⟩, (curReal (curStr (curInt (curInt c).2).2).2).2)
def curNd (c : Cur) : (List (List UInt8) × List PR) × Cur := (((rowsC curStr c).1, (rowsC curPr (rowsC curStr c).2).1), (rowsC curPr (rowsC curStr c).2).2)
def noED : ED := ⟨0, 0, [], 0⟩
def curHd (c : Cur) : (Bool × Int × Bool) × Cur := (((curB c).1, (curInt (curB c).2).1, (curB (curInt (curB c).2).2).1), (curB (curInt (curB c).2).2).2)
def curWr (c : Cur) : WR × Cur :=
  if (curHd c).1.2.2 = true then (⟨(curHd c).1.1, (curHd c).1.2.1, true, [], [], noED⟩, (curHd c).2)
  else if (curHd c).1.1 = true then (⟨true, (curHd c).1.2.1, false, [], [], (curEd (curHd c).2).1⟩, (curEd (curHd c).2).2)
  else (⟨false, (curHd c).1.2.1, false, (curNd (curHd c).2).1.1, (curNd (curHd c).2).1.2, noED⟩, (curNd (curHd c).2).2)
def curAll (c : Cur) : (Int × Int × List WR) × Cur :=
  (((curInt c).1, (curInt (curInt c).2).1, (rowsC curWr (curInt (curInt c).2).2).1), (rowsC curWr (curInt (curInt c).2).2).2)

theorem b2i_one (b : Bool) : (b2i b == 1) = b := by cases b <;> rfl
theorem b2i_r (b : Bool) : -9223372036854775808 ≤ b2i b ∧ b2i b ≤ 9223372036854775807 := by cases b <;> decide
theorem curB_back (b : Bool) (r : List UInt8) : curB (some (lebInt (b2i b) ++ r)) = (b, some r) := by
  unfold curB; rw [curInt_back (b2i_r b).1 (b2i_r b).2, b2i_one]
theorem norm_zero {w : Nat} (h : normN w = 0) : w = 0 := by
  unfold normN nanBits at h
  split at h
  · omega
  · exact h
theorem normN_zero : normN 0 = 0 := by decide +kernel
/-- what may be a value, may be laid and taken back. -/
theorem isV_form {v : V5} (h : isV v = true) : (0 ≤ v.k ∧ v.k ≤ 4) ∧ v.b = (if v.k = 1 then v.b else false) ∧ v.n = (if v.k = 2 then v.n else 0) ∧ v.f = (if v.k = 3 then normN v.f else 0) ∧ v.t = (if v.k = 4 then v.t else []) := by
  obtain ⟨k, b, n, f, t⟩ := v
  simp only [isV, sameV, namedV, Bool.and_eq_true, decide_eq_true_eq, beq_iff_eq] at h
  obtain ⟨⟨⟨⟨⟨⟨h1, h2⟩, h3⟩, h4⟩, h5⟩, h6⟩, h7⟩ := h
  exact ⟨⟨h5, h6⟩, h1.symm, h2.symm, by have : (if k = 3 then normN f else 0) = f := by omega
                                        exact this.symm, h3.symm⟩
theorem curV_back {v : V5} (h : isV v = true) (hn : i64R v.n) (hf : v.f < W64) (ht : v.t.length ≤ 9223372036854775807) (r : List UInt8) : curV (some (lebV v ++ r)) = (v, some r) := by
  obtain ⟨⟨h0, h4⟩, hb', hn', hf', ht'⟩ := isV_form h
  obtain ⟨k, b, n, f, t⟩ := v
  dsimp only at *
  have e : ∀ rest, curInt (some (lebInt k ++ rest)) = (k, some rest) := fun rest => curInt_back (by omega) (by omega) rest
  have hk : k = 0 ∨ k = 1 ∨ k = 2 ∨ k = 3 ∨ k = 4 := by omega
  unfold lebV curV
  dsimp only
  rw [List.append_assoc, e]
  rcases hk with rfl | rfl | rfl | rfl | rfl
  · simp at hb' hn' hf' ht' ⊢
    subst hb' hn' hf' ht'; simp
  · simp at hn' hf' ht' ⊢
    subst hn' hf' ht'
    rw [curB_back]; simp
  · simp at hb' hf' ht' ⊢
    subst hb' hf' ht'
    rw [curInt_back hn.1 hn.2]; simp
  · simp at hb' hn' ht' ⊢
    subst hb' hn' ht'
    rw [curReal_back hf]
    simp only [if_true] at hf'
    rw [← hf']; simp
  · simp at hb' hn' hf' ⊢
    subst hb' hn' hf'
    rw [curStr_back ht]; simp
theorem rowsN_back {X : Type} (f : Cur → X × Cur) (g : X → List UInt8) : ∀ (xs : List X) (r : List UInt8), (∀ x ∈ xs, ∀ r, f (some (g x ++ r)) = (x, some r)) → rowsN f xs.length (some (xs.flatMap g ++ r)) = (xs, some r)
  | [], r, _ => rfl
  | x :: xs, r, h => by
    rw [List.flatMap_cons, List.append_assoc, List.length_cons]
    unfold rowsN
    rw [h x (by simp)]
    dsimp only
    rw [rowsN_back f g xs r (fun y hy => h y (by simp [hy]))]
theorem rowsC_back {X : Type} (f : Cur → X × Cur) (g : X → List UInt8) (xs : List X) (r : List UInt8) (hl : xs.length ≤ 4398046511104) (h : ∀ x ∈ xs, ∀ r, f (some (g x ++ r)) = (x, some r)) : rowsC f (some (lebInt xs.length ++ (xs.flatMap g ++ r))) = (xs, some r) := by
  unfold rowsC
  rw [curInt_back (by omega) (by omega)]
  dsimp only
  rw [Int.toNat_natCast]
  exact rowsN_back f g xs r h
/-- a property may be laid. -/
def okPv (p : PR) : Prop := isV p.v = true ∧ i64R p.v.n ∧ p.v.f < W64 ∧ p.v.t.length ≤ 9223372036854775807 ∧ p.key.length ≤ 9223372036854775807
theorem curPr_back {p : PR} (h : okPv p) (r : List UInt8) : curPr (some (lebPr p ++ r)) = (p, some r) := by
  obtain ⟨h1, h2, h3, h4, h5⟩ := h
  unfold curPr lebPr
  rw [List.append_assoc, curStr_back h5]
  dsimp only
  rw [curV_back h1 h2 h3 h4]
theorem curNd_back {ss : List (List UInt8)} {ps : List PR} (hs : ∀ s ∈ ss, s.length ≤ 9223372036854775807) (hp : ∀ p ∈ ps, okPv p) (h1 : ss.length ≤ 4398046511104) (h2 : ps.length ≤ 4398046511104) (r : List UInt8) : curNd (some (lebNode ss ps ++ r)) = ((ss, ps), some r) := by
  unfold curNd lebNode lebPrs lebStrs
  have e1 := rowsC_back curStr lebStr ss (lebInt ps.length ++ (ps.flatMap lebPr ++ r)) h1 (fun s hs' r => curStr_back (hs s hs') r)
  have e2 := rowsC_back curPr lebPr ps r h2 (fun p hp' r => curPr_back (hp p hp') r)
  simp only [List.append_assoc]
  rw [e1]
  dsimp only
  rw [e2]
theorem curEd_back {x : ED} (ha : i64R x.a) (hb : i64R x.b) (ht : x.t.length ≤ 9223372036854775807) (hw : x.w < W64) (hn : normN x.w = x.w) (r : List UInt8) : curEd (some (lebEd x ++ r)) = (x, some r) := by
  unfold curEd lebEd
  simp only [List.append_assoc]
  rw [curInt_back ha.1 ha.2]
  dsimp only
  rw [curInt_back hb.1 hb.2]
  dsimp only
  rw [curStr_back ht]
  dsimp only
  rw [curReal_back hw, hn]
theorem sameED_none {x : ED} (hw : x.w < W64) (h : sameED x ⟨0, 0, [], 0⟩ = true) : x = noED := by
  obtain ⟨a, b, t, w⟩ := x
  simp only [sameED, Bool.and_eq_true, beq_iff_eq] at h
  obtain ⟨⟨⟨h1, h2⟩, h3⟩, h4⟩ := h
  have h5 : (cmpN w 0 == 0) = true := by simpa using h4
  rw [cmpN_zero, decide_eq_true_eq] at h5
  have h6 : normN w = normN 0 := key_inj hw (by unfold W64; omega) h5
  rw [normN_zero] at h6
  obtain rfl : w = 0 := norm_zero h6
  rw [h1, h2, h3]; rfl
theorem weight_norm {w : Nat} (h : weightB w = true) : normN w = w := by
  apply norm_of_not
  unfold weightB at h
  simp only [Bool.or_eq_true, beq_iff_eq] at h
  rcases h with h | h <;> exact (not_nan_of h).1
/-- a write may be laid: how it looks. -/
theorem writeB_form {nodes edges : Int} {x : WR} (hw : x.ed.w < W64) (h : writeB nodes edges x = true) :
    (1 ≤ x.id ∧ x.id ≤ if x.e then edges else nodes) ∧ ((x.g = true ∧ x.ss = [] ∧ x.ps = [] ∧ x.ed = noED) ∨ (x.g = false ∧ x.e = true ∧ x.ss = [] ∧ x.ps = [] ∧ okED x.ed = true) ∨ (x.g = false ∧ x.e = false ∧ x.ed = noED ∧ nodeB x.ss x.ps = true)) := by
  unfold writeB at h
  simp only [Bool.and_eq_true, decide_eq_true_eq] at h
  obtain ⟨⟨h1, h2⟩, h3⟩ := h
  refine ⟨h1, ?_⟩
  have hn : ∀ {x : WR}, nothingB x = true → x.ss = [] ∧ x.ps = [] := fun h => by
    simp only [nothingB, Bool.and_eq_true, decide_eq_true_eq] at h
    exact ⟨List.length_eq_zero_iff.1 h.1, List.length_eq_zero_iff.1 h.2⟩
  cases hg : x.g with
  | true =>
    rw [hg] at h2
    simp only [if_true, Bool.and_eq_true] at h2
    exact .inl ⟨rfl, (hn h2.2).1, (hn h2.2).2, sameED_none hw h2.1⟩
  | false =>
    rw [hg] at h2
    cases he : x.e with
    | true =>
      rw [he] at h2 h3
      simp only [Bool.false_eq_true, if_false, if_true] at h2 h3
      exact .inr (.inl ⟨rfl, rfl, (hn h3).1, (hn h3).2, h2⟩)
    | false =>
      rw [he] at h2 h3
      simp only [Bool.false_eq_true, if_false] at h2 h3
      exact .inr (.inr ⟨rfl, rfl, sameED_none hw h3, h2⟩)
theorem nodeB_form {ss : List (List UInt8)} {ps : List PR} (h : nodeB ss ps = true) : (∀ p ∈ ps, isV p.v = true ∧ (p.v.k == 0) = false) ∧ namesB ss = true ∧ ss.length ≤ 3 ∧ namesB (ps.map PR.key) = true ∧ ps.length ≤ 3 := by
  simp only [nodeB, Bool.and_eq_true, List.all_eq_true, Bool.not_eq_true', decide_eq_true_eq] at h
  obtain ⟨⟨h1, h2, h3⟩, h4, h5⟩ := h
  exact ⟨h1, h2, by omega, h4, by omega⟩
/-- what is within a write's values. -/
def okWv (x : WR) : Prop := (∀ s ∈ x.ss, s.length ≤ 9223372036854775807) ∧ (∀ p ∈ x.ps, i64R p.v.n ∧ p.v.f < W64 ∧ p.v.t.length ≤ 9223372036854775807 ∧ p.key.length ≤ 9223372036854775807) ∧ x.ed.t.length ≤ 9223372036854775807 ∧ x.ed.w < W64
theorem okED_form {x : ED} (h : okED x = true) : (1 ≤ x.a ∧ x.a ≤ 24) ∧ (1 ≤ x.b ∧ x.b ≤ 24) ∧ nameB x.t = true ∧ weightB x.w = true := by
  simp only [okED, Bool.and_eq_true, decide_eq_true_eq] at h
  obtain ⟨⟨⟨⟨⟨h1, h2⟩, h3⟩, h4⟩, h5⟩, h6⟩ := h
  exact ⟨⟨h1, h2⟩, ⟨h3, h4⟩, h5, h6⟩
theorem curHd_back (e g : Bool) {id : Int} (hi : i64R id) (r : List UInt8) : curHd (some (lebInt (b2i e) ++ (lebInt id ++ (lebInt (b2i g) ++ r)))) = ((e, id, g), some r) := by
  unfold curHd
  rw [curB_back]
  dsimp only
  rw [curInt_back hi.1 hi.2]
  dsimp only
  rw [curB_back]
theorem curWr_back {nodes edges : Int} {x : WR} (hn : nodes ≤ 9223372036854775807) (he : edges ≤ 9223372036854775807) (hok : okWv x) (h : writeB nodes edges x = true) (r : List UInt8) : curWr (some (lebWr x ++ r)) = (x, some r) := by
  obtain ⟨⟨hi1, hi2⟩, hf⟩ := writeB_form hok.2.2.2 h
  have hi : i64R x.id := ⟨by omega, by split at hi2 <;> omega⟩
  obtain ⟨e, id, g, ss, ps, ed⟩ := x
  obtain ⟨k1, k2, k3, k4⟩ := hok
  dsimp only at *
  unfold curWr lebWr
  simp only [List.append_assoc]
  rw [curHd_back e g hi]
  dsimp only
  rcases hf with ⟨rfl, rfl, rfl, rfl⟩ | ⟨rfl, rfl, rfl, rfl, h5⟩ | ⟨rfl, rfl, rfl, h4⟩
  · simp
  · obtain ⟨h6, h7, h8, h9⟩ := okED_form h5
    simp only [Bool.false_eq_true, if_false, if_true]
    rw [curEd_back ⟨by omega, by omega⟩ ⟨by omega, by omega⟩ k3 k4 (weight_norm h9)]
  · obtain ⟨h5, h6, h7, h8, h9⟩ := nodeB_form h4
    simp only [Bool.false_eq_true, if_false]
    rw [curNd_back k1 (fun p hp => ⟨(h5 p hp).1, (k2 p hp).1, (k2 p hp).2.1, (k2 p hp).2.2.1, (k2 p hp).2.2.2⟩) (by omega) (by omega)]
theorem areW_form {nodes edges : Int} : ∀ {xs : List WR} {seen : List (Bool × Int)}, areW nodes edges seen xs = true → (∀ x ∈ xs, writeB nodes edges x = true) ∧ (0 ≤ nodes ∧ nodes ≤ 24) ∧ 0 ≤ edges ∧ edges ≤ 32
  | [], _, h => by
    simp only [areW, Bool.and_eq_true, decide_eq_true_eq] at h
    exact ⟨by simp, h⟩
  | x :: xs, seen, h => by
    unfold areW at h
    split at h
    · simp at h
    · next hc =>
      obtain ⟨h1, h2⟩ := areW_form h
      refine ⟨fun y hy => ?_, h2⟩
      rcases List.mem_cons.1 hy with rfl | hy
      · simp only [Bool.or_eq_true, Bool.not_eq_true', not_or] at hc
        simpa using hc.2
      · exact h1 y hy
/-- what was laid is taken back, whatever stands behind. -/
theorem curAll_back {nodes edges : Int} {xs : List WR} (hl : xs.length ≤ 4398046511104) (hok : ∀ x ∈ xs, okWv x) (h : areW nodes edges [] xs = true) (r : List UInt8) : curAll (some (lebAll nodes edges xs ++ r)) = ((nodes, edges, xs), some r) := by
  obtain ⟨h1, h2, h3⟩ := areW_form h
  unfold curAll lebAll lebWrs
  simp only [List.append_assoc]
  rw [curInt_back (by omega) (by omega)]
  dsimp only
  rw [curInt_back (by omega) (by omega)]
  dsimp only
  rw [rowsC_back curWr lebWr xs r hl (fun x hx r => curWr_back (by omega) (by omega) (hok x hx) (h1 x hx) r)]
end Go.Proofs.YtmbffncmogpkfaaGreatDoor
