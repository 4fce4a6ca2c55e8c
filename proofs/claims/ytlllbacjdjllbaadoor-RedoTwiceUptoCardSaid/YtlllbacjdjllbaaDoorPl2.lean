
/- Package redo, plainly: what a drum reads as (a head, and bytes); what writes leave of it, whatever a crash keeps. -/
import Derived.Test.YtlllbacjdjllbaaDoorPl1
namespace Go.Proofs.YtlllbacjdjllbaaDoor
open Go Go.Proofs Go.Shelf Go.RowKit Go.Great
set_option linter.unusedVariables false
set_option linter.unusedSimpArgs false

theorem sec_upd_same {l p : List UInt8} {i n : Nat} (hl : l.length = 64 * n) (hi : i < n) (hp : p.length = 64) : sec (upd l i p) i = p := by
  unfold sec upd
  have h1 : (l.take (64 * i)).length = 64 * i := by rw [List.length_take]; omega
  rw [List.append_assoc, List.drop_append, h1, Nat.sub_self, List.drop_zero, List.drop_eq_nil_of_le (by omega), List.nil_append, ← hp, List.take_left]
theorem sec_upd_other {l p : List UInt8} {i j n : Nat} (hl : l.length = 64 * n) (hi : i < n) (hj : j < n) (hp : p.length = 64) (hij : j ≠ i) : sec (upd l i p) j = sec l j := by
  unfold sec upd
  apply List.ext_getElem?
  intro k
  simp only [List.getElem?_take, List.getElem?_drop]
  by_cases hk : k < 64
  · rw [if_pos hk, if_pos hk]
    rcases Nat.lt_or_ge j i with h | h
    · rw [List.append_assoc, List.getElem?_append_left (by rw [List.length_take]; omega), List.getElem?_take, if_pos (by omega)]
    · rw [List.getElem?_append_right (by rw [List.length_append, List.length_take, hp]; omega), List.getElem?_drop, List.length_append, List.length_take, hp]
      congr 1
      omega
  · rw [if_neg hk, if_neg hk]
/-- writes that lie on a drum of n sectors. -/
def WsOk (n : Nat) (ws : List (Int × List UInt8)) : Prop := ∀ x ∈ ws, x.2.length = 64 ∧ x.1.toNat < n
theorem mix_len {n : Nat} : ∀ (ws : List (Int × List UInt8)) (s : List UInt8) (keep : List Bool), WsOk n ws → s.length = 64 * n → (crashS s ws keep).length = 64 * n
  | [], s, keep, _, h => by cases keep <;> exact h
  | x :: r, s, [], _, h => h
  | x :: r, s, b :: ks, hw, h => by
    have hx := hw x (List.mem_cons_self ..)
    unfold crashS
    refine mix_len r _ ks (fun y hy => hw y (List.mem_cons_of_mem _ hy)) ?_
    split
    · exact upd_len h hx.2 hx.1
    · exact h
theorem mix_sec {n j : Nat} (hj : j < n) : ∀ (ws : List (Int × List UInt8)) (s : List UInt8) (keep : List Bool), WsOk n ws → s.length = 64 * n →
    sec (crashS s ws keep) j = sec s j ∨ ∃ x ∈ ws, x.1.toNat = j ∧ sec (crashS s ws keep) j = x.2
  | [], s, keep, _, h => by cases keep <;> exact .inl rfl
  | x :: r, s, [], _, h => .inl rfl
  | x :: r, s, b :: ks, hw, h => by
    have hx := hw x (List.mem_cons_self ..)
    have hl : (if b then upd s x.1.toNat x.2 else s).length = 64 * n := by
      split
      · exact upd_len h hx.2 hx.1
      · exact h
    have q := mix_sec hj r (if b then upd s x.1.toNat x.2 else s) ks (fun y hy => hw y (List.mem_cons_of_mem _ hy)) hl
    unfold crashS
    rcases q with q | ⟨y, hy, h1, h2⟩
    · rw [q]
      split
      · by_cases hjx : j = x.1.toNat
        · subst hjx
          exact .inr ⟨x, List.mem_cons_self .., rfl, sec_upd_same h hj hx.1⟩
        · exact .inl (sec_upd_other h hx.2 hj hx.1 hjx)
      · exact .inl rfl
    · exact .inr ⟨y, List.mem_cons_of_mem _ hy, h1, h2⟩
theorem mix_out {n j : Nat} (hj : j < n) {ws : List (Int × List UInt8)} {s : List UInt8} {keep : List Bool} (hw : WsOk n ws) (hs : s.length = 64 * n) (ho : ∀ x ∈ ws, x.1.toNat ≠ j) : sec (crashS s ws keep) j = sec s j := by
  rcases mix_sec hj ws s keep hw hs with h | ⟨x, hx, h1, _⟩
  · exact h
  · exact absurd h1 (ho x hx)
/-- all writes done, one behind the other. -/
def allS (s : List UInt8) (ws : List (Int × List UInt8)) : List UInt8 := crashS s ws (List.replicate ws.length true)
theorem crash_rep : ∀ (ws : List (Int × List UInt8)) (s : List UInt8) (k m : Nat), ws.length ≤ k → ws.length ≤ m → crashS s ws (List.replicate k true) = crashS s ws (List.replicate m true)
  | [], s, k, m, _, _ => by cases k <;> cases m <;> rfl
  | x :: r, s, 0, m, hk, _ => by simp at hk
  | x :: r, s, k + 1, 0, _, hm => by simp at hm
  | x :: r, s, k + 1, m + 1, hk, hm => by
    simp only [List.replicate_succ, crashS]
    exact crash_rep r _ k m (by simpa using hk) (by simpa using hm)
theorem all_nil (s : List UInt8) : allS s [] = s := rfl
theorem all_snoc (s : List UInt8) (ws : List (Int × List UInt8)) (x : Int × List UInt8) : allS s (ws ++ [x]) = upd (allS s ws) x.1.toNat x.2 := by
  unfold allS
  rw [crashS_snoc, List.length_append]
  have h1 : keeps (List.replicate (ws.length + [x].length) true) ws.length = true := by
    unfold keeps
    rw [List.getElem?_replicate, if_pos (by simp)]
    rfl
  rw [h1, if_pos rfl, crash_rep ws s (ws.length + [x].length) ws.length (by omega) (Nat.le_refl _)]
theorem all_len {n : Nat} {s : List UInt8} (hs : s.length = 64 * n) {ws : List (Int × List UInt8)} (hw : WsOk n ws) : (allS s ws).length = 64 * n := mix_len ws s _ hw hs
theorem all_sec {n j : Nat} (hj : j < n) {s : List UInt8} (hs : s.length = 64 * n) : ∀ (m : Nat) (ws : List (Int × List UInt8)), ws.length = m → WsOk n ws → (∃ x ∈ ws, x.1.toNat = j) → ∃ x ∈ ws, x.1.toNat = j ∧ sec (allS s ws) j = x.2
  | 0, ws, hm, _, ⟨x, hx, _⟩ => by
    rw [List.length_eq_zero_iff.1 hm] at hx
    cases hx
  | m + 1, ws, hm, hw, he => by
    have hne : ws ≠ [] := by intro e; rw [e] at hm; cases hm
    obtain ⟨r, x, rfl⟩ : ∃ r x, ws = r ++ [x] := ⟨ws.dropLast, ws.getLast hne, (List.dropLast_concat_getLast hne).symm⟩
    have hx := hw x (by simp)
    have hr : WsOk n r := fun y hy => hw y (by simp [hy])
    rw [all_snoc]
    by_cases hjx : x.1.toNat = j
    · subst hjx
      exact ⟨x, by simp, rfl, sec_upd_same (all_len hs hr) hj hx.1⟩
    · obtain ⟨y, hy, h1⟩ := he
      have hyr : y ∈ r := by
        rcases List.mem_append.1 hy with h | h
        · exact h
        · rw [List.mem_singleton.1 h] at h1; exact absurd h1 hjx
      obtain ⟨z, hz, h2, h3⟩ := all_sec hj hs m r (by simpa using hm) hr ⟨y, hyr, h1⟩
      exact ⟨z, by simp [hz], h2, by rw [sec_upd_other (all_len hs hr) hx.2 hj hx.1 (fun e => hjx e.symm), h3]⟩
/-! ## what a drum reads as -/
def mkD (n : Nat) (now : List UInt8) : PD := ⟨n, now, now, [], false, -1⟩
theorem newest_mk (d : PD) : newestP d = newestP (mkD d.n d.now) := rfl
theorem headOf_mk (d : PD) (i : Nat) : headOfP d i = headOfP (mkD d.n d.now) i := rfl
/-- a head as it was laid is read back. -/
theorem trim_zero (m : Nat) : Lib.trimB (List.replicate m (0 : UInt8)) 0 = [] := by
  have hr := Lib.trimRightB_take (List.replicate m (0 : UInt8)) 0 0 (Nat.zero_le _) (fun j b _ hb => by
    rw [List.getElem?_replicate] at hb
    split at hb
    · simpa using hb.symm
    · cases hb) (fun b h _ => by omega)
  unfold Lib.trimB
  rw [hr]
  rfl
theorem headRd_back {no : Int} {k len : Nat} (h0 : 0 ≤ no) (h1 : no ≤ 9223372036854775807) (hk : k ≤ 1) (hl : len ≤ 9223372036854775807) : headRd (pad (headB no k len)) = (⟨no, k, len⟩, some (List.replicate (64 - (headB no k len).length) 0)) := by
  have e : pad (headB no k len) = lebInt no ++ (lebInt (k : Int) ++ (lebInt (len : Int) ++ List.replicate (64 - (headB no k len).length) 0)) := by
    unfold pad headB lebInts
    simp [List.flatMap_cons]
  have c1 := fun r => curInt_back (n := no) (by omega) (by omega) r
  have c2 := fun r => curInt_back (n := (k : Int)) (by omega) (by omega) r
  have c3 := fun r => curInt_back (n := (len : Int)) (by omega) (by omega) r
  unfold headRd
  rw [e]
  simp only [c1, c2, c3]
theorem headOf_back {n : Nat} {now : List UInt8} {i : Nat} {no : Int} {k len : Nat} (h0 : 1 ≤ no) (h1 : no ≤ 1099511627776) (hk : k ≤ 1) (hl : len ≤ 64 * ((n - 2) / 2)) (hn : n ≤ 200) (hs : sec now i = pad (headB no k len)) : headOfP (mkD n now) i = (⟨no, k, len⟩, true) := by
  have hr := headRd_back (no := no) (k := k) (len := len) (by omega) (by omega) hk (by omega)
  unfold headOfP
  show (_, _) = _
  rw [show (mkD n now).now = now from rfl, hs, hr]
  have hrest : restOf ⟨no, (k : Int), (len : Int)⟩ (pad (headB no k len)) = [] := by
    unfold restOf HD3.laid
    rw [show lebInts [no, (k : Int), (len : Int)] = headB no k len from rfl]
    unfold pad
    rw [List.drop_left, trim_zero]
  have hb : bankP (mkD n now) = (n - 2) / 2 := rfl
  unfold headOk
  rw [hrest, hb]
  have e1 : decide (1 ≤ no) = true := by simpa using h0
  have e2 : decide (no ≤ 1099511627776) = true := by simpa using h1
  have e3 : (decide ((k : Int) = 0) || decide ((k : Int) = 1)) = true := by
    rcases (by omega : k = 0 ∨ k = 1) with rfl | rfl <;> rfl
  have e4 : decide (0 ≤ (len : Int)) = true := by simp
  have e5 : decide ((len : Int) ≤ (((n - 2) / 2 : Nat) : Int) * 64) = true := by simp only [decide_eq_true_eq]; omega
  simp only [Option.isSome_some, List.isEmpty_nil, e1, e2, e3, e4, e5, Bool.and_self]
end Go.Proofs.YtlllbacjdjllbaaDoor
