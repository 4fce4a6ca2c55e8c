
/- What the texts on the reference's redo need of the laws' texts: rows, appends, fuses. -/
import Derived.Test.YtlllbacjdjllbaaDoorLaw5a
import Derived.Test.YtlllbacjdjllbaaDoorOpenB
import Derived.BigQuiet
import Derived.Deep.QuietTactic
namespace Go.Proofs.YtlllbacjdjllbaaDoor
open Go Go.Proofs Go.Shelf Go.RowKit Go.Great
set_option linter.unusedVariables false
set_option linter.unusedSimpArgs false

theorem elemUU : Tryd.prog.underlying 22 = some (.slice (Tryd.prog.elem 22)) := by kernel_rfl
theorem ldFuse {lo L D g m : Nat} {bv v : Value} {l : PL} {d : PD} {w : World} (h : LDAt lo w L D g m bv v l d) (n : Int) (hn : n ≤ 9223372036854775807) : Calls Tryd.prog 12 #[.pointer (some ⟨D, 0, none⟩), .int .i64 n] w fun e w' => e = .returned (.tuple #[]) ∧ LDAt lo w' L D g m bv v l { d with fuse := max n (-1) } ∧ ChL lo w w' := by
  refine (Fuse_c h.drum n hn).mono ?_
  rintro e w' ⟨rfl, h1, h2⟩
  exact ⟨rfl, ⟨h.log.chg h2, h1⟩, ChL.ofChg h2⟩
theorem below_dr {B : Nat} {a w : World} (h : Below B a w) (n : Nat) : Below B a (w.drewN n) := h.trans ⟨rfl, rfl, rfl, Nat.le_refl _, fun _ _ => rfl⟩
theorem convS {w : World} {v : Value} {l : List UInt8} (h : RowAt w v (bytesV l)) : ∀ n, (convert 30 9 v).run Tryd.prog (w.drewN n) = .ok (.string ⟨l.toArray⟩) (w.drewN n) := fun n => (RowAt.drewN h n).toStr 30 9 5 Tryd.underlying30 Tryd.underlying5 Tryd.underlying9
theorem RowsU.b {lo : Nat} {w : World} {v : Value} {es : List (List UInt8)} (h : RowsU lo w v es) : BRows w v es := by
  obtain ⟨cells, h1, h2⟩ := h
  exact ⟨cells, RowAt.ofOwns h1, by have := h1.1; omega, fun i e c he hc => (h2 i e c he hc).1⟩
set_option maxRecDepth 100000 in
set_option maxHeartbeats 4000000 in
theorem rows_c {w : World} {va vb : Value} {xs ys : List (List UInt8)} (ha : BRows w va xs) (hb : BRows w vb ys) : Calls Tryd.prog 19 #[va, vb] w fun e w' => e = .returned (.bool (decide (xs = ys))) ∧ Below w.heap.size w w' := by
  obtain ⟨ca, hca, hla, hea⟩ := ha
  obtain ⟨cb, hcb, hlb, heb⟩ := hb
  obtain ⟨aa, ac, rfl⟩ := hca.shape
  obtain ⟨ba, bc, rfl⟩ := hcb.shape
  have HA := Lib.hid hca
  have HB := Lib.hid hcb
  have HEA := Lib.hid hea
  have HEB := Lib.hid heb
  obtain ⟨N, hN, hxN⟩ : ∃ N : Nat, ca.length = N ∧ xs.length = N := ⟨_, rfl, hla.symm⟩
  obtain ⟨M, hM, hyM⟩ : ∃ M : Nat, cb.length = M ∧ ys.length = M := ⟨_, rfl, hlb.symm⟩
  rw [hN] at HA ⊢
  rw [hM] at HB ⊢
  have HL := Lib.hid (show ca.length = N ∧ xs.length = N ∧ cb.length = M ∧ ys.length = M from ⟨hN, hxN, hM, hyM⟩)
  have hmax : (ca.length : Int) ≤ 9223372036854775807 := by have := hca.1; rw [show maxLen = 9223372036854775807 by decide] at this; omega
  rw [hN] at hmax
  clear hca hcb hea heb hla hlb hN hxN hM hyM
  by_cases hNM : N = M
  · subst hNM
    go_enter Tryd.func19, Tryd.ntmps19
    go_wp2_with fail
    go_loopw [5] (fun i wr => ∃ j : Nat, i = .int .i64 (j : Int) ∧ j ≤ N ∧ Below w.heap.size w wr ∧ xs.take j = ys.take j) (fun i _ => N - (intOf i).toNat)
    case atStart => exact ⟨0, rfl, Nat.zero_le _, Below.refl _ _, rfl⟩
    case round =>
      obtain ⟨j, rfl, hjN, hbel, hpre⟩ := hrel
      have HBE := Lib.hid hbel
      have HPR := Lib.hid hpre
      by_cases hj : j < N
      · have hj' : (j : Int) < (N : Int) := by omega
        obtain ⟨B, o, rfl, hB, hx⟩ := (HA.out.below hbel).cellAt j (by have := HL.out.1; omega)
        obtain ⟨B', o', rfl, hB', hx'⟩ := (HB.out.below hbel).cellAt j (by have := HL.out.2.2.1; omega)
        have h1 := HEA.out j (xs[j]'(by have := HL.out.2.1; omega)) (ca[j]'(by have := HL.out.1; omega)) (List.getElem?_eq_getElem _) (List.getElem?_eq_getElem _)
        have h2 := HEB.out j (ys[j]'(by have := HL.out.2.2.2; omega)) (cb[j]'(by have := HL.out.2.2.1; omega)) (List.getElem?_eq_getElem _) (List.getElem?_eq_getElem _)
        have HXJ : Hid (xs[j]? = some (xs[j]'(by have := HL.out.2.1; omega)) ∧ ys[j]? = some (ys[j]'(by have := HL.out.2.2.2; omega))) := Lib.hid ⟨List.getElem?_eq_getElem _, List.getElem?_eq_getElem _⟩
        generalize xs[j]'(by have := HL.out.2.1; omega) = x at *
        generalize ys[j]'(by have := HL.out.2.2.2; omega) = y at *
        generalize ca[j]'(by have := HL.out.1; omega) = cx at *
        generalize cb[j]'(by have := HL.out.2.2.1; omega) = cy at *
        have k1 := convS (h1.below hbel)
        have k2 := convS (h2.below hbel)
        have hx1 : ∀ m, (wr.drewN m).cell? ⟨B, o + j, none⟩ = some cx := fun m => by rw [World.cell?_drewN]; exact hx
        have hx2 : ∀ m, (wr.drewN m).cell? ⟨B', o' + j, none⟩ = some cy := fun m => by rw [World.cell?_drewN]; exact hx'
        clear h1 h2 hx hx' hbel hpre
        by_cases hxy : x = y
        · subst hxy
          go_wp2_with fail
          go_quiet (fail)
          go_wp2_with fail
          refine ⟨⟨j + 1, rfl, hj, below_dr HBE.out _, ?_⟩, ?_⟩
          · rw [List.take_add_one, List.take_add_one, HPR.out, HXJ.out.1, HXJ.out.2]
          · simp [intOf]; omega
        · have hxb : (x == y) = false := by simpa using hxy
          go_wp2_with fail
          go_quiet (fail)
          go_wp2_with fail
          go_ret
          have hne : decide (xs = ys) = false := decide_eq_false (fun e => by
            have h := HXJ.out.1
            rw [e, HXJ.out.2] at h
            exact hxy (Option.some.inj h).symm)
          rw [hne]
          exact ⟨rfl, below_dr HBE.out _⟩
      · have hj' : ¬ (j : Int) < (N : Int) := by omega
        go_wp2_with fail
        go_ret
        have he : decide (xs = ys) = true := decide_eq_true (by
          have h := HPR.out
          rwa [List.take_of_length_le (by have := HL.out.2.1; omega), List.take_of_length_le (by have := HL.out.2.2.2; omega)] at h)
        rw [he]
        exact ⟨rfl, HBE.out⟩
  · have hNM' : ¬ (N : Int) = (M : Int) := by omega
    have hne : decide (xs = ys) = false := decide_eq_false (fun e => by
      have := HL.out
      rw [e] at this
      omega)
    rw [hne]
    go_enter Tryd.func19, Tryd.ntmps19
    go_wp2_with fail
    go_ret
    exact ⟨rfl, Below.refl _ _⟩
theorem brow1 {W : World} {vp : Value} {p : List UInt8} (hp : RowAt W vp (bytesV p)) : BRows (W.alloc (.cells #[vp] 30)) (.slice (some ⟨W.heap.size, 0, none⟩) 1 1) [p] := by
  refine ⟨[vp], RowAt.new (hc := by simp) W [vp] 30 1 (by simp [maxLen]), rfl, fun i x c hx hc => ?_⟩
  cases i with
  | zero =>
    simp at hx hc
    subst hx hc
    exact hp.below ((Below.refl _ W).alloc (Nat.le_refl _) _)
  | succ i => simp at hx
/-- two rows that read alike. -/
theorem rows_same {w : World} {va vb : Value} {xs : List (List UInt8)} (ha : BRows w va xs) (hb : BRows w vb xs) : Calls Tryd.prog 19 #[va, vb] w fun e w' => e = .returned (.bool true) ∧ Below w.heap.size w w' := by
  have q := rows_c ha hb
  rw [decide_eq_true rfl] at q
  exact q
/-- 'append(s, x...)' at a step of a region that draws its order. -/
theorem step_appRow {ops : Array Oper} {o : Oper} {a : Act} {w : World} {Q : Exit → Act → World → Prop} {K : Act → World → Prop} {E : Prop} {t e : TypeId} {bytes : Nat} (he : Elem1 t e bytes) (hgd : o.guard = none) (s x : Operand) (ho : o.op = .call { callee := .builtin .append, args := #[s, x], argTypes := #[t, t] })
    (B n : Nat) (v : Value) (xs : List Value) (hs : a.eval s = v) (hown : w.ownsRow B e 1 v n xs) (vx : Value) (us : List Value) (hx : a.eval x = vx) (hr : RowAt w vx us) (h1 : ∀ u ∈ us, u.oneCell' = true)
    (hn : (n + us.length) * bytes ≤ 140737488355328) (hm : n + us.length ≤ 140737488355328) (hB : B ≤ w.heap.size)
    (h : ∀ va vc w', w'.ownsRow B e 1 (.slice va (n + us.length) vc) (n + us.length) (xs ++ us) → w.grownBy w' v.ownBlock → K (a.put o.dst (.slice va (n + us.length) vc)) w') :
    if Region.wanted o (yielded ops a.tmps) = true then Oper.wp Tryd.prog o a w K Q else E := by
  have hw : Region.wanted o (yielded ops a.tmps) = true := by simp [Region.wanted, hgd]
  rw [if_pos hw]
  obtain ⟨i, z, ht, hi, hz, hs1, hb1, hz1⟩ := he
  rcases hr.2 with ⟨rfl, rfl⟩ | ⟨ad, c, rfl, _, hc⟩
  · have hrun := run_append_owned_none (P := Tryd.prog) (w := w) B t o.type e i 1 ht hi v n xs hown
    unfold Oper.wp
    simp [execOp, ho, resolve, invoke, builtin, hs, hx, hrun, Result.andThen]
    obtain ⟨va, vc, rfl⟩ := owns_shape hown
    exact h va vc w (by simpa using hown) (grownBy_refl _ _)
  · refine wp_append_own _ s x t ho B e i z 1 bytes ht hi hz hs1 hb1 hz1 (by decide) v n xs hs hown ad us.length c us hx (by rw [Nat.mul_one]) ?_ h1 (by unfold maxLen; omega) hn hB ?_
    · intro j u hu
      have hj := (List.getElem?_eq_some_iff.1 hu).1
      rw [hc j hj]
      rw [List.getElem?_eq_getElem hj] at hu
      exact hu
    · intro v' w' h2 h3 _
      obtain ⟨va, vc, rfl⟩ := owns_shape h2
      exact h va vc w' h2 h3
theorem step_app0 {ops : Array Oper} {o : Oper} {a : Act} {w : World} {Q : Exit → Act → World → Prop} {K : Act → World → Prop} {E : Prop} {t e : TypeId} {bytes : Nat} (he : Elem1 t e bytes) (hgd : o.guard = none) (s x : Operand) (ho : o.op = .call { callee := .builtin .append, args := #[s, x], argTypes := #[t, t] })
    (B : Nat) (v : Value) (hs : a.eval s = v) (hown : w.ownsRow B e 1 v 0 []) (vx : Value) (us : List Value) (M : Nat) (hM : us.length = M) (hx : a.eval x = vx) (hr : RowAt w vx us) (h1 : ∀ u ∈ us, u.oneCell' = true)
    (hn : M * bytes ≤ 140737488355328) (hm : M ≤ 140737488355328) (hB : B ≤ w.heap.size)
    (h : ∀ va vc w', w'.ownsRow B e 1 (.slice va M vc) M us → w.grownBy w' v.ownBlock → K (a.put o.dst (.slice va M vc)) w') :
    if Region.wanted o (yielded ops a.tmps) = true then Oper.wp Tryd.prog o a w K Q else E := by
  subst hM
  refine step_appRow he hgd s x ho B 0 v [] hs hown vx us hx hr h1 (by rw [Nat.zero_add]; exact hn) (by rw [Nat.zero_add]; exact hm) hB ?_
  intro va vc w' h2 h3
  rw [Nat.zero_add, List.nil_append] at h2
  rw [Nat.zero_add]
  exact h va vc w' h2 h3
theorem own_new {b : Nat} {w W : World} {e : TypeId} (h : Below b w W) (hb : b ≤ w.heap.size) : (W.alloc (.cells #[] e)).ownsRow b e 1 (.slice (some ⟨W.heap.size, 0, none⟩) 0 0) 0 [] := own_mono (owns_empty W e) (Nat.le_trans hb h.size)
theorem wp_app0 {ops : Array Oper} {rest : List Oper} {o : Oper} {a : Act} {Q : Exit → Act → World → Prop} {w : World} {t e : TypeId} {bytes : Nat} (he : Elem1 t e bytes) (hgd : Region.wanted o (yielded ops a.tmps) = true) (s x : Operand) (ho : o.op = .call { callee := .builtin .append, args := #[s, x], argTypes := #[t, t] })
    (B : Nat) (v : Value) (hs : a.eval s = v) (hown : w.ownsRow B e 1 v 0 []) (vx : Value) (us : List Value) (M : Nat) (hM : us.length = M) (hx : a.eval x = vx) (hr : RowAt w vx us) (h1 : ∀ u ∈ us, u.oneCell' = true)
    (hn : M * bytes ≤ 140737488355328) (hm : M ≤ 140737488355328) (hB : B ≤ w.heap.size)
    (h : ∀ va vc w', w'.ownsRow B e 1 (.slice va M vc) M us → Below B w w' → wpList Tryd.prog ops Q rest (a.put o.dst (.slice va M vc)) w') : wpList Tryd.prog ops Q (o :: rest) a w := by
  subst hM
  refine wp_appRow he hgd s x ho B 0 v [] hs hown vx us hx hr h1 (by rw [Nat.zero_add]; exact hn) (by rw [Nat.zero_add]; exact hm) hB ?_
  intro v' w' h2 h3
  rw [Nat.zero_add, List.nil_append] at h2
  obtain ⟨va, vc, rfl⟩ := owns_shape h2
  exact h va vc w' h2 h3
theorem elemBK : ElemK 30 5 1 1 [.int .u8 0] := elemK_of (z := .int .u8 0) Tryd.underlying30 (by kernel_rfl) rfl rfl
theorem madeB (n : Nat) : madeCells #[.int .u8 0] n = (bytesV (List.replicate n 0)).toArray := by
  apply Array.ext'
  have := madeCells_flat [.int .u8 0] n (by decide)
  rw [List.length_singleton, Nat.mul_one] at this
  rw [show (#[.int .u8 0] : Array Value) = ([.int .u8 0] : List Value).toArray from rfl, this]
  unfold bytesV
  rw [List.map_replicate, List.flatten_replicate_singleton]
  rfl
theorem elemBools : Tryd.prog.underlying 36 = some (.slice (Tryd.prog.elem 36)) := by kernel_rfl
theorem rowOfBlk {W : World} {P : Nat} {bs : List UInt8} (h : BlkT W P (bytesV bs) 5) (hl : bs.length ≤ maxLen) : RowAt W (.slice (some ⟨P, 0, none⟩) bs.length bs.length) (bytesV bs) :=
  ⟨by rw [bytesV_length]; exact hl, .inr ⟨⟨P, 0, none⟩, bs.length, by rw [bytesV_length], by rw [bytesV_length]; exact Nat.le_refl _, fun i hi => by rw [addr_add, Nat.zero_add]; exact h.blk.cell i _ (List.getElem?_eq_getElem hi)⟩⟩
theorem sec_upd_same {l p : List UInt8} {i n : Nat} (hl : l.length = 64 * n) (hi : i < n) (hp : p.length = 64) : sec (upd l i p) i = p := by
  unfold sec upd
  have h1 : (l.take (64 * i)).length = 64 * i := by rw [List.length_take]; omega
  rw [List.append_assoc, List.drop_append, h1, Nat.sub_self, List.drop_zero, List.drop_eq_nil_of_le (by omega), List.nil_append, ← hp, List.take_left]
theorem sec_upd_other {l p : List UInt8} {i j n : Nat} (hl : l.length = 64 * n) (hi : i < n) (hj : j < n) (hp : p.length = 64) (hij : j ≠ i) : sec (upd l i p) j = sec l j := by
  unfold sec upd
  apply List.ext_getElem?
  intro k
  simp only [List.getElem?_take, List.getElem?_drop]
  by_cases hk : k < 64
  · rw [if_pos hk, if_pos hk]
    rcases Nat.lt_or_ge j i with h | h
    · rw [List.append_assoc, List.getElem?_append_left (by rw [List.length_take]; omega), List.getElem?_take, if_pos (by omega)]
    · rw [List.getElem?_append_right (by rw [List.length_append, List.length_take, hp]; omega), List.getElem?_drop, List.length_append, List.length_take, hp]
      congr 1
      omega
  · rw [if_neg hk, if_neg hk]
/-- writes that lie on a drum of n sectors. -/
def WsOk (n : Nat) (ws : List (Int × List UInt8)) : Prop := ∀ x ∈ ws, x.2.length = 64 ∧ x.1.toNat < n
theorem mix_len {n : Nat} : ∀ (ws : List (Int × List UInt8)) (s : List UInt8) (keep : List Bool), WsOk n ws → s.length = 64 * n → (crashS s ws keep).length = 64 * n
  | [], s, keep, _, h => by cases keep <;> exact h
  | x :: r, s, [], _, h => h
  | x :: r, s, b :: ks, hw, h => by
    have hx := hw x (List.mem_cons_self ..)
    unfold crashS
    refine mix_len r _ ks (fun y hy => hw y (List.mem_cons_of_mem _ hy)) ?_
    split
    · exact upd_len h hx.2 hx.1
    · exact h
theorem lives_same (d : PD) : (livesP d).2.n = d.n ∧ (livesP d).2.now = d.now ∧ (livesP d).2.good = d.good ∧ (livesP d).2.wait = d.wait := by
  unfold livesP; split <;> exact ⟨rfl, rfl, rfl, rfl⟩
end Go.Proofs.YtlllbacjdjllbaaDoor
