
/- The reference's Same at rows that read alike; the laws' may. Plain facts: adding and taking away. -/
import Derived.Test.YthbjkkfpahhfiaaTree6
import Derived.Test.YthbjkkfpahhfiaaOpenE
import Derived.Test.YthbjkkfpahhfiaaVal7
import Derived.Test.YthbjkkfpahhfiaaVal8
namespace Go.Proofs.Ythbjkkfpahhfiaa
open Go Go.Proofs Go.RowKit
set_option linter.unusedVariables false
set_option linter.unusedSimpArgs false

theorem XExactSelf (x : V5) (w : World) : Calls Try.prog 33 #[x.v, x.v] w (Gives w (.bool true)) := by
  have h := XExact_c x x w
  rw [(exactV_iff x x).2 rfl] at h
  exact h
set_option maxRecDepth 100000 in
set_option maxHeartbeats 4000000 in
theorem Same9_c (es : List E6) (va vb : Value) (w : World) (ha : RowK 6 w va (es.map E6.cells)) (hb : RowK 6 w vb (es.map E6.cells)) (hlen : es.length ≤ 1099511627776) : Calls Try.prog 15 #[va, vb] w (Gives w (.bool true)) := by
  obtain ⟨a, c, rfl, hac⟩ := ha.shape
  obtain ⟨a', c', rfl, hbc⟩ := hb.shape
  rw [List.length_map] at *
  have HE := Lib.hid (fun x W => XExactSelf x W)
  have H0 : Hid (Keep w (fun W => RowK 6 W (.slice a es.length c) (es.map E6.cells) ∧ RowK 6 W (.slice a' es.length c') (es.map E6.cells)) w) := Lib.hid ⟨⟨ha, hb⟩, Below.refl _ w, fun w' h => ⟨ha.below h, hb.below h⟩⟩
  clear ha hb hac hbc
  go_enter Try.func15, Try.ntmps15
  go_wp2_with fail
  go_loopw [5] (fun i wr => ∃ j : Nat, j ≤ es.length ∧ i = .int .i64 (j : Int) ∧ Keep w (fun W => RowK 6 W (.slice a es.length c) (es.map E6.cells) ∧ RowK 6 W (.slice a' es.length c') (es.map E6.cells)) wr) (fun i _ => es.length - (intOf i).toNat)
  case atStart => exact ⟨0, by omega, rfl, H0.out⟩
  case round =>
    obtain ⟨j, hj, rfl, hkp⟩ := hrel
    have HK := Lib.hid hkp
    clear hkp
    by_cases hlt : j < es.length
    · obtain ⟨B, o, rfl, hB, hx⟩ := row_e6 HK.out.facts.1 j hlt
      obtain ⟨B', o', rfl, hB', hx'⟩ := row_e6 HK.out.facts.2 j hlt
      have HX := Lib.hid (fun W (h : RowK 6 W (.slice (some ⟨B, o, none⟩) es.length c) (es.map E6.cells)) => e6_at h j hlt)
      have HX' := Lib.hid (fun W (h : RowK 6 W (.slice (some ⟨B', o', none⟩) es.length c') (es.map E6.cells)) => e6_at h j hlt)
      have HEj := Lib.hid (fun W => HE.out es[j].v W)
      generalize es[j] = y at *
      obtain ⟨⟨k, b, n, f, t⟩, i⟩ := y
      unfold V5.v at HEj
      dsimp only at HEj
      have hii : (i != i) = false := by simp
      have hmi : (j : Int) < (es.length : Int) := by omega
      have HKd := Lib.hid HK.out.drew
      clear hx hx'
      go_wp2_with fail
      (first | go_region_held3 (fun w' => (w'.cell? ⟨B, o + j * 6, none⟩ = some (.int .i64 k) ∧ w'.cell? ⟨B, o + j * 6 + 1, none⟩ = some (.bool b) ∧ w'.cell? ⟨B, o + j * 6 + 2, none⟩ = some (.int .i64 n) ∧ w'.cell? ⟨B, o + j * 6 + 3, none⟩ = some (.float .f64 f) ∧ w'.cell? ⟨B, o + j * 6 + 4, none⟩ = some (.string ⟨t.toArray⟩) ∧ w'.cell? ⟨B, o + j * 6 + 5, none⟩ = some (.int .i64 i)) ∧ (w'.cell? ⟨B', o' + j * 6, none⟩ = some (.int .i64 k) ∧ w'.cell? ⟨B', o' + j * 6 + 1, none⟩ = some (.bool b) ∧ w'.cell? ⟨B', o' + j * 6 + 2, none⟩ = some (.int .i64 n) ∧ w'.cell? ⟨B', o' + j * 6 + 3, none⟩ = some (.float .f64 f) ∧ w'.cell? ⟨B', o' + j * 6 + 4, none⟩ = some (.string ⟨t.toArray⟩) ∧ w'.cell? ⟨B', o' + j * 6 + 5, none⟩ = some (.int .i64 i)))
        (exact ⟨E6.factsAt (HX.out _ HKd.out.facts.1), E6.factsAt (HX'.out _ HKd.out.facts.2)⟩)
        (first | (go_at_call 33; (with_reducible refine (HEj.out _).mono ?_); rintro e wq ⟨rfl, hq⟩; have HKd := Lib.hid (Keep.on HKd.out hq); clear hq) | fail) | fail)
      go_wp2_with fail
      go_roundw
      case rel => exact ⟨j + 1, by omega, by go_num, HKd.out⟩
      case measure => simp [intOf]; omega
    · obtain rfl : j = es.length := by omega
      go_wp2_with fail
      go_ret
      exact ⟨rfl, HK.out.below⟩
def mayA (l : List AC) : Bool := decide (l.length ≤ 10000) && (l.take 120).all (fun p => isV p.x.v)
theorem row_ac {w : World} {a : Option Addr} {n c : Nat} {l : List AC} (h : RowK 7 w (.slice a n c) (l.map AC.cells)) (j : Nat) (hj : j < l.length) :
    ∃ B o, a = some ⟨B, o, none⟩ ∧ B < w.heap.size ∧ CellsAt w B (o + j * 7) l[j].cells := by
  obtain ⟨B, o, h1, h2, h3⟩ := h.cells j (by simpa using hj)
  exact ⟨B, o, h1, h2, by simpa using h3⟩
theorem AC.factsAt {w : World} {g o : Nat} {q : Int} {k : Int} {b : Bool} {n : Int} {f : Nat} {t : List UInt8} {i : Int} (h : CellsAt w g o (⟨q, ⟨⟨k, b, n, f, t⟩, i⟩⟩ : AC).cells) :
    w.cell? ⟨g, o, none⟩ = some (.int .i64 q) ∧ w.cell? ⟨g, o + 1, none⟩ = some (.int .i64 k) ∧ w.cell? ⟨g, o + 2, none⟩ = some (.bool b) ∧ w.cell? ⟨g, o + 3, none⟩ = some (.int .i64 n) ∧ w.cell? ⟨g, o + 4, none⟩ = some (.float .f64 f) ∧ w.cell? ⟨g, o + 5, none⟩ = some (.string ⟨t.toArray⟩) ∧ w.cell? ⟨g, o + 6, none⟩ = some (.int .i64 i) :=
  ⟨h.at 0 _ rfl, h.at 1 _ rfl, h.at 2 _ rfl, h.at 3 _ rfl, h.at 4 _ rfl, h.at 5 _ rfl, h.at 6 _ rfl⟩
set_option maxRecDepth 100000 in
set_option maxHeartbeats 4000000 in
theorem may9_c (l : List AC) (v : Value) (w : World) (hr : RowK 7 w v (l.map AC.cells)) (hok : ∀ p ∈ l, okAC p) : Calls Try.prog 22 #[v] w (Gives w (.bool (mayA l))) := by
  have m9 : maxLen = 9223372036854775807 := by decide
  obtain ⟨a, c, rfl, hac⟩ := hr.shape
  rw [List.length_map] at *
  have HI := Lib.hid (fun j (hj : j < l.length) W => XIs_c l[j].x.v W (by have := (hok _ (List.getElem_mem hj)).2.1.2.2.2; rw [m9] at this; exact this))
  have H0 : Hid (Keep w (fun W => RowK 7 W (.slice a l.length c) (l.map AC.cells)) w) := Lib.hid ⟨hr, Below.refl _ w, fun w' h => hr.below h⟩
  clear hr hac hok m9
  go_enter Try.func22, Try.ntmps22
  by_cases hl : l.length ≤ 10000
  · have HM : Hid (mayA l = (l.take 120).all (fun p => isV p.x.v)) := Lib.hid (by simp [mayA, hl])
    generalize mayA l = mr at *
    go_wp2_with fail
    go_loopw [3] (fun i wr => ∃ j : Nat, j ≤ l.length ∧ j ≤ 120 ∧ i = .int .i64 (j : Int) ∧ (l.take j).all (fun p => isV p.x.v) = true ∧ Keep w (fun W => RowK 7 W (.slice a l.length c) (l.map AC.cells)) wr) (fun i _ => l.length - (intOf i).toNat)
    case atStart => exact ⟨0, by omega, by omega, rfl, rfl, H0.out⟩
    case round =>
      obtain ⟨j, hj, hj2, rfl, ht, hkp⟩ := hrel
      have HK := Lib.hid hkp
      clear hkp
      by_cases hlt : j < l.length
      · by_cases h120 : j < 120
        · obtain ⟨B, o, rfl, hB, hx⟩ := row_ac HK.out.facts j hlt
          have HT : Hid ((l.take (j + 1)).all (fun p => isV p.x.v) = isV l[j].x.v) := Lib.hid (by rw [List.take_succ_eq_append_getElem hlt, List.all_append, ht]; simp)
          have HF : Hid (isV l[j].x.v = false → (l.take 120).all (fun p => isV p.x.v) = false) := Lib.hid (fun h => by
            rw [List.all_eq_false]
            refine ⟨l[j], ?_, by simp [h]⟩
            rw [List.mem_iff_getElem?]
            exact ⟨j, by rw [List.getElem?_take, if_pos h120, List.getElem?_eq_getElem hlt]⟩)
          have HC := Lib.hid (fun W => HI.out j hlt W)
          clear ht
          generalize isV l[j].x.v = iv at *
          generalize l[j] = y at *
          obtain ⟨q, ⟨⟨k, b, n, f, t⟩, i⟩⟩ := y
          unfold V5.v at HC
          dsimp only at HC
          have hk := AC.factsAt hx
          have hmi : (j : Int) < (l.length : Int) := by omega
          have hmj : (j : Int) < 120 := by omega
          clear hx
          cases iv
          · go_wp2_with (first | (go_at_call 23; (with_reducible refine (HC.out _).mono ?_); rintro e wq ⟨rfl, hq⟩; have HK2 := Lib.hid (Keep.on HK.out hq); clear hq))
            go_ret
            exact ⟨by rw [HM.out, HF.out (by first | rfl | trivial)]; rfl, HK2.out.below⟩
          · go_wp2_with (first | (go_at_call 23; (with_reducible refine (HC.out _).mono ?_); rintro e wq ⟨rfl, hq⟩; have HK2 := Lib.hid (Keep.on HK.out hq); clear hq))
            go_roundw
            case rel => exact ⟨j + 1, by omega, by omega, by go_num, HT.out, HK2.out⟩
            case measure => simp [intOf]; omega
        · obtain rfl : j = 120 := by omega
          have hmi : (120 : Int) < (l.length : Int) := by omega
          have HT := Lib.hid ht
          clear ht
          go_wp2_with fail
          go_ret
          exact ⟨by rw [HM.out, HT.out]; rfl, HK.out.below⟩
      · obtain rfl : j = l.length := by omega
        rw [List.take_of_length_le (Nat.le_refl _)] at ht
        rw [List.take_of_length_le hj2] at HM
        have HT := Lib.hid ht
        clear ht
        go_wp2_with fail
        go_ret
        exact ⟨by rw [HM.out, HT.out]; rfl, HK.out.below⟩
  · have HM : Hid (mayA l = false) := Lib.hid (by simp [mayA, hl])
    generalize mayA l = mr at *
    go_wp2_with fail
    go_ret
    exact ⟨by rw [HM.out]; rfl, H0.out.below⟩
/-- plain. -/
theorem lb_is (es : List E6) (x : E6) (i : Nat) (h1 : ∀ k (h : k < es.length), k < i → ordE es[k] x < 0) (hi : i ≤ es.length) (h2 : ∀ h : i < es.length, ¬ ordE es[i] x < 0) : lbE es x = i :=
  tw_len _ es i (fun k h hk => decide_eq_true (h1 k h hk)) hi (fun h => decide_eq_false (h2 h))
theorem found_ins (es : List E6) (x : E6) : lbE (insE es x) x = lbE es x ∧ foundE (insE es x) x = true ∧ delE (insE es x) x = es := by
  have hle := lbE_le es x
  have hg : (insE es x)[lbE es x]? = some x := by
    unfold insE
    rw [List.getElem?_append_right (by simp [List.length_take]; omega), List.length_take, Nat.min_eq_left hle, Nat.sub_self]; rfl
  have hlb : lbE (insE es x) x = lbE es x := by
    refine lb_is _ _ _ (fun k h hk => ?_) ?_ (fun h => ?_)
    · have e : (insE es x)[k] = es[k]'(by omega) := by
        have e : (insE es x)[k]? = es[k]? := by
          unfold insE
          rw [List.getElem?_append_left (by simp [List.length_take]; omega), List.getElem?_take, if_pos hk]
        rw [List.getElem?_eq_getElem h, List.getElem?_eq_getElem (by omega)] at e
        simpa using e
      rw [e]
      exact lb_before es x k (by omega) hk
    · unfold insE; simp [List.length_take]; omega
    · rw [List.getElem?_eq_getElem h, Option.some.injEq] at hg
      rw [hg, ordE_self]; omega
  refine ⟨hlb, ?_, ?_⟩
  · unfold foundE
    rw [hlb, hg]
    simp [ordE_self]
  · unfold delE
    rw [hlb]
    unfold insE
    rw [List.take_append_of_le_length (by simp [List.length_take]; omega), List.take_take, Nat.min_self, List.drop_append, List.drop_of_length_le (by simp [List.length_take]; omega), List.length_take, Nat.min_eq_left hle, show lbE es x + 1 - lbE es x = 1 by omega]
    simp
theorem found_del {es : List E6} (hs : Sorted es) (x : E6) (hf : foundE es x = true) : foundE (delE es x) x = false := by
  have hlt := foundE_lt hf
  have h0 : ordE es[lbE es x] x = 0 := by
    unfold foundE at hf
    rw [List.getElem?_eq_getElem hlt] at hf
    simpa using hf
  have hge : ∀ h : lbE es x < (delE es x).length, 0 < ordE (delE es x)[lbE es x] x := by
    intro h
    have hl : (delE es x).length = es.length - 1 := by unfold delE; simp; omega
    have e : (delE es x)[lbE es x] = es[lbE es x + 1]'(by omega) := by
      have e : (delE es x)[lbE es x]? = es[lbE es x + 1]? := by
        unfold delE
        rw [List.getElem?_append_right (by simp [List.length_take]; omega), List.getElem?_drop]
        congr 1
        rw [List.length_take]; omega
      rw [List.getElem?_eq_getElem h, List.getElem?_eq_getElem (by omega)] at e
      simpa using e
    rw [e]
    have h1 := List.pairwise_iff_getElem.1 hs (lbE es x) (lbE es x + 1) hlt (by omega) (by omega)
    have t1 := ordE_turn es[lbE es x] x
    have t2 := ordE_turn x (es[lbE es x + 1]'(by omega))
    have := ordE_lt_trans' (x := x) (y := es[lbE es x]) (z := es[lbE es x + 1]'(by omega)) (by omega) h1
    omega
  have hlb : lbE (delE es x) x = lbE es x := by
    have hl : (delE es x).length = es.length - 1 := by unfold delE; simp; omega
    refine lb_is _ _ _ (fun k h hk => ?_) (by omega) (fun h => by have := hge h; omega)
    have e : (delE es x)[k] = es[k]'(by omega) := by
      have e : (delE es x)[k]? = es[k]? := by
        unfold delE
        rw [List.getElem?_append_left (by simp [List.length_take]; omega), List.getElem?_take, if_pos hk]
      rw [List.getElem?_eq_getElem h, List.getElem?_eq_getElem (by omega)] at e
      simpa using e
    rw [e]
    exact lb_before es x k (by omega) hk
  unfold foundE
  rw [hlb]
  by_cases h : lbE es x < (delE es x).length
  · rw [List.getElem?_eq_getElem h]
    have := hge h
    simp only [beq_eq_false_iff_ne, ne_eq]
    omega
  · rw [List.getElem?_eq_none (by omega)]
/-- the tree, and beside it what is held of blocks that are not the tree's. -/
def TrH (w0 : World) (tb : Nat) (es : List E6) (P : World → Prop) (W : World) : Prop :=
  ∃ v, ∃ D : Nat → Prop, TreeAt w0.heap.size tb W v es ∧ Below w0.heap.size w0 W ∧ w0.heap.size ≤ tb ∧ Sorted es ∧ (∀ e ∈ es, okF e) ∧
   (∀ k, D k → k < W.heap.size ∧ k ≠ tb ∧ some k ≠ v.ownBlock) ∧ (∀ W' : World, (∀ k, D k → W'.heap[k]? = W.heap[k]?) → P W')
theorem TrH.below0 {w0 : World} {tb : Nat} {es : List E6} {P : World → Prop} {W : World} (h : TrH w0 tb es P W) : Below w0.heap.size w0 W := by
  obtain ⟨v, D, _, h2, _⟩ := h; exact h2
theorem TrH.tr {w0 : World} {tb : Nat} {es : List E6} {P : World → Prop} {W : World} (h : TrH w0 tb es P W) : TrAt w0 tb es W := by
  obtain ⟨v, D, h1, h2, h3, h4, h5, _⟩ := h; exact ⟨⟨v, h1⟩, h2, h3, h4, h5⟩
theorem TrH.held {w0 : World} {tb : Nat} {es : List E6} {P : World → Prop} {W : World} (h : TrH w0 tb es P W) : P W := by
  obtain ⟨v, D, _, _, _, _, _, _, h7⟩ := h; exact h7 W (fun _ _ => rfl)
theorem TrH.below {w0 : World} {tb : Nat} {es : List E6} {P : World → Prop} {X Y : World} (h : TrH w0 tb es P X) (hb : Below X.heap.size X Y) : TrH w0 tb es P Y := by
  obtain ⟨v, D, h1, h2, h3, h4, h5, h6, h7⟩ := h
  refine ⟨v, D, h1.below hb, h2.trans (hb.mono h2.size), h3, h4, h5, fun k hk => ?_, fun W' hW' => h7 W' (fun k hk => (hW' k hk).trans (hb.block k (h6 k hk).1))⟩
  have := h6 k hk
  exact ⟨Nat.lt_of_lt_of_le this.1 hb.size, this.2⟩
theorem TrH.of {w0 w w' : World} {tb : Nat} {v r : Value} {es es' : List E6} {P : World → Prop} {D : Nat → Prop} {e : Ending} (h : TreeTo w0.heap.size tb w v r es' e w') (h1 : TreeAt w0.heap.size tb w v es) (h2 : Below w0.heap.size w0 w) (h3 : w0.heap.size ≤ tb) (h4 : Sorted es') (h5 : ∀ e ∈ es', okF e)
    (h6 : ∀ k, D k → k < w.heap.size ∧ k ≠ tb ∧ some k ≠ v.ownBlock) (h7 : ∀ W' : World, (∀ k, D k → W'.heap[k]? = w.heap[k]?) → P W') : e = .returned r ∧ TrH w0 tb es' P w' := by
  have h0 := TrAt.of h h1 h2 h3 h4 h5
  refine ⟨h0.1, ?_⟩
  obtain ⟨v', rfl, g1, gl, g2⟩ := h
  refine ⟨v', D, g1, h0.2.2.1, h3, h4, h5, fun k hk => ?_, fun W' hW' => h7 W' (fun k hk => (hW' k hk).trans (g2.block k (h6 k hk).1 (h6 k hk).2.1 (h6 k hk).2.2))⟩
  have hk6 := h6 k hk
  refine ⟨Nat.lt_of_lt_of_le hk6.1 g2.size, hk6.2.1, ?_⟩
  rcases gl with gl | ⟨q, hq, hq2⟩
  · rw [gl]; exact hk6.2.2
  · rw [hq]; intro hh; simp only [Option.some.injEq] at hh; omega
theorem AddH_c (w0 : World) (tb : Nat) (es : List E6) (P : World → Prop) (x : E6) (w : World) (h : TrH w0 tb es P w) (hlen : es.length ≤ 1099511627776) (hx : okF x) :
    Calls Try.prog 13 #[.pointer (some ⟨tb, 0, none⟩), x.val] w fun e w' => e = .returned (.bool (!foundE es x)) ∧ TrH w0 tb (addE es x) P w' := by
  obtain ⟨v, D, h1, h2, h3, h4, h5, h6, h7⟩ := h
  refine (Add_c w0.heap.size tb es x v w h1 h2.size hlen h5 hx (h4.mono x)).mono fun e w' h => ?_
  exact TrH.of h h1 h2 h3 (h4.add x) (fun y hy => by rcases addE_mem hy with hy | rfl; exact h5 y hy; exact hx) h6 h7
theorem DelH_c (w0 : World) (tb : Nat) (es : List E6) (P : World → Prop) (x : E6) (w : World) (h : TrH w0 tb es P w) (hlen : es.length ≤ 1099511627776) (hx : okF x) :
    Calls Try.prog 24 #[.pointer (some ⟨tb, 0, none⟩), x.val] w fun e w' => e = .returned (.bool (foundE es x)) ∧ TrH w0 tb (remE es x) P w' := by
  obtain ⟨v, D, h1, h2, h3, h4, h5, h6, h7⟩ := h
  refine (Del_c w0.heap.size tb es x v w h1 h2.size hlen h5 hx (h4.mono x)).mono fun e w' h => ?_
  exact TrH.of h h1 h2 h3 (h4.rem x) (fun y hy => h5 y (remE_mem hy)) h6 h7
/-- a new row stands by itself. -/
theorem OwnE.held {B : Nat} {w w' : World} {v : Value} {es : List E6} (h : OwnE B w v es) (hh : ∀ k, some k = v.ownBlock → w'.heap[k]? = w.heap[k]?) : OwnE B w' v es := by
  refine ⟨h.1, ?_⟩
  rcases h.2 with h' | ⟨g, cap, cur, rfl, hbg, hg, rest⟩
  · exact .inl h'
  · exact .inr ⟨g, cap, cur, rfl, hbg, (hh g rfl).trans hg, rest⟩
theorem TrAt.hold {w0 : World} {tb : Nat} {es rs : List E6} {X W : World} {v' : Value} (h : TrAt w0 tb es X) (hown : OwnE X.heap.size W v' rs) (hb : Below X.heap.size X W) : TrH w0 tb es (fun W' => RowK 6 W' v' (rs.map E6.cells)) W := by
  obtain ⟨⟨v, h1⟩, h2, h3, h4, h5⟩ := h
  refine ⟨v, fun k => some k = v'.ownBlock, h1.below hb, h2.trans (hb.mono h2.size), h3, h4, h5, fun k hk => ?_, fun W' hW' => (hown.held hW').row⟩
  have g := hown.lt k hk.symm
  refine ⟨g.2, fun he => ?_, fun he => ?_⟩
  · have := h1.1.1; omega
  · have := (h1.2.lt k he.symm).2; omega
end Go.Proofs.Ythbjkkfpahhfiaa
