
/- Contracts: the methods of tree.Tree: Add, Del. -/
import Derived.Test.YthbjkkfpahhfiaaTree3
namespace Go.Proofs.Ythbjkkfpahhfiaa
open Go Go.Proofs Go.RowKit
set_option linter.unusedVariables false
set_option linter.unusedSimpArgs false

def insE (es : List E6) (x : E6) : List E6 := es.take (lbE es x) ++ x :: es.drop (lbE es x)
def delE (es : List E6) (x : E6) : List E6 := es.take (lbE es x) ++ es.drop (lbE es x + 1)
theorem lbE_le (es : List E6) (x : E6) : lbE es x ≤ es.length := (List.takeWhile_prefix _).length_le
theorem foundE_lt {es : List E6} {x : E6} (h : foundE es x = true) : lbE es x < es.length := by
  unfold foundE at h
  rcases Nat.lt_or_ge (lbE es x) es.length with h' | h'
  · exact h'
  · rw [List.getElem?_eq_none h'] at h; cases h
/-- the entries that stand ahead come first. -/
def Mono (es : List E6) (x : E6) : Prop := ∀ a b (ha : a < es.length) (hb : b < es.length), a ≤ b → ordE es[b] x < 0 → ordE es[a] x < 0
set_option maxRecDepth 100000 in
set_option maxHeartbeats 4000000 in
theorem Add_c (B tb : Nat) (es : List E6) (x : E6) (v : Value) (w : World) (hT : TreeAt B tb w v es) (hB : B ≤ w.heap.size) (hlen : es.length ≤ 1099511627776) (hf : ∀ e ∈ es, okF e) (hx : okF x) (mono : Mono es x) :
    Calls Try.prog 13 #[.pointer (some ⟨tb, 0, none⟩), x.val] w (TreeTo B tb w v (.bool (!foundE es x)) (if foundE es x then es else insE es x)) := by
  obtain ⟨va, vc, rfl⟩ := owns_shape hT.2
  have H0 : Hid (Keep w (fun W => TreeAt B tb W (.slice va es.length vc) es ∧ Blk W w.heap.size x.cells) (w.alloc (.cells x.cells.toArray 37))) :=
    Lib.hid ⟨⟨hT.below ((Below.refl _ w).alloc (Nat.le_refl _) _), Blk.new w _ _⟩, (Below.refl _ w).alloc (Nat.le_refl _) _, fun w' hb => ⟨(hT.below ((Below.refl _ w).alloc (Nat.le_refl _) _)).below hb, (Blk.new w _ _).below hb⟩⟩
  have HBS := Lib.hid (fun W (h : TreeAt B tb W (.slice va es.length vc) es) => BSearch_c es x _ W h.2.row hf hx hlen mono)
  have HT := Lib.hid hT
  have HLE := Lib.hid (lbE_le es x)
  have HIN : Hid (foundE es x = false → (if foundE es x then es else insE es x) = es.take (lbE es x) ++ x :: es.drop (lbE es x)) := Lib.hid (fun h => by rw [if_neg (by simp [h])]; rfl)
  have HFO : Hid (foundE es x = true → (if foundE es x then es else insE es x) = es) := Lib.hid (fun h => if_pos h)
  clear hT hf hx mono
  generalize (if foundE es x then es else insE es x) = es2 at *
  generalize lbE es x = lb at *
  generalize foundE es x = fd at *
  generalize hX : x = xx at H0 HT HBS ⊢
  obtain ⟨⟨k, b, n, f, t⟩, i⟩ := xx
  have HX := Lib.hid hX
  clear hX
  unfold E6.val at HBS ⊢
  unfold E6.cells at H0
  dsimp only at H0 HBS
  cases fd
  case true =>
    rw [HFO.out rfl]
    go_enter Try.func13, Try.ntmps13
    go_wp2_with fail
    have H1 := Lib.hid H0.out.drew
    (first | go_region_held3 (fun w' => (w'.cell? ⟨tb, 0, none⟩ = some (.slice va es.length vc)) ∧ (w'.cell? ⟨w.heap.size, 0, none⟩ = some (.int .i64 k) ∧ w'.cell? ⟨w.heap.size, 1, none⟩ = some (.bool b) ∧ w'.cell? ⟨w.heap.size, 2, none⟩ = some (.int .i64 n) ∧ w'.cell? ⟨w.heap.size, 3, none⟩ = some (.float .f64 f) ∧ w'.cell? ⟨w.heap.size, 4, none⟩ = some (.string ⟨t.toArray⟩) ∧ w'.cell? ⟨w.heap.size, 5, none⟩ = some (.int .i64 i)))
        (exact ⟨H1.out.facts.1.1.cell 0 _ rfl, E6.facts H1.out.facts.2⟩)
        (first | (go_at_call 29; (with_reducible refine (HBS.out _ H1.out.facts.1).mono ?_); rintro e wq ⟨rfl, hq⟩; have H1 := Lib.hid (Keep.on H1.out hq); clear hq) | fail) | fail)
    go_wp2_with fail
    go_ret
    exact ⟨_, rfl, H1.out.facts.1, .inl rfl, Chg.ofBelow H1.out.below⟩
  case false =>
    rw [HIN.out rfl]
    go_enter Try.func13, Try.ntmps13
    go_wp2_with fail
    have H1 := Lib.hid H0.out.drew
    (first | go_region_held3 (fun w' => (w'.cell? ⟨tb, 0, none⟩ = some (.slice va es.length vc)) ∧ (w'.cell? ⟨w.heap.size, 0, none⟩ = some (.int .i64 k) ∧ w'.cell? ⟨w.heap.size, 1, none⟩ = some (.bool b) ∧ w'.cell? ⟨w.heap.size, 2, none⟩ = some (.int .i64 n) ∧ w'.cell? ⟨w.heap.size, 3, none⟩ = some (.float .f64 f) ∧ w'.cell? ⟨w.heap.size, 4, none⟩ = some (.string ⟨t.toArray⟩) ∧ w'.cell? ⟨w.heap.size, 5, none⟩ = some (.int .i64 i)))
        (exact ⟨H1.out.facts.1.1.cell 0 _ rfl, E6.facts H1.out.facts.2⟩)
        (first | (go_at_call 29; (with_reducible refine (HBS.out _ H1.out.facts.1).mono ?_); rintro e wq ⟨rfl, hq⟩; have H1 := Lib.hid (Keep.on H1.out hq); clear hq) | fail) | fail)
    go_wp2_with fail
    have c0 := H1.out.facts.1.1.cell 0 _ rfl
    have c0' := fun o1 => (H1.out.facts.1.1.alloc o1).cell 0 _ rfl
    have c1 := E6.facts H1.out.facts.2
    have HIS := Lib.hid (Insert_c B wq.heap.size lb es x (.slice va es.length vc) (wq.alloc (.cells x.cells.toArray 37)).drew hlen HLE.out (by have := H1.out.below.size; simp; omega) (owns_below' H1.out.facts.1.2 ((Below.refl _ wq).alloc (Nat.le_refl _) _).drew) (Blk.new wq x.cells _) (by
      intro hh
      have h2 := H1.out.facts.1.2.lt _ hh
      omega))
    have HST := Lib.hid (fun (X : World) hX v' w6 h1 h2 h3 => TreeAt.store (X := X) (v' := v') (w6 := w6) (es' := es.take lb ++ x :: es.drop lb) HT.out hX h1 h2 h3)
    generalize es.take lb ++ x :: es.drop lb = es3 at *
    rw [HX.out] at HIS
    unfold E6.cells at HIS
    dsimp only at HIS
    have HB := Lib.hid (show Below w.heap.size w (wq.alloc (.cells x.cells.toArray 37)).drew from (H1.out.below.alloc H1.out.below.size _).drew)
    rw [HX.out] at HB
    unfold E6.cells at HB
    dsimp only at HB
    clear H0 HBS
    go_region_with (go_at_call 31; (with_reducible refine HIS.out.mono ?_); rintro e w6 ⟨va', vc', rfl, hown, hgr, hl⟩; obtain ⟨e0, e1, hN1, hN2, hN3⟩ := HST.out _ HB.out _ w6 hown hgr hl; have HN := Lib.hid (And.intro hN1 (And.intro hN2 hN3)); clear hN1 hN2 hN3 hown hgr hl)
    all_goals
      go_wp2_with fail
      go_ret
      exact ⟨_, rfl, HN.out.1, HN.out.2.1, HN.out.2.2⟩
set_option maxRecDepth 100000 in
set_option maxHeartbeats 4000000 in
theorem Del_c (B tb : Nat) (es : List E6) (x : E6) (v : Value) (w : World) (hT : TreeAt B tb w v es) (hB : B ≤ w.heap.size) (hlen : es.length ≤ 1099511627776) (hf : ∀ e ∈ es, okF e) (hx : okF x) (mono : Mono es x) :
    Calls Try.prog 24 #[.pointer (some ⟨tb, 0, none⟩), x.val] w (TreeTo B tb w v (.bool (foundE es x)) (if foundE es x then delE es x else es)) := by
  obtain ⟨va, vc, rfl⟩ := owns_shape hT.2
  have H0 : Hid (Keep w (fun W => TreeAt B tb W (.slice va es.length vc) es ∧ Blk W w.heap.size x.cells) (w.alloc (.cells x.cells.toArray 37))) :=
    Lib.hid ⟨⟨hT.below ((Below.refl _ w).alloc (Nat.le_refl _) _), Blk.new w _ _⟩, (Below.refl _ w).alloc (Nat.le_refl _) _, fun w' hb => ⟨(hT.below ((Below.refl _ w).alloc (Nat.le_refl _) _)).below hb, (Blk.new w _ _).below hb⟩⟩
  have HBS := Lib.hid (fun W (h : TreeAt B tb W (.slice va es.length vc) es) => BSearch_c es x _ W h.2.row hf hx hlen mono)
  have HT := Lib.hid hT
  have HLT : Hid (foundE es x = true → lbE es x < es.length) := Lib.hid foundE_lt
  have HIN : Hid (foundE es x = true → (if foundE es x then delE es x else es) = es.take (lbE es x) ++ es.drop (lbE es x + 1)) := Lib.hid (fun h => by rw [if_pos h]; rfl)
  have HFO : Hid (foundE es x = false → (if foundE es x then delE es x else es) = es) := Lib.hid (fun h => if_neg (by simp [h]))
  clear hT hf hx mono
  generalize (if foundE es x then delE es x else es) = es2 at *
  generalize lbE es x = lb at *
  generalize foundE es x = fd at *
  obtain ⟨⟨k, b, n, f, t⟩, i⟩ := x
  unfold E6.val at HBS ⊢
  unfold E6.cells at H0
  dsimp only at H0 HBS
  cases fd
  case false =>
    rw [HFO.out rfl]
    go_enter Try.func24, Try.ntmps24
    go_wp2_with fail
    have H1 := Lib.hid H0.out.drew
    (first | go_region_held3 (fun w' => (w'.cell? ⟨tb, 0, none⟩ = some (.slice va es.length vc)) ∧ (w'.cell? ⟨w.heap.size, 0, none⟩ = some (.int .i64 k) ∧ w'.cell? ⟨w.heap.size, 1, none⟩ = some (.bool b) ∧ w'.cell? ⟨w.heap.size, 2, none⟩ = some (.int .i64 n) ∧ w'.cell? ⟨w.heap.size, 3, none⟩ = some (.float .f64 f) ∧ w'.cell? ⟨w.heap.size, 4, none⟩ = some (.string ⟨t.toArray⟩) ∧ w'.cell? ⟨w.heap.size, 5, none⟩ = some (.int .i64 i)))
        (exact ⟨H1.out.facts.1.1.cell 0 _ rfl, E6.facts H1.out.facts.2⟩)
        (first | (go_at_call 29; (with_reducible refine (HBS.out _ H1.out.facts.1).mono ?_); rintro e wq ⟨rfl, hq⟩; have H1 := Lib.hid (Keep.on H1.out hq); clear hq) | fail) | fail)
    go_wp2_with fail
    go_ret
    exact ⟨_, rfl, H1.out.facts.1, .inl rfl, Chg.ofBelow H1.out.below⟩
  case true =>
    rw [HIN.out rfl]
    have hlb := HLT.out rfl
    go_enter Try.func24, Try.ntmps24
    go_wp2_with fail
    have H1 := Lib.hid H0.out.drew
    (first | go_region_held3 (fun w' => (w'.cell? ⟨tb, 0, none⟩ = some (.slice va es.length vc)) ∧ (w'.cell? ⟨w.heap.size, 0, none⟩ = some (.int .i64 k) ∧ w'.cell? ⟨w.heap.size, 1, none⟩ = some (.bool b) ∧ w'.cell? ⟨w.heap.size, 2, none⟩ = some (.int .i64 n) ∧ w'.cell? ⟨w.heap.size, 3, none⟩ = some (.float .f64 f) ∧ w'.cell? ⟨w.heap.size, 4, none⟩ = some (.string ⟨t.toArray⟩) ∧ w'.cell? ⟨w.heap.size, 5, none⟩ = some (.int .i64 i)))
        (exact ⟨H1.out.facts.1.1.cell 0 _ rfl, E6.facts H1.out.facts.2⟩)
        (first | (go_at_call 29; (with_reducible refine (HBS.out _ H1.out.facts.1).mono ?_); rintro e wq ⟨rfl, hq⟩; have H1 := Lib.hid (Keep.on H1.out hq); clear hq) | fail) | fail)
    have c0 := H1.out.facts.1.1.cell 0 _ rfl
    have HDS := Lib.hid (Delete_c B lb es (.slice va es.length vc) wq hlen hlb H1.out.facts.1.2)
    have HST := Lib.hid (fun v' w6 h1 h2 h3 => TreeAt.store (X := wq) (v' := v') (w6 := w6) (es' := es.take lb ++ es.drop (lb + 1)) HT.out H1.out.below h1 h2 h3)
    generalize es.take lb ++ es.drop (lb + 1) = es3 at *
    clear H0 HBS
    go_wp2_with (go_at_call 38; (with_reducible refine HDS.out.mono ?_); rintro e w6 ⟨va', vc', rfl, hown, hgr, hl⟩; obtain ⟨e0, e1, hN1, hN2, hN3⟩ := HST.out _ w6 hown hgr hl; have HN := Lib.hid (And.intro hN1 (And.intro hN2 hN3)); clear hN1 hN2 hN3 hown hgr hl)
    go_ret
    exact ⟨_, rfl, HN.out.1, HN.out.2.1, HN.out.2.2⟩
end Go.Proofs.Ythbjkkfpahhfiaa
