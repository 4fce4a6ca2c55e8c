
/- Contracts of package ligatureref9: Range; the laws' digits. -/
import Derived.Test.YthbjkkfpahhfiaaRef3
namespace Go.Proofs.Ythbjkkfpahhfiaa
open Go Go.Proofs Go.RowKit
set_option linter.unusedVariables false
set_option linter.unusedSimpArgs false

theorem E6.factsV {w : World} {g o : Nat} {k : Int} {b : Bool} {n : Int} {f : Nat} {t : List UInt8} {i : Int} (h : CellsAt w g o (⟨⟨k, b, n, f, t⟩, i⟩ : E6).cells) :
    w.cell? ⟨g, o, none⟩ = some (.int .i64 k) ∧ w.cell? ⟨g, o + 1, none⟩ = some (.bool b) ∧ w.cell? ⟨g, o + 2, none⟩ = some (.int .i64 n) ∧ w.cell? ⟨g, o + 3, none⟩ = some (.float .f64 f) ∧ w.cell? ⟨g, o + 4, none⟩ = some (.string ⟨t.toArray⟩) :=
  ⟨h.at 0 _ rfl, h.at 1 _ rfl, h.at 2 _ rfl, h.at 3 _ rfl, h.at 4 _ rfl⟩
set_option maxRecDepth 100000 in
set_option maxHeartbeats 4000000 in
theorem Range9_c (B tb : Nat) (es : List E6) (lo hi : V5) (v : Value) (w : World) (hT : TreeAt B tb w v es) (hlen : es.length ≤ 1099511627776) (hf : ∀ e ∈ es, okF e) (hlo : lo.f < W64) (hhi : hi.f < W64) :
    Calls Try.prog 18 #[.pointer (some ⟨tb, 0, none⟩), lo.v, hi.v] w (NewE w (es.filter (inE lo hi))) := by
  obtain ⟨va0, vc0, rfl⟩ := owns_shape hT.2
  have HT0 := Lib.hid hT
  have HI := Lib.hid (fun j (hj : j < es.length) W => XIn_c es[j].v lo hi W (hf _ (List.getElem_mem hj)) hlo hhi)
  have HSt : Hid (FG w lo hi es 0 none 0 0 ((w.alloc (.cells lo.cells.toArray 32)).alloc (.cells hi.cells.toArray 32))) :=
    Lib.hid ⟨(Blk.new w lo.cells _).alloc _, Blk.newAtT _ hi.cells _ _ (by simp), rfl, ⟨rfl, .inl ⟨rfl, rfl⟩⟩, ((Below.refl _ w).alloc (Nat.le_refl _) _).alloc (by simp) _, by simp⟩
  clear hT hf hlo hhi
  have HFX := Lib.hid (fun j va n vc X (hj : j < es.length) => FG.skip (w := w) (lo := lo) (hi := hi) (es := es) (j := j) (va := va) (n := n) (vc := vc) (X := X) hj)
  have HNX := Lib.hid (fun j va n vc va' vc' X w6 (hj : j < es.length) h hn h1 (h2 : (X.alloc (.cells es[j].cells.toArray 37)).grownBy w6 (Value.slice va n vc).ownBlock) => FG.next (o := .cells es[j].cells.toArray 37) (w := w) (lo := lo) (hi := hi) (es := es) (j := j) (va := va) (n := n) (vc := vc) (va' := va') (vc' := vc') (X := X) (w6 := w6) hj h hn rfl h1 h2)
  have HIN : Hid (∀ j (hj : j < es.length), inE lo hi es[j] = (decide (0 ≤ cmpV es[j].v lo) && decide (cmpV es[j].v hi ≤ 0))) := Lib.hid (fun _ _ => rfl)
  have HTW : Hid (∀ j va n vc X, FG w lo hi es j va n vc X → TreeAt B tb X (.slice va0 es.length vc0) es) := Lib.hid (fun j va n vc X h => HT0.out.below h.bel)
  have HFF : Hid (∀ va n vc X, FG w lo hi es es.length va n vc X → NewE w (es.filter (inE lo hi)) (.returned (.slice va n vc)) X) := Lib.hid (fun va n vc X h => by
    refine ⟨_, rfl, ?_, h.bel⟩
    have := h.own
    rw [List.take_of_length_le (Nat.le_refl _)] at this
    exact ownsRow_mono this (by omega))
  obtain ⟨k, b, n, f, t⟩ := lo
  obtain ⟨k', b', n', f', t'⟩ := hi
  unfold V5.v at HI ⊢
  unfold V5.cells at HSt
  dsimp only at HI HSt
  go_enter Try.func18, Try.ntmps18
  go_wp2_with fail
  go_loopw [7, 8] (fun u i wr => ∃ j : Nat, j ≤ es.length ∧ i = .int .i64 (j : Int) ∧ ∃ va m vc, u = .slice va m vc ∧ FG w ⟨k, b, n, f, t⟩ ⟨k', b', n', f', t'⟩ es j va m vc wr) (fun _ i _ => es.length - (intOf i).toNat)
  case atStart => exact ⟨0, by omega, rfl, none, 0, 0, rfl, HSt.out⟩
  case round =>
    clear HSt
    obtain ⟨j, hj, rfl, va, m, vc, rfl, hF⟩ := hrel
    have c0 := (HTW.out _ _ _ _ _ hF).1.cell 0 _ rfl
    by_cases hlt : j < es.length
    · obtain ⟨B1, o1, rfl, hB1, hx⟩ := row_e6 (HTW.out _ _ _ _ _ hF).2.row j hlt
      have HX := Lib.hid (fun X (h : FG w ⟨k, b, n, f, t⟩ ⟨k', b', n', f', t'⟩ es j va m vc X) => e6_at (HTW.out _ _ _ _ _ h).2.row j hlt)
      have HC0 := Lib.hid (fun X (h : FG w ⟨k, b, n, f, t⟩ ⟨k', b', n', f', t'⟩ es j va m vc X) => (HTW.out _ _ _ _ _ h).1.cell 0 _ rfl)
      have HCj := Lib.hid (fun W => HI.out j hlt W)
      have HS := Lib.hid (fun X => HFX.out j va m vc X hlt)
      have HN := Lib.hid (fun va' vc' X w6 => HNX.out j va m vc va' vc' X w6 hlt)
      have HQ := Lib.hid (HIN.out j hlt)
      have hml : m ≤ 1099511627776 := by
        have h1 := hF.len
        have h2 := List.length_filter_le (inE ⟨k, b, n, f, t⟩ ⟨k', b', n', f', t'⟩) (es.take j)
        have h3 := List.length_take_le j es
        omega
      have H1 : Hid (Keep w (FG w ⟨k, b, n, f, t⟩ ⟨k', b', n', f', t'⟩ es j va m vc) wr) := Lib.hid ⟨hF, hF.bel, fun X hb => hF.below hb⟩
      have HKd := Lib.hid H1.out.drew
      generalize inE ⟨k, b, n, f, t⟩ ⟨k', b', n', f', t'⟩ es[j] = ib at *
      rw [← HQ.out] at HCj
      clear HQ
      generalize es[j] = y at *
      obtain ⟨⟨k2, b2, n2, f2, t2⟩, i2⟩ := y
      have hi1 : (j : Int) < (es.length : Int) := by omega
      clear hx hF
      unfold E6.cells at HN
      dsimp only at HCj HN
      go_wp2_with fail
      clear c0
      (first | go_region_held3 (fun w' => (w'.cell? ⟨B1, o1 + j * 6, none⟩ = some (.int .i64 k2) ∧ w'.cell? ⟨B1, o1 + j * 6 + 1, none⟩ = some (.bool b2) ∧ w'.cell? ⟨B1, o1 + j * 6 + 2, none⟩ = some (.int .i64 n2) ∧ w'.cell? ⟨B1, o1 + j * 6 + 3, none⟩ = some (.float .f64 f2) ∧ w'.cell? ⟨B1, o1 + j * 6 + 4, none⟩ = some (.string ⟨t2.toArray⟩)) ∧ (w'.cell? ⟨w.heap.size, 0, none⟩ = some (.int .i64 k) ∧ w'.cell? ⟨w.heap.size, 1, none⟩ = some (.bool b) ∧ w'.cell? ⟨w.heap.size, 2, none⟩ = some (.int .i64 n) ∧ w'.cell? ⟨w.heap.size, 3, none⟩ = some (.float .f64 f) ∧ w'.cell? ⟨w.heap.size, 4, none⟩ = some (.string ⟨t.toArray⟩)) ∧ (w'.cell? ⟨w.heap.size + 1, 0, none⟩ = some (.int .i64 k') ∧ w'.cell? ⟨w.heap.size + 1, 1, none⟩ = some (.bool b') ∧ w'.cell? ⟨w.heap.size + 1, 2, none⟩ = some (.int .i64 n') ∧ w'.cell? ⟨w.heap.size + 1, 3, none⟩ = some (.float .f64 f') ∧ w'.cell? ⟨w.heap.size + 1, 4, none⟩ = some (.string ⟨t'.toArray⟩)) ∧ w'.cell? ⟨tb, 0, none⟩ = some (.slice (some ⟨B1, o1, none⟩) es.length vc0))
        (exact ⟨E6.factsV (HX.out _ HKd.out.facts), V5.factsB HKd.out.facts.b0, V5.factsB HKd.out.facts.b1, HC0.out _ HKd.out.facts⟩)
        (first | (go_at_call 36; (with_reducible refine (HCj.out _).mono ?_); rintro e wq ⟨rfl, hq⟩; have HKd := Lib.hid (Keep.on HKd.out hq); clear hq) | fail) | fail)
      have c2 := E6.factsAt (HX.out _ HKd.out.facts)
      have c3 := HC0.out _ HKd.out.facts
      cases ib
      · go_wp2_with fail
        go_roundw
        case rel => exact ⟨j + 1, by omega, by go_num, va, m, vc, rfl, HS.out _ HKd.out.facts (by first | trivial | rfl)⟩
        case measure => simp [intOf]; omega
      · go_wp2_with (at_builtin; refine wp_appK1 elemE (by decide) rfl _ _ rfl (w.heap.size + 2) m _ _ rfl HKd.out.facts.own' [.int .i64 k2, .bool b2, .int .i64 n2, .float .f64 f2, .string ⟨t2.toArray⟩, .int .i64 i2] rfl rfl (E6.one ⟨⟨k2, b2, n2, f2, t2⟩, i2⟩) ?_ ?_ ?_ ?_)
        · omega
        · omega
        · exact HKd.out.facts.sz
        intro v' w6 hown6 hgr hb6
        obtain ⟨va', vc', rfl⟩ := owns_shape hown6
        have HNN := Lib.hid (HN.out va' vc' _ w6 HKd.out.facts (by first | trivial | rfl) hown6 hgr)
        clear hown6 hgr hb6
        go_wp2_with fail
        go_roundw
        case rel => exact ⟨j + 1, by omega, by go_num, va', m + 1, vc', rfl, HNN.out⟩
        case measure => simp [intOf]; omega
    · obtain rfl : j = es.length := by omega
      have HE := Lib.hid (HFF.out _ _ _ _ hF)
      clear hF
      go_wp2_with fail
      go_ret
      exact HE.out
theorem bitLenAux_le : ∀ (f x : Nat), Lib.bitLenAux f x ≤ f
  | 0, _ => Nat.le_refl _
  | f + 1, x => by
    unfold Lib.bitLenAux
    have := bitLenAux_le f (x / 2)
    split <;> omega
/-- binary digits. -/
theorem digits_c (m : Nat) (w : World) (hm : m ≤ 1099511627776) : Calls Try.prog 27 #[.int .i64 (m : Int)] w fun e w' => e = .returned (.int .i64 (Lib.bitLen m)) ∧ w' = w := by
  have HB : Hid (∀ q : Nat, 0 < q → q ≤ m → Lib.bitLen q = Lib.bitLen (q / 2) + 1) := Lib.hid (fun q hq hqm => by
    rw [Lib.bitLen_half q (by omega) (by omega)]; omega)
  have H0 : Hid (Lib.bitLen 0 = 0) := Lib.hid (by decide)
  have HM : Hid (∀ q : Nat, q ≤ m → Lib.bitLen q ≤ 64) := Lib.hid (fun q hq => by
    exact bitLenAux_le 64 q)
  go_enter Try.func27, Try.ntmps27
  go_wp2_with fail
  go_loopw [0, 3] (fun u v wr => ∃ q d : Nat, q ≤ m ∧ u = .int .i64 (q : Int) ∧ v = .int .i64 (d : Int) ∧ Lib.bitLen m = d + Lib.bitLen q ∧ wr = w) (fun u _ _ => (intOf u).toNat)
  case atStart => exact ⟨m, 0, Nat.le_refl _, rfl, rfl, by omega, rfl⟩
  case round =>
    obtain ⟨q, d, hq, rfl, rfl, he, rfl⟩ := hrel
    have HE := Lib.hid he
    have hd : d ≤ 64 := by have := HM.out m (Nat.le_refl _); omega
    clear he
    by_cases h0 : 0 < q
    · have hq1 : 0 < (q : Int) := by omega
      have e2 := HB.out q h0 hq
      go_wp2_with fail
      go_roundw
      case rel => exact ⟨q / 2, d + 1, by omega, by go_num, by go_num, by have := HE.out; omega, by first | rfl | trivial⟩
      case measure => simp [intOf]; omega
    · obtain rfl : q = 0 := by omega
      go_wp2_with fail
      go_ret
      exact ⟨by rw [HE.out, H0.out]; rfl, by first | rfl | trivial⟩
end Go.Proofs.Ythbjkkfpahhfiaa
