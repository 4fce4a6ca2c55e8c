
/- Contracts of package record: isWrite. -/
import Derived.Test.YtmbffncmogpkfaaGreatDoorRec4
namespace Go.Proofs.YtmbffncmogpkfaaGreatDoor
open Go Go.Proofs Go.RowKit
set_option linter.unusedVariables false
set_option linter.unusedSimpArgs false

/-- a write, plain. -/
structure WR where
  e : Bool
  id : Int
  g : Bool
  ss : List (List UInt8)
  ps : List PR
  ed : ED
def nothingB (x : WR) : Bool := decide (x.ss.length = 0) && decide (x.ps.length = 0)
def writeB (nodes edges : Int) (x : WR) : Bool :=
  (decide (1 ≤ x.id) && decide (x.id ≤ if x.e then edges else nodes)) && (if x.g then (sameED x.ed ⟨0, 0, [], 0⟩ && nothingB x) else if x.e then okED x.ed else nodeB x.ss x.ps) && (if x.e then nothingB x else sameED x.ed ⟨0, 0, [], 0⟩)
def cells9 (e : Bool) (id : Int) (g : Bool) (sv pv : Value) (a b : Int) (t : List UInt8) (f : Nat) : List Value := [.bool e, .int .i64 id, .bool g, sv, pv, .int .i64 a, .int .i64 b, .string ⟨t.toArray⟩, .float .f64 f]
theorem facts9 {w : World} {B : Nat} {e : Bool} {id : Int} {g : Bool} {sv pv : Value} {a b : Int} {t : List UInt8} {f : Nat} (h : Blk w B (cells9 e id g sv pv a b t f)) :
    w.cell? ⟨B, 0, none⟩ = some (.bool e) ∧ w.cell? ⟨B, 1, none⟩ = some (.int .i64 id) ∧ w.cell? ⟨B, 2, none⟩ = some (.bool g) ∧ w.cell? ⟨B, 3, none⟩ = some sv ∧ w.cell? ⟨B, 4, none⟩ = some pv ∧ w.cell? ⟨B, 5, none⟩ = some (.int .i64 a) ∧ w.cell? ⟨B, 6, none⟩ = some (.int .i64 b) ∧ w.cell? ⟨B, 7, none⟩ = some (.string ⟨t.toArray⟩) ∧ w.cell? ⟨B, 8, none⟩ = some (.float .f64 f) :=
  ⟨h.cell 0 _ rfl, h.cell 1 _ rfl, h.cell 2 _ rfl, h.cell 3 _ rfl, h.cell 4 _ rfl, h.cell 5 _ rfl, h.cell 6 _ rfl, h.cell 7 _ rfl, h.cell 8 _ rfl⟩
set_option maxRecDepth 100000 in
set_option maxHeartbeats 8000000 in
theorem isWrite_c (nodes edges : Int) (x : WR) (sa pa : Option Addr) (sc pc : Nat) (w : World) (hs : RowAt w (.slice sa x.ss.length sc) (x.ss.map strV)) (hp : RowK 6 w (.slice pa x.ps.length pc) (x.ps.map PR.cells))
    (hl : ∀ s ∈ x.ss, s.length ≤ 9223372036854775807) (hq : ∀ p ∈ x.ps, p.key.length ≤ 9223372036854775807) (hb : x.ps.length ≤ 4398046511104) (hsl : x.ss.length ≤ 4398046511104) (ht : x.ed.t.length ≤ 9223372036854775807) (hf : x.ed.w < W64) :
    Calls Tryz.prog 39 #[.int .i64 nodes, .int .i64 edges, .agg #[.bool x.e, .int .i64 x.id, .bool x.g, .slice sa x.ss.length sc, .slice pa x.ps.length pc, .int .i64 x.ed.a, .int .i64 x.ed.b, .string ⟨x.ed.t.toArray⟩, .float .f64 x.ed.w]] w (Gives w (.bool (writeB nodes edges x))) := by
  have HW : Hid (writeB nodes edges x = ((decide (1 ≤ x.id) && decide (x.id ≤ if x.e then edges else nodes)) && (if x.g then (sameED x.ed ⟨0, 0, [], 0⟩ && nothingB x) else if x.e then okED x.ed else nodeB x.ss x.ps) && (if x.e then nothingB x else sameED x.ed ⟨0, 0, [], 0⟩))) := Lib.hid rfl
  have HN := Lib.hid (fun W h1 h2 => IsNode_c x.ss x.ps (.slice sa x.ss.length sc) (.slice pa x.ps.length pc) W h1 h2 hl hq hb)
  have HE := Lib.hid (fun W => IsEdge_c x.ed W ht)
  have HS := Lib.hid (fun W => SameEdge_c x.ed ⟨0, 0, [], 0⟩ W hf (by decide))
  have H0s : Hid (∀ W, Calls Tryz.prog 66 #[.agg #[.slice sa x.ss.length sc, .slice pa x.ps.length pc], .agg #[.slice none 0 0, .slice none 0 0]] W (Gives W (.bool (nothingB x)))) := Lib.hid (fun W => Same0_c sa _ sc pa _ pc W (by omega) (by omega))
  have HI := Lib.hid (fun hi W => isIn_c x.id 1 hi W)
  have H0 : Hid (Keep w (fun W => (RowAt W (.slice sa x.ss.length sc) (x.ss.map strV) ∧ RowK 6 W (.slice pa x.ps.length pc) (x.ps.map PR.cells)) ∧ Blk W w.heap.size (cells9 x.e x.id x.g (.slice sa x.ss.length sc) (.slice pa x.ps.length pc) x.ed.a x.ed.b x.ed.t x.ed.w)) (w.alloc (.cells (cells9 x.e x.id x.g (.slice sa x.ss.length sc) (.slice pa x.ps.length pc) x.ed.a x.ed.b x.ed.t x.ed.w).toArray 45))) :=
    Lib.hid ⟨⟨⟨hs.alloc _, hp.alloc _⟩, Blk.new _ _ _⟩, (Below.refl _ w).alloc (Nat.le_refl _) _, fun w' h => ⟨⟨(hs.alloc _).below h, (hp.alloc _).below h⟩, (Blk.new w _ _).below h⟩⟩
  have H0 := Lib.hid H0.out.drew
  clear hs hp hl hq hb hsl ht hf
  generalize writeB nodes edges x = r at *
  generalize nothingB x = b0 at *
  generalize nodeB x.ss x.ps = nb at *
  generalize sameED x.ed ⟨0, 0, [], 0⟩ = nn at *
  generalize okED x.ed = eb at *
  generalize x.ss.length = n1 at *
  generalize x.ps.length = n2 at *
  generalize x.ss = ss at *
  generalize x.ps = ps at *
  obtain ⟨e, id, g, _, _, ⟨a, b, t, f⟩⟩ := x
  unfold ED.v at HE HS
  unfold cells9 at H0
  dsimp only at HW HN HE HS H0s HI H0 ⊢
  cases e
  · simp only [Bool.false_eq_true, if_false] at HW
    have HI2 := Lib.hid (HI.out nodes)
    clear HI
    generalize (decide (1 ≤ id) && decide (id ≤ nodes)) = inn at *
    go_enter Tryz.func39, Tryz.ntmps39
    go_wp2_with fail
    (first | go_region_held3 (fun w' => w'.cell? ⟨w.heap.size, 0, none⟩ = some (.bool false) ∧ w'.cell? ⟨w.heap.size, 1, none⟩ = some (.int .i64 id) ∧ w'.cell? ⟨w.heap.size, 2, none⟩ = some (.bool g) ∧ w'.cell? ⟨w.heap.size, 3, none⟩ = some (.slice sa n1 sc) ∧ w'.cell? ⟨w.heap.size, 4, none⟩ = some (.slice pa n2 pc) ∧ w'.cell? ⟨w.heap.size, 5, none⟩ = some (.int .i64 a) ∧ w'.cell? ⟨w.heap.size, 6, none⟩ = some (.int .i64 b) ∧ w'.cell? ⟨w.heap.size, 7, none⟩ = some (.string ⟨t.toArray⟩) ∧ w'.cell? ⟨w.heap.size, 8, none⟩ = some (.float .f64 f))
      (exact facts9 H0.out.facts.2)
      (first
       | (go_at_call 38; (with_reducible refine (HN.out _ H0.out.facts.1.1 H0.out.facts.1.2).mono ?_); rintro e wz ⟨rfl, hq⟩; have H0 := Lib.hid (H0.out.on hq); clear hq)
       | (go_at_call 64; (with_reducible refine (HS.out _).mono ?_); rintro e wz ⟨rfl, hq⟩; have H0 := Lib.hid (H0.out.on hq); clear hq)
       | (go_at_call 65; (with_reducible refine (HE.out _).mono ?_); rintro e wz ⟨rfl, hq⟩; have H0 := Lib.hid (H0.out.on hq); clear hq)
       | (go_at_call 66; (with_reducible refine (H0s.out _).mono ?_); rintro e wz ⟨rfl, hq⟩; have H0 := Lib.hid (H0.out.on hq); clear hq)
       | fail) | fail)
    have hk := facts9 H0.out.facts.2
    cases g
    all_goals
      go_wp2_with (first
       | (go_at_call 38; (with_reducible refine (HN.out _ H0.out.facts.1.1 H0.out.facts.1.2).mono ?_); rintro e wz ⟨rfl, hq⟩; have H0 := Lib.hid (H0.out.on hq); clear hq; have hk := facts9 H0.out.facts.2)
       | (go_at_call 64; (with_reducible refine (HS.out _).mono ?_); rintro e wz ⟨rfl, hq⟩; have H0 := Lib.hid (H0.out.on hq); clear hq; have hk := facts9 H0.out.facts.2)
       | (go_at_call 65; (with_reducible refine (HE.out _).mono ?_); rintro e wz ⟨rfl, hq⟩; have H0 := Lib.hid (H0.out.on hq); clear hq; have hk := facts9 H0.out.facts.2)
       | (go_at_call 66; (with_reducible refine (H0s.out _).mono ?_); rintro e wz ⟨rfl, hq⟩; have H0 := Lib.hid (H0.out.on hq); clear hq; have hk := facts9 H0.out.facts.2)
       | (go_at_call 40; (with_reducible refine (HI2.out _).mono ?_); rintro e wz ⟨rfl, rfl⟩))
    all_goals
      go_ret
      exact ⟨by rw [HW.out]; first | rfl | (simp [*]; done) | (simp_all; done), H0.out.below⟩
  · simp only [if_true] at HW
    have HI2 := Lib.hid (HI.out edges)
    clear HI
    generalize (decide (1 ≤ id) && decide (id ≤ edges)) = inn at *
    go_enter Tryz.func39, Tryz.ntmps39
    go_wp2_with fail
    (first | go_region_held3 (fun w' => w'.cell? ⟨w.heap.size, 0, none⟩ = some (.bool true) ∧ w'.cell? ⟨w.heap.size, 1, none⟩ = some (.int .i64 id) ∧ w'.cell? ⟨w.heap.size, 2, none⟩ = some (.bool g) ∧ w'.cell? ⟨w.heap.size, 3, none⟩ = some (.slice sa n1 sc) ∧ w'.cell? ⟨w.heap.size, 4, none⟩ = some (.slice pa n2 pc) ∧ w'.cell? ⟨w.heap.size, 5, none⟩ = some (.int .i64 a) ∧ w'.cell? ⟨w.heap.size, 6, none⟩ = some (.int .i64 b) ∧ w'.cell? ⟨w.heap.size, 7, none⟩ = some (.string ⟨t.toArray⟩) ∧ w'.cell? ⟨w.heap.size, 8, none⟩ = some (.float .f64 f))
      (exact facts9 H0.out.facts.2)
      (first
       | (go_at_call 38; (with_reducible refine (HN.out _ H0.out.facts.1.1 H0.out.facts.1.2).mono ?_); rintro e wz ⟨rfl, hq⟩; have H0 := Lib.hid (H0.out.on hq); clear hq)
       | (go_at_call 64; (with_reducible refine (HS.out _).mono ?_); rintro e wz ⟨rfl, hq⟩; have H0 := Lib.hid (H0.out.on hq); clear hq)
       | (go_at_call 65; (with_reducible refine (HE.out _).mono ?_); rintro e wz ⟨rfl, hq⟩; have H0 := Lib.hid (H0.out.on hq); clear hq)
       | (go_at_call 66; (with_reducible refine (H0s.out _).mono ?_); rintro e wz ⟨rfl, hq⟩; have H0 := Lib.hid (H0.out.on hq); clear hq)
       | fail) | fail)
    have hk := facts9 H0.out.facts.2
    have H0 := Lib.hid H0.out.drew
    go_wp2_with fail
    (first | go_region_held3 (fun w' => w'.cell? ⟨w.heap.size, 0, none⟩ = some (.bool true) ∧ w'.cell? ⟨w.heap.size, 1, none⟩ = some (.int .i64 id) ∧ w'.cell? ⟨w.heap.size, 2, none⟩ = some (.bool g) ∧ w'.cell? ⟨w.heap.size, 3, none⟩ = some (.slice sa n1 sc) ∧ w'.cell? ⟨w.heap.size, 4, none⟩ = some (.slice pa n2 pc) ∧ w'.cell? ⟨w.heap.size, 5, none⟩ = some (.int .i64 a) ∧ w'.cell? ⟨w.heap.size, 6, none⟩ = some (.int .i64 b) ∧ w'.cell? ⟨w.heap.size, 7, none⟩ = some (.string ⟨t.toArray⟩) ∧ w'.cell? ⟨w.heap.size, 8, none⟩ = some (.float .f64 f))
      (exact facts9 H0.out.facts.2)
      (first
       | (go_at_call 38; (with_reducible refine (HN.out _ H0.out.facts.1.1 H0.out.facts.1.2).mono ?_); rintro e wz ⟨rfl, hq⟩; have H0 := Lib.hid (H0.out.on hq); clear hq)
       | (go_at_call 64; (with_reducible refine (HS.out _).mono ?_); rintro e wz ⟨rfl, hq⟩; have H0 := Lib.hid (H0.out.on hq); clear hq)
       | (go_at_call 65; (with_reducible refine (HE.out _).mono ?_); rintro e wz ⟨rfl, hq⟩; have H0 := Lib.hid (H0.out.on hq); clear hq)
       | (go_at_call 66; (with_reducible refine (H0s.out _).mono ?_); rintro e wz ⟨rfl, hq⟩; have H0 := Lib.hid (H0.out.on hq); clear hq)
       | fail) | fail)
    have hk := facts9 H0.out.facts.2
    cases g
    all_goals
      go_wp2_with (first
       | (go_at_call 38; (with_reducible refine (HN.out _ H0.out.facts.1.1 H0.out.facts.1.2).mono ?_); rintro e wz ⟨rfl, hq⟩; have H0 := Lib.hid (H0.out.on hq); clear hq; have hk := facts9 H0.out.facts.2)
       | (go_at_call 64; (with_reducible refine (HS.out _).mono ?_); rintro e wz ⟨rfl, hq⟩; have H0 := Lib.hid (H0.out.on hq); clear hq; have hk := facts9 H0.out.facts.2)
       | (go_at_call 65; (with_reducible refine (HE.out _).mono ?_); rintro e wz ⟨rfl, hq⟩; have H0 := Lib.hid (H0.out.on hq); clear hq; have hk := facts9 H0.out.facts.2)
       | (go_at_call 66; (with_reducible refine (H0s.out _).mono ?_); rintro e wz ⟨rfl, hq⟩; have H0 := Lib.hid (H0.out.on hq); clear hq; have hk := facts9 H0.out.facts.2)
       | (go_at_call 40; (with_reducible refine (HI2.out _).mono ?_); rintro e wz ⟨rfl, rfl⟩))
    all_goals
      go_ret
      exact ⟨by rw [HW.out]; first | rfl | (simp [*]; done) | (simp_all; done), H0.out.below⟩
end Go.Proofs.YtmbffncmogpkfaaGreatDoor
