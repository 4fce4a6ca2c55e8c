
/- The structs of package api, plainly: how they lie in cells; a letter of its own as a text. -/
import Derived.Test.YtmbffncmogpkfaaGreatDoorRowM
import Derived.Test.YtmbffncmogpkfaaGreatDoorVal3
import Derived.Test.YtmbffncmogpkfaaGreatDoorOpen2
import Derived.WalkSmall
namespace Go.Proofs.YtmbffncmogpkfaaGreatDoor
open Go Go.Proofs Go.RowKit
set_option linter.unusedVariables false
set_option linter.unusedSimpArgs false

/-- a pattern's node, plainly. -/
structure PN where
  l : List UInt8
  key : List UInt8
  lo : V5
  hi : V5
/-- a pattern's edge. -/
structure PE where
  a : Int
  b : Int
  t : List UInt8
  e : Bool
/-- an edge. -/
structure ED where
  a : Int
  b : Int
  t : List UInt8
  w : Nat
def PN.cells (p : PN) : List Value := [.string ⟨p.l.toArray⟩, .string ⟨p.key.toArray⟩, .int .i64 p.lo.k, .bool p.lo.b, .int .i64 p.lo.n, .float .f64 p.lo.f, .string ⟨p.lo.t.toArray⟩, .int .i64 p.hi.k, .bool p.hi.b, .int .i64 p.hi.n, .float .f64 p.hi.f, .string ⟨p.hi.t.toArray⟩]
def PE.cells (p : PE) : List Value := [.int .i64 p.a, .int .i64 p.b, .string ⟨p.t.toArray⟩, .bool p.e]
def ED.cells (p : ED) : List Value := [.int .i64 p.a, .int .i64 p.b, .string ⟨p.t.toArray⟩, .float .f64 p.w]
def PN.v (p : PN) : Value := .agg #[.string ⟨p.l.toArray⟩, .string ⟨p.key.toArray⟩, .int .i64 p.lo.k, .bool p.lo.b, .int .i64 p.lo.n, .float .f64 p.lo.f, .string ⟨p.lo.t.toArray⟩, .int .i64 p.hi.k, .bool p.hi.b, .int .i64 p.hi.n, .float .f64 p.hi.f, .string ⟨p.hi.t.toArray⟩]
def PE.v (p : PE) : Value := .agg #[.int .i64 p.a, .int .i64 p.b, .string ⟨p.t.toArray⟩, .bool p.e]
def ED.v (p : ED) : Value := .agg #[.int .i64 p.a, .int .i64 p.b, .string ⟨p.t.toArray⟩, .float .f64 p.w]
/-- a property. -/
structure PR where
  key : List UInt8
  v : V5
def PR.cells (p : PR) : List Value := [.string ⟨p.key.toArray⟩, .int .i64 p.v.k, .bool p.v.b, .int .i64 p.v.n, .float .f64 p.v.f, .string ⟨p.v.t.toArray⟩]
theorem row_pr {w : World} {a : Option Addr} {n c : Nat} {ps : List PR} (h : RowK 6 w (.slice a n c) (ps.map PR.cells)) (j : Nat) (hj : j < ps.length) :
    ∃ B o, a = some ⟨B, o, none⟩ ∧ B < w.heap.size ∧ CellsAt w B (o + j * 6) ps[j].cells := by
  obtain ⟨B, o, h1, h2, h3⟩ := h.cells j (by simpa using hj)
  exact ⟨B, o, h1, h2, by simpa using h3⟩
theorem PR.factsAt {w : World} {g o : Nat} {key : List UInt8} {k : Int} {b : Bool} {n : Int} {f : Nat} {t : List UInt8} (h : CellsAt w g o (⟨key, ⟨k, b, n, f, t⟩⟩ : PR).cells) :
    w.cell? ⟨g, o, none⟩ = some (.string ⟨key.toArray⟩) ∧ w.cell? ⟨g, o + 1, none⟩ = some (.int .i64 k) ∧ w.cell? ⟨g, o + 2, none⟩ = some (.bool b) ∧ w.cell? ⟨g, o + 3, none⟩ = some (.int .i64 n) ∧ w.cell? ⟨g, o + 4, none⟩ = some (.float .f64 f) ∧ w.cell? ⟨g, o + 5, none⟩ = some (.string ⟨t.toArray⟩) :=
  ⟨h.at 0 _ rfl, h.at 1 _ rfl, h.at 2 _ rfl, h.at 3 _ rfl, h.at 4 _ rfl, h.at 5 _ rfl⟩
theorem results_row_tmp {P : Program} {fn : Func} {p u : Tmp} {ty : TypeId} (h : fn.results = #[.cell p ty, .tmp u]) (tmps : Array Value) (w : World) (g : Nat) (t : TypeId) (cs : Array Value) (fr : Nat × Nat) (d : TypeDesc)
    (hp : tmps.getD p undef = .pointer (some ⟨g, 0, none⟩)) (hg : w.heap[g]? = some (.cells cs t fr))
    (hu : P.underlying ty = some d) (hd : (match d with | .struct _ | .array _ _ => true | _ => false) = true) (hi : (P.info? ty).map (·.size) = some cs.size) :
    (results fn tmps).run P w = .ok (.tuple #[.agg cs, tmps.getD u undef]) w := by
  rw [results_cell_tmp h, hp]
  simp [asAddr, run_loadVar_row w g t ty cs fr d hg hu hd hi, Result.andThen]
theorem ED.facts {w : World} {g : Nat} {a b : Int} {t : List UInt8} {x : Nat} (h : Blk w g (⟨a, b, t, x⟩ : ED).cells) :
    w.cell? ⟨g, 0, none⟩ = some (.int .i64 a) ∧ w.cell? ⟨g, 1, none⟩ = some (.int .i64 b) ∧ w.cell? ⟨g, 2, none⟩ = some (.string ⟨t.toArray⟩) ∧ w.cell? ⟨g, 3, none⟩ = some (.float .f64 x) :=
  ⟨h.cell 0 _ rfl, h.cell 1 _ rfl, h.cell 2 _ rfl, h.cell 3 _ rfl⟩
theorem str_at {w : World} {a : Option Addr} {n c : Nat} {ss : List (List UInt8)} (h : RowAt w (.slice a n c) (ss.map strV)) (j : Nat) (hj : j < ss.length) :
    ∃ B o, a = some ⟨B, o, none⟩ ∧ w.cell? ⟨B, o + j, none⟩ = some (.string ⟨ss[j].toArray⟩) := by
  obtain ⟨B, o, h1, _, h3⟩ := h.cellAt j (by simpa using hj)
  exact ⟨B, o, h1, by rw [h3, List.getElem_map]; rfl⟩
theorem pr_key {w : World} {B o n c : Nat} {ps : List PR} (h : RowK 6 w (.slice (some ⟨B, o, none⟩) n c) (ps.map PR.cells)) (j : Nat) (hj : j < ps.length) : w.cell? ⟨B, o + j * 6, none⟩ = some (.string ⟨ps[j].key.toArray⟩) := by
  obtain ⟨B', o', h1, h2, h3⟩ := row_pr h j hj
  simp only [Option.some.injEq, Addr.mk.injEq, and_true] at h1
  obtain ⟨rfl, rfl⟩ := h1
  exact h3.at 0 _ rfl
theorem PR.facts {w : World} {g : Nat} {key : List UInt8} {k : Int} {b : Bool} {n : Int} {f : Nat} {t : List UInt8} (h : Blk w g (⟨key, ⟨k, b, n, f, t⟩⟩ : PR).cells) :
    w.cell? ⟨g, 0, none⟩ = some (.string ⟨key.toArray⟩) ∧ w.cell? ⟨g, 1, none⟩ = some (.int .i64 k) ∧ w.cell? ⟨g, 2, none⟩ = some (.bool b) ∧ w.cell? ⟨g, 3, none⟩ = some (.int .i64 n) ∧ w.cell? ⟨g, 4, none⟩ = some (.float .f64 f) ∧ w.cell? ⟨g, 5, none⟩ = some (.string ⟨t.toArray⟩) :=
  ⟨h.cell 0 _ rfl, h.cell 1 _ rfl, h.cell 2 _ rfl, h.cell 3 _ rfl, h.cell 4 _ rfl, h.cell 5 _ rfl⟩
theorem V5.facts {w : World} {g : Nat} {k : Int} {b : Bool} {n : Int} {f : Nat} {t : List UInt8} (h : Blk w g (⟨k, b, n, f, t⟩ : V5).cells) :
    w.cell? ⟨g, 0, none⟩ = some (.int .i64 k) ∧ w.cell? ⟨g, 1, none⟩ = some (.bool b) ∧ w.cell? ⟨g, 2, none⟩ = some (.int .i64 n) ∧ w.cell? ⟨g, 3, none⟩ = some (.float .f64 f) ∧ w.cell? ⟨g, 4, none⟩ = some (.string ⟨t.toArray⟩) :=
  ⟨h.cell 0 _ rfl, h.cell 1 _ rfl, h.cell 2 _ rfl, h.cell 3 _ rfl, h.cell 4 _ rfl⟩
theorem row_pr1 {W : World} {g : Nat} {p : PR} (h : Blk W g p.cells) : RowK 6 W (.slice (some ⟨g, 0, none⟩) 1 1) ([p].map PR.cells) := by
  refine ⟨by simp; decide, by simp [PR.cells], .inr ⟨_, 1, rfl, by simp, fun i hi => ?_⟩⟩
  obtain rfl : i = 0 := by simpa using hi
  refine ⟨g, 0, rfl, h.1, fun j hj => ?_⟩
  simp only [Nat.zero_mul, Nat.zero_add, List.map_cons, List.map_nil, List.getElem_cons_zero] at hj ⊢
  exact h.cell j _ (List.getElem?_eq_getElem hj)
/-- a byte of its own as a text. -/
theorem conv_one (x : UInt8) (W : World) (B : Nat) (hB : B = W.heap.size) :
    (convert 23 9 (.slice (some ⟨B, 0, none⟩) 1 1)).run Tryz.prog (W.alloc (.cells #[.int .u8 ((x.toNat : Nat) : Int)] 5)) = .ok (.string ⟨#[x]⟩) (W.alloc (.cells #[.int .u8 ((x.toNat : Nat) : Int)] 5)) := by
  subst hB
  have h := RowAt.new W (bytesV [x]) 5 1 (show (1 : Nat) ≤ maxLen by decide) (Nat.le_refl 1)
  exact RowAt.toStr h 23 9 5 Tryz.underlying23 Tryz.underlying5 Tryz.underlying9
theorem byte_of (a : Int) (h0 : 0 ≤ a) (h7 : a ≤ 7) : ∃ x : UInt8, 97 + a = ((x.toNat : Nat) : Int) ∧ a = (x.toNat : Int) - 97 := by
  refine ⟨UInt8.ofNat (97 + a.toNat), ?_, ?_⟩ <;> (rw [UInt8.toNat_ofNat']; omega)
theorem elemS : ElemK 40 9 1 16 [.string ⟨#[]⟩] := elemK_of (z := .string ⟨#[]⟩) Tryz.underlying40 (by kernel_rfl) rfl rfl
theorem and7 (x : Int) : bits .and .i64 x 7 = x % 8 := by
  show IntKind.i64.wrap ((BitVec.ofInt 64 x &&& BitVec.ofInt 64 7).toNat : Int) = _
  rw [BitVec.toNat_and, BitVec.toNat_ofInt, show (BitVec.ofInt 64 7).toNat = 2 ^ 3 - 1 by decide, Nat.and_two_pow_sub_one_eq_mod, IntKind.wrap_i64]
  omega
/-- the letter of a number. -/
def lab (x : Int) : List UInt8 := [UInt8.ofNat (97 + (x % 8).toNat)]
theorem and7N (x : Int) : ∃ (q : Nat) (y : UInt8), bits .and .i64 x 7 = (q : Int) ∧ q < 8 ∧ (q : Int) = x % 8 ∧ 97 + (q : Int) = ((y.toNat : Nat) : Int) ∧ IntKind.u8.wrap ((y.toNat : Nat) : Int) = ((y.toNat : Nat) : Int) ∧ IntKind.i64.wrap ((y.toNat : Nat) : Int) = ((y.toNat : Nat) : Int) ∧ lab x = [y] := by
  have h8 : 0 ≤ x % 8 ∧ x % 8 < 8 := by omega
  refine ⟨(x % 8).toNat, UInt8.ofNat (97 + (x % 8).toNat), by rw [and7]; omega, by omega, by omega, by rw [UInt8.toNat_ofNat']; omega, by rw [UInt8.toNat_ofNat', IntKind.wrap_u8]; omega, by rw [UInt8.toNat_ofNat', IntKind.wrap_i64]; omega, rfl⟩
theorem conv_oneD (x : UInt8) (W : World) :
    (convert 23 9 (.slice (some ⟨W.heap.size, 0, none⟩) 1 1)).run Tryz.prog (W.alloc (.cells #[.int .u8 ((x.toNat : Nat) : Int)] 5)).drew = .ok (.string ⟨#[x]⟩) (W.alloc (.cells #[.int .u8 ((x.toNat : Nat) : Int)] 5)).drew := by
  have h := RowAt.new W (bytesV [x]) 5 1 (show (1 : Nat) ≤ maxLen by decide) (Nat.le_refl 1)
  exact RowAt.toStr (w := (W.alloc (.cells #[.int .u8 ((x.toNat : Nat) : Int)] 5)).drew) (h.below (Below.refl _ _).drew) 23 9 5 Tryz.underlying23 Tryz.underlying5 Tryz.underlying9
theorem news_one {w : World} {g : Nat} {x : Value} (h : Blk w g [x]) : ∀ j u, [x][j]? = some u → w.cell? ((⟨g, 0, none⟩ : Addr).add j) = some u := fun j u hu => by
  rw [addr_add, Nat.zero_add]; exact h.cell j u hu
end Go.Proofs.YtmbffncmogpkfaaGreatDoor
