
/- The laws on package record: RecordReals. -/
import Derived.Test.YthfckbiciddfdaaDoorDec5
namespace Go.Proofs.YthfckbiciddfdaaDoor
open Go Go.Proofs Go.RowKit
set_option linter.unusedVariables false
set_option linter.unusedSimpArgs false

/-- the property, the writes. -/
def rP (f : Nat) : PR := ⟨[120], ⟨3, false, 0, f, []⟩⟩
def rN (f : Nat) : WR := ⟨false, 1, false, [], [rP f], ⟨0, 0, [], 0⟩⟩
def rE (a : Nat) : WR := ⟨true, 1, false, [], [], ⟨1, 1, [101], a⟩⟩
theorem rP_node {f : Nat} (hf : normN f = f) : nodeB [] [rP f] = true := by
  have hv : isV (rP f).v = true := by
    simp [isV, sameV, namedV, rP, hf]; decide
  have hk : ((rP f).v.k == 0) = false := rfl
  have hn : namesB ([rP f].map PR.key) = true := by simp only [rP, List.map_cons, List.map_nil]; decide
  simp only [nodeB, List.all_cons, List.all_nil, hv, hk, hn]; rfl
theorem rEdge (a : Nat) : okED ⟨1, 1, [101], a⟩ = weightB a := by
  have h : nameB [101] = true := by decide
  simp [okED, h]
theorem rAre {f a : Nat} (hf : normN f = f) (hw : weightB a = true) : areW 1 1 [] [rN f, rE a] = true := by
  have h1 : sameED (⟨0, 0, [], 0⟩ : ED) ⟨0, 0, [], 0⟩ = true := by simp [sameED, cmpN_self]
  have w1 : writeB 1 1 (rN f) = true := by
    unfold writeB
    simp only [rN, Bool.false_eq_true, if_false]
    rw [h1, rP_node hf]; rfl
  have w2 : writeB 1 1 (rE a) = true := by
    unfold writeB
    simp only [rE, Bool.false_eq_true, if_false, if_true]
    rw [rEdge, hw]; rfl
  simp only [areW, w1, w2]
  simp [rN, rE]
theorem rOk {f a : Nat} (hf : f < W64) (ha : a < W64) : okW2 (rN f) ∧ okW2 (rE a) := by
  have z : i64R 0 := ⟨by decide, by decide⟩
  have z1 : i64R 1 := ⟨by decide, by decide⟩
  have z3 : i64R 3 := ⟨by decide, by decide⟩
  refine ⟨⟨z1, z, z, (show 0 < W64 by decide), ?_, ?_⟩, ⟨z1, z1, z1, ha, by simp [rE], ?_⟩⟩
  · intro p hp
    simp only [rN, List.mem_singleton] at hp
    subst hp
    exact ⟨z3, z, hf, by simp [rP], by simp [rP]⟩
  · simp [rN, rP, roomWr, roomNd, roomPr, roomV, strsRoom, sumR]
  · simp [rE, roomWr, roomNd, strsRoom, sumR]
theorem rLen {f a : Nat} (hf : f < W64) (ha : a < W64) : (lebAll 1 1 [rN f, rE a]).length ≤ 10000000 := by
  have z1 : i64R 1 := ⟨by decide, by decide⟩
  have h := flatG_len lebWr roomWr [rN f, rE a] (by intro x hx; simp only [List.mem_cons, List.not_mem_nil, or_false] at hx; rcases hx with rfl | rfl; exact lebWr_len (rOk hf ha).1; exact lebWr_len (rOk hf ha).2)
  have e1 := lebInt_len 1 z1.1 z1.2
  have e2 := lebInt_len (([rN f, rE a] : List WR).length : Int) (by simp) (by simp)
  have e3 : sumR roomWr [rN f, rE a] ≤ 1000 := by simp [sumR, rN, rE, rP, roomWr, roomNd, roomPr, roomV, strsRoom]
  unfold lebAll lebWrs
  simp only [List.length_append]
  omega
theorem rDec {f a : Nat} (hf : f < W64) (hn : normN f = f) (ha : a < W64) (hw : weightB a = true) : curAll (some (lebAll 1 1 [rN f, rE a])) = ((1, 1, [rN f, rE a]), some []) ∧ decB (lebAll 1 1 [rN f, rE a]) = true := by
  have h := curAll_back (nodes := 1) (edges := 1) (xs := [rN f, rE a]) (by simp) (by intro x hx; simp only [List.mem_cons, List.not_mem_nil, or_false] at hx; rcases hx with rfl | rfl; exact okW2_v (rOk hf ha).1; exact okW2_v (rOk hf ha).2) (rAre hn hw) []
  rw [List.append_nil] at h
  refine ⟨h, ?_⟩
  unfold decB
  rw [h]
  simp [rAre hn hw]
/-- the two writes that are decoded. -/
theorem decTwo {f a : Nat} {e : Ending} {W W' : World} (h : DecB W true 1 1 [rN f, rE a] e W') : ∃ (B o vc : Nat) (B' o' pc : Nat),
    e = .returned (.tuple #[.int .i64 1, .int .i64 1, .slice (some ⟨B, o, none⟩) 2 vc, .int .i64 0]) ∧
    W'.cell? ⟨B, o + 3 + 1, none⟩ = some (.slice (some ⟨B', o', none⟩) 1 pc) ∧ W'.cell? ⟨B', o' + 1 + 3, none⟩ = some (.float .f64 f) ∧ W'.cell? ⟨B, o + 9 + 5 + 3, none⟩ = some (.float .f64 a) ∧ Below W.heap.size W W' := by
  obtain ⟨va, vc, ps, rfl, hmp, hrw, hrs, hq⟩ := h
  simp only [if_true] at hmp
  rcases ps with _ | ⟨q1, _ | ⟨q2, _ | ⟨q3, t⟩⟩⟩
  · simp at hmp
  · simp at hmp
  · simp only [List.map_cons, List.map_nil, List.cons.injEq, and_true] at hmp
    obtain ⟨h1, h2⟩ := hmp
    obtain ⟨x1, sa, sc, pa, pc⟩ := q1
    obtain ⟨x2, sa', sc', pa', pc'⟩ := q2
    dsimp only at h1 h2
    subst h1 h2
    obtain ⟨B, o, rfl, hB, hx⟩ := hrw.cells 0 (by simp)
    obtain ⟨B2, o2, he, hB2, hx2⟩ := hrw.cells 1 (by simp)
    simp only [Option.some.injEq, Addr.mk.injEq, and_true] at he
    obtain ⟨rfl, rfl⟩ := he
    obtain ⟨B', o', rfl, hB', hx'⟩ := (hrs ⟨rN f, sa, sc, pa, pc⟩ (by simp)).2.cells 0 (by simp [rN])
    refine ⟨B, o, vc, B', o', pc, rfl, ?_, ?_, ?_, hq⟩
    · rw [show o + 3 + 1 = o + 0 * 9 + 4 by omega]; exact hx.at 4 _ rfl
    · rw [show o' + 1 + 3 = o' + 0 * 6 + 4 by omega]; exact hx'.at 4 (.float .f64 f) rfl
    · rw [show o + 9 + 5 + 3 = o + 1 * 9 + 8 by omega]; exact hx2.at 8 (.float .f64 a) rfl
  · simp at hmp
set_option maxRecDepth 100000 in
set_option maxHeartbeats 8000000 in
theorem RecordReals_core (a0 : Int) (a1 : Int) (w : World) (w0 : (Lit.int .u64 a0).wf = true) (w1 : (Lit.int .u64 a1).wf = true) :
    Calls Tryd.prog 8 #[.int .u64 a0, .int .u64 a1] w fun e w' => e = .returned (.bool true) ∧ Below w.heap.size w w' := by
  obtain ⟨A, rfl, hA⟩ := u64_nat w0
  obtain ⟨C, rfl, hC⟩ := u64_nat w1
  clear w0 w1
  have hnn := normN_norm C
  have hnl := normN_lt (show C < W64 from hC)
  have HNR := Lib.hid (fun W => RNorm_c C W)
  generalize normN C = f at *
  have HE := Lib.hid (fun W => IsEdge_c ⟨1, 1, [101], A⟩ W (show (1 : Nat) ≤ 9223372036854775807 by decide))
  rw [rEdge] at HE
  unfold ED.v at HE
  have HN := Lib.hid (fun W v (h : RowK 6 W v ([rP f].map PR.cells)) => IsNode_c [] [rP f] (.slice none 0 0) v W (RowAt.nil W) h (by simp) (by simp [rP]) (by simp))
  rw [rP_node hnn] at HN
  have HWB : Hid (weightB A = (FloatKind.f64.format.order A 0 == some .gt || FloatKind.f64.format.order A 0 == some .eq)) := Lib.hid rfl
  have HWT : Hid (weightB A = true → areW 1 1 [] [rN f, rE A] = true ∧ curAll (some (lebAll 1 1 [rN f, rE A])) = ((1, 1, [rN f, rE A]), some []) ∧ decB (lebAll 1 1 [rN f, rE A]) = true) := Lib.hid (fun h => ⟨rAre hnn h, (rDec hnl hnn hA h).1, (rDec hnl hnn hA h).2⟩)
  have HOK := Lib.hid (rOk hnl (show A < W64 from hA))
  have HLN := Lib.hid (rLen hnl (show A < W64 from hA))
  have HENC := Lib.hid (fun (W : World) (B g : Nat) (h2 : Blk W g [.bool false, .int .i64 1, .bool false, .slice none 0 0, .slice (some ⟨w.heap.size, 0, none⟩) 1 1, .int .i64 0, .int .i64 0, .string ⟨#[]⟩, .float .f64 0, .bool true, .int .i64 1, .bool false, .slice none 0 0, .slice none 0 0, .int .i64 1, .int .i64 1, .string ⟨#[101]⟩, .float .f64 A]) (hB : B = g) (h1 : Blk W w.heap.size (rP f).cells) =>
    Encode_c 1 1 [⟨rN f, none, 0, some ⟨w.heap.size, 0, none⟩, 1⟩, ⟨rE A, none, 0, none, 0⟩] (.slice (some ⟨B, 0, none⟩) 2 2) W
      (by subst hB; exact RowK.ofBlk (xs := [(⟨rN f, none, 0, some ⟨w.heap.size, 0, none⟩, 1⟩ : WV).cells, (⟨rE A, none, 0, none, 0⟩ : WV).cells]) h2 (by intro x hx; simp only [List.mem_cons, List.not_mem_nil, or_false] at hx; rcases hx with rfl | rfl <;> rfl) rfl (by simp [maxLen]) (by simp))
      (by intro p hp; simp only [List.mem_cons, List.not_mem_nil, or_false] at hp; rcases hp with rfl | rfl; exact ⟨RowAt.nil W, row_pr1 h1⟩; exact ⟨RowAt.nil W, RowK.nil 6 W⟩)
      (by intro p hp; simp only [List.mem_cons, List.not_mem_nil, or_false] at hp; rcases hp with rfl | rfl; exact HOK.out.1; exact HOK.out.2)
      (by simp [sumR, rN, rE, rP, roomWr, roomNd, roomPr, roomV, strsRoom]) ⟨by decide, by decide⟩ ⟨by decide, by decide⟩)
  have HDEC := Lib.hid (fun v W (h : RowAt W v (bytesV (lebAll 1 1 [rN f, rE A]))) => Decode_c v _ W h HLN.out)
  simp only [List.map_cons, List.map_nil] at HENC
  have HT : Hid (Keep w (fun _ => True) w) := Lib.hid ⟨trivial, Below.refl _ w, fun _ _ => trivial⟩
  clear HOK HLN
  generalize weightB A = wb at *
  have hwb := HWB.out.symm
  clear HWB
  cases wb
  case false =>
    clear HENC HDEC HWT
    go_enter Tryd.func8, Tryd.ntmps8
    go_wp2_with (first
      | (go_at_call 20; (with_reducible refine (HNR.out _).mono ?_); rintro e wz ⟨rfl, rfl⟩)
      | (go_at_call 13; apply keepCall; (next => (first | exact HT.out | exact (HT.out.more _ _) | exact ((HT.out.more _ _).more _ _) | exact (((HT.out.more _ _).more _ _).more _ _) | exact ((((HT.out.more _ _).more _ _).more _ _).more _ _))); intro hKK; replace HT := Lib.hid hKK; clear hKK; (with_reducible refine (HE.out _).mono ?_); rintro e wq ⟨rfl, hq⟩; replace HT := Lib.hid (HT.out.on hq); clear hq; replace HT := Lib.hid (HT.out.map (G := fun W => (((True ∧ Blk W w.heap.size (rP f).cells) ∧ Blk W (w.heap.size + 1) [.slice none 0 0, .slice (some ⟨w.heap.size, 0, none⟩) 1 1]) ∧ Blk W (w.heap.size + 1 + 1) [.int .i64 1, .int .i64 1, .string ⟨#[101]⟩, .float .f64 A])) (fun W hf => ⟨⟨⟨trivial, hf.1.1.2⟩, by simpa using hf.1.2⟩, by simpa using hf.2⟩)); have hn0 := HT.out.facts.1.2.cell 0 _ rfl; have hn1 := HT.out.facts.1.2.cell 1 _ rfl)
      | (go_at_call 12; apply keepCall; (next => (first | exact HT.out | exact (HT.out.more _ _) | exact ((HT.out.more _ _).more _ _) | exact (((HT.out.more _ _).more _ _).more _ _) | exact ((((HT.out.more _ _).more _ _).more _ _).more _ _))); intro hKK; replace HT := Lib.hid hKK; clear hKK; (with_reducible refine (HN.out _ _ (row_pr1 (by first | exact HT.out.facts.2 | exact HT.out.facts.1.2 | exact HT.out.facts.1.1.2 | exact HT.out.facts.1.1.1.2 | exact HT.out.facts.1.1.1.1.2 | exact HT.out.facts.1.1.1.1.1.2 | exact HT.out.facts.1.1.1.1.1.1.2 | exact HT.out.facts.1.1.1.1.1.1.1.2 | exact HT.out.facts.1.1.1.1.1.1.1.1.2 | exact HT.out.facts.1.1.1.1.1.1.1.1.1.2 | exact HT.out.facts.1.1.1.1.1.1.1.1.1.1.2 | exact HT.out.facts.1.1.1.1.1.1.1.1.1.1.1.2 | exact HT.out.facts.1.1.1.1.1.1.1.1.1.1.1.1.2))).mono ?_); rintro e wq ⟨rfl, hq⟩; replace HT := Lib.hid (HT.out.on hq); clear hq)
      | (go_at_call 10; apply keepCall; (next => (first | exact HT.out | exact (HT.out.more _ _) | exact ((HT.out.more _ _).more _ _) | exact (((HT.out.more _ _).more _ _).more _ _) | exact ((((HT.out.more _ _).more _ _).more _ _).more _ _))); intro hKK; replace HT := Lib.hid hKK; clear hKK; (with_reducible refine (known10_c _).mono ?_); rintro e wq ⟨rfl, hq⟩; replace HT := Lib.hid (HT.out.on hq); clear hq))
    go_ret
    exact ⟨rfl, HT.out.below⟩
  case true =>
    obtain ⟨t1, t2, t3⟩ := HWT.out rfl
    rw [t1] at HENC
    rw [t2, t3] at HDEC
    clear HWT t1 t2 t3
    generalize lebAll 1 1 [rN f, rE A] = L at *
    unfold EncB at HENC
    simp only [if_true] at HENC
    go_enter Tryd.func8, Tryd.ntmps8
    go_wp2_with (first
      | (go_at_call 20; (with_reducible refine (HNR.out _).mono ?_); rintro e wz ⟨rfl, rfl⟩)
      | (go_at_call 13; apply keepCall; (next => (first | exact HT.out | exact (HT.out.more _ _) | exact ((HT.out.more _ _).more _ _) | exact (((HT.out.more _ _).more _ _).more _ _) | exact ((((HT.out.more _ _).more _ _).more _ _).more _ _))); intro hKK; replace HT := Lib.hid hKK; clear hKK; (with_reducible refine (HE.out _).mono ?_); rintro e wq ⟨rfl, hq⟩; replace HT := Lib.hid (HT.out.on hq); clear hq; replace HT := Lib.hid (HT.out.map (G := fun W => (((True ∧ Blk W w.heap.size (rP f).cells) ∧ Blk W (w.heap.size + 1) [.slice none 0 0, .slice (some ⟨w.heap.size, 0, none⟩) 1 1]) ∧ Blk W (w.heap.size + 1 + 1) [.int .i64 1, .int .i64 1, .string ⟨#[101]⟩, .float .f64 A])) (fun W hf => ⟨⟨⟨trivial, hf.1.1.2⟩, by simpa using hf.1.2⟩, by simpa using hf.2⟩)); have hn0 := HT.out.facts.1.2.cell 0 _ rfl; have hn1 := HT.out.facts.1.2.cell 1 _ rfl)
      | (go_at_call 12; apply keepCall; (next => (first | exact HT.out | exact (HT.out.more _ _) | exact ((HT.out.more _ _).more _ _) | exact (((HT.out.more _ _).more _ _).more _ _) | exact ((((HT.out.more _ _).more _ _).more _ _).more _ _))); intro hKK; replace HT := Lib.hid hKK; clear hKK; (with_reducible refine (HN.out _ _ (row_pr1 (by first | exact HT.out.facts.2 | exact HT.out.facts.1.2 | exact HT.out.facts.1.1.2 | exact HT.out.facts.1.1.1.2 | exact HT.out.facts.1.1.1.1.2 | exact HT.out.facts.1.1.1.1.1.2 | exact HT.out.facts.1.1.1.1.1.1.2 | exact HT.out.facts.1.1.1.1.1.1.1.2 | exact HT.out.facts.1.1.1.1.1.1.1.1.2 | exact HT.out.facts.1.1.1.1.1.1.1.1.1.2 | exact HT.out.facts.1.1.1.1.1.1.1.1.1.1.2 | exact HT.out.facts.1.1.1.1.1.1.1.1.1.1.1.2 | exact HT.out.facts.1.1.1.1.1.1.1.1.1.1.1.1.2))).mono ?_); rintro e wq ⟨rfl, hq⟩; replace HT := Lib.hid (HT.out.on hq); clear hq; have hn0 := HT.out.facts.1.2.cell 0 _ rfl; have hn1 := HT.out.facts.1.2.cell 1 _ rfl; have he0 := HT.out.facts.2.cell 0 _ rfl; have he1 := HT.out.facts.2.cell 1 _ rfl; have he2 := HT.out.facts.2.cell 2 _ rfl; have he3 := HT.out.facts.2.cell 3 _ rfl)
      | (go_at_call 9; apply keepCall; (next => (first | exact HT.out | exact (HT.out.more _ _) | exact ((HT.out.more _ _).more _ _) | exact (((HT.out.more _ _).more _ _).more _ _) | exact ((((HT.out.more _ _).more _ _).more _ _).more _ _))); intro hKK; replace HT := Lib.hid hKK; clear hKK; (with_reducible refine (HENC.out _ _ _ (by first | exact HT.out.facts.2 | exact HT.out.facts.1.2 | exact HT.out.facts.1.1.2 | exact HT.out.facts.1.1.1.2 | exact HT.out.facts.1.1.1.1.2 | exact HT.out.facts.1.1.1.1.1.2 | exact HT.out.facts.1.1.1.1.1.1.2 | exact HT.out.facts.1.1.1.1.1.1.1.2 | exact HT.out.facts.1.1.1.1.1.1.1.1.2 | exact HT.out.facts.1.1.1.1.1.1.1.1.1.2 | exact HT.out.facts.1.1.1.1.1.1.1.1.1.1.2 | exact HT.out.facts.1.1.1.1.1.1.1.1.1.1.1.2 | exact HT.out.facts.1.1.1.1.1.1.1.1.1.1.1.1.2) (by first | rfl | simp) (by first | exact HT.out.facts.2 | exact HT.out.facts.1.2 | exact HT.out.facts.1.1.2 | exact HT.out.facts.1.1.1.2 | exact HT.out.facts.1.1.1.1.2 | exact HT.out.facts.1.1.1.1.1.2 | exact HT.out.facts.1.1.1.1.1.1.2 | exact HT.out.facts.1.1.1.1.1.1.1.2 | exact HT.out.facts.1.1.1.1.1.1.1.1.2 | exact HT.out.facts.1.1.1.1.1.1.1.1.1.2 | exact HT.out.facts.1.1.1.1.1.1.1.1.1.1.2 | exact HT.out.facts.1.1.1.1.1.1.1.1.1.1.1.2 | exact HT.out.facts.1.1.1.1.1.1.1.1.1.1.1.1.2)).mono ?_); rintro e wq ⟨vp, rfl, hrp, hq⟩; obtain ⟨ap, np, cp, rfl⟩ := hrp.sh; replace HT := Lib.hid (HT.out.plus hq hrp); clear hq hrp)
      | (go_at_call 17; (with_reducible refine (HDEC.out _ _ (by first | exact HT.out.facts.2 | exact HT.out.facts.1.2 | exact HT.out.facts.1.1.2 | exact HT.out.facts.1.1.1.2 | exact HT.out.facts.1.1.1.1.2 | exact HT.out.facts.1.1.1.1.1.2 | exact HT.out.facts.1.1.1.1.1.1.2 | exact HT.out.facts.1.1.1.1.1.1.1.2 | exact HT.out.facts.1.1.1.1.1.1.1.1.2 | exact HT.out.facts.1.1.1.1.1.1.1.1.1.2 | exact HT.out.facts.1.1.1.1.1.1.1.1.1.1.2 | exact HT.out.facts.1.1.1.1.1.1.1.1.1.1.1.2 | exact HT.out.facts.1.1.1.1.1.1.1.1.1.1.1.1.2)).mono ?_); rintro e wq hdec; obtain ⟨B, o, vc, B', o', pc, rfl, d1, d2, d3, hq⟩ := decTwo hdec; replace HT := Lib.hid (HT.out.on hq); clear hq hdec)
      | (go_at_call 21; (with_reducible refine (Same_c _ _ _).mono ?_); rintro e wz ⟨rfl, rfl⟩)
      | (go_at_call 10; apply keepCall; (next => (first | exact HT.out | exact (HT.out.more _ _) | exact ((HT.out.more _ _).more _ _) | exact (((HT.out.more _ _).more _ _).more _ _) | exact ((((HT.out.more _ _).more _ _).more _ _).more _ _))); intro hKK; replace HT := Lib.hid hKK; clear hKK; (with_reducible refine (known10_c _).mono ?_); rintro e wq ⟨rfl, hq⟩; replace HT := Lib.hid (HT.out.on hq); clear hq))
    go_ret
    exact ⟨by first | rfl | (simp; done), HT.out.below⟩
end Go.Proofs.YthfckbiciddfdaaDoor
