
/- Contracts of package drum: Crash. -/
import Derived.Test.YtlllbacjdjllbaaDoorDrum4
namespace Go.Proofs.YtlllbacjdjllbaaDoor
open Go Go.Proofs Go.RowKit Go.Great
set_option linter.unusedVariables false
set_option linter.unusedSimpArgs false
abbrev R_Crash9_0 : Oper := { dst := some 45, op := Op.move (Operand.tmp 5), type := 23, pos := "drum.go:98", after := #[], guard := none }
abbrev R_Crash9_1 : Oper := { dst := some 46, op := Op.nilCheck (Operand.tmp 45), type := 0, pos := "drum.go:98", after := #[{ on := 0, ground := Ground.data }], guard := none }
abbrev R_Crash9_2 : Oper := { dst := some 47, op := Op.fieldAddr 65 (Operand.tmp 46) 0, type := 0, pos := "drum.go:98", after := #[{ on := 1, ground := Ground.data }], guard := none }
abbrev R_Crash9_3 : Oper := { dst := some 48, op := Op.load 62 (Operand.tmp 47), type := 62, pos := "drum.go:98", after := #[{ on := 2, ground := Ground.data }], guard := none }
abbrev R_Crash9_4 : Oper := { dst := some 49, op := Op.fieldAddr 80 (Operand.tmp 7) 0, type := 0, pos := "drum.go:98", after := #[], guard := none }
abbrev R_Crash9_5 : Oper := { dst := some 50, op := Op.load 3 (Operand.tmp 49), type := 3, pos := "drum.go:98", after := #[{ on := 4, ground := Ground.data }], guard := none }
abbrev R_Crash9_6 : Oper := { dst := some 51, op := Op.fieldAddr 80 (Operand.tmp 7) 1, type := 0, pos := "drum.go:98", after := #[], guard := none }
abbrev R_Crash9_7 : Oper := { dst := some 52, op := Op.load 78 (Operand.tmp 51), type := 78, pos := "drum.go:98", after := #[{ on := 6, ground := Ground.data }], guard := none }
abbrev R_Crash9_8 : Oper := { dst := some 53, op := Op.indexAddr 62 (Operand.tmp 48) (Operand.tmp 50), type := 0, pos := "drum.go:98", after := #[{ on := 3, ground := Ground.data }, { on := 5, ground := Ground.data }, { on := 0, ground := Ground.phase }, { on := 1, ground := Ground.phase }, { on := 2, ground := Ground.phase }, { on := 3, ground := Ground.phase }, { on := 4, ground := Ground.phase }, { on := 5, ground := Ground.phase }, { on := 6, ground := Ground.phase }, { on := 7, ground := Ground.phase }], guard := none }

theorem storeX (w : World) (cs : List Value) (hl : cs.length = 65) (h1 : ∀ v ∈ cs, v.oneCell' = true) : (storeCells ⟨w.heap.size, 0, none⟩ cs).run Tryd.prog (w.alloc (.cells Tryd.zeroCells80 80)) = .ok () (w.alloc (.cells cs.toArray tW)) := by
  have hz : Tryd.zeroCells80.size = 65 := by rw [← Array.length_toList, zeroW]; simp [bytesV_length, zero64]
  have := run_storeCells_new (P := Tryd.prog) w tW Tryd.zeroCells80 cs.toArray (by rw [writeInfo]; simp [hl]) (by rw [hz]; simp [hl]) (all_oneCell_toArray h1)
  exact this
def boolR (l : List Bool) : List Value := l.map Value.bool
/-- what lasts, of the writes that wait. -/
def crashS : List UInt8 → List (Int × List UInt8) → List Bool → List UInt8
  | s, [], _ => s
  | s, _, [] => s
  | s, x :: r, b :: ks => crashS (if b then upd s x.1.toNat x.2 else s) r ks
def crashP (d : PD) (keep : List Bool) : PD := ⟨d.n, crashS d.good d.wait keep, crashS d.good d.wait keep, [], false, -1⟩
def keeps (keep : List Bool) (j : Nat) : Bool := (keep[j]?).getD false
theorem crashS_snoc : ∀ (l : List (Int × List UInt8)) (s : List UInt8) (x : Int × List UInt8) (keep : List Bool), crashS s (l ++ [x]) keep = if keeps keep l.length then upd (crashS s l keep) x.1.toNat x.2 else crashS s l keep
  | [], s, x, [] => rfl
  | [], s, x, b :: ks => by simp [crashS, keeps]
  | y :: r, s, x, [] => by simp [crashS, keeps]
  | y :: r, s, x, b :: ks => by
    have := crashS_snoc r (if b then upd s y.1.toNat y.2 else s) x ks
    simp only [List.cons_append, crashS, List.length_cons]
    exact this
theorem crashS_len : ∀ (l : List (Int × List UInt8)) (s : List UInt8) (keep : List Bool) (n : Nat), s.length = 64 * n → (∀ x ∈ l, x.2.length = 64 ∧ 0 ≤ x.1 ∧ x.1 < n) → (crashS s l keep).length = 64 * n
  | [], s, _, n, h, _ => h
  | _ :: _, s, [], n, h, _ => h
  | x :: r, s, b :: ks, n, h, hx => by
    refine crashS_len r _ ks n ?_ (fun y hy => hx y (List.mem_cons_of_mem _ hy))
    have := hx x List.mem_cons_self
    split
    · exact upd_len h (by omega) this.1
    · exact h
def CrashTo (w : World) (d : PD) (keep : List Bool) (e : Ending) (w' : World) : Prop := ∃ D g m, e = .returned (.pointer (some ⟨D, 0, none⟩)) ∧ DrumAt w.heap.size w' D g m (.slice none 0 0) (crashP d keep) ∧ Below w.heap.size w w'
section
variable {lo D g m : Nat} {v : Value} {d : PD} {w : World}
/-- the good row of a drum is written whole. -/
theorem setGood (h : DrumAt lo w D g m v d) {s : List UInt8} (hs : s.length = 64 * d.n) : DrumAt lo (w.setRow g (bytesV s).toArray) D g m v { d with good := s } := by
  have hDg : D ≠ g := fun e => (h.blk.apart h.gb (by decide)) e
  have hgv : v.ownBlock ≠ some g := h.gb.apartO h.wb (by decide)
  have hgr : w.grownBy (w.setRow g (bytesV s).toArray) (some g) := ⟨rfl, rfl, rfl, by simp, fun q _ hq => setRow_other w g q _ (fun e => hq (by rw [e]))⟩
  exact ⟨h.blk.rowOther hDg _, h.gb.setRow _, h.mb.rowOther (fun e => h.ne.1 e.symm) _, h.wb.kept hgr (.inr hgv), h.ne, ⟨h.ok.n, hs, h.ok.now, h.ok.wait, h.ok.fuse⟩⟩
theorem setNow (h : DrumAt lo w D g m v d) {s : List UInt8} (hs : s.length = 64 * d.n) : DrumAt lo (w.setRow m (bytesV s).toArray) D g m v { d with now := s } := by
  have hDm : D ≠ m := fun e => (h.blk.apart h.mb (by decide)) e
  have hmv : v.ownBlock ≠ some m := h.mb.apartO h.wb (by decide)
  have hgr : w.grownBy (w.setRow m (bytesV s).toArray) (some m) := ⟨rfl, rfl, rfl, by simp, fun q _ hq => setRow_other w m q _ (fun e => hq (by rw [e]))⟩
  exact ⟨h.blk.rowOther hDm _, h.gb.rowOther h.ne.1 _, h.mb.setRow _, h.wb.kept hgr (.inr hmv), h.ne, ⟨h.ok.n, h.ok.good, hs, h.ok.wait, h.ok.fuse⟩⟩
theorem below_setRow {w0 w : World} (h : Below w0.heap.size w0 w) {q : Nat} (hq : w0.heap.size ≤ q) (cs : Array Value) : Below w0.heap.size w0 (w.setRow q cs) :=
  h.trans ⟨rfl, rfl, rfl, by simp, fun k hk => setRow_other w q k _ (by omega)⟩
theorem waitAt {va : Option Addr} {n vc : Nat} (h : DrumAt lo w D g m (.slice va n vc) d) (j : Nat) (hj : j < d.wait.length) : ∃ q, va = some ⟨q, 0, none⟩ ∧ q < w.heap.size ∧ w.rangeAt q (j * 65) (wcell (d.wait[j])) := by
  have e : d.wait.flatMap wcell = (d.wait.map wcell).flatten := by rw [List.flatMap_def]
  have hw := h.wb
  rw [e] at hw
  have hl : ∀ x ∈ d.wait.map wcell, x.length = 65 := fun x hx => by
    obtain ⟨y, hy, rfl⟩ := List.mem_map.1 hx
    exact wcell_len (h.ok.wait y hy).1
  have hR := (RowK.ofOwns (by decide) hl hw).2
  rcases hR.2.2 with ⟨h1, h2⟩ | ⟨a, c, h1, h2, h3⟩
  · have := congrArg List.length h2
    rw [List.length_map, List.length_nil] at this
    omega
  · obtain ⟨B, o, rfl, hB, hc⟩ := h3 j (by rw [List.length_map]; exact hj)
    injection h1 with e1 _ _
    rcases hw.2 with ⟨h4, _⟩ | ⟨q, cap, cur, h4, _⟩
    · injection h4 with e4 _ _
      rw [e4] at e1; cases e1
    · injection h4 with e4 _ _
      rw [e4] at e1
      injection e1 with e1
      injection e1 with e5 e6
      subst e5; subst e6
      refine ⟨q, e4, hB, fun i u hu => ?_⟩
      rw [List.getElem_map] at hc
      have := hc.at i u hu
      rwa [Nat.zero_add] at this
set_option maxRecDepth 100000 in
set_option maxHeartbeats 4000000 in
theorem Crash_c (h : DrumAt lo w D g m v d) (keep : List Bool) (b : Option Addr) (c : Nat) (hk : RowAt w (.slice b keep.length c) (boolR keep)) (hwl : d.wait.length ≤ 1099511627776) :
    Calls Tryd.prog 20 #[.pointer (some ⟨D, 0, none⟩), .slice b keep.length c] w (CrashTo w d keep) := by
  obtain ⟨va, vc, rfl⟩ := owns_shape h.wb
  obtain ⟨⟨h0, h1, h2, _, _⟩, _⟩ := h.cells
  have HD := Lib.hid h
  have CN := Lib.hid (New_c w d.n h.ok.n)
  clear h
  go_enter Tryd.func20, Tryd.ntmps20
  go_wp2_with (first | (go_at_call 10; (with_reducible refine CN.out.mono ?_); rintro e wz ⟨D', g', m', rfl, hd, hb⟩; have HN := Lib.hid hd; have HB := Lib.hid hb; clear hd hb))
  have HDz := Lib.hid (HD.out.below HB.out)
  obtain ⟨⟨z0, z1, z2, _, _⟩, _⟩ := HDz.out.cells
  obtain ⟨⟨y0, y1, y2, _, _⟩, _⟩ := HN.out.cells
  have HE : Hid (∀ cs cs' : Array Value, (wz.drew.setRow g' cs).cell? ⟨D', 0, none⟩ = some (.slice (some ⟨g', 0, none⟩) d.n d.n) ∧ (wz.drew.setRow g' cs).cell? ⟨D, 0, none⟩ = some (.slice (some ⟨g, 0, none⟩) d.n d.n)) := Lib.hid (fun cs _ => by
    have a1 : D' ≠ g' := fun e => (HN.out.blk.apart HN.out.gb (by decide)) e
    have a2 : D ≠ g' := by have := HD.out.blk.lt; have := HN.out.ne.2.2.1; omega
    exact ⟨(HN.out.blk.rowOther a1 cs).blk.cell 0 _ rfl, (HDz.out.blk.rowOther a2 cs).blk.cell 0 _ rfl⟩)
  go_region_held3 (fun W => W.cell? ⟨D', 0, none⟩ = some (.slice (some ⟨g', 0, none⟩) d.n d.n) ∧ W.cell? ⟨D, 0, none⟩ = some (.slice (some ⟨g, 0, none⟩) d.n d.n))
    ((first | exact ⟨y0, z0⟩ | exact HE.out _ #[]))
    (first | (refine step_copyS rfl _ _ _ Tryd.underlying62 rfl g' g d.n rfl rfl (List.replicate (64 * d.n) 0) d.good HN.out.gb HDz.out.gb (by simp) HD.out.ok.good ?_) | fail)
  have HD4 : Hid (DrumAt w.heap.size (wz.drew.setRow g' (bytesV d.good).toArray) D' g' m' (.slice none 0 0) ⟨d.n, d.good, List.replicate (64 * d.n) 0, [], false, -1⟩) := Lib.hid (setGood (HN.out.below (Below.refl _ wz).drew) HD.out.ok.good)
  have HB4 : Hid (Below w.heap.size w (wz.drew.setRow g' (bytesV d.good).toArray)) := Lib.hid (below_setRow HB.out.drew HN.out.ne.2.2.1 _)
  clear z0 z1 z2 y0 y1 y2 HE h0 h1 h2 HDz HN HB CN
  generalize (wz.drew.setRow g' (bytesV d.good).toArray) = W4 at *
  have h2 := (HD.out.below HB4.out).cells.1.2.2.1
  go_wp2_with fail
  go_loopw [30] (fun i wr => ∃ j : Nat, j ≤ d.wait.length ∧ i = .int .i64 (j : Int) ∧ DrumAt w.heap.size wr D' g' m' (.slice none 0 0) ⟨d.n, crashS d.good (d.wait.take j) keep, List.replicate (64 * d.n) 0, [], false, -1⟩ ∧ Below w.heap.size w wr) (fun i _ => d.wait.length - (intOf i).toNat)
  case atStart => exact ⟨0, by omega, rfl, HD4.out, HB4.out⟩
  case round =>
    obtain ⟨j, hj, rfl, hd, hb⟩ := hrel
    by_cases hjl : j < d.wait.length
    · obtain ⟨q, rfl, hq, hr⟩ := waitAt HD.out j hjl
      have HW := Lib.hid (waitAt (HD.out.below hb) j hjl)
      have hjl' : (j : Int) < (d.wait.length : Int) := by omega
      have hxo := HD.out.ok.wait _ (List.getElem_mem hjl)
      have hcS : crashS d.good (d.wait.take (j + 1)) keep = if keeps keep j then upd (crashS d.good (d.wait.take j) keep) (d.wait[j]).1.toNat (d.wait[j]).2 else crashS d.good (d.wait.take j) keep := by
        rw [List.take_succ_eq_append_getElem hjl, crashS_snoc, List.length_take, Nat.min_eq_left hj]
      have HCS := Lib.hid hcS
      have HX := Lib.hid (show RowAt wr (.slice b keep.length c) (boolR keep) from RowAt.below hk hb)
      generalize d.wait[j] = x at *
      obtain ⟨xi, xp⟩ := x
      obtain ⟨k, rfl⟩ : ∃ k : Nat, xi = (k : Int) := ⟨xi.toNat, by have := hxo.2.1; dsimp only at this; omega⟩
      have hxl : (wcell ((k : Int), xp)).length = 65 := wcell_len hxo.1
      have hrr : wr.rangeAt q (j * 65) (wcell ((k : Int), xp)) := by
        obtain ⟨q', e, _, hrr⟩ := HW.out
        cases e
        exact hrr
      have HRR := Lib.hid hrr
      clear hrr
      go_wp2_with (refine wpList_load_mid rfl tW _ rfl q (j * 65) rfl (wcell ((k : Int), xp)) _ HRR.out Tryd.underlying80 rfl (by rw [writeInfo, hxl]) ?_)
      rw [storeX _ _ hxl (wcell_one _ _)]
      have hkn : k < d.n := by have := hxo.2.2; omega
      have HXA := Lib.hid (HX.out.below ((Below.refl _ wr).alloc (Nat.le_refl _) (.cells (wcell ((k : Int), xp)).toArray tW)))
      have HDA := Lib.hid (hd.below ((Below.refl _ wr).alloc (Nat.le_refl _) (.cells (wcell ((k : Int), xp)).toArray tW)))
      have HBA : Hid (Below w.heap.size w (wr.alloc (.cells (wcell ((k : Int), xp)).toArray tW))) := Lib.hid (hb.alloc hb.size _)
      have HXB : Hid (BlkT (wr.alloc (.cells (wcell ((k : Int), xp)).toArray tW)) wr.heap.size (wcell ((k : Int), xp)) tW) := Lib.hid (BlkT.new _ _ _)
      have hne : g' ≠ wr.heap.size := by have := hd.gb.lt; omega
      clear hd hb
      generalize (wr.alloc (.cells (wcell ((k : Int), xp)).toArray tW)) = WA at *
      by_cases hkl : j < keep.length
      · obtain ⟨kb, ko, rfl, _, hbx⟩ := HXA.out.cellAt j (by simpa [boolR] using hkl)
        simp only [boolR, List.getElem_map] at hbx
        have hkv : keeps keep j = keep[j] := by unfold keeps; rw [List.getElem?_eq_getElem hkl]; rfl
        rw [hkv] at HCS
        have hkl' : (j : Int) < (keep.length : Int) := by omega
        clear hkv
        cases hkj : keep[j]
        case false =>
          rw [hkj] at HCS hbx
          go_wp2_with fail
          refine ⟨⟨_, _, _, _, _, _, _, _, _, _, _, _, _, _, _, _, _, _, _, _, _, _, _, _, _, _, _, ?rel, rfl⟩, ?measure⟩
          case rel => exact ⟨j + 1, by omega, by go_num, by rw [HCS.out]; exact HDA.out, HBA.out⟩
          case measure => simp [intOf]; omega
        case true =>
          rw [hkj] at HCS hbx
          go_wp2_with fail
          have HDB := Lib.hid (HDA.out.below (Below.refl _ WA).drew)
          have HXC : Hid (WA.drew.rangeAt wr.heap.size 1 (bytesV xp) ∧ WA.drew.cell? ⟨wr.heap.size, 0, none⟩ = some (.int .i64 (k : Int))) := Lib.hid ⟨by
            rw [World.rangeAt_drew]
            intro i u hu
            refine HXB.out.blk.cell (1 + i) u ?_
            rw [Nat.add_comm]
            exact hu, by rw [World.cell?_drew]; exact HXB.out.blk.cell 0 _ rfl⟩
          have y0 := HDB.out.cells.1.1
          have hnn := HD.out.ok.n
          refine wp_region_last (n := 9) (S := (fun W => W.cell? ⟨D', 0, none⟩ = some (.slice (some ⟨g', 0, none⟩) d.n d.n) ∧ W.cell? ⟨wr.heap.size, 0, none⟩ = some (.int .i64 (k : Int)) ∧ W.rangeAt wr.heap.size 1 (bytesV xp))) (by kernel_rfl) (by kernel_rfl) (by kernel_rfl) ?_ (fun hHeld => ?_)
          · (exact ⟨y0, HXC.out.2, HXC.out.1⟩)
          (refine wpAnyH_take (i := 0) (oi := R_Crash9_0) (v := ?_) rfl (by kernel_rfl) (by kernel_rfl) (by kernel_rfl) (fun _ _ _ h => h) (Or.inl ⟨by rfl, ?_⟩) (by assumption) ?_; rotate_left; next => (intro w hSw; (try dsimp only at hSw); (try delta R_Crash9_0); go_simp; try with_reducible rfl))
          (try simp only [Act.put, List.setIfInBounds_toArray, List.set_cons_zero, List.set_cons_succ])
          (refine wpAnyH_take (i := 1) (oi := R_Crash9_1) (v := ?_) rfl (by kernel_rfl) (by kernel_rfl) (by kernel_rfl) (fun _ _ _ h => h) (Or.inl ⟨by rfl, ?_⟩) (by assumption) ?_; rotate_left; next => (intro w hSw; (try dsimp only at hSw); (try delta R_Crash9_1); go_simp; try with_reducible rfl))
          (try simp only [Act.put, List.setIfInBounds_toArray, List.set_cons_zero, List.set_cons_succ])
          (refine wpAnyH_take (i := 2) (oi := R_Crash9_2) (v := ?_) rfl (by kernel_rfl) (by kernel_rfl) (by kernel_rfl) (fun _ _ _ h => h) (Or.inl ⟨by rfl, ?_⟩) (by assumption) ?_; rotate_left; next => (intro w hSw; (try dsimp only at hSw); (try delta R_Crash9_2); go_simp; try with_reducible rfl))
          (try simp only [Act.put, List.setIfInBounds_toArray, List.set_cons_zero, List.set_cons_succ])
          (refine wpAnyH_take (i := 3) (oi := R_Crash9_3) (v := ?_) rfl (by kernel_rfl) (by kernel_rfl) (by kernel_rfl) (fun _ _ _ h => h) (Or.inl ⟨by rfl, ?_⟩) (by assumption) ?_; rotate_left; next => (intro w hSw; (try dsimp only at hSw); (try delta R_Crash9_3); go_simp; try with_reducible rfl))
          (try simp only [Act.put, List.setIfInBounds_toArray, List.set_cons_zero, List.set_cons_succ])
          (refine wpAnyH_take (i := 4) (oi := R_Crash9_4) (v := ?_) rfl (by kernel_rfl) (by kernel_rfl) (by kernel_rfl) (fun _ _ _ h => h) (Or.inl ⟨by rfl, ?_⟩) (by assumption) ?_; rotate_left; next => (intro w hSw; (try dsimp only at hSw); (try delta R_Crash9_4); go_simp; try with_reducible rfl))
          (try simp only [Act.put, List.setIfInBounds_toArray, List.set_cons_zero, List.set_cons_succ])
          (refine wpAnyH_take (i := 5) (oi := R_Crash9_5) (v := ?_) rfl (by kernel_rfl) (by kernel_rfl) (by kernel_rfl) (fun _ _ _ h => h) (Or.inl ⟨by rfl, ?_⟩) (by assumption) ?_; rotate_left; next => (intro w hSw; (try dsimp only at hSw); (try delta R_Crash9_5); go_simp; try with_reducible rfl))
          (try simp only [Act.put, List.setIfInBounds_toArray, List.set_cons_zero, List.set_cons_succ])
          (refine wpAnyH_take (i := 6) (oi := R_Crash9_6) (v := ?_) rfl (by kernel_rfl) (by kernel_rfl) (by kernel_rfl) (fun _ _ _ h => h) (Or.inl ⟨by rfl, ?_⟩) (by assumption) ?_; rotate_left; next => (intro w hSw; (try dsimp only at hSw); (try delta R_Crash9_6); go_simp; try with_reducible rfl))
          (try simp only [Act.put, List.setIfInBounds_toArray, List.set_cons_zero, List.set_cons_succ])
          refine wpAnyH_take (i := 7) (oi := R_Crash9_7) rfl (by kernel_rfl) (by kernel_rfl) (by kernel_rfl) (fun _ _ _ h => h) (yieldsIf_load_mid (by rfl) tS _ rfl wr.heap.size 1 rfl (bytesV xp) _ (fun _ h => h.2.2) Tryd.underlying78 rfl (by rw [secInfo, bytesV_length, hxo.1])) (by assumption) ?_
          (try simp only [Act.put, List.setIfInBounds_toArray, List.set_cons_zero, List.set_cons_succ])
          (refine wpAnyH_take (i := 8) (oi := R_Crash9_8) (v := ?_) rfl (by kernel_rfl) (by kernel_rfl) (by kernel_rfl) (fun _ _ _ h => h) (Or.inl ⟨by rfl, ?_⟩) (by assumption) ?_; rotate_left; next => (intro w hSw; (try dsimp only at hSw); (try delta R_Crash9_8); go_simp; try with_reducible rfl))
          (try simp only [Act.put, List.setIfInBounds_toArray, List.set_cons_zero, List.set_cons_succ])
          refine wpAnyH_done (by kernel_rfl) ?_ _
          (refine last_do (o := { dst := none, op := Op.store 78 (Operand.tmp 53) (Operand.tmp 52), type := 0, pos := "drum.go:98", after := #[{ on := 8, ground := Ground.data }, { on := 7, ground := Ground.data }, { on := 0, ground := Ground.phase }, { on := 1, ground := Ground.phase }, { on := 2, ground := Ground.phase }, { on := 3, ground := Ground.phase }, { on := 4, ground := Ground.phase }, { on := 5, ground := Ground.phase }, { on := 6, ground := Ground.phase }, { on := 7, ground := Ground.phase }], guard := none }) rfl (fun K hK => ?_); refine step_storeS rfl _ _ rfl g' k d.n (crashS d.good (d.wait.take j) keep) xp rfl rfl HDB.out.gb HDB.out.ok.good hkn hxo.1 ?_; refine hK.out _ _ ?_; clear hK K; go_wp2_with fail)
          refine ⟨⟨_, _, _, ⟨j + 1, by omega, by go_num, ?rel, below_setRow HBA.out.drew HDB.out.ne.2.2.1 _⟩, rfl, rfl, rfl⟩, ?measure⟩
          case rel => rw [HCS.out]; exact setGood HDB.out (upd_len HDB.out.ok.good hkn hxo.1)
          case measure => simp [intOf]; omega
      · have hkv : keeps keep j = false := by unfold keeps; rw [List.getElem?_eq_none (by omega)]; rfl
        rw [hkv] at HCS
        have hkl' : (keep.length : Int) ≤ (j : Int) := by omega
        clear hkv
        go_wp2_with fail
        refine ⟨⟨_, _, _, _, _, _, _, _, _, _, _, _, _, _, _, _, _, _, _, _, _, _, _, _, _, _, _, ?rel, rfl⟩, ?measure⟩
        case rel => exact ⟨j + 1, by omega, by go_num, by rw [HCS.out]; exact HDA.out, HBA.out⟩
        case measure => simp [intOf]; omega
    · obtain rfl : j = d.wait.length := by omega
      have hjl' : (d.wait.length : Int) ≤ ((d.wait.length : Nat) : Int) := Int.le_refl _
      rw [List.take_length] at hd
      have HDd := Lib.hid hd
      have HBd := Lib.hid hb
      clear hd hb
      go_wp2_with fail
      obtain ⟨⟨z0, z1, _, _, _⟩, _⟩ := HDd.out.cells
      have HE : Hid (∀ cs cs' : Array Value, (wr.drew.setRow m' cs).cell? ⟨D', 1, none⟩ = some (.slice (some ⟨m', 0, none⟩) d.n d.n) ∧ (wr.drew.setRow m' cs).cell? ⟨D', 0, none⟩ = some (.slice (some ⟨g', 0, none⟩) d.n d.n)) := Lib.hid (fun cs _ => by
        have a1 : D' ≠ m' := fun e => (HDd.out.blk.apart HDd.out.mb (by decide)) e
        have hB := HDd.out.blk.rowOther a1 cs
        exact ⟨hB.blk.cell 1 _ rfl, hB.blk.cell 0 _ rfl⟩)
      go_region_held3 (fun W => W.cell? ⟨D', 1, none⟩ = some (.slice (some ⟨m', 0, none⟩) d.n d.n) ∧ W.cell? ⟨D', 0, none⟩ = some (.slice (some ⟨g', 0, none⟩) d.n d.n))
        ((first | exact ⟨z1, z0⟩ | exact HE.out _ #[]))
        (first | (refine step_copyS rfl _ _ _ Tryd.underlying62 rfl m' g' d.n rfl rfl (List.replicate (64 * d.n) 0) (crashS d.good d.wait keep) HDd.out.mb HDd.out.gb (by simp) HDd.out.ok.good ?_) | fail)
      go_wp2_with fail
      go_ret
      exact ⟨_, _, _, rfl, setNow (HDd.out.below (Below.refl _ wr).drew) HDd.out.ok.good, below_setRow HBd.out.drew HDd.out.ne.2.2.2 _⟩
end
end Go.Proofs.YtlllbacjdjllbaaDoor
