
/- Contracts of the reference's log: Open. -/
import Derived.Test.YtlllbacjdjllbaaDoorRl4
import Derived.Test.YtlllbacjdjllbaaDoorRl6
import Derived.Deep.DeepCutAuto
namespace Go.Proofs.YtlllbacjdjllbaaDoor
open Go Go.Proofs Go.Shelf Go.RowKit Go.Great
set_option linter.unusedVariables false
set_option linter.unusedSimpArgs false
abbrev R_ROp10_0 : Oper := { dst := some 33, op := Op.move (Operand.tmp 7), type := 30, pos := "redo.go:63", after := #[], guard := none }
abbrev R_ROp10_1 : Oper := { dst := some 34, op := Op.move (Operand.tmp 0), type := 45, pos := "redo.go:63", after := #[], guard := none }
abbrev R_ROp10_10 : Oper := { dst := some 43, op := Op.call { callee := Callee.value (Operand.func 45), args := #[Operand.tmp 34, Operand.tmp 42], argTypes := #[45, 3] }, type := 30, pos := "redo.go:63", after := #[{ on := 1, ground := Ground.data }, { on := 9, ground := Ground.data }, { on := 5, ground := Ground.chain }], guard := none }
abbrev R_ROp10_11 : Oper := { dst := some 44, op := Op.call { callee := Callee.builtin Builtin.append, args := #[Operand.tmp 33, Operand.tmp 43], argTypes := #[30, 30] }, type := 30, pos := "redo.go:63", after := #[{ on := 0, ground := Ground.data }, { on := 10, ground := Ground.data }, { on := 10, ground := Ground.chain }], guard := none }
abbrev R_ROp10_2 : Oper := { dst := some 35, op := Op.fieldAddr 57 (Operand.tmp 5) 1, type := 0, pos := "redo.go:63", after := #[], guard := none }
abbrev R_ROp10_3 : Oper := { dst := some 36, op := Op.load 3 (Operand.tmp 35), type := 3, pos := "redo.go:63", after := #[{ on := 2, ground := Ground.data }], guard := none }
abbrev R_ROp10_4 : Oper := { dst := some 37, op := Op.move (Operand.tmp 0), type := 45, pos := "redo.go:63", after := #[], guard := none }
abbrev R_ROp10_5 : Oper := { dst := some 38, op := Op.call { callee := Callee.value (Operand.func 44), args := #[Operand.tmp 37], argTypes := #[45] }, type := 3, pos := "redo.go:63", after := #[{ on := 4, ground := Ground.data }], guard := none }
abbrev R_ROp10_6 : Oper := { dst := some 39, op := Op.binOp BinOp.mul 3 (Operand.tmp 36) (Operand.tmp 38) 3, type := 3, pos := "redo.go:63", after := #[{ on := 3, ground := Ground.data }, { on := 5, ground := Ground.data }], guard := none }
abbrev R_ROp10_7 : Oper := { dst := some 40, op := Op.binOp BinOp.add 3 (Operand.const (Value.int IntKind.i64 2)) (Operand.tmp 39) 3, type := 3, pos := "redo.go:63", after := #[{ on := 6, ground := Ground.data }], guard := none }
abbrev R_ROp10_8 : Oper := { dst := some 41, op := Op.move (Operand.tmp 8), type := 3, pos := "redo.go:63", after := #[], guard := none }
abbrev R_ROp10_9 : Oper := { dst := some 42, op := Op.binOp BinOp.add 3 (Operand.tmp 40) (Operand.tmp 41) 3, type := 3, pos := "redo.go:63", after := #[{ on := 7, ground := Ground.data }, { on := 8, ground := Ground.data }], guard := none }

def XOpenTo (w : World) (X : Nat) (d : PD) (e : Ending) (w' : World) : Prop :=
  ((entP (logB d)).2 = true ∧ ∃ L bv rv, e = .returned (.tuple #[.pointer (some ⟨L, 0, none⟩), rv, .int .i64 0]) ∧ RLAt w.heap.size w' L X bv (logP d) ∧ RowsU w.heap.size w' rv (entP (logB d)).1 ∧ Below w.heap.size w w') ∨
  ((entP (logB d)).2 = false ∧ e = .returned (.tuple #[.pointer none, .slice none 0 0, .int .i64 2]) ∧ Below w.heap.size w w')
def tRH : TypeId := 57
section
variable {lo X : Nat} {ov sv wv : Value} {d : PD} {left : Int} {w : World}
set_option maxRecDepth 100000 in
set_option maxHeartbeats 8000000 in
theorem XOpen_c1 (h : RDAt lo w X ov sv wv d left) (hn : 4 ≤ d.n) (n1 : Int) (k n3 : Nat) (hk : k ≤ 1) (h3 : n3 ≤ 64 * bankP d) (hN : newestP d = ⟨n1, (k : Int), (n3 : Int)⟩) : Calls Tryd.prog 23 #[.pointer (some ⟨X, 0, none⟩)] w (XOpenTo w X d) := by
  obtain ⟨sa, sc, rfl⟩ := owns_shape h.s
  have c1 := h.blk.blk.cell 1 _ rfl
  have hqb : bankP d ≤ 99 := by unfold bankP; have := h.ok.n; omega
  have HD := Lib.hid h
  have C0 := Lib.hid (fun W (hb : Below w.heap.size w W) => read_c (h.below hb) hn 0 (by omega))
  have C1 := Lib.hid (fun W (hb : Below w.heap.size w W) => read_c (h.below hb) hn 1 (by omega))
  have CB := Lib.hid (fun W (hb : Below w.heap.size w W) => sectors_c (h.below hb) (by omega))
  have CR := Lib.hid (fun W (hb : Below w.heap.size w W) j (hj : j < bankP d) => RRead_c (h.below hb) ((2 + k * bankP d + j : Nat) : Int))
  have hn4 : ¬ ((d.n : Int) < 4) := by omega
  have HP : Hid ((if (readH d 0).number < (readH d 1).number then readH d 1 else readH d 0) = ⟨n1, (k : Int), (n3 : Int)⟩) := Lib.hid (by rw [← newest_read, hN])
  have HLB : Hid (logB d = (bankB d k (bankP d)).take n3) := Lib.hid (by unfold logB; rw [hN]; rfl)
  have HLP : Hid (logP d = ⟨⟨n1, (k : Int), (n3 : Int)⟩, logB d, ((entP (logB d)).1.length : Int), false⟩) := Lib.hid (by unfold logP; rw [hN])
  have HBL : Hid ((logB d).length = n3) := Lib.hid (by rw [HLB.out, List.length_take, bankB_len h.ok hn hk (by omega)]; omega)
  clear h hN
  generalize readH d 0 = pa at *
  generalize readH d 1 = pb at *
  obtain ⟨a1, a2, a3⟩ := pa
  obtain ⟨b1, b2, b3⟩ := pb
  simp only [HD3.val, Int.natCast_zero, Int.cast_ofNat_Int] at C0 C1 HP
  generalize hQ : bankP d = qb at *
  generalize hLB : logB d = lb at *
  have HQ := Lib.hid hQ
  have HLq := Lib.hid hLB
  clear hQ hLB
  go_enter Tryd.func23, Tryd.ntmps23
  go_wp2_with (first | (go_at_call 43; (with_reducible refine (C0.out _ (Below.refl _ _)).mono ?_); rintro e w1 ⟨rfl, hb1⟩; have HB1 := Lib.hid hb1; clear hb1) | fail)
  with_reducible refine (C1.out _ HB1.out).mono ?_
  rintro e w2 ⟨rfl, hb2⟩
  have hbw := HB1.out.trans (hb2.mono HB1.out.size)
  have HS2 : Hid (w.heap.size ≤ w2.heap.size) := Lib.hid hbw.size
  have hA := (BlkT.new w2 [.int .i64 a1, .int .i64 a2, .int .i64 a3] tRH).below ((Below.refl _ _).alloc (Nat.le_refl _) (.cells #[.int .i64 b1, .int .i64 b2, .int .i64 b3] tRH))
  have hB := BlkT.new (w2.alloc (.cells #[.int .i64 a1, .int .i64 a2, .int .i64 a3] tRH)) [.int .i64 b1, .int .i64 b2, .int .i64 b3] tRH
  have HA := Lib.hid hA
  have hBz : (w2.alloc (.cells #[.int .i64 a1, .int .i64 a2, .int .i64 a3] tRH)).heap.size = w2.heap.size + 1 := by simp
  rw [hBz] at hB
  have HB := Lib.hid hB
  have HW := Lib.hid ((hbw.alloc hbw.size (.cells #[.int .i64 a1, .int .i64 a2, .int .i64 a3] tRH)).alloc (by have := hbw.size; simp; omega) (.cells #[.int .i64 b1, .int .i64 b2, .int .i64 b3] tRH))
  clear hA hB hBz hbw hb2
  go_upto_region 4 with fail
  unfold tRH at HA HB HW
  generalize (w2.alloc (.cells #[.int .i64 a1, .int .i64 a2, .int .i64 a3] 57)).alloc (.cells #[.int .i64 b1, .int .i64 b2, .int .i64 b3] 57) = W at *
  have r0 := HA.out.blk.cell 0 _ rfl
  have r1 := HA.out.blk.cell 1 _ rfl
  have r2 := HA.out.blk.cell 2 _ rfl
  have t0 := HB.out.blk.cell 0 _ rfl
  have t1 := HB.out.blk.cell 1 _ rfl
  have t2 := HB.out.blk.cell 2 _ rfl
  have f0 := HA.out.blk.thaw 0
  have f1 := HA.out.blk.thaw 1
  have f2 := HA.out.blk.thaw 2
  generalize w2.heap.size = hb at *
  go_upto_if 25 with fail
  go_cut [5] (fun s5 wx => s5 = .pointer (some ⟨hb, 0, none⟩) ∧ BlkT wx hb [.int .i64 n1, .int .i64 (k : Int), .int .i64 (n3 : Int)] 57 ∧ Below w.heap.size w wx)
  case first =>
    by_cases hab : a1 < b1
    · have HE := HP.out
      rw [if_pos hab] at HE
      injection HE with e1 e2 e3
      subst e1 e2 e3
      go_wp2_with fail
      go_meet
      exact ⟨rfl, ((HA.out.set 0 _).set 1 _).set 2 _, Below.setCell (p := (⟨hb, 2, none⟩ : Addr)) (Below.setCell (p := (⟨hb, 1, none⟩ : Addr)) (Below.setCell (p := (⟨hb, 0, none⟩ : Addr)) HW.out HS2.out _) HS2.out _) HS2.out _⟩
    · have HE := HP.out
      rw [if_neg hab] at HE
      injection HE with e1 e2 e3
      subst e1 e2 e3
      go_wp2_with fail
      go_meet
      exact ⟨rfl, HA.out, HW.out⟩
  case rest =>
    obtain ⟨rfl, hl, hw⟩ := hcut
    have HL := Lib.hid hl
    have HWc := Lib.hid hw
    clear hl hw
    clear HA HB r0 r1 r2 t0 t1 t2 f0 f1 f2 HW HB1 C0 C1 HP
    go_wp2_with fail
    go_loopw [7, 8] (fun b i wr => ∃ (j : Nat), j ≤ qb ∧ i = .int .i64 (j : Int) ∧ BlkT wr hb [.int .i64 n1, .int .i64 (k : Int), .int .i64 (n3 : Int)] 57 ∧ wr.ownsRow w.heap.size 5 1 b (64 * j) (bytesV (bankB d k j)) ∧ Below w.heap.size w wr) (fun _ i _ => qb - (intOf i).toNat)
    case atStart => exact ⟨0, by omega, rfl, HL.out, World.ownsRow_nil _ _ _ _, HWc.out⟩
    case round =>
      obtain ⟨j, hj, rfl, hl, ho, hbw⟩ := hrel
      obtain ⟨ba, bc, rfl⟩ := owns_shape ho
      have HSC0 := Lib.hid (CB.out wr hbw)
      by_cases hjq : j < qb
      · have hjq' : (j : Int) < (qb : Int) := by omega
        have HSC := Lib.hid (CB.out wr.drew hbw.drew)
        have HRD := Lib.hid (CR.out wr.drew hbw.drew j hjq)
        have HLd := Lib.hid (hl.below (Below.refl _ wr).drew)
        have HOd := Lib.hid ho.drew
        have HBd := Lib.hid hbw.drew
        have hkq9 : k * qb ≤ 99 := by rcases (by omega : k = 0 ∨ k = 1) with rfl | rfl <;> omega
        have HIn : Hid (2 + k * qb + j < d.n) := Lib.hid (by
          have hq2 : 2 * qb ≤ d.n - 2 := by rw [← HQ.out]; unfold bankP; omega
          have : k * qb ≤ 1 * qb := Nat.mul_le_mul_right _ hk
          omega)
        have HI : Hid (readP d ((2 + k * qb + j : Nat) : Int) = sec d.now (2 + k * qb + j)) := Lib.hid (by
          unfold readP; rw [if_pos ⟨by omega, by have := HIn.out; omega⟩, Int.toNat_natCast])
        have HSL : Hid ((sec d.now (2 + k * qb + j)).length = 64) := Lib.hid (sec_len HD.out.ok.now HIn.out)
        rw [HI.out] at HRD
        have HBS : Hid (bankB d k (j + 1) = bankB d k j ++ sec d.now (2 + k * qb + j)) := Lib.hid (by rw [bankB_succ, HQ.out])
        generalize sec d.now (2 + k * qb + j) = sj at *
        obtain ⟨kq, hkq⟩ : ∃ kq : Nat, kq = k * qb := ⟨_, rfl⟩
        obtain ⟨r2, hr2⟩ : ∃ r2 : Nat, r2 = 2 + kq := ⟨_, rfl⟩
        obtain ⟨x, hx⟩ : ∃ x : Nat, x = r2 + j := ⟨_, rfl⟩
        have hxe : 2 + k * qb + j = x := by rw [hx, hr2, hkq]
        rw [hxe] at HRD
        rw [← hkq] at hkq9
        have hkqi : (k : Int) * (qb : Int) = (kq : Int) := by rw [hkq]; exact (Int.natCast_mul k qb).symm
        have w1 : IntKind.i64.wrap ((k : Int) * (qb : Int)) = (kq : Int) := by rw [hkqi, IntKind.wrap_i64]; omega
        have w2 : IntKind.i64.wrap (2 + (kq : Int)) = (r2 : Int) := by rw [IntKind.wrap_i64]; omega
        have w3 : IntKind.i64.wrap ((r2 : Int) + (j : Int)) = (x : Int) := by rw [IntKind.wrap_i64]; omega
        have t1 := HLd.out.blk.cell 1 _ rfl
        clear hl ho hbw HI HIn hkq hr2 hx hxe hkqi
        go_wp2_with (first | (go_at_call 44; (with_reducible refine (HSC0.out).mono ?_); rintro e wz ⟨rfl, rfl⟩) | fail)
        refine wp_region_last (n := 12) (S := (fun W => W.cell? ⟨hb, 1, none⟩ = some (.int .i64 (k : Int)))) (by kernel_rfl) (by kernel_rfl) (by kernel_rfl) ?_ (fun hHeld => ?_)
        · (first | exact t1 | exact HL5.out.blk.cell 1 _ rfl | exact HL6.out.blk.cell 1 _ rfl)
        (refine wpAnyH_take (i := 0) (oi := R_ROp10_0) (v := ?_) rfl (by kernel_rfl) (by kernel_rfl) (by kernel_rfl) (fun _ _ _ h => h) (Or.inl ⟨by rfl, ?_⟩) (by assumption) ?_; rotate_left; next => (intro w hSw; (try dsimp only at hSw); (try delta R_ROp10_0); go_simp; try with_reducible rfl))
        (try simp only [Act.put, List.setIfInBounds_toArray, List.set_cons_zero, List.set_cons_succ])
        (refine wpAnyH_take (i := 1) (oi := R_ROp10_1) (v := ?_) rfl (by kernel_rfl) (by kernel_rfl) (by kernel_rfl) (fun _ _ _ h => h) (Or.inl ⟨by rfl, ?_⟩) (by assumption) ?_; rotate_left; next => (intro w hSw; (try dsimp only at hSw); (try delta R_ROp10_1); go_simp; try with_reducible rfl))
        (try simp only [Act.put, List.setIfInBounds_toArray, List.set_cons_zero, List.set_cons_succ])
        (refine wpAnyH_take (i := 2) (oi := R_ROp10_2) (v := ?_) rfl (by kernel_rfl) (by kernel_rfl) (by kernel_rfl) (fun _ _ _ h => h) (Or.inl ⟨by rfl, ?_⟩) (by assumption) ?_; rotate_left; next => (intro w hSw; (try dsimp only at hSw); (try delta R_ROp10_2); go_simp; try with_reducible rfl))
        (try simp only [Act.put, List.setIfInBounds_toArray, List.set_cons_zero, List.set_cons_succ])
        (refine wpAnyH_take (i := 3) (oi := R_ROp10_3) (v := ?_) rfl (by kernel_rfl) (by kernel_rfl) (by kernel_rfl) (fun _ _ _ h => h) (Or.inl ⟨by rfl, ?_⟩) (by assumption) ?_; rotate_left; next => (intro w hSw; (try dsimp only at hSw); (try delta R_ROp10_3); go_simp; try with_reducible rfl))
        (try simp only [Act.put, List.setIfInBounds_toArray, List.set_cons_zero, List.set_cons_succ])
        (refine wpAnyH_take (i := 4) (oi := R_ROp10_4) (v := ?_) rfl (by kernel_rfl) (by kernel_rfl) (by kernel_rfl) (fun _ _ _ h => h) (Or.inl ⟨by rfl, ?_⟩) (by assumption) ?_; rotate_left; next => (intro w hSw; (try dsimp only at hSw); (try delta R_ROp10_4); go_simp; try with_reducible rfl))
        (try simp only [Act.put, List.setIfInBounds_toArray, List.set_cons_zero, List.set_cons_succ])
        (refine wpAnyH_take (i := 8) (oi := R_ROp10_8) (v := ?_) rfl (by kernel_rfl) (by kernel_rfl) (by kernel_rfl) (fun _ _ _ h => h) (Or.inl ⟨by rfl, ?_⟩) (by assumption) ?_; rotate_left; next => (intro w hSw; (try dsimp only at hSw); (try delta R_ROp10_8); go_simp; try with_reducible rfl))
        (try simp only [Act.put, List.setIfInBounds_toArray, List.set_cons_zero, List.set_cons_succ])
        refine wpAnyH_ready (rs := [5]) (by kernel_rfl) (by simp) ?_
        refine AllReadyH.cons (o := R_ROp10_5) rfl (fun K hK => ?_) AllReadyH.nil
        (try delta R_ROp10_5)
        (go_simp; (with_reducible refine (HSC.out).mono ?_); rintro e wq ⟨rfl, rfl⟩; (try go_wp2_with fail))
        refine hK.out _ _ ?_ (fun hHeld => ?_)
        · (first | exact t1 | exact HL5.out.blk.cell 1 _ rfl | exact HL6.out.blk.cell 1 _ rfl)
        clear hK K
        (try simp only [Act.put, List.setIfInBounds_toArray, List.set_cons_zero, List.set_cons_succ])
        (refine wpAnyH_take (i := 6) (oi := R_ROp10_6) (v := ?_) rfl (by kernel_rfl) (by kernel_rfl) (by kernel_rfl) (fun _ _ _ h => h) (Or.inl ⟨by rfl, ?_⟩) (by assumption) ?_; rotate_left; next => (intro w hSw; (try dsimp only at hSw); (try delta R_ROp10_6); go_simp; try with_reducible rfl))
        (try simp only [Act.put, List.setIfInBounds_toArray, List.set_cons_zero, List.set_cons_succ])
        (refine wpAnyH_take (i := 7) (oi := R_ROp10_7) (v := ?_) rfl (by kernel_rfl) (by kernel_rfl) (by kernel_rfl) (fun _ _ _ h => h) (Or.inl ⟨by rfl, ?_⟩) (by assumption) ?_; rotate_left; next => (intro w hSw; (try dsimp only at hSw); (try delta R_ROp10_7); go_simp; try with_reducible rfl))
        (try simp only [Act.put, List.setIfInBounds_toArray, List.set_cons_zero, List.set_cons_succ])
        (refine wpAnyH_take (i := 9) (oi := R_ROp10_9) (v := ?_) rfl (by kernel_rfl) (by kernel_rfl) (by kernel_rfl) (fun _ _ _ h => h) (Or.inl ⟨by rfl, ?_⟩) (by assumption) ?_; rotate_left; next => (intro w hSw; (try dsimp only at hSw); (try delta R_ROp10_9); go_simp; try with_reducible rfl))
        (try simp only [Act.put, List.setIfInBounds_toArray, List.set_cons_zero, List.set_cons_succ])
        refine wpAnyH_ready (rs := [10]) (by kernel_rfl) (by simp) ?_
        refine AllReadyH.cons (o := R_ROp10_10) rfl (fun K hK => ?_) AllReadyH.nil
        (try delta R_ROp10_10)
        (go_simp; (with_reducible refine (HRD.out).mono ?_); rintro e w5 ⟨vr, rfl, hr5, hb5⟩; obtain ⟨ra, rc, rfl⟩ := hr5.shapeB; obtain ⟨rb, ro, rfl, _, _⟩ := hr5.cellAt 0 (by rw [bytesV_length, HSL.out]; decide); have HR5 := Lib.hid hr5; have HL5 := Lib.hid (HLd.out.below hb5); have HO5 := Lib.hid (own_below HOd.out hb5); have HB5 := Lib.hid (HBd.out.trans (hb5.mono HBd.out.size)); clear hr5 hb5; (try go_wp2_with fail))
        refine hK.out _ _ ?_ (fun hHeld => ?_)
        · (first | exact t1 | exact HL5.out.blk.cell 1 _ rfl | exact HL6.out.blk.cell 1 _ rfl)
        clear hK K
        (try simp only [Act.put, List.setIfInBounds_toArray, List.set_cons_zero, List.set_cons_succ])
        refine wpAnyH_ready (rs := [11]) (by kernel_rfl) (by simp) ?_
        refine AllReadyH.cons (o := R_ROp10_11) rfl (fun K hK => ?_) AllReadyH.nil
        (try delta R_ROp10_11)
        (refine step_appM rfl _ _ rfl w.heap.size (64 * j) _ _ rfl HO5.out ⟨rb, ro, none⟩ rc sj rfl HR5.out (by have := HSL.out; omega) HB5.out.size ?_; intro na nc w6 hown6 hb6 hg6; have HL6 := Lib.hid (blk_grown HL5.out hg6 (HL5.out.apartO HO5.out (by decide))); have HO6 := Lib.hid hown6; have HB6 := Lib.hid (HB5.out.trans (hb6.mono (Nat.le_refl _))); clear hown6 hb6 hg6)
        refine hK.out _ _ ?_ (fun hHeld => ?_)
        · (first | exact t1 | exact HL5.out.blk.cell 1 _ rfl | exact HL6.out.blk.cell 1 _ rfl)
        clear hK K
        (try simp only [Act.put, List.setIfInBounds_toArray, List.set_cons_zero, List.set_cons_succ])
        refine wpAnyH_done (by kernel_rfl) ?_ _
        (refine last_do (o := { dst := some 7, op := Op.assign (Operand.tmp 44), type := 30, pos := "redo.go:63", after := #[{ on := 11, ground := Ground.data }, { on := 11, ground := Ground.chain }, { on := 0, ground := Ground.phase }, { on := 1, ground := Ground.phase }, { on := 2, ground := Ground.phase }, { on := 3, ground := Ground.phase }, { on := 4, ground := Ground.phase }, { on := 5, ground := Ground.phase }, { on := 6, ground := Ground.phase }, { on := 7, ground := Ground.phase }, { on := 8, ground := Ground.phase }, { on := 9, ground := Ground.phase }, { on := 10, ground := Ground.phase }, { on := 11, ground := Ground.phase }], guard := none }) rfl (fun K hK => ?_); go_simp; refine hK.out _ _ ?_; clear hK K; go_wp2_with fail; have e6 : 64 * j + sj.length = 64 * (j + 1) := by { have := HSL.out; omega }; rw [e6] at HO6 ⊢; refine ⟨⟨j + 1, hjq, rfl, HL6.out, ?_, HB6.out⟩, ?_⟩; (rw [HBS.out, bytesV_append]; exact HO6.out); (simp [intOf]; omega))
      · obtain rfl : j = qb := by omega
        have HLd := Lib.hid hl
        have HBd := Lib.hid hbw
        obtain ⟨ca, cc, hcut, hcown, hco⟩ := own_cutHi ho n3 h3
        have t2 := hl.blk.cell 2 _ rfl
        have HCO : Hid (wr.ownsRow w.heap.size 5 1 (.slice ca n3 cc) n3 (bytesV lb)) := Lib.hid (by rw [HLB.out, bytesV_take]; exact hcown)
        clear hl ho hbw hcown hco
        have HEN : Hid (Calls Tryd.prog 46 #[.slice ca n3 cc] wr (EntTo wr lb)) := Lib.hid (entries_c wr lb _ (RowAt.ofOwns HCO.out) (by have := HBL.out; omega))
        go_wp2_with (first | (go_at_call 44; (with_reducible refine (HSC0.out).mono ?_); rintro e wz ⟨rfl, rfl⟩) | (go_at_call 46; (with_reducible refine (HEN.out).mono ?_); rintro e w5 ⟨va, vc, rfl, hru, hb5⟩; have HRU := Lib.hid hru; have HB5 := Lib.hid hb5; have HL5 := Lib.hid (HLd.out.below hb5); have g0 := HL5.out.blk.cell 0 _ rfl; have g1 := HL5.out.blk.cell 1 _ rfl; have g2 := HL5.out.blk.cell 2 _ rfl; clear hru hb5; cases hE2 : (entP lb).2 <;> (have HE2 := Lib.hid hE2; clear hE2)) | fail)
        · go_ret3
          exact .inr ⟨by rw [HLq.out]; exact HE2.out, rfl, HBd.out.trans (HB5.out.mono HBd.out.size)⟩
        · go_ret3
          have hbe := HBd.out.trans (HB5.out.mono HBd.out.size)
          refine .inl ⟨by rw [HLq.out]; exact HE2.out, w5.heap.size, .slice ca n3 cc, _, rfl, ⟨?_, ?_, hbe.size⟩, ?_, hbe.alloc hbe.size _⟩
          · rw [HLP.out]; exact BlkT.new w5 _ tRL
          · rw [HLP.out]; simp only; rw [HBL.out]; exact own_belowE HCO.out (HB5.out.alloc HB5.out.size _)
          · rw [HLq.out]; exact (HRU.out.below ((Below.refl _ w5).alloc (Nat.le_refl _) _)).mono HBd.out.size
theorem XOpen_c (h : RDAt lo w X ov sv wv d left) (hn : 4 ≤ d.n) : Calls Tryd.prog 23 #[.pointer (some ⟨X, 0, none⟩)] w (XOpenTo w X d) := by
  obtain ⟨h1, h2, h3, h4, h5⟩ := newest_ok d
  generalize hN : newestP d = hd at *
  obtain ⟨n1, k, n3⟩ := hd
  simp only at h1 h2 h3 h4 h5
  refine XOpen_c1 h hn n1 k.toNat n3.toNat (by omega) (by omega) ?_
  rw [hN]
  congr 1 <;> omega
set_option maxRecDepth 100000 in
theorem XOpen_small (h : RDAt lo w X ov sv wv d left) (hn : d.n < 4) : Calls Tryd.prog 23 #[.pointer (some ⟨X, 0, none⟩)] w fun e w' => e = .returned (.tuple #[.pointer none, .slice none 0 0, .int .i64 1]) ∧ w = w' := by
  obtain ⟨sa, sc, rfl⟩ := owns_shape h.s
  have c1 := h.blk.blk.cell 1 _ rfl
  have hn4 : (d.n : Int) < 4 := by omega
  clear h
  go_enter Tryd.func23, Tryd.ntmps23
  go_wp2_with fail
  go_ret3
  exact ⟨rfl, rfl⟩
end
end Go.Proofs.YtlllbacjdjllbaaDoor
