
/- Contracts of package drum: Read, Sync. -/
import Derived.Test.YtlllbacjdjllbaaDoorDrum
import Derived.Test.YtlllbacjdjllbaaDoorLeb
import Derived.Test.YtlllbacjdjllbaaDoorArr
import Derived.Deep.MidRow
import Derived.Deep.RegionHeld3
namespace Go.Proofs.YtlllbacjdjllbaaDoor
open Go Go.Proofs Go.RowKit
set_option linter.unusedVariables false
set_option linter.unusedSimpArgs false

/-- a sector. -/
def sec (l : List UInt8) (i : Nat) : List UInt8 := (l.drop (64 * i)).take 64
theorem sec_len {l : List UInt8} {i n : Nat} (hl : l.length = 64 * n) (hi : i < n) : (sec l i).length = 64 := by
  unfold sec; rw [List.length_take, List.length_drop]; omega
theorem row_sec {W : World} {m : Nat} {l : List UInt8} (h : Blk W m (bytesV l)) (i n : Nat) (hl : l.length = 64 * n) (hi : i < n) : RowAt W (.slice (some ⟨m, i * 64, none⟩) 64 64) (bytesV (sec l i)) := by
  have e := sec_len hl hi
  refine ⟨by rw [bytesV_length, e]; decide, .inr ⟨⟨m, i * 64, none⟩, 64, by rw [bytesV_length, e], by rw [bytesV_length, e]; exact Nat.le_refl _, fun j hj => ?_⟩⟩
  rw [bytesV_length, e] at hj
  rw [addr_add]
  refine h.cell (i * 64 + j) _ ?_
  rw [List.getElem?_eq_getElem (by rw [bytesV_length]; omega), bytesV_get, bytesV_get]
  simp only [sec, List.getElem_take, List.getElem_drop]
  congr 3
  rw [Nat.mul_comm]
def readP (d : PD) (i : Int) : List UInt8 := if 0 ≤ i ∧ i < d.n then sec d.now i.toNat else []
section
variable {lo D g m : Nat} {v : Value} {d : PD} {w : World}
set_option maxHeartbeats 2000000 in
theorem Read_c (h : DrumAt lo w D g m v d) (i : Int) : Calls Tryd.prog 35 #[.pointer (some ⟨D, 0, none⟩), .int .i64 i] w (OwnB w (readP d i)) := by
  obtain ⟨⟨h0, h1, h2, h3, h4⟩, f0, f1, f2, f3, f4⟩ := h.cells
  have hn := h.ok.n
  have CL := Lib.hid (Len_c h)
  by_cases hi : i < 0
  · have HP : Hid (readP d i = []) := Lib.hid (by unfold readP; rw [if_neg (by omega)])
    rw [HP.out]
    clear h HP
    go_enter Tryd.func35, Tryd.ntmps35
    go_wp2
    go_ret
    exact ⟨_, rfl, World.ownsRow_nil _ _ _ _, Below.refl _ w⟩
  by_cases hi2 : i < d.n
  · have HP : Hid (readP d i = sec d.now i.toNat) := Lib.hid (by unfold readP; rw [if_pos ⟨by omega, hi2⟩])
    rw [HP.out]
    obtain ⟨k, rfl⟩ : ∃ k : Nat, i = (k : Int) := ⟨i.toNat, by omega⟩
    rw [Int.toNat_natCast]
    have hk : k < d.n := by omega
    have HRW := Lib.hid (row_sec h.mb.blk k d.n h.ok.now hk)
    have HSL := sec_len h.ok.now hk
    have CC := Lib.hid (Clone_c _ _ w HRW.out (by rw [HSL]; decide))
    clear h HP
    generalize sec d.now k = l at *
    go_enter Tryd.func35, Tryd.ntmps35
    go_wp2_with (first | (go_at_call 32; (with_reducible refine CL.out.mono ?_); rintro e wz ⟨rfl, rfl⟩) | (go_at_call 52; (with_reducible refine CC.out.mono ?_); rintro e wz hz; have HZ := Lib.hid hz; obtain ⟨vz, rfl, _, _⟩ := hz))
    go_ret
    exact HZ.out
  · have HP : Hid (readP d i = []) := Lib.hid (by unfold readP; rw [if_neg (by omega)])
    rw [HP.out]
    have hi3 : (d.n : Int) ≤ i := by omega
    clear h HP
    go_enter Tryd.func35, Tryd.ntmps35
    go_wp2_with (first | (go_at_call 32; (with_reducible refine CL.out.mono ?_); rintro e wz ⟨rfl, rfl⟩))
    go_ret
    exact ⟨_, rfl, World.ownsRow_nil _ _ _ _, Below.refl _ _⟩
end
theorem secInfo : (Tryd.prog.info? tS).map (·.size) = some 64 := by kernel_rfl
theorem BlkT.setRow {W : World} {g : Nat} {cs : List Value} {t : TypeId} (h : BlkT W g cs t) (cs' : List Value) : BlkT (W.setRow g cs'.toArray) g cs' t := by
  unfold BlkT at h ⊢
  exact setRow_heap W g _ _ t _ h
theorem BlkT.rowOther {W : World} {g q : Nat} {cs : List Value} {t : TypeId} (h : BlkT W q cs t) (hq : q ≠ g) (cs' : Array Value) : BlkT (W.setRow g cs') q cs t := by
  unfold BlkT at h ⊢
  rw [setRow_other W g q _ hq]; exact h
section
variable {ops : Array Oper} {rest : List Oper} {o : Oper} {a : Act} {Q : Exit → Act → World → Prop} {w : World}
/-- 'copy(x, y)' of whole rows of sectors, at a step of a region that draws its order. -/
theorem step_copyS {K : Act → World → Prop} {E : Prop} (hgd : o.guard = none) (s x : Operand) (t : TypeId) (ht : Tryd.prog.underlying t = some (.slice tS)) (ho : o.op = .call { callee := .builtin .copy, args := #[s, x], argTypes := #[t, t] })
    (g m n : Nat) (hs : a.eval s = .slice (some ⟨g, 0, none⟩) n n) (hx : a.eval x = .slice (some ⟨m, 0, none⟩) n n) (cur cs : List UInt8) (hg : BlkT w g (bytesV cur) tS) (hm : BlkT w m (bytesV cs) tS) (hcur : cur.length = 64 * n) (hcs : cs.length = 64 * n)
    (h : K (a.put o.dst (goInt n)) (w.setRow g (bytesV cs).toArray)) :
    if Region.wanted o (yielded ops a.tmps) = true then Oper.wp Tryd.prog o a w K Q else E := by
  have hw : Region.wanted o (yielded ops a.tmps) = true := by simp [Region.wanted, hgd]
  rw [if_pos hw]
  have hr := run_copyK (P := Tryd.prog) w t o.type tS 64 g 0 n n ⟨m, 0, none⟩ n n (bytesV cur).toArray tS (bytesV cs) ht secInfo hg (by rw [bytesV_length, hcs, show Nat.min n n = n from Nat.min_self n]; omega)
    (fun j u hu => by rw [addr_add, Nat.zero_add]; exact hm.blk.cell j u hu) (by simp [bytesV_length]; omega) (bytesV_one cs)
  unfold Oper.wp execOp
  simp only [ho, resolve, invoke, builtin, Sem.run_bind, Sem.run_pure, Result.andThen_ok, List.map_toArray, List.map_cons, List.map_nil, hs, hx, hr]
  have e : ((bytesV cur).toArray.toList.take 0 ++ bytesV cs ++ (bytesV cur).toArray.toList.drop (0 + (bytesV cs).length)) = bytesV cs := by
    rw [List.take_zero, List.nil_append, List.drop_eq_nil_of_le (by simp [bytesV_length]; omega), List.append_nil]
  rw [e, show Nat.min n n = n from Nat.min_self n]
  exact h
end
/-- all lasts. -/
def syncP (d : PD) : Int × PD := if (livesP d).1 = true then (0, { (livesP d).2 with good := (livesP d).2.now, wait := [] }) else (9, (livesP d).2)
section
variable {lo D g m : Nat} {v : Value} {d : PD} {w : World}
theorem syncAt (h : DrumAt lo w D g m v d) : DrumAt lo ((w.setRow g (bytesV d.now).toArray).setCell ⟨D, 2, none⟩ (.slice none 0 0)) D g m (.slice none 0 0) { d with good := d.now, wait := [] } ∧ Chg lo w ((w.setRow g (bytesV d.now).toArray).setCell ⟨D, 2, none⟩ (.slice none 0 0)) := by
  have hDg : g ≠ D := fun e => (h.blk.apart h.gb (by decide)) e.symm
  have hDm : m ≠ D := fun e => (h.blk.apart h.mb (by decide)) e.symm
  have hb := h.blk.rowOther (fun e => hDg e.symm) (bytesV d.now).toArray
  refine ⟨⟨hb.set 2 _, (h.gb.setRow (bytesV d.now)).other hDg _ _, (h.mb.rowOther (fun e => h.ne.1 e.symm) _).other hDm _ _, World.ownsRow_nil _ _ _ _, h.ne, ⟨h.ok.n, h.ok.now, h.ok.now, by simp, h.ok.fuse⟩⟩, ?_⟩
  have c1 : Chg lo w (w.setRow g (bytesV d.now).toArray) := ⟨rfl, rfl, rfl, by simp, fun k hk hd => setRow_other w g k _ (by
      rcases hd with hd | hd
      · have := h.ne.2.2.1; omega
      · intro e; subst e
        have := hd _ _ _ h.gb
        exact this.2.1 rfl)⟩
  exact c1.trans ((Chg.refl lo _).set hb h.ne.2.1 (.inl rfl) 2 _)
set_option maxRecDepth 100000 in
set_option maxHeartbeats 2000000 in
theorem Sync_c (h : DrumAt lo w D g m v d) : Calls Tryd.prog 65 #[.pointer (some ⟨D, 0, none⟩)] w (DrumTo lo D g m w (.int .i64 (syncP d).1) (syncP d).2) := by
  have CL := Lib.hid (lives_c h)
  have HS : Hid (syncP d = if (livesP d).1 = true then (0, { (livesP d).2 with good := (livesP d).2.now, wait := [] }) else (9, (livesP d).2)) := Lib.hid rfl
  rw [HS.out]
  clear h HS
  generalize livesP d = p at *
  obtain ⟨b, d1⟩ := p
  dsimp only at CL ⊢
  cases b
  case false =>
    simp only [Bool.false_eq_true, if_false]
    go_enter Tryd.func65, Tryd.ntmps65
    go_wp2_with (first | (go_at_call 48; (with_reducible refine CL.out.mono ?_); rintro e wz ⟨rfl, hd, hc⟩; have HD := Lib.hid hd; have HC := Lib.hid hc; clear hd hc) | fail)
    go_ret
    exact ⟨v, rfl, HD.out, HC.out⟩
  case true =>
    simp only [if_true]
    go_enter Tryd.func65, Tryd.ntmps65
    go_wp2_with (first | (go_at_call 48; (with_reducible refine CL.out.mono ?_); rintro e wz ⟨rfl, hd, hc⟩; have HD := Lib.hid hd; have HC := Lib.hid hc; clear hd hc) | fail)
    obtain ⟨⟨h0, h1, h2, h3, h4⟩, f0, f1, f2, f3, f4⟩ := HD.out.cells
    have hgD : ¬ D = g := fun e => (HD.out.blk.apart HD.out.gb (by decide)) e
    go_region_held3 (fun W => W.cell? ⟨D, 0, none⟩ = some (.slice (some ⟨g, 0, none⟩) d1.n d1.n) ∧ W.cell? ⟨D, 1, none⟩ = some (.slice (some ⟨m, 0, none⟩) d1.n d1.n))
      ((first | exact ⟨h0, h1⟩ | exact ⟨(HD.out.blk.rowOther hgD (bytesV d1.now).toArray).blk.cell 0 _ rfl, (HD.out.blk.rowOther hgD (bytesV d1.now).toArray).blk.cell 1 _ rfl⟩))
      (first | (refine step_copyS rfl _ _ _ Tryd.underlying62 rfl g m d1.n rfl rfl d1.good d1.now HD.out.gb HD.out.mb HD.out.ok.good HD.out.ok.now ?_) | fail)
    have z2 : (wz.drew.setRow g (bytesV d1.now).toArray).cell? ⟨D, 2, none⟩ = some v := (HD.out.blk.rowOther hgD (bytesV d1.now).toArray).blk.cell 2 _ rfl
    have z3 : (wz.drew.setRow g (bytesV d1.now).toArray).frozen? ⟨D, 2, none⟩ = false := (HD.out.blk.rowOther hgD (bytesV d1.now).toArray).blk.thaw 2
    go_wp2_with fail
    go_ret
    have HDd := HD.out.below (Below.refl _ wz).drew
    exact ⟨_, rfl, (syncAt HDd).1, (HC.out.trans (Chg.ofBelow (Below.refl _ wz).drew)).trans (syncAt HDd).2⟩
end
end Go.Proofs.YtlllbacjdjllbaaDoor
