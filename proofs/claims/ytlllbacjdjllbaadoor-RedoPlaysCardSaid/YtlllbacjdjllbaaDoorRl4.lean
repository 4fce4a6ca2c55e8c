
/- Contracts of the reference's log: what it is in memory; lay. -/
import Derived.Test.YtlllbacjdjllbaaDoorRl3
namespace Go.Proofs.YtlllbacjdjllbaaDoor
open Go Go.Proofs Go.Shelf Go.RowKit Go.Great
set_option linter.unusedVariables false
set_option linter.unusedSimpArgs false
abbrev R_RLay3_0 : Oper := { dst := some 18, op := Op.buildSlice 30 0 #[], type := 30, pos := "redo.go:97", after := #[], guard := none }
abbrev R_RLay3_1 : Oper := { dst := some 19, op := Op.move (Operand.tmp 1), type := 30, pos := "redo.go:97", after := #[], guard := none }
abbrev R_RLay3_2 : Oper := { dst := some 20, op := Op.call { callee := Callee.builtin Builtin.append, args := #[Operand.tmp 18, Operand.tmp 19], argTypes := #[30, 30] }, type := 30, pos := "redo.go:97", after := #[{ on := 0, ground := Ground.data }, { on := 1, ground := Ground.data }], guard := none }
abbrev R_RLay3_3 : Oper := { dst := some 21, op := Op.move (Operand.tmp 3), type := 30, pos := "redo.go:97", after := #[], guard := none }
abbrev R_RLay3_4 : Oper := { dst := some 22, op := Op.convert 30 9 (Operand.tmp 21), type := 9, pos := "redo.go:97", after := #[{ on := 3, ground := Ground.data }], guard := none }
abbrev R_RLay3_5 : Oper := { dst := some 23, op := Op.call { callee := Callee.value (Operand.func 59), args := #[Operand.tmp 22], argTypes := #[9] }, type := 30, pos := "redo.go:97", after := #[{ on := 4, ground := Ground.data }, { on := 2, ground := Ground.chain }], guard := none }

theorem put_c {lo X : Nat} {ov sv wv : Value} {d : PD} {left : Int} {w : World} (h : RDAt lo w X ov sv wv d left) (hn : 4 ≤ d.n) (L : Nat) (cs : List Value) (hL : BlkT w L (.pointer (some ⟨X, 0, none⟩) :: cs) tRL) (number : Int) (h1 : 0 ≤ number) (h2 : number ≤ 9223372036854775807) (k : Nat) (hk : k ≤ 1) (b : List UInt8) (hb : b.length ≤ 64 * bankP d)
    (vb : Value) (hr : ∀ w', ChR lo w w' → RowAt w' vb (bytesV b)) (n0 : Nat) (hn0 : n0 ≤ b.length) (hwl : d.wait.length ≤ 1099511000000) :
    Calls Tryd.prog 60 #[.pointer (some ⟨L, 0, none⟩), vb, .int .i64 (n0 : Int), .agg #[.int .i64 number, .int .i64 (k : Int), .int .i64 (b.length : Int)]] w (RDGo lo X w (.int .i64 (writesP d number k b n0).1) (writesP d number k b n0).2) :=
  put_c1 h hn L cs hL number h1 h2 k hk b hb vb hr n0 hn0 _ _ rfl rfl hwl
/-- nothing has turned but the reference's drums and logs that lie from lo on. -/
def notRL (W : World) (k : Nat) : Prop := ∀ cs t fr, W.heap[k]? = some (.cells cs t fr) → t ≠ tX ∧ t ≠ tStr ∧ t ≠ tRw ∧ t ≠ tRL
structure ChRL (lo : Nat) (w w' : World) : Prop where
  os : w'.os = w.os
  tape : w'.tape = w.tape
  output : w'.output = w.output
  size : w.heap.size ≤ w'.heap.size
  block : ∀ k, k < w.heap.size → (k < lo ∨ notRL w k) → w'.heap[k]? = w.heap[k]?
theorem ChRL.refl (lo : Nat) (w : World) : ChRL lo w w := ⟨rfl, rfl, rfl, Nat.le_refl _, fun _ _ _ => rfl⟩
theorem ChRL.trans {lo : Nat} {a b c : World} (h : ChRL lo a b) (k : ChRL lo b c) : ChRL lo a c :=
  ⟨k.os.trans h.os, k.tape.trans h.tape, k.output.trans h.output, Nat.le_trans h.size k.size, fun i hi hd => by
    have e := h.block i hi hd
    rw [← e]
    refine k.block i (Nat.lt_of_lt_of_le hi h.size) ?_
    rcases hd with hd | hd
    · exact .inl hd
    · right; intro cs t fr hc; rw [e] at hc; exact hd cs t fr hc⟩
theorem ChRL.ofChR {lo : Nat} {w w' : World} (h : ChR lo w w') : ChRL lo w w' :=
  ⟨h.os, h.tape, h.output, h.size, fun k hk hd => h.block k hk (hd.imp id (fun h cs t fr hc => by obtain ⟨a, b, c, _⟩ := h cs t fr hc; exact ⟨a, b, c⟩))⟩
theorem ChRL.ofBelow {lo : Nat} {w w' : World} (h : Below w.heap.size w w') : ChRL lo w w' := ChRL.ofChR (ChR.ofBelow h)
theorem ChRL.below {lo : Nat} {w0 w w' : World} (h : ChRL lo w w') (h0 : Below w0.heap.size w0 w) (hl : w0.heap.size ≤ lo) : Below w0.heap.size w0 w' :=
  h0.trans ⟨h.os, h.tape, h.output, h.size, fun k hk => h.block k (Nat.lt_of_lt_of_le hk h0.size) (.inl (by omega))⟩
theorem BlkT.chrl {lo : Nat} {w w' : World} {g : Nat} {cs : List Value} {t : TypeId} (h : BlkT w g cs t) (hc : ChRL lo w w') (ht : t ≠ tX ∧ t ≠ tStr ∧ t ≠ tRw ∧ t ≠ tRL) : BlkT w' g cs t := by
  have e := hc.block g h.lt (.inr (fun cs' t' fr' he => by unfold BlkT at h; rw [h] at he; simp only [Option.some.injEq, Obj.cells.injEq] at he; rw [← he.2.1]; exact ht))
  unfold BlkT at h ⊢
  rw [e]; exact h
theorem own_chrl {lo : Nat} {w w' : World} {B e k n : Nat} {v : Value} {xs : List Value} (h : w.ownsRow B e k v n xs) (hc : ChRL lo w w') (ht : e ≠ tX ∧ e ≠ tStr ∧ e ≠ tRw ∧ e ≠ tRL) : w'.ownsRow B e k v n xs := by
  refine ⟨h.1, ?_⟩
  rcases h.2 with h' | ⟨g, cap, cur, rfl, hB, hg, rest⟩
  · exact .inl h'
  · refine .inr ⟨g, cap, cur, rfl, hB, ?_, rest⟩
    rw [hc.block g (Array.getElem?_eq_some_iff.1 hg).1 (.inr (fun cs' t' fr' he => by rw [hg] at he; simp only [Option.some.injEq, Obj.cells.injEq] at he; rw [← he.2.1]; exact ht))]
    exact hg
/-- the program's drum and log stay. -/
theorem DrumAt.chrl {lo lo' : Nat} {W W' : World} {D g m : Nat} {v : Value} {d : PD} (h : DrumAt lo W D g m v d) (hc : ChRL lo' W W') : DrumAt lo W' D g m v d :=
  ⟨h.blk.chrl hc (by decide), h.gb.chrl hc (by decide), h.mb.chrl hc (by decide), own_chrl h.wb hc (by decide), h.ne, h.ok⟩
theorem LDAt.chrl {lo lo' : Nat} {W W' : World} {L D g m : Nat} {bv v : Value} {l : PL} {d : PD} (h : LDAt lo W L D g m bv v l d) (hc : ChRL lo' W W') : LDAt lo W' L D g m bv v l d :=
  ⟨⟨h.log.blk.chrl hc (by decide), own_chrl h.log.own hc (by decide), h.log.ge⟩, h.drum.chrl hc⟩
/-- the reference's log. -/
structure RLAt (lo : Nat) (W : World) (L X : Nat) (bv : Value) (l : PL) : Prop where
  blk : BlkT W L (logCells X l bv) tRL
  own : W.ownsRow lo 5 1 bv l.b.length (bytesV l.b)
  ge : lo ≤ L
theorem RLAt.below {lo : Nat} {W W' : World} {L X : Nat} {bv : Value} {l : PL} (h : RLAt lo W L X bv l) (hb : Below W.heap.size W W') : RLAt lo W' L X bv l := ⟨h.blk.below hb, own_belowE h.own hb, h.ge⟩
theorem RLAt.chr {lo lo' : Nat} {W W' : World} {L X : Nat} {bv : Value} {l : PL} (h : RLAt lo W L X bv l) (hc : ChR lo' W W') : RLAt lo W' L X bv l := ⟨h.blk.chr hc (by decide), own_chr h.own hc (by decide), h.ge⟩
theorem RLAt.chl {lo lo' : Nat} {W W' : World} {L X : Nat} {bv : Value} {l : PL} (h : RLAt lo W L X bv l) (hc : ChL lo' W W') : RLAt lo W' L X bv l := ⟨h.blk.chl hc (by decide), own_chl h.own hc (by decide), h.ge⟩
theorem ChRL.set {lo : Nat} {w W : World} {g : Nat} {cs : List Value} (h : ChRL lo w W) (hb : BlkT W g cs tRL) (hg : lo ≤ g) (j : Nat) (v : Value) : ChRL lo w (W.setCell ⟨g, j, none⟩ v) := by
  have hs := (grownBy_set W g j v)
  refine ⟨hs.os.trans h.os, hs.tape.trans h.tape, hs.output.trans h.output, Nat.le_trans h.size hs.size, fun k hk hd => ?_⟩
  have hne : k ≠ g := by
    rintro rfl
    rcases hd with hd | hd
    · omega
    · have e := h.block k hk (.inr hd)
      have hb' : W.heap[k]? = some (.cells cs.toArray tRL) := hb
      rw [e] at hb'
      exact (hd _ _ _ hb').2.2.2 rfl
  exact (hs.block k (Nat.lt_of_lt_of_le hk h.size) (by simp [hne])).trans (h.block k hk hd)
/-- both, and a row of the call's own. -/
structure RX (lo : Nat) (w W : World) (L X : Nat) (ov sv wv vb : Value) (d : PD) (left : Int) (bb : List UInt8) (cs : List Value) : Prop where
  blk : BlkT W L cs tRL
  drum : RDAt lo W X ov sv wv d left
  ch : ChRL lo w W
  own : W.ownsRow lo 5 1 vb bb.length (bytesV bb)
theorem RX.set {lo : Nat} {w W : World} {L X : Nat} {ov sv wv vb : Value} {d : PD} {left : Int} {bb : List UInt8} {cs : List Value} (h : RX lo w W L X ov sv wv vb d left bb cs) (hg : lo ≤ L) (j : Nat) (u : Value) : RX lo w (W.setCell ⟨L, j, none⟩ u) L X ov sv wv vb d left bb (cs.set j u) := by
  have hd := h.drum
  exact ⟨h.blk.set j u, ⟨hd.blk.other (h.blk.apart hd.blk (by decide)).symm j u, Go.ownsRow_setCell_other (a := (⟨L, j, none⟩ : Addr)) hd.old (h.blk.apartO hd.old (by decide)) u, Go.ownsRow_setCell_other (a := (⟨L, j, none⟩ : Addr)) hd.s (h.blk.apartO hd.s (by decide)) u, Go.ownsRow_setCell_other (a := (⟨L, j, none⟩ : Addr)) hd.w (h.blk.apartO hd.w (by decide)) u, hd.ne, hd.ge, hd.ok, hd.left⟩, h.ch.set h.blk hg j u, Go.ownsRow_setCell_other (a := (⟨L, j, none⟩ : Addr)) h.own (h.blk.apartO h.own (by decide)) u⟩
def RLTo (lo L X : Nat) (w : World) (r : Int) (l : PL) (d : PD) (e : Ending) (w' : World) : Prop := ∃ bv ov sv wv left, e = .returned (.int .i64 r) ∧ RLAt lo w' L X bv l ∧ RDAt lo w' X ov sv wv d left ∧ ChRL lo w w'
theorem own_ne {W : World} {B e k n q : Nat} {v : Value} {xs : List Value} (h : W.ownsRow B e k v n xs) (hq : q < B) : v.ownBlock ≠ some q := by
  rcases h.2 with ⟨rfl, _⟩ | ⟨g, cap, cur, rfl, hB, _⟩
  · simp [Value.ownBlock]
  · simp [Value.ownBlock]; omega
theorem own_ne' {W : World} {B e k n q : Nat} {v : Value} {xs : List Value} (h : W.ownsRow B e k v n xs) (hq : W.heap.size ≤ q) : v.ownBlock ≠ some q := fun hv => by
  have := h.lt q hv
  omega
section
variable {lo L X : Nat} {bv ov sv wv : Value} {l : PL} {d : PD} {left : Int} {w : World}
set_option maxRecDepth 100000 in
set_option maxHeartbeats 8000000 in
theorem lay_c (hl : RLAt lo w L X bv l) (h : RDAt lo w X ov sv wv d left) (hn : 4 ≤ d.n) (hno : 0 ≤ l.head.number) (hno2 : l.head.number ≤ 9223372036854775000) (k : Nat) (hk : k ≤ 1) (b p : List UInt8) (vb vp : Value) (hb : RowAt w vb (bytesV b)) (hp : RowAt w vp (bytesV p)) (hbl : b.length ≤ 64 * bankP d) (hpl : p.length ≤ 17592186000000) (count : Int)
    (hwl : d.wait.length ≤ 1099511000000) : Calls Tryd.prog 47 #[.pointer (some ⟨L, 0, none⟩), vb, .int .i64 (k : Int), vp, .int .i64 count] w (RLTo lo L X w (laysP l d k b p count).1 (laysP l d k b p count).2.1 (laysP l d k b p count).2.2) := by
  have H := Lib.hid h
  have HL := Lib.hid hl
  have hbq : bankP d ≤ 99 := by unfold bankP; have := h.ok.n; omega
  have HVB : Hid (∀ W, Below w.heap.size w W → RowAt W vb (bytesV b)) := Lib.hid (fun W hb' => hb.below hb')
  have hcv : ∀ W, Below w.heap.size w W → (convert 30 9 vp).run Tryd.prog W = .ok (.string ⟨p.toArray⟩) W := fun W hb' => (hp.below hb').toStr 30 9 5 Tryd.underlying30 Tryd.underlying5 Tryd.underlying9
  have HCV := Lib.hid hcv
  have HLn := hb.lenRun elemU 3
  rw [bytesV_length] at HLn
  have HST : Hid (∀ W, Calls Tryd.prog 59 #[.string ⟨p.toArray⟩] W (OwnB W (lebStr p))) := Lib.hid (fun W => RStr_c p W (by omega))
  have HLS : Hid ((lebStr p).length ≤ 17592186000000 + 20) := Lib.hid (by unfold lebStr; rw [List.length_append]; have := lebInt_len (p.length : Int) (by omega) (by omega); omega)
  have hcw := hcv w.drew (Below.refl _ w).drew
  clear h hb hp hl hcv
  obtain ⟨⟨n1, k1, s1⟩, lb, cnt, dead⟩ := l
  simp only at hno hno2
  have l6 := HL.out.blk.blk.cell 6 _ rfl
  simp only at l6
  cases dead
  case true =>
    go_enter Tryd.func47, Tryd.ntmps47
    go_wp2_with fail
    go_ret
    unfold laysP
    rw [if_pos (by simp)]
    exact ⟨bv, ov, sv, wv, left, rfl, HL.out, H.out, ChRL.refl _ _⟩
  case false =>
    obtain ⟨ls, hls⟩ : ∃ ls, lebStr p = ls := ⟨_, rfl⟩
    obtain ⟨bb, hbb⟩ : ∃ bb, b ++ ls = bb := ⟨_, rfl⟩
    have HLP : Hid (laysP ⟨⟨n1, k1, s1⟩, lb, cnt, false⟩ d k b p count = if 64 * bankP d < bb.length ∨ 1099511627776 ≤ n1 then (3, ⟨⟨n1, k1, s1⟩, lb, cnt, false⟩, d) else if (writesP d (n1 + 1) k bb b.length).1 = 0 then (0, ⟨⟨n1 + 1, k, bb.length⟩, bb, count, false⟩, (writesP d (n1 + 1) k bb b.length).2) else ((writesP d (n1 + 1) k bb b.length).1, ⟨⟨n1, k1, s1⟩, lb, cnt, true⟩, (writesP d (n1 + 1) k bb b.length).2)) := Lib.hid (by unfold laysP; rw [hls, hbb, if_neg (by simp)])
    rw [hls] at HST HLS
    have HW : Hid (Below w.heap.size w w.drew) := Lib.hid (Below.refl _ w).drew
    have HBB := Lib.hid hbb
    have HBL := Lib.hid (show b.length ≤ bb.length from by rw [← hbb, List.length_append]; omega)
    clear hbb hls
    go_enter Tryd.func47, Tryd.ntmps47
    go_wp2_with fail
    refine wp_region_last2 (n := 6) (S := (fun W => (convert 30 9 vp).run Tryd.prog W = .ok (.string ⟨p.toArray⟩) W)) (by kernel_rfl) (by kernel_rfl) (by kernel_rfl) (by kernel_rfl) ?_ (fun hHeld => ?_)
    · (first | exact hcw | exact HCV.out _ HW.out)
    (refine wpAnyH_take (i := 1) (oi := R_RLay3_1) (v := ?_) rfl (by kernel_rfl) (by kernel_rfl) (by kernel_rfl) (fun _ _ _ h => h) (Or.inl ⟨by rfl, ?_⟩) (by assumption) ?_; rotate_left; next => (intro w hSw; (try dsimp only at hSw); (try delta R_RLay3_1); go_simp; try with_reducible rfl))
    (try simp only [Act.put, List.setIfInBounds_toArray, List.set_cons_zero, List.set_cons_succ])
    (refine wpAnyH_take (i := 3) (oi := R_RLay3_3) (v := ?_) rfl (by kernel_rfl) (by kernel_rfl) (by kernel_rfl) (fun _ _ _ h => h) (Or.inl ⟨by rfl, ?_⟩) (by assumption) ?_; rotate_left; next => (intro w hSw; (try dsimp only at hSw); (try delta R_RLay3_3); go_simp; try with_reducible rfl))
    (try simp only [Act.put, List.setIfInBounds_toArray, List.set_cons_zero, List.set_cons_succ])
    (refine wpAnyH_take (i := 4) (oi := R_RLay3_4) (v := ?_) rfl (by kernel_rfl) (by kernel_rfl) (by kernel_rfl) (fun _ _ _ h => h) (Or.inl ⟨by rfl, ?_⟩) (by assumption) ?_; rotate_left; next => (intro w hSw; (try dsimp only at hSw); (try delta R_RLay3_4); go_simp; try with_reducible rfl))
    (try simp only [Act.put, List.setIfInBounds_toArray, List.set_cons_zero, List.set_cons_succ])
    refine wpAnyH_ready (rs := [0]) (by kernel_rfl) (by simp) ?_
    refine AllReadyH.cons (o := R_RLay3_0) rfl (fun K hK => ?_) AllReadyH.nil
    (try delta R_RLay3_0)
    go_simp
    (have hWq := HW.out; have HO := Lib.hid (own_new (e := 5) hWq (Nat.le_refl _)); have HW := Lib.hid (hWq.alloc hWq.size (.cells #[] 5)); clear hWq)
    refine hK.out _ _ ?_ (fun hHeld => ?_)
    · (first | exact hcw | exact HCV.out _ HW.out)
    clear hK K
    (try simp only [Act.put, List.setIfInBounds_toArray, List.set_cons_zero, List.set_cons_succ])
    refine wpAnyH_ready (rs := [2]) (by kernel_rfl) (by simp) ?_
    refine AllReadyH.cons (o := R_RLay3_2) rfl (fun K hK => ?_) AllReadyH.nil
    (try delta R_RLay3_2)
    (refine step_app0 elemB rfl _ _ rfl w.heap.size _ (by rfl) HO.out vb (bytesV b) b.length (bytesV_length b) rfl (HVB.out _ HW.out) (bytesV_one b) (by omega) (by omega) HW.out.size ?_; intro va1 vc1 w1 hown hgr; have HW := Lib.hid (HW.out.grown hgr HW.out.size (fun q hq => (HO.out.lt q hq).1)); have HO := Lib.hid hown; clear hown hgr)
    refine hK.out _ _ ?_ (fun hHeld => ?_)
    · (first | exact hcw | exact HCV.out _ HW.out)
    clear hK K
    (try simp only [Act.put, List.setIfInBounds_toArray, List.set_cons_zero, List.set_cons_succ])
    refine wpAnyH_ready (rs := [5]) (by kernel_rfl) (by simp) ?_
    refine AllReadyH.cons (o := R_RLay3_5) rfl (fun K hK => ?_) AllReadyH.nil
    (try delta R_RLay3_5)
    (go_simp; (with_reducible refine (HST.out _).mono ?_); rintro e w5 ⟨vr, rfl, hown5, hb5⟩; have HO := Lib.hid (own_belowE HO.out hb5); have HR := Lib.hid (RowAt.ofOwns hown5); have HW := Lib.hid (HW.out.trans (hb5.mono HW.out.size)); clear hown5 hb5; (try go_wp2_with fail))
    refine hK.out _ _ ?_ (fun hHeld => ?_)
    · (first | exact hcw | exact HCV.out _ HW.out)
    clear hK K
    (try simp only [Act.put, List.setIfInBounds_toArray, List.set_cons_zero, List.set_cons_succ])
    refine wpAnyH_done (by kernel_rfl) ?_ _
    (refine last_do (o := { dst := some 24, op := Op.call { callee := Callee.builtin Builtin.append, args := #[Operand.tmp 20, Operand.tmp 23], argTypes := #[30, 30] }, type := 30, pos := "redo.go:97", after := #[{ on := 2, ground := Ground.data }, { on := 5, ground := Ground.data }, { on := 5, ground := Ground.chain }], guard := none }) rfl (fun K hK => ?_); refine step_appRow elemB rfl _ _ rfl w.heap.size b.length _ (bytesV b) (by rfl) HO.out _ (bytesV ls) (by rfl) HR.out (bytesV_one ls) (by have := HLS.out; rw [bytesV_length]; omega) (by have := HLS.out; rw [bytesV_length]; omega) HW.out.size ?_; intro va2 vc2 w7 hown hgr; have HW := Lib.hid (HW.out.grown hgr HW.out.size (fun q hq => (HO.out.lt q hq).1)); rw [show b.length + (bytesV ls).length = bb.length from (by rw [bytesV_length, ← HBB.out, List.length_append]), ← bytesV_append, HBB.out] at hown; rw [show b.length + (bytesV ls).length = bb.length from (by rw [bytesV_length, ← HBB.out, List.length_append])]; have HO := Lib.hid hown; clear hown hgr; refine hK.out _ _ ?_; clear hK K; refine last_do (o := { dst := some 11, op := Op.assign (Operand.tmp 24), type := 30, pos := "redo.go:97", after := #[{ on := 6, ground := Ground.data }, { on := 6, ground := Ground.chain }, { on := 0, ground := Ground.phase }, { on := 1, ground := Ground.phase }, { on := 2, ground := Ground.phase }, { on := 3, ground := Ground.phase }, { on := 4, ground := Ground.phase }, { on := 5, ground := Ground.phase }, { on := 6, ground := Ground.phase }], guard := none }) rfl (fun K hK => ?_); go_simp; refine hK.out _ _ ?_; clear hK K)
    have H1 := Lib.hid (H.out.below HW.out)
    have HL1 := Lib.hid (HL.out.below HW.out)
    have HO1 := Lib.hid (own_mono (B' := lo) HO.out (by have := H.out.blk.lt; have := H.out.ge; omega))
    have HC1 := Lib.hid (ChRL.ofBelow (lo := lo) HW.out)
    have l0 := HL1.out.blk.blk.cell 0 _ rfl
    have l1 := HL1.out.blk.blk.cell 1 _ rfl
    have HSC := Lib.hid (sectors_c H1.out (by omega))
    simp only at l1
    clear HO HST HVB HCV hcw HLS l6
    by_cases hbig : 64 * bankP d < bb.length
    · have hb2 : (bankP d : Int) * 64 < (bb.length : Int) := by omega
      go_wp2_with (first | (go_at_call 44; (with_reducible refine (HSC.out).mono ?_); rintro e w' ⟨rfl, rfl⟩) | fail)
      go_ret
      rw [HLP.out, if_pos (.inl hbig)]
      exact ⟨bv, ov, sv, wv, left, rfl, HL1.out, H1.out, HC1.out⟩
    have hb2 : ¬ (bankP d : Int) * 64 < (bb.length : Int) := by omega
    by_cases hmost : 1099511627776 ≤ n1
    · go_wp2_with (first | (go_at_call 44; (with_reducible refine (HSC.out).mono ?_); rintro e w' ⟨rfl, rfl⟩) | fail)
      go_ret
      rw [HLP.out, if_pos (.inr hmost)]
      exact ⟨bv, ov, sv, wv, left, rfl, HL1.out, H1.out, HC1.out⟩
    have HIF : Hid (¬ (64 * bankP d < bb.length ∨ 1099511627776 ≤ n1)) := Lib.hid (by omega)
    go_wp2_with (first | (go_at_call 44; (with_reducible refine (HSC.out).mono ?_); rintro e w' ⟨rfl, rfl⟩) | fail)
    have HBo : Hid (Below w7.heap.size w7 (w7.alloc (.cells #[.int .i64 (n1 + 1), .int .i64 (k : Int), .int .i64 (bb.length : Int)] 57))) := Lib.hid ((Below.refl _ w7).alloc (Nat.le_refl _) _)
    have HX := Lib.hid (BlkT.new w7 [.int .i64 (n1 + 1), .int .i64 (k : Int), .int .i64 (bb.length : Int)] 57)
    have H2 := Lib.hid (H1.out.below HBo.out)
    have HL2 := Lib.hid (HL1.out.below HBo.out)
    have HO2 := Lib.hid (own_belowE HO1.out HBo.out)
    have HWR := put_c H2.out hn L _ HL2.out.blk (n1 + 1) (by omega) (by omega) k hk bb (by omega) (.slice va2 bb.length vc2) (fun w' hc => RowAt.ofOwns (own_chr HO2.out hc (by decide))) b.length HBL.out hwl
    obtain ⟨wp, hwp⟩ : ∃ wp, writesP d (n1 + 1) k bb b.length = wp := ⟨_, rfl⟩
    rw [hwp] at HWR HLP
    rw [if_neg HIF.out] at HLP
    obtain ⟨e2, d2⟩ := wp
    have HWP := Lib.hid hwp
    have HW2 := Lib.hid HWR
    clear HWR hwp
    simp only at HW2 HLP
    with_reducible refine (HW2.out).mono ?_
    rintro e w3 ⟨o3, s3, v3, le3, rfl, hd3, hc3⟩
    have HD3 := Lib.hid hd3
    have HC3 := Lib.hid hc3
    have HX3 := Lib.hid (HX.out.chr hc3 (by decide))
    have HL3 := Lib.hid (HL2.out.chr hc3)
    have HO3 := Lib.hid (own_chr HO2.out hc3 (by decide))
    have c0 := HX3.out.blk.cell 0 _ rfl
    have c1 := HX3.out.blk.cell 1 _ rfl
    have c2 := HX3.out.blk.cell 2 _ rfl
    have f1 := HL3.out.blk.blk.thaw 1
    have f2 := HL3.out.blk.blk.thaw 2
    have f3 := HL3.out.blk.blk.thaw 3
    have f4 := HL3.out.blk.blk.thaw 4
    have f5 := HL3.out.blk.blk.thaw 5
    have f6 := HL3.out.blk.blk.thaw 6
    have l1 := HL3.out.blk.blk.cell 1 _ rfl
    have l2 := HL3.out.blk.blk.cell 2 _ rfl
    have l3 := HL3.out.blk.blk.cell 3 _ rfl
    have l4 := HL3.out.blk.blk.cell 4 _ rfl
    have l5 := HL3.out.blk.blk.cell 5 _ rfl
    have l6 := HL3.out.blk.blk.cell 6 _ rfl
    have hge := HL3.out.ge
    have HQ : Hid (RX lo w w3 L X o3 s3 v3 (.slice va2 bb.length vc2) d2 le3 bb (logCells X ⟨⟨n1, k1, s1⟩, lb, cnt, false⟩ bv)) := Lib.hid ⟨HL3.out.blk, hd3, (HC1.out.trans (ChRL.ofBelow HBo.out)).trans (ChRL.ofChR hc3), HO3.out⟩
    clear hd3 hc3
    by_cases he : e2 = 0
    · subst he
      rw [if_pos rfl] at HLP
      go_wp2_with fail
      go_ret
      rw [HLP.out]
      have q := HQ.out
      have q5 := ((((q.set hge 1 (.int .i64 (n1 + 1))).set hge 2 (.int .i64 (k : Int))).set hge 3 (.int .i64 (bb.length : Int))).set hge 4 (.slice va2 bb.length vc2)).set hge 5 (.int .i64 count)
      exact ⟨.slice va2 bb.length vc2, o3, s3, v3, le3, rfl, ⟨q5.blk, q5.own, hge⟩, q5.drum, q5.ch⟩
    · rw [if_neg he] at HLP
      go_wp2_with fail
      go_ret
      rw [HLP.out]
      have q6 := HQ.out.set hge 6 (.bool true)
      have qo := Go.ownsRow_setCell_other (a := (⟨L, 6, none⟩ : Addr)) HL3.out.own (HL3.out.blk.apartO HL3.out.own (by decide)) (.bool true)
      exact ⟨bv, o3, s3, v3, le3, rfl, ⟨q6.blk, qo, hge⟩, q6.drum, q6.ch⟩
end
end Go.Proofs.YtlllbacjdjllbaaDoor
