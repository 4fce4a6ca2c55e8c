/- Contracts: Fits of package shape and of the reference. -/
import Derived.Test.YtlgglkkafcbikaaDoorNode
import Derived.Test.YtlgglkkafcbikaaDoorVal8
namespace Go.Proofs.YtlgglkkafcbikaaDoor
open Go Go.Proofs Go.RowKit
set_option linter.unusedVariables false
set_option linter.unusedSimpArgs false

def inB (v lo hi : V5) : Bool := decide (0 ≤ cmpV v lo) && decide (cmpV v hi ≤ 0)
def fitsB (x : PN) (ss : List (List UInt8)) (ps : List PR) : Bool := (x.l.isEmpty || ss.any (fun s => s == x.l)) && (x.key.isEmpty || match getP ps x.key with | some v => inB v x.lo x.hi | none => false)
theorem getP_fl {ps : List PR} {k : List UInt8} {v : V5} (h : getP ps k = some v) (hf : ∀ p ∈ ps, p.v.f < W64) : v.f < W64 := by
  unfold getP at h
  cases hc : ps.find? (fun p => p.key == k) with
  | none => rw [hc] at h; cases h
  | some p => rw [hc] at h; cases h; exact hf p (List.mem_of_find?_eq_some hc)
set_option maxRecDepth 100000 in
set_option maxHeartbeats 8000000 in
theorem Fits_c (x : PN) (ss : List (List UInt8)) (ps : List PR) (sv pv : Value) (w : World) (hs : RowAt w sv (ss.map strV)) (hp : RowK 6 w pv (ps.map PR.cells)) (hf : ∀ p ∈ ps, p.v.f < W64) (hlo : x.lo.f < W64) (hhi : x.hi.f < W64) :
    Calls Tryd.prog 18 #[x.v, .agg #[sv, pv]] w (Gives w (.bool (fitsB x ss ps))) := by
  let F : World → Prop := fun W => (Blk W w.heap.size x.cells ∧ Blk W (w.heap.size + 1) [sv, pv]) ∧ RowAt W sv (ss.map strV) ∧ RowK 6 W pv (ps.map PR.cells)
  have hst : ∀ X Y : World, F X → Below X.heap.size X Y → F Y := fun X Y h hb => ⟨⟨h.1.1.below hb, h.1.2.below hb⟩, h.2.1.below hb, h.2.2.below hb⟩
  have hF0 : F ((w.alloc (.cells x.cells.toArray 48)).alloc (.cells #[sv, pv] 42)) :=
    ⟨⟨(Blk.new w x.cells _).alloc _, by have := Blk.new (w.alloc (.cells x.cells.toArray 48)) [sv, pv] 42; simpa using this⟩, (hs.alloc _).alloc _, (hp.alloc _).alloc _⟩
  have H0 := Lib.hid (Keep.mk (w0 := w) hF0 (((Below.refl _ w).alloc (Nat.le_refl _) _).alloc (by simp) _) (fun y hb => hst _ y hF0 hb))
  obtain ⟨sa, sc, hsv⟩ := hs.shape
  obtain ⟨pa, pc, hpv, _⟩ := hp.shape
  have HH : Hid (∀ W, F W → Calls Tryd.prog 32 #[.agg #[sv, pv], .string ⟨x.l.toArray⟩] W (Gives W (.bool (ss.any (fun s => s == x.l))))) := Lib.hid (fun W h => Has_c ss sv pv x.l W h.2.1 ⟨_, _, _, hpv⟩)
  have HG : Hid (∀ W, F W → Calls Tryd.prog 33 #[.agg #[sv, pv], .string ⟨x.key.toArray⟩] W (Gives W (getV ps x.key))) := Lib.hid (fun W h => Get_c ps sv pv x.key W h.2.2 ⟨_, _, _, hsv⟩)
  have HI : Hid (∀ (v : V5) W, v.f < W64 → Calls Tryd.prog 34 #[v.v, x.lo.v, x.hi.v] W (Gives W (.bool (inB v x.lo x.hi)))) := Lib.hid (fun v W hv => VIn_c v x.lo x.hi W hv hlo hhi)
  have HFL := Lib.hid (fun v => @getP_fl ps x.key v)
  have HF := Lib.hid hf
  have HV : Hid (fitsB x ss ps = ((x.l.isEmpty || ss.any (fun s => s == x.l)) && (x.key.isEmpty || match getP ps x.key with | some v => inB v x.lo x.hi | none => false))) := Lib.hid rfl
  have hFF : ∀ W, F W → Blk W w.heap.size x.cells ∧ (W.cell? ⟨w.heap.size + 1, 0, none⟩ = some sv ∧ W.cell? ⟨w.heap.size + 1, 1, none⟩ = some pv) := fun W h => ⟨h.1.1, h.1.2.cell 0 _ rfl, h.1.2.cell 1 _ rfl⟩
  have HFF := Lib.hid hFF
  clear hs hp hf hlo hhi hst hF0 hFF
  subst hsv hpv
  generalize F = F' at *
  clear F
  generalize fitsB x ss ps = r at *
  generalize ss.any (fun s => s == x.l) = hb at *
  generalize (ss.map strV).length = n1 at *
  generalize (ps.map PR.cells).length = n2 at *
  obtain ⟨l, key, ⟨k, b, n, f, t⟩, ⟨k', b', n', f', t'⟩⟩ := x
  unfold PN.v
  unfold PN.cells at H0
  dsimp only at HH HG HI HV HFL H0 HFF
  cases q0 : l.isEmpty
  case false =>
    cases hb
    case false =>
      have HW : Hid (r = false) := Lib.hid (by rw [HV.out]; simp [q0])
      go_enter Tryd.func18, Tryd.ntmps18
      go_wp2_with (first | (go_at_call 32; (with_reducible refine (HH.out _ H0.out.facts).mono ?_); rintro e wq ⟨rfl, hq⟩; have HT := Lib.hid (Keep.on (Hid.out (by assumption)) hq); clear hq; have hk := PN.facts (HFF.out _ HT.out.facts).1; have hm := (HFF.out _ HT.out.facts).2))
      go_ret
      exact ⟨by rw [HW.out]; rfl, HT.out.below⟩
    cases q1 : key.isEmpty
    case true =>
      have HW : Hid (r = true) := Lib.hid (by rw [HV.out]; simp [q0, q1])
      go_enter Tryd.func18, Tryd.ntmps18
      go_wp2_with (first | (go_at_call 32; (with_reducible refine (HH.out _ H0.out.facts).mono ?_); rintro e wq ⟨rfl, hq⟩; have HT := Lib.hid (Keep.on (Hid.out (by assumption)) hq); clear hq; have hk := PN.facts (HFF.out _ HT.out.facts).1; have hm := (HFF.out _ HT.out.facts).2))
      go_ret
      exact ⟨by rw [HW.out]; rfl, HT.out.below⟩
    cases hg : getP ps key with
    | none =>
      have HW : Hid (r = false) := Lib.hid (by rw [HV.out]; simp [q0, q1, hg])
      have hgv : getV ps key = .tuple #[zV.v, .bool false] := by unfold getV; rw [hg]
      rw [hgv] at HG
      unfold zV V5.v at HG
      dsimp only at HG
      clear hg hgv
      go_enter Tryd.func18, Tryd.ntmps18
      go_wp2_with (first | (go_at_call 32; (with_reducible refine (HH.out _ H0.out.facts).mono ?_); rintro e wq ⟨rfl, hq⟩; have HT := Lib.hid (Keep.on (Hid.out (by assumption)) hq); clear hq; have hk := PN.facts (HFF.out _ HT.out.facts).1; have hm := (HFF.out _ HT.out.facts).2) | (go_at_call 33; (with_reducible refine (HG.out _ HT.out.facts).mono ?_); rintro e wq ⟨rfl, hq⟩; have HT := Lib.hid (Keep.on (Hid.out (by assumption)) hq); clear hq; have hk := PN.facts (HFF.out _ HT.out.facts).1; have hm := (HFF.out _ HT.out.facts).2; have hk1 := fun o => PN.facts ((HFF.out _ HT.out.facts).1.alloc o)) | (go_at_call 33; (with_reducible refine (HG.out _ H0.out.facts).mono ?_); rintro e wq ⟨rfl, hq⟩; have HT := Lib.hid (Keep.on (Hid.out (by assumption)) hq); clear hq; have hk := PN.facts (HFF.out _ HT.out.facts).1; have hm := (HFF.out _ HT.out.facts).2; have hk1 := fun o => PN.facts ((HFF.out _ HT.out.facts).1.alloc o)))
      go_ret
      exact ⟨by rw [HW.out]; rfl, HT.out.below.alloc HT.out.below.size _⟩
    | some vv =>
      have HW : Hid (r = inB vv ⟨k, b, n, f, t⟩ ⟨k', b', n', f', t'⟩) := Lib.hid (by rw [HV.out]; simp [q0, q1, hg])
      have hgv : getV ps key = .tuple #[vv.v, .bool true] := by unfold getV; rw [hg]
      have HIv := Lib.hid (fun W => HI.out vv W (HFL.out vv hg HF.out))
      rw [hgv] at HG
      clear hg hgv HI
      generalize inB vv ⟨k, b, n, f, t⟩ ⟨k', b', n', f', t'⟩ = ib at *
      obtain ⟨k2, b2, n2, f2, t2⟩ := vv
      unfold V5.v at HG HIv
      dsimp only at HG HIv
      go_enter Tryd.func18, Tryd.ntmps18
      go_wp2_with (first | (go_at_call 32; (with_reducible refine (HH.out _ H0.out.facts).mono ?_); rintro e wq ⟨rfl, hq⟩; have HT := Lib.hid (Keep.on (Hid.out (by assumption)) hq); clear hq; have hk := PN.facts (HFF.out _ HT.out.facts).1; have hm := (HFF.out _ HT.out.facts).2) | (go_at_call 33; (with_reducible refine (HG.out _ HT.out.facts).mono ?_); rintro e wq ⟨rfl, hq⟩; have HT := Lib.hid (Keep.on (Hid.out (by assumption)) hq); clear hq; have hk := PN.facts (HFF.out _ HT.out.facts).1; have hm := (HFF.out _ HT.out.facts).2; have hk1 := fun o => PN.facts ((HFF.out _ HT.out.facts).1.alloc o)) | (go_at_call 33; (with_reducible refine (HG.out _ H0.out.facts).mono ?_); rintro e wq ⟨rfl, hq⟩; have HT := Lib.hid (Keep.on (Hid.out (by assumption)) hq); clear hq; have hk := PN.facts (HFF.out _ HT.out.facts).1; have hm := (HFF.out _ HT.out.facts).2; have hk1 := fun o => PN.facts ((HFF.out _ HT.out.facts).1.alloc o)) | (go_at_call 34; (with_reducible refine (HIv.out _).mono ?_); rintro e wq ⟨rfl, hq⟩))
      go_ret
      exact ⟨by rw [HW.out]; rfl, (HT.out.below.alloc HT.out.below.size _).trans (hq.mono (by have := HT.out.below.size; simp; omega))⟩
  case true =>
    cases q1 : key.isEmpty
    case true =>
      have HW : Hid (r = true) := Lib.hid (by rw [HV.out]; simp [q0, q1])
      go_enter Tryd.func18, Tryd.ntmps18
      go_wp2_with (first | (go_at_call 32; (with_reducible refine (HH.out _ H0.out.facts).mono ?_); rintro e wq ⟨rfl, hq⟩; have HT := Lib.hid (Keep.on (Hid.out (by assumption)) hq); clear hq; have hk := PN.facts (HFF.out _ HT.out.facts).1; have hm := (HFF.out _ HT.out.facts).2))
      go_ret
      exact ⟨by rw [HW.out]; rfl, H0.out.below⟩
    cases hg : getP ps key with
    | none =>
      have HW : Hid (r = false) := Lib.hid (by rw [HV.out]; simp [q0, q1, hg])
      have hgv : getV ps key = .tuple #[zV.v, .bool false] := by unfold getV; rw [hg]
      rw [hgv] at HG
      unfold zV V5.v at HG
      dsimp only at HG
      clear hg hgv
      go_enter Tryd.func18, Tryd.ntmps18
      go_wp2_with (first | (go_at_call 32; (with_reducible refine (HH.out _ H0.out.facts).mono ?_); rintro e wq ⟨rfl, hq⟩; have HT := Lib.hid (Keep.on (Hid.out (by assumption)) hq); clear hq; have hk := PN.facts (HFF.out _ HT.out.facts).1; have hm := (HFF.out _ HT.out.facts).2) | (go_at_call 33; (with_reducible refine (HG.out _ HT.out.facts).mono ?_); rintro e wq ⟨rfl, hq⟩; have HT := Lib.hid (Keep.on (Hid.out (by assumption)) hq); clear hq; have hk := PN.facts (HFF.out _ HT.out.facts).1; have hm := (HFF.out _ HT.out.facts).2; have hk1 := fun o => PN.facts ((HFF.out _ HT.out.facts).1.alloc o)) | (go_at_call 33; (with_reducible refine (HG.out _ H0.out.facts).mono ?_); rintro e wq ⟨rfl, hq⟩; have HT := Lib.hid (Keep.on (Hid.out (by assumption)) hq); clear hq; have hk := PN.facts (HFF.out _ HT.out.facts).1; have hm := (HFF.out _ HT.out.facts).2; have hk1 := fun o => PN.facts ((HFF.out _ HT.out.facts).1.alloc o)))
      go_ret
      exact ⟨by rw [HW.out]; rfl, HT.out.below.alloc HT.out.below.size _⟩
    | some vv =>
      have HW : Hid (r = inB vv ⟨k, b, n, f, t⟩ ⟨k', b', n', f', t'⟩) := Lib.hid (by rw [HV.out]; simp [q0, q1, hg])
      have hgv : getV ps key = .tuple #[vv.v, .bool true] := by unfold getV; rw [hg]
      have HIv := Lib.hid (fun W => HI.out vv W (HFL.out vv hg HF.out))
      rw [hgv] at HG
      clear hg hgv HI
      generalize inB vv ⟨k, b, n, f, t⟩ ⟨k', b', n', f', t'⟩ = ib at *
      obtain ⟨k2, b2, n2, f2, t2⟩ := vv
      unfold V5.v at HG HIv
      dsimp only at HG HIv
      go_enter Tryd.func18, Tryd.ntmps18
      go_wp2_with (first | (go_at_call 32; (with_reducible refine (HH.out _ H0.out.facts).mono ?_); rintro e wq ⟨rfl, hq⟩; have HT := Lib.hid (Keep.on (Hid.out (by assumption)) hq); clear hq; have hk := PN.facts (HFF.out _ HT.out.facts).1; have hm := (HFF.out _ HT.out.facts).2) | (go_at_call 33; (with_reducible refine (HG.out _ HT.out.facts).mono ?_); rintro e wq ⟨rfl, hq⟩; have HT := Lib.hid (Keep.on (Hid.out (by assumption)) hq); clear hq; have hk := PN.facts (HFF.out _ HT.out.facts).1; have hm := (HFF.out _ HT.out.facts).2; have hk1 := fun o => PN.facts ((HFF.out _ HT.out.facts).1.alloc o)) | (go_at_call 33; (with_reducible refine (HG.out _ H0.out.facts).mono ?_); rintro e wq ⟨rfl, hq⟩; have HT := Lib.hid (Keep.on (Hid.out (by assumption)) hq); clear hq; have hk := PN.facts (HFF.out _ HT.out.facts).1; have hm := (HFF.out _ HT.out.facts).2; have hk1 := fun o => PN.facts ((HFF.out _ HT.out.facts).1.alloc o)) | (go_at_call 34; (with_reducible refine (HIv.out _).mono ?_); rintro e wq ⟨rfl, hq⟩))
      go_ret
      exact ⟨by rw [HW.out]; rfl, (HT.out.below.alloc HT.out.below.size _).trans (hq.mono (by have := HT.out.below.size; simp; omega))⟩
set_option maxRecDepth 100000 in
set_option maxHeartbeats 8000000 in
theorem RFits_c (x : PN) (ss : List (List UInt8)) (ps : List PR) (sv pv : Value) (w : World) (hs : RowAt w sv (ss.map strV)) (hp : RowK 6 w pv (ps.map PR.cells)) (hf : ∀ p ∈ ps, p.v.f < W64) (hlo : x.lo.f < W64) (hhi : x.hi.f < W64) :
    Calls Tryd.prog 19 #[x.v, .agg #[sv, pv]] w (Gives w (.bool (fitsB x ss ps))) := by
  let F : World → Prop := fun W => (Blk W w.heap.size x.cells ∧ Blk W (w.heap.size + 1) [sv, pv]) ∧ RowAt W sv (ss.map strV) ∧ RowK 6 W pv (ps.map PR.cells)
  have hst : ∀ X Y : World, F X → Below X.heap.size X Y → F Y := fun X Y h hb => ⟨⟨h.1.1.below hb, h.1.2.below hb⟩, h.2.1.below hb, h.2.2.below hb⟩
  have hF0 : F ((w.alloc (.cells x.cells.toArray 48)).alloc (.cells #[sv, pv] 42)) :=
    ⟨⟨(Blk.new w x.cells _).alloc _, by have := Blk.new (w.alloc (.cells x.cells.toArray 48)) [sv, pv] 42; simpa using this⟩, (hs.alloc _).alloc _, (hp.alloc _).alloc _⟩
  have H0 := Lib.hid (Keep.mk (w0 := w) hF0 (((Below.refl _ w).alloc (Nat.le_refl _) _).alloc (by simp) _) (fun y hb => hst _ y hF0 hb))
  obtain ⟨sa, sc, hsv⟩ := hs.shape
  obtain ⟨pa, pc, hpv, _⟩ := hp.shape
  have HH : Hid (∀ W, F W → Calls Tryd.prog 35 #[.agg #[sv, pv], .string ⟨x.l.toArray⟩] W (Gives W (.bool (ss.any (fun s => s == x.l))))) := Lib.hid (fun W h => RHas_c ss sv pv x.l W h.2.1 ⟨_, _, _, hpv⟩)
  have HG : Hid (∀ W, F W → Calls Tryd.prog 36 #[.agg #[sv, pv], .string ⟨x.key.toArray⟩] W (Gives W (getV ps x.key))) := Lib.hid (fun W h => RGet_c ps sv pv x.key W h.2.2 ⟨_, _, _, hsv⟩)
  have HI : Hid (∀ (v : V5) W, v.f < W64 → Calls Tryd.prog 22 #[v.v, x.lo.v, x.hi.v] W (Gives W (.bool (inB v x.lo x.hi)))) := Lib.hid (fun v W hv => XIn_c v x.lo x.hi W hv hlo hhi)
  have HFL := Lib.hid (fun v => @getP_fl ps x.key v)
  have HF := Lib.hid hf
  have HV : Hid (fitsB x ss ps = ((x.l.isEmpty || ss.any (fun s => s == x.l)) && (x.key.isEmpty || match getP ps x.key with | some v => inB v x.lo x.hi | none => false))) := Lib.hid rfl
  have hFF : ∀ W, F W → Blk W w.heap.size x.cells ∧ (W.cell? ⟨w.heap.size + 1, 0, none⟩ = some sv ∧ W.cell? ⟨w.heap.size + 1, 1, none⟩ = some pv) := fun W h => ⟨h.1.1, h.1.2.cell 0 _ rfl, h.1.2.cell 1 _ rfl⟩
  have HFF := Lib.hid hFF
  clear hs hp hf hlo hhi hst hF0 hFF
  subst hsv hpv
  generalize F = F' at *
  clear F
  generalize fitsB x ss ps = r at *
  generalize ss.any (fun s => s == x.l) = hb at *
  generalize (ss.map strV).length = n1 at *
  generalize (ps.map PR.cells).length = n2 at *
  obtain ⟨l, key, ⟨k, b, n, f, t⟩, ⟨k', b', n', f', t'⟩⟩ := x
  unfold PN.v
  unfold PN.cells at H0
  dsimp only at HH HG HI HV HFL H0 HFF
  cases q0 : l.isEmpty
  case false =>
    cases hb
    case false =>
      have HW : Hid (r = false) := Lib.hid (by rw [HV.out]; simp [q0])
      go_enter Tryd.func19, Tryd.ntmps19
      go_wp2_with (first | (go_at_call 35; (with_reducible refine (HH.out _ H0.out.facts).mono ?_); rintro e wq ⟨rfl, hq⟩; have HT := Lib.hid (Keep.on (Hid.out (by assumption)) hq); clear hq; have hk := PN.facts (HFF.out _ HT.out.facts).1; have hm := (HFF.out _ HT.out.facts).2))
      go_ret
      exact ⟨by rw [HW.out]; rfl, HT.out.below⟩
    cases q1 : key.isEmpty
    case true =>
      have HW : Hid (r = true) := Lib.hid (by rw [HV.out]; simp [q0, q1])
      go_enter Tryd.func19, Tryd.ntmps19
      go_wp2_with (first | (go_at_call 35; (with_reducible refine (HH.out _ H0.out.facts).mono ?_); rintro e wq ⟨rfl, hq⟩; have HT := Lib.hid (Keep.on (Hid.out (by assumption)) hq); clear hq; have hk := PN.facts (HFF.out _ HT.out.facts).1; have hm := (HFF.out _ HT.out.facts).2))
      go_ret
      exact ⟨by rw [HW.out]; rfl, HT.out.below⟩
    cases hg : getP ps key with
    | none =>
      have HW : Hid (r = false) := Lib.hid (by rw [HV.out]; simp [q0, q1, hg])
      have hgv : getV ps key = .tuple #[zV.v, .bool false] := by unfold getV; rw [hg]
      rw [hgv] at HG
      unfold zV V5.v at HG
      dsimp only at HG
      clear hg hgv
      go_enter Tryd.func19, Tryd.ntmps19
      go_wp2_with (first | (go_at_call 35; (with_reducible refine (HH.out _ H0.out.facts).mono ?_); rintro e wq ⟨rfl, hq⟩; have HT := Lib.hid (Keep.on (Hid.out (by assumption)) hq); clear hq; have hk := PN.facts (HFF.out _ HT.out.facts).1; have hm := (HFF.out _ HT.out.facts).2) | (go_at_call 36; (with_reducible refine (HG.out _ HT.out.facts).mono ?_); rintro e wq ⟨rfl, hq⟩; have HT := Lib.hid (Keep.on (Hid.out (by assumption)) hq); clear hq; have hk := PN.facts (HFF.out _ HT.out.facts).1; have hm := (HFF.out _ HT.out.facts).2; have hk1 := fun o => PN.facts ((HFF.out _ HT.out.facts).1.alloc o)) | (go_at_call 36; (with_reducible refine (HG.out _ H0.out.facts).mono ?_); rintro e wq ⟨rfl, hq⟩; have HT := Lib.hid (Keep.on (Hid.out (by assumption)) hq); clear hq; have hk := PN.facts (HFF.out _ HT.out.facts).1; have hm := (HFF.out _ HT.out.facts).2; have hk1 := fun o => PN.facts ((HFF.out _ HT.out.facts).1.alloc o)))
      go_ret
      exact ⟨by rw [HW.out]; rfl, HT.out.below.alloc HT.out.below.size _⟩
    | some vv =>
      have HW : Hid (r = inB vv ⟨k, b, n, f, t⟩ ⟨k', b', n', f', t'⟩) := Lib.hid (by rw [HV.out]; simp [q0, q1, hg])
      have hgv : getV ps key = .tuple #[vv.v, .bool true] := by unfold getV; rw [hg]
      have HIv := Lib.hid (fun W => HI.out vv W (HFL.out vv hg HF.out))
      rw [hgv] at HG
      clear hg hgv HI
      generalize inB vv ⟨k, b, n, f, t⟩ ⟨k', b', n', f', t'⟩ = ib at *
      obtain ⟨k2, b2, n2, f2, t2⟩ := vv
      unfold V5.v at HG HIv
      dsimp only at HG HIv
      go_enter Tryd.func19, Tryd.ntmps19
      go_wp2_with (first | (go_at_call 35; (with_reducible refine (HH.out _ H0.out.facts).mono ?_); rintro e wq ⟨rfl, hq⟩; have HT := Lib.hid (Keep.on (Hid.out (by assumption)) hq); clear hq; have hk := PN.facts (HFF.out _ HT.out.facts).1; have hm := (HFF.out _ HT.out.facts).2) | (go_at_call 36; (with_reducible refine (HG.out _ HT.out.facts).mono ?_); rintro e wq ⟨rfl, hq⟩; have HT := Lib.hid (Keep.on (Hid.out (by assumption)) hq); clear hq; have hk := PN.facts (HFF.out _ HT.out.facts).1; have hm := (HFF.out _ HT.out.facts).2; have hk1 := fun o => PN.facts ((HFF.out _ HT.out.facts).1.alloc o)) | (go_at_call 36; (with_reducible refine (HG.out _ H0.out.facts).mono ?_); rintro e wq ⟨rfl, hq⟩; have HT := Lib.hid (Keep.on (Hid.out (by assumption)) hq); clear hq; have hk := PN.facts (HFF.out _ HT.out.facts).1; have hm := (HFF.out _ HT.out.facts).2; have hk1 := fun o => PN.facts ((HFF.out _ HT.out.facts).1.alloc o)) | (go_at_call 22; (with_reducible refine (HIv.out _).mono ?_); rintro e wq ⟨rfl, hq⟩))
      go_ret
      exact ⟨by rw [HW.out]; rfl, (HT.out.below.alloc HT.out.below.size _).trans (hq.mono (by have := HT.out.below.size; simp; omega))⟩
  case true =>
    cases q1 : key.isEmpty
    case true =>
      have HW : Hid (r = true) := Lib.hid (by rw [HV.out]; simp [q0, q1])
      go_enter Tryd.func19, Tryd.ntmps19
      go_wp2_with (first | (go_at_call 35; (with_reducible refine (HH.out _ H0.out.facts).mono ?_); rintro e wq ⟨rfl, hq⟩; have HT := Lib.hid (Keep.on (Hid.out (by assumption)) hq); clear hq; have hk := PN.facts (HFF.out _ HT.out.facts).1; have hm := (HFF.out _ HT.out.facts).2))
      go_ret
      exact ⟨by rw [HW.out]; rfl, H0.out.below⟩
    cases hg : getP ps key with
    | none =>
      have HW : Hid (r = false) := Lib.hid (by rw [HV.out]; simp [q0, q1, hg])
      have hgv : getV ps key = .tuple #[zV.v, .bool false] := by unfold getV; rw [hg]
      rw [hgv] at HG
      unfold zV V5.v at HG
      dsimp only at HG
      clear hg hgv
      go_enter Tryd.func19, Tryd.ntmps19
      go_wp2_with (first | (go_at_call 35; (with_reducible refine (HH.out _ H0.out.facts).mono ?_); rintro e wq ⟨rfl, hq⟩; have HT := Lib.hid (Keep.on (Hid.out (by assumption)) hq); clear hq; have hk := PN.facts (HFF.out _ HT.out.facts).1; have hm := (HFF.out _ HT.out.facts).2) | (go_at_call 36; (with_reducible refine (HG.out _ HT.out.facts).mono ?_); rintro e wq ⟨rfl, hq⟩; have HT := Lib.hid (Keep.on (Hid.out (by assumption)) hq); clear hq; have hk := PN.facts (HFF.out _ HT.out.facts).1; have hm := (HFF.out _ HT.out.facts).2; have hk1 := fun o => PN.facts ((HFF.out _ HT.out.facts).1.alloc o)) | (go_at_call 36; (with_reducible refine (HG.out _ H0.out.facts).mono ?_); rintro e wq ⟨rfl, hq⟩; have HT := Lib.hid (Keep.on (Hid.out (by assumption)) hq); clear hq; have hk := PN.facts (HFF.out _ HT.out.facts).1; have hm := (HFF.out _ HT.out.facts).2; have hk1 := fun o => PN.facts ((HFF.out _ HT.out.facts).1.alloc o)))
      go_ret
      exact ⟨by rw [HW.out]; rfl, HT.out.below.alloc HT.out.below.size _⟩
    | some vv =>
      have HW : Hid (r = inB vv ⟨k, b, n, f, t⟩ ⟨k', b', n', f', t'⟩) := Lib.hid (by rw [HV.out]; simp [q0, q1, hg])
      have hgv : getV ps key = .tuple #[vv.v, .bool true] := by unfold getV; rw [hg]
      have HIv := Lib.hid (fun W => HI.out vv W (HFL.out vv hg HF.out))
      rw [hgv] at HG
      clear hg hgv HI
      generalize inB vv ⟨k, b, n, f, t⟩ ⟨k', b', n', f', t'⟩ = ib at *
      obtain ⟨k2, b2, n2, f2, t2⟩ := vv
      unfold V5.v at HG HIv
      dsimp only at HG HIv
      go_enter Tryd.func19, Tryd.ntmps19
      go_wp2_with (first | (go_at_call 35; (with_reducible refine (HH.out _ H0.out.facts).mono ?_); rintro e wq ⟨rfl, hq⟩; have HT := Lib.hid (Keep.on (Hid.out (by assumption)) hq); clear hq; have hk := PN.facts (HFF.out _ HT.out.facts).1; have hm := (HFF.out _ HT.out.facts).2) | (go_at_call 36; (with_reducible refine (HG.out _ HT.out.facts).mono ?_); rintro e wq ⟨rfl, hq⟩; have HT := Lib.hid (Keep.on (Hid.out (by assumption)) hq); clear hq; have hk := PN.facts (HFF.out _ HT.out.facts).1; have hm := (HFF.out _ HT.out.facts).2; have hk1 := fun o => PN.facts ((HFF.out _ HT.out.facts).1.alloc o)) | (go_at_call 36; (with_reducible refine (HG.out _ H0.out.facts).mono ?_); rintro e wq ⟨rfl, hq⟩; have HT := Lib.hid (Keep.on (Hid.out (by assumption)) hq); clear hq; have hk := PN.facts (HFF.out _ HT.out.facts).1; have hm := (HFF.out _ HT.out.facts).2; have hk1 := fun o => PN.facts ((HFF.out _ HT.out.facts).1.alloc o)) | (go_at_call 22; (with_reducible refine (HIv.out _).mono ?_); rintro e wq ⟨rfl, hq⟩))
      go_ret
      exact ⟨by rw [HW.out]; rfl, (HT.out.below.alloc HT.out.below.size _).trans (hq.mono (by have := HT.out.below.size; simp; omega))⟩
end Go.Proofs.YtlgglkkafcbikaaDoor
