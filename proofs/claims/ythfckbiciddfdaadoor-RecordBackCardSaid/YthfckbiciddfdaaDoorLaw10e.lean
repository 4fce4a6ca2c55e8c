
/- The laws on package record: RecordBack. -/
import Derived.Test.YthfckbiciddfdaaDoorDec5
import Derived.Test.YthfckbiciddfdaaDoorRMay
import Derived.Test.YthfckbiciddfdaaDoorRSame2
import Derived.Test.YthfckbiciddfdaaDoorOpenW
namespace Go.Proofs.YthfckbiciddfdaaDoor
open Go Go.Proofs Go.RowKit
set_option linter.unusedVariables false
set_option linter.unusedSimpArgs false

theorem strsRoom_eq : ∀ ss : List (List UInt8), strsRoom ss = 10 * ss.length + szS ss
  | [] => rfl
  | s :: ss => by
    have h := strsRoom_eq ss
    have e1 : strsRoom (s :: ss) = 10 + s.length + strsRoom ss := by simp [strsRoom]
    have e2 : szS (s :: ss) = s.length + szS ss := sumR_cons _ _ _
    rw [e1, e2, h, List.length_cons]; omega
theorem roomPrs_eq : ∀ ps : List PR, sumR roomPr ps = 30 * ps.length + szP ps
  | [] => rfl
  | p :: ps => by
    have h := roomPrs_eq ps
    have e2 : szP (p :: ps) = p.key.length + p.v.t.length + szP ps := sumR_cons _ _ _
    rw [sumR_cons, e2, h, List.length_cons]; unfold roomPr roomV; omega
theorem roomWr_le (x : WR) : roomWr x ≤ 90 * szW x := by
  unfold roomWr roomNd szW
  rw [strsRoom_eq, roomPrs_eq]; omega
theorem sum_le {X : Type} (f g : X → Nat) (k : Nat) (h : ∀ x, f x ≤ k * g x) : ∀ l : List X, sumR f l ≤ k * sumR g l
  | [] => by simp [sumR]
  | x :: l => by rw [sumR_cons, sumR_cons, Nat.mul_add]; have := h x; have := sum_le f g k h l; omega
/-- what is small enough. -/
theorem small_ok {ps : List WV} (hs : sumR (fun p : WV => szW p.x) ps < 5000) (hw : ∀ p ∈ ps, okWi p) : (∀ p ∈ ps, okW2 p.x) ∧ sumR (fun p : WV => roomWr p.x) ps ≤ 450000 ∧ ps.length ≤ 5000 := by
  have h1 := sum_le (fun p : WV => roomWr p.x) (fun p : WV => szW p.x) 90 (fun p => roomWr_le p.x) ps
  have h2 := sumR_len (fun p : WV => szW p.x) (by intro p; unfold szW; omega) ps
  refine ⟨fun p hp => ?_, by omega, by omega⟩
  obtain ⟨k1, k2, k3, k4, k5, k6⟩ := hw p hp
  have hz := sumR_mem (fun p : WV => szW p.x) hp
  have hr := roomWr_le p.x
  refine ⟨k1, k2.1, k2.2.1, k2.2.2.2, fun q hq => ?_, by omega⟩
  have hq2 := sumR_mem (fun p : PR => p.key.length + p.v.t.length) hq
  have hq3 : szP p.x.ps ≤ szW p.x := by unfold szW; omega
  unfold szP at hq3
  obtain ⟨j1, j2, j3, j4, j5⟩ := k3 q hq
  exact ⟨j2, j3, j4, by omega, by omega⟩
theorem lebAll_len {nodes edges : Int} {xs : List WR} (hn : i64R nodes) (he : i64R edges) (hl : xs.length ≤ 5000) (hok : ∀ x ∈ xs, okW2 x) (hs : sumR roomWr xs ≤ 450000) : (lebAll nodes edges xs).length ≤ 500000 := by
  have h := flatG_len lebWr roomWr xs (fun x hx => lebWr_len (hok x hx))
  have e1 := lebInt_len nodes hn.1 hn.2
  have e2 := lebInt_len edges he.1 he.2
  have e3 := lebInt_len (xs.length : Int) (by omega) (by omega)
  unfold lebAll lebWrs
  simp only [List.length_append]
  omega
theorem lebAll_pos (nodes edges : Int) (xs : List WR) : 1 ≤ (lebAll nodes edges xs).length := by
  have := lebInt_pos nodes
  unfold lebAll
  simp only [List.length_append]
  omega
/-- what was laid, is read; what is cut short, or has more behind, is not. -/
theorem back_facts {nodes edges : Int} {xs : List WR} (hl : xs.length ≤ 5000) (hok : ∀ x ∈ xs, okW2 x) (h : areW nodes edges [] xs = true) (hL : (lebAll nodes edges xs).length ≤ 500000) :
    (curAll (some (lebAll nodes edges xs)) = ((nodes, edges, xs), some []) ∧ decB (lebAll nodes edges xs) = true) ∧
    (∀ m, m < (lebAll nodes edges xs).length → decB ((lebAll nodes edges xs).take m) = false) ∧ ∀ more : List UInt8, 1 ≤ more.length → decB (lebAll nodes edges xs ++ more) = false := by
  have hb := curAll_back (nodes := nodes) (edges := edges) (xs := xs) (by omega) (fun x hx => okW2_v (hok x hx)) h
  have h0 := hb []
  rw [List.append_nil] at h0
  refine ⟨⟨h0, ?_⟩, fun m hm => ?_, fun more hmore => ?_⟩
  · unfold decB; rw [h0]; simp [h]
  · cases hd : decB ((lebAll nodes edges xs).take m) with
    | false => rfl
    | true =>
      exfalso
      unfold decB at hd
      simp only [Bool.and_eq_true, decide_eq_true_eq] at hd
      obtain ⟨⟨d1, d2⟩, d3⟩ := hd
      obtain ⟨p1, p2, p3, p4⟩ := curAll_p ((lebAll nodes edges xs).take m) (by rw [List.length_take]; omega)
      have hlen := sumR_len roomWr (by intro x; unfold roomWr; omega) (curAll (some ((lebAll nodes edges xs).take m))).1.2.2
      have hb2 := curAll_back (by omega) (fun x hx => okW2_v (p2 x hx)) d1 ((lebAll nodes edges xs).drop m)
      rw [d3, List.take_append_drop, h0] at hb2
      have : (lebAll nodes edges xs).drop m = [] := by
        have := congrArg (fun z => z.2) hb2
        simpa using this.symm
      have := congrArg List.length this
      simp at this
      omega
  · unfold decB
    rw [hb more]
    have : ¬ (some more = some ([] : List UInt8)) := by intro e; simp at e; subst e; simp at hmore
    simp [this]
theorem and65535 (x : Int) : bits .and .i64 x 65535 = x % 65536 := by
  show IntKind.i64.wrap ((BitVec.ofInt 64 x &&& BitVec.ofInt 64 65535).toNat : Int) = _
  rw [BitVec.toNat_and, BitVec.toNat_ofInt, show (BitVec.ofInt 64 65535).toNat = 2 ^ 16 - 1 by decide, Nat.and_two_pow_sub_one_eq_mod, IntKind.wrap_i64]
  omega
theorem RowAt.pre {w : World} {a : Option Addr} {n c : Nat} {vs : List Value} (h : RowAt w (.slice a n c) vs) (m : Nat) (hm : m ≤ vs.length) (hp : 0 < vs.length) : RowAt w (.slice a m c) (vs.take m) := by
  refine ⟨by have := h.1; rw [List.length_take]; omega, ?_⟩
  rcases h.2 with ⟨_, rfl⟩ | ⟨x, c', hv, hl, hc⟩
  · simp at hp
  · simp only [Value.slice.injEq] at hv
    obtain ⟨rfl, _, rfl⟩ := hv
    refine .inr ⟨x, c, by rw [List.length_take, Nat.min_eq_left hm], by rw [List.length_take]; omega, fun i hi => ?_⟩
    rw [List.length_take] at hi
    rw [hc i (by omega), List.getElem_take]
theorem RowAt.cap {w : World} {a : Option Addr} {n c : Nat} {vs : List Value} (h : RowAt w (.slice a n c) vs) : vs.length ≤ c := by
  rcases h.2 with ⟨hv, rfl⟩ | ⟨x, c', hv, hl, hc⟩
  · simp
  · simp only [Value.slice.injEq] at hv; omega
theorem small_may {ps : List WV} (hw : ∀ p ∈ ps, okWi p) : ∀ p ∈ ps, okWm p.x := fun p hp => by
  obtain ⟨k1, k2, k3, ⟨b1, b2, b3, b4, b5⟩, k5, k6⟩ := hw p hp
  exact ⟨fun s hs => by have := b4 s hs; omega, fun q hq => ⟨by have := (b5 q hq).1; omega, by have := (b5 q hq).2; omega⟩, by omega, k2.2.2.2⟩
set_option maxRecDepth 100000 in
set_option maxHeartbeats 16000000 in
theorem RecordBack_core (a0 : Int) (a1 : Int) (v2 : Value) (x2 : List WV) (a3 : Int) (v4 : Value) (x4 : List UInt8) (w : World) (w0 : (Lit.int .i64 a0).wf = true) (w1 : (Lit.int .i64 a1).wf = true) (w2 : RowK 9 w v2 (x2.map WV.cells)) (y2 : ∀ p ∈ x2, p.rows w ∧ okWi p) (z2 : x2.length ≤ 1256584717458) (w3 : (Lit.int .i64 a3).wf = true) (w4 : RowAt w v4 (bytesV x4)) :
    Calls Tryd.prog 7 #[.int .i64 a0, .int .i64 a1, v2, .int .i64 a3, v4] w fun e w' => e = .returned (.bool true) ∧ Below w.heap.size w w' := by
  have hn : i64R a0 := i64_ok w0
  have he : i64R a1 := i64_ok w1
  obtain ⟨a, c, rfl, _⟩ := w2.shape
  obtain ⟨b, d, rfl⟩ := w4.shapeB
  rw [List.length_map] at w2 ⊢
  have hml := w4.1
  have m9 : maxLen = 9223372036854775807 := by decide
  rw [m9, bytesV_length] at hml
  have CW := Lib.hid (wide_c x2 _ w w2 (fun p hp => (y2 p hp).1) (fun p hp => (y2 p hp).2.2.2.2.1) (by omega))
  have HT : Hid (Keep w (fun W => ((True ∧ RowK 9 W (.slice a x2.length c) (x2.map WV.cells)) ∧ ∀ p ∈ x2, p.rows W) ∧ RowAt W (.slice b x4.length d) (bytesV x4)) w) := Lib.hid ⟨⟨⟨⟨trivial, w2⟩, fun p hp => (y2 p hp).1⟩, w4⟩, Below.refl _ w, fun W hW => ⟨⟨⟨trivial, w2.below hW⟩, fun p hp => ⟨(y2 p hp).1.1.below hW, (y2 p hp).1.2.below hW⟩⟩, w4.below hW⟩⟩
  have HWI := Lib.hid (fun p hp => (y2 p hp).2)
  clear w0 w1 w3 w2 w4 y2 m9
  unfold WideB at CW
  go_enter Tryd.func7, Tryd.ntmps7
  go_wp2_with fail
  with_reducible refine CW.out.mono ?_
  rintro e wq ⟨r, rfl, hr, hq⟩
  replace HT := Lib.hid (HT.out.on hq)
  clear hq CW
  cases r
  case true =>
    clear hr HWI
    go_wp2_with fail
    go_ret
    exact ⟨rfl, HT.out.below⟩
  case false =>
  obtain ⟨s1, s2, s3⟩ := small_ok (hr rfl) HWI.out
  clear hr
  by_cases l1 : x4.length < 1
  · have l1' : (x4.length : Int) < 1 := by omega
    go_wp2_with fail
    go_ret
    exact ⟨rfl, HT.out.below⟩
  by_cases l2 : 100 < x4.length
  · have l1' : ¬ (x4.length : Int) < 1 := by omega
    have l2' : (100 : Int) < (x4.length : Int) := by omega
    go_wp2_with fail
    go_ret
    exact ⟨rfl, HT.out.below⟩
  have l1' : ¬ (x4.length : Int) < 1 := by omega
  have l2' : ¬ (100 : Int) < (x4.length : Int) := by omega
  have CE := Lib.hid (fun W (h1 : RowK 9 W (.slice a x2.length c) (x2.map WV.cells)) (h2 : ∀ p ∈ x2, p.rows W) => Encode_c a0 a1 x2 _ W h1 h2 s1 (by omega) hn he)
  have CM := Lib.hid (fun W (h1 : RowK 9 W (.slice a x2.length c) (x2.map WV.cells)) (h2 : ∀ p ∈ x2, p.rows W) => RMay_c a0 a1 x2 _ W h1 h2 (small_may HWI.out) (by omega))
  rw [may_are] at CM
  have hxok : ∀ x ∈ x2.map WV.x, okW2 x := by intro x hx; obtain ⟨p, hp, rfl⟩ := List.mem_map.1 hx; exact s1 p hp
  have hLL := lebAll_len (xs := x2.map WV.x) hn he (by simpa using s3) hxok (by rw [sumR_map]; exact s2)
  have HBF := Lib.hid (fun h => back_facts (nodes := a0) (edges := a1) (xs := x2.map WV.x) (by simpa using s3) hxok h hLL)
  have hpos := lebAll_pos a0 a1 (x2.map WV.x)
  have HSM : Hid ((∀ x ∈ x2.map WV.x, (∀ q ∈ x.ps, q.v.f < W64) ∧ x.ed.w < W64 ∧ x.ss.length ≤ 9223372036854775807 ∧ x.ps.length ≤ 9223372036854775807) ∧ (x2.map WV.x).length ≤ 5000) := Lib.hid ⟨fun x hx => by
    obtain ⟨p, hp, rfl⟩ := List.mem_map.1 hx
    exact ⟨fun q hq => ((s1 p hp).2.2.2.2.1 q hq).2.2.1, (s1 p hp).2.2.2.1, by have := (HWI.out p hp).2.2.2.2.1; omega, by have := (HWI.out p hp).2.2.2.2.2; omega⟩, by simpa using s3⟩
  have HXS : Hid (∃ xs, x2.map WV.x = xs) := Lib.hid ⟨_, rfl⟩
  obtain ⟨xs, hxs⟩ := HXS.out
  clear HXS
  rw [hxs] at CE CM HBF hLL hpos HSM
  have HXX := Lib.hid hxs
  clear hxok hxs s1 s2
  unfold EncB at CE
  generalize areW a0 a1 [] xs = ok at *
  generalize hLdef : lebAll a0 a1 xs = L at *
  clear hLdef
  cases ok
  case false =>
    simp only [Bool.false_eq_true, if_false] at CE
    go_wp2_with (first
      | (go_at_call 9; (with_reducible refine (CE.out _ (by first | exact HT.out.facts.2 | exact HT.out.facts.1.2 | exact HT.out.facts.1.1.2 | exact HT.out.facts.1.1.1.2 | exact HT.out.facts.1.1.1.1.2 | exact HT.out.facts.1.1.1.1.1.2 | exact HT.out.facts.1.1.1.1.1.1.2 | exact HT.out.facts.1.1.1.1.1.1.1.2 | exact HT.out.facts.1.1.1.1.1.1.1.1.2 | exact HT.out.facts.1.1.1.1.1.1.1.1.1.2 | exact HT.out.facts.1.1.1.1.1.1.1.1.1.1.2 | exact HT.out.facts.1.1.1.1.1.1.1.1.1.1.1.2 | exact HT.out.facts.1.1.1.1.1.1.1.1.1.1.1.1.2) (by first | exact HT.out.facts.2 | exact HT.out.facts.1.2 | exact HT.out.facts.1.1.2 | exact HT.out.facts.1.1.1.2 | exact HT.out.facts.1.1.1.1.2 | exact HT.out.facts.1.1.1.1.1.2 | exact HT.out.facts.1.1.1.1.1.1.2 | exact HT.out.facts.1.1.1.1.1.1.1.2 | exact HT.out.facts.1.1.1.1.1.1.1.1.2 | exact HT.out.facts.1.1.1.1.1.1.1.1.1.2 | exact HT.out.facts.1.1.1.1.1.1.1.1.1.1.2 | exact HT.out.facts.1.1.1.1.1.1.1.1.1.1.1.2 | exact HT.out.facts.1.1.1.1.1.1.1.1.1.1.1.1.2)).mono ?_); rintro e wq ⟨vp, rfl, hrp, hq⟩; obtain ⟨ap, cp, rfl⟩ := hrp.shapeB; replace HT := Lib.hid (HT.out.on hq); clear hq hrp)
      | (go_at_call 16; (with_reducible refine (CM.out _ (by first | exact HT.out.facts.2 | exact HT.out.facts.1.2 | exact HT.out.facts.1.1.2 | exact HT.out.facts.1.1.1.2 | exact HT.out.facts.1.1.1.1.2 | exact HT.out.facts.1.1.1.1.1.2 | exact HT.out.facts.1.1.1.1.1.1.2 | exact HT.out.facts.1.1.1.1.1.1.1.2 | exact HT.out.facts.1.1.1.1.1.1.1.1.2 | exact HT.out.facts.1.1.1.1.1.1.1.1.1.2 | exact HT.out.facts.1.1.1.1.1.1.1.1.1.1.2 | exact HT.out.facts.1.1.1.1.1.1.1.1.1.1.1.2 | exact HT.out.facts.1.1.1.1.1.1.1.1.1.1.1.1.2) (by first | exact HT.out.facts.2 | exact HT.out.facts.1.2 | exact HT.out.facts.1.1.2 | exact HT.out.facts.1.1.1.2 | exact HT.out.facts.1.1.1.1.2 | exact HT.out.facts.1.1.1.1.1.2 | exact HT.out.facts.1.1.1.1.1.1.2 | exact HT.out.facts.1.1.1.1.1.1.1.2 | exact HT.out.facts.1.1.1.1.1.1.1.1.2 | exact HT.out.facts.1.1.1.1.1.1.1.1.1.2 | exact HT.out.facts.1.1.1.1.1.1.1.1.1.1.2 | exact HT.out.facts.1.1.1.1.1.1.1.1.1.1.1.2 | exact HT.out.facts.1.1.1.1.1.1.1.1.1.1.1.1.2)).mono ?_); rintro e wq ⟨rfl, hq⟩; replace HT := Lib.hid (HT.out.on hq); clear hq)
      | (go_at_call 10; apply keepCall; (next => (first | exact HT.out | exact (HT.out.more _ _) | exact ((HT.out.more _ _).more _ _) | exact (((HT.out.more _ _).more _ _).more _ _) | exact ((((HT.out.more _ _).more _ _).more _ _).more _ _))); intro hKK; replace HT := Lib.hid hKK; clear hKK; (with_reducible refine (known10_c _).mono ?_); rintro e wq ⟨rfl, hq⟩; replace HT := Lib.hid (HT.out.on hq); clear hq))
    go_ret
    exact ⟨by first | rfl | (simp; done), HT.out.below⟩
  case true =>
    simp only [if_true] at CE
    obtain ⟨⟨d1, d2⟩, d3, d4⟩ := HBF.out rfl
    have CD1 := Lib.hid (fun v W (h : RowAt W v (bytesV L)) => by
      have := Decode_c v L W h (by omega)
      rw [d1, d2] at this
      exact this)
    have CD2 := Lib.hid (fun ap cp W m (hm : m < L.length) (h : RowAt W (.slice ap L.length cp) (bytesV L)) => by
      have h9 := RowAt.pre h m (by rw [bytesV_length]; omega) (by rw [bytesV_length]; omega)
      rw [show (bytesV L).take m = bytesV (L.take m) from by simp [bytesV]] at h9
      have := Decode_c (.slice ap m cp) (L.take m) W h9 (by rw [List.length_take]; omega)
      rw [d3 m hm] at this
      exact this)
    have CD3 := Lib.hid (fun v W (h : RowAt W v (bytesV (L ++ x4))) => by
      have := Decode_c v (L ++ x4) W h (by rw [List.length_append]; omega)
      rw [d4 x4 (by omega)] at this
      exact this)
    dsimp only at CD1
    have HQ : Hid (∃ q m : Nat, bits .and .i64 a3 65535 = (q : Int) ∧ (q : Int).tmod (L.length : Int) = (m : Int) ∧ m < L.length) := Lib.hid (by
      refine ⟨(a3 % 65536).toNat, (a3 % 65536).toNat % L.length, by rw [and65535]; exact (Int.toNat_of_nonneg (by omega)).symm, rfl, Nat.mod_lt _ hpos⟩)
    obtain ⟨q, m, hq1, hq2, hm⟩ := HQ.out
    clear HQ HBF d1 d2 d3 d4
    have hL0 : ((L.length : Int) == 0) = false := beq_eq_false_iff_ne.2 (by omega)
    have hL1 : ¬ (L.length : Int) = 0 := by omega
    unfold DecB at CD1 CD2 CD3
    simp only [Bool.false_eq_true, if_false, if_true] at CD1 CD2 CD3
    go_wp2_with (first
      | (go_at_call 9; (with_reducible refine (CE.out _ (by first | exact HT.out.facts.2 | exact HT.out.facts.1.2 | exact HT.out.facts.1.1.2 | exact HT.out.facts.1.1.1.2 | exact HT.out.facts.1.1.1.1.2 | exact HT.out.facts.1.1.1.1.1.2 | exact HT.out.facts.1.1.1.1.1.1.2 | exact HT.out.facts.1.1.1.1.1.1.1.2 | exact HT.out.facts.1.1.1.1.1.1.1.1.2 | exact HT.out.facts.1.1.1.1.1.1.1.1.1.2 | exact HT.out.facts.1.1.1.1.1.1.1.1.1.1.2 | exact HT.out.facts.1.1.1.1.1.1.1.1.1.1.1.2 | exact HT.out.facts.1.1.1.1.1.1.1.1.1.1.1.1.2) (by first | exact HT.out.facts.2 | exact HT.out.facts.1.2 | exact HT.out.facts.1.1.2 | exact HT.out.facts.1.1.1.2 | exact HT.out.facts.1.1.1.1.2 | exact HT.out.facts.1.1.1.1.1.2 | exact HT.out.facts.1.1.1.1.1.1.2 | exact HT.out.facts.1.1.1.1.1.1.1.2 | exact HT.out.facts.1.1.1.1.1.1.1.1.2 | exact HT.out.facts.1.1.1.1.1.1.1.1.1.2 | exact HT.out.facts.1.1.1.1.1.1.1.1.1.1.2 | exact HT.out.facts.1.1.1.1.1.1.1.1.1.1.1.2 | exact HT.out.facts.1.1.1.1.1.1.1.1.1.1.1.1.2)).mono ?_); rintro e wq ⟨vp, rfl, hrp, hq⟩; obtain ⟨ap, cp, rfl⟩ := hrp.shapeB; have hcap := hrp.cap; rw [bytesV_length] at hcap; have hmc : (m : Int) ≤ (cp : Int) := (by omega); replace HT := Lib.hid (HT.out.plus hq hrp); clear hq hrp)
      | (go_at_call 16; (with_reducible refine (CM.out _ (by first | exact HT.out.facts.2 | exact HT.out.facts.1.2 | exact HT.out.facts.1.1.2 | exact HT.out.facts.1.1.1.2 | exact HT.out.facts.1.1.1.1.2 | exact HT.out.facts.1.1.1.1.1.2 | exact HT.out.facts.1.1.1.1.1.1.2 | exact HT.out.facts.1.1.1.1.1.1.1.2 | exact HT.out.facts.1.1.1.1.1.1.1.1.2 | exact HT.out.facts.1.1.1.1.1.1.1.1.1.2 | exact HT.out.facts.1.1.1.1.1.1.1.1.1.1.2 | exact HT.out.facts.1.1.1.1.1.1.1.1.1.1.1.2 | exact HT.out.facts.1.1.1.1.1.1.1.1.1.1.1.1.2) (by first | exact HT.out.facts.2 | exact HT.out.facts.1.2 | exact HT.out.facts.1.1.2 | exact HT.out.facts.1.1.1.2 | exact HT.out.facts.1.1.1.1.2 | exact HT.out.facts.1.1.1.1.1.2 | exact HT.out.facts.1.1.1.1.1.1.2 | exact HT.out.facts.1.1.1.1.1.1.1.2 | exact HT.out.facts.1.1.1.1.1.1.1.1.2 | exact HT.out.facts.1.1.1.1.1.1.1.1.1.2 | exact HT.out.facts.1.1.1.1.1.1.1.1.1.1.2 | exact HT.out.facts.1.1.1.1.1.1.1.1.1.1.1.2 | exact HT.out.facts.1.1.1.1.1.1.1.1.1.1.1.1.2)).mono ?_); rintro e wq ⟨rfl, hq⟩; replace HT := Lib.hid (HT.out.on hq); clear hq)
      | (go_at_call 17; (with_reducible refine (CD1.out _ _ (by first | exact HT.out.facts.2 | exact HT.out.facts.1.2 | exact HT.out.facts.1.1.2 | exact HT.out.facts.1.1.1.2 | exact HT.out.facts.1.1.1.1.2 | exact HT.out.facts.1.1.1.1.1.2 | exact HT.out.facts.1.1.1.1.1.1.2 | exact HT.out.facts.1.1.1.1.1.1.1.2 | exact HT.out.facts.1.1.1.1.1.1.1.1.2 | exact HT.out.facts.1.1.1.1.1.1.1.1.1.2 | exact HT.out.facts.1.1.1.1.1.1.1.1.1.1.2 | exact HT.out.facts.1.1.1.1.1.1.1.1.1.1.1.2 | exact HT.out.facts.1.1.1.1.1.1.1.1.1.1.1.1.2)).mono ?_); rintro e wq ⟨va, vc, ps, rfl, hmp, hrw, hrs, hq⟩; replace HT := Lib.hid (show Keep w (fun W => ((((True ∧ RowK 9 W (.slice a x2.length c) (x2.map WV.cells)) ∧ ∀ p ∈ x2, p.rows W) ∧ RowAt W (.slice b x4.length d) (bytesV x4)) ∧ RowAt W (.slice ap L.length cp) (bytesV L)) ∧ (RowK 9 W (.slice va ps.length vc) (ps.map WV.cells) ∧ ∀ p ∈ ps, p.rows W)) wq from ⟨⟨(HT.out.on hq).facts, hrw, hrs⟩, (HT.out.on hq).below, fun W hW => ⟨(HT.out.on hq).stable W hW, hrw.below hW, fun p hp => ⟨(hrs p hp).1.below hW, (hrs p hp).2.below hW⟩⟩⟩); have HMP := Lib.hid hmp; clear hq hmp hrw hrs)
      | (go_at_call 17; (with_reducible refine (CD2.out _ _ _ m hm (by first | exact HT.out.facts.2 | exact HT.out.facts.1.2 | exact HT.out.facts.1.1.2 | exact HT.out.facts.1.1.1.2 | exact HT.out.facts.1.1.1.1.2 | exact HT.out.facts.1.1.1.1.1.2 | exact HT.out.facts.1.1.1.1.1.1.2 | exact HT.out.facts.1.1.1.1.1.1.1.2 | exact HT.out.facts.1.1.1.1.1.1.1.1.2 | exact HT.out.facts.1.1.1.1.1.1.1.1.1.2 | exact HT.out.facts.1.1.1.1.1.1.1.1.1.1.2 | exact HT.out.facts.1.1.1.1.1.1.1.1.1.1.1.2 | exact HT.out.facts.1.1.1.1.1.1.1.1.1.1.1.1.2)).mono ?_); rintro e wq ⟨va', vc', ps', rfl, _, _, _, hq⟩; replace HT := Lib.hid (HT.out.on hq); clear hq)
      | (at_builtin; refine wp_appRow elemB rfl _ _ rfl wq.heap.size 0 _ [] rfl (owns_empty wq _) _ (bytesV L) rfl ((show RowAt wq (.slice ap L.length cp) (bytesV L) from (by first | exact HT.out.facts.2 | exact HT.out.facts.1.2 | exact HT.out.facts.1.1.2 | exact HT.out.facts.1.1.1.2 | exact HT.out.facts.1.1.1.1.2 | exact HT.out.facts.1.1.1.1.1.2 | exact HT.out.facts.1.1.1.1.1.1.2 | exact HT.out.facts.1.1.1.1.1.1.1.2 | exact HT.out.facts.1.1.1.1.1.1.1.1.2 | exact HT.out.facts.1.1.1.1.1.1.1.1.1.2 | exact HT.out.facts.1.1.1.1.1.1.1.1.1.1.2 | exact HT.out.facts.1.1.1.1.1.1.1.1.1.1.1.2 | exact HT.out.facts.1.1.1.1.1.1.1.1.1.1.1.1.2)).alloc _) (bytesV_one L) (by rw [bytesV_length]; omega) (by rw [bytesV_length]; omega) (by simp) ?_; intro v5 w5 hown5 hb5; have HB5 := Lib.hid (((Below.refl _ wq).alloc (Nat.le_refl _) _).trans hb5); have hw5 := hb5.size; have HO5 := Lib.hid hown5; clear hb5 hown5)
      | (at_builtin; refine wp_appRow elemB rfl _ _ rfl wq.heap.size _ _ _ rfl HO5.out _ (bytesV x4) rfl (show RowAt w5 (.slice b x4.length d) (bytesV x4) from (HT.out.on HB5.out).facts.1.1.2) (bytesV_one x4) (by rw [bytesV_length, bytesV_length]; omega) (by rw [bytesV_length, bytesV_length]; omega) (by simp at hw5; omega) ?_; intro v6 w6 hown6 hb6; have hr6 := RowAt.ofOwns hown6; rw [List.nil_append, ← bytesV_append] at hr6; replace HT := Lib.hid (HT.out.on (HB5.out.trans hb6)); have HR6 := Lib.hid hr6; clear hown6 hb6 hr6)
      | (go_at_call 17; (with_reducible refine (CD3.out _ _ HR6.out).mono ?_); rintro e wq ⟨va3, vc3, ps3, rfl, _, _, _, hq⟩; replace HT := Lib.hid (HT.out.on hq); clear hq)
      | (go_at_call 18; (with_reducible refine (RSameWrites_s ps x2 (HMP.out.trans HXX.out.symm) _ _ _ HT.out.facts.2.1 HT.out.facts.1.1.1.1.2 HT.out.facts.2.2 HT.out.facts.1.1.1.2 (fun p hp => HSM.out.1 p.x (by rw [← HMP.out]; exact List.mem_map_of_mem hp)) (by have h9 := HSM.out.2; rw [← HMP.out, List.length_map] at h9; omega)).mono ?_); rintro e wq ⟨rfl, hq⟩; replace HT := Lib.hid (HT.out.on hq); clear hq)
      | (go_at_call 10; apply keepCall; (next => (first | exact HT.out | exact (HT.out.more _ _) | exact ((HT.out.more _ _).more _ _) | exact (((HT.out.more _ _).more _ _).more _ _) | exact ((((HT.out.more _ _).more _ _).more _ _).more _ _))); intro hKK; replace HT := Lib.hid hKK; clear hKK; (with_reducible refine (known10_c _).mono ?_); rintro e wq ⟨rfl, hq⟩; replace HT := Lib.hid (HT.out.on hq); clear hq))
    go_ret
    exact ⟨rfl, HT.out.below⟩
end Go.Proofs.YthfckbiciddfdaaDoor
