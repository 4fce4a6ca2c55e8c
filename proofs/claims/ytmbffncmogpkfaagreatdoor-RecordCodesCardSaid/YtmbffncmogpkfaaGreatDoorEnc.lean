
/- Contracts of package record: number, laysValue, laysNode: the bytes that each lays. -/
import Derived.Test.YtmbffncmogpkfaaGreatDoorRec7
import Derived.Test.YtmbffncmogpkfaaGreatDoorCod2
import Derived.Test.YtmbffncmogpkfaaGreatDoorLeb
namespace Go.Proofs.YtmbffncmogpkfaaGreatDoor
open Go Go.Proofs Go.RowKit
set_option linter.unusedVariables false
set_option linter.unusedSimpArgs false

theorem OwnB.from {w w1 w' : World} {l : List UInt8} {e : Ending} (h : OwnB w1 l e w') (hb : Below w.heap.size w w1) : OwnB w l e w' := by
  obtain ⟨v', rfl, hown, hb2⟩ := h
  exact ⟨v', rfl, ownsRow_mono hown hb.size, hb.trans (hb2.mono hb.size)⟩
theorem RowAt.sh {w : World} {v : Value} {vs : List Value} (h : RowAt w v vs) : ∃ a n c, v = .slice a n c := by
  obtain ⟨a, c, rfl⟩ := h.shape
  exact ⟨a, _, c, rfl⟩
theorem Ints_c (B : Nat) (vb : Value) (l : List UInt8) (ns : List Int) (w : World) (hB : B = w.heap.size) (h1 : RowAt w vb (bytesV l)) (hok : IntsOk ns) (hn : ns.length ≤ 3) (hb : l.length ≤ 17592186044416) :
    Calls Tryz.prog 12 #[vb, .slice (some ⟨B, 0, none⟩) ns.length ns.length] (w.alloc (.cells (intsV ns).toArray 3)) (OwnB w (l ++ lebInts ns)) := by
  subst hB
  have hr := RowAt.new w (intsV ns) 3 ns.length (by unfold maxLen; simp [intsV]; omega) (by simp [intsV])
  rw [show (intsV ns).length = ns.length by simp [intsV]] at hr
  refine (Int_c vb (.slice (some ⟨w.heap.size, 0, none⟩) ns.length ns.length) l ns _ (h1.alloc _) hr hok (by omega)).mono ?_
  intro e w' h
  exact h.from ((Below.refl _ w).alloc (Nat.le_refl _) _)
theorem lebInts_one (n : Int) : lebInts [n] = lebInt n := by simp [lebInts]
theorem Int1_c (B : Nat) (vb : Value) (l : List UInt8) (n : Int) (w : World) (hB : B = w.heap.size) (h1 : RowAt w vb (bytesV l)) (hn : i64R n) (hb : l.length ≤ 17592186044416) :
    Calls Tryz.prog 12 #[vb, .slice (some ⟨B, 0, none⟩) 1 1] (w.alloc (.cells #[.int .i64 n] 3)) (OwnB w (l ++ lebInt n)) := by
  have := Ints_c B vb l [n] w hB h1 (by intro m hm; simp at hm; subst hm; exact hn) (by simp) hb
  rw [lebInts_one] at this
  exact this
theorem Str1_c (B : Nat) (vb : Value) (l : List UInt8) (s : List UInt8) (w : World) (hB : B = w.heap.size) (h1 : RowAt w vb (bytesV l)) (hb : l.length + s.length ≤ 8796093022208) :
    Calls Tryz.prog 15 #[vb, .slice (some ⟨B, 0, none⟩) 1 1] (w.alloc (.cells #[.string ⟨s.toArray⟩] 9)) (OwnB w (l ++ lebStr s)) := by
  subst hB
  have hr := RowAt.new w (strsV [s]) 9 1 (show (1 : Nat) ≤ maxLen by decide) (Nat.le_refl 1)
  have := Str_c vb (.slice (some ⟨w.heap.size, 0, none⟩) 1 1) l [s] (w.alloc (.cells #[.string ⟨s.toArray⟩] 9)) (h1.alloc _) hr (by simp [strsRoom]; omega)
  rw [show lebStrs [s] = lebStr s by simp [lebStrs]] at this
  refine this.mono ?_
  intro e w' h
  exact h.from ((Below.refl _ w).alloc (Nat.le_refl _) _)
theorem Real1_c (B : Nat) (vb : Value) (l : List UInt8) (f : Nat) (w : World) (hB : B = w.heap.size) (h1 : RowAt w vb (bytesV l)) (hf : f < W64) (hb : l.length ≤ 8796093022208) :
    Calls Tryz.prog 14 #[vb, .slice (some ⟨B, 0, none⟩) 1 1] (w.alloc (.cells #[.float .f64 f] 37)) (OwnB w (l ++ lebReal f)) := by
  subst hB
  have hr := RowAt.new w (realsV [f]) 37 1 (show (1 : Nat) ≤ maxLen by decide) (Nat.le_refl 1)
  have := Real_c vb (.slice (some ⟨w.heap.size, 0, none⟩) 1 1) l [f] (w.alloc (.cells #[.float .f64 f] 37)) (h1.alloc _) hr (by intro g hg; simp at hg; subst hg; exact hf) (by simp; omega)
  rw [show lebReals [f] = lebReal f by simp [lebReals]] at this
  refine this.mono ?_
  intro e w' h
  exact h.from ((Below.refl _ w).alloc (Nat.le_refl _) _)
theorem RNum_c (b : Bool) (w : World) : Calls Tryz.prog 13 #[.bool b] w fun e w' => e = .returned (.int .i64 (b2i b)) ∧ w = w' := by
  cases b
  all_goals
    go_enter Tryz.func13, Tryz.ntmps13
    go_wp2_with fail
    go_ret
    exact ⟨rfl, by first | rfl | trivial⟩
theorem OwnB.row {w w' : World} {l : List UInt8} {e : Ending} (h : OwnB w l e w') : ∃ v', e = .returned v' ∧ RowAt w' v' (bytesV l) ∧ Below w.heap.size w w' := by
  obtain ⟨v', rfl, hown, hb⟩ := h
  exact ⟨v', rfl, RowAt.ofOwns hown, hb⟩
set_option maxRecDepth 100000 in
set_option maxHeartbeats 4000000 in
theorem laysValue_c (vb : Value) (l : List UInt8) (v : V5) (w : World) (h : RowAt w vb (bytesV l)) (hk : i64R v.k) (hn : i64R v.n) (hf : v.f < W64) (hb : l.length + roomV v ≤ 4398046511104) :
    Calls Tryz.prog 44 #[vb, v.v] w (OwnB w (l ++ lebV v)) := by
  obtain ⟨k, b, n, f, t⟩ := v
  unfold roomV at hb
  unfold V5.v
  dsimp only at hk hn hf hb ⊢
  have H0 : Hid (Keep w (fun W => RowAt W vb (bytesV l) ∧ Blk W w.heap.size (⟨k, b, n, f, t⟩ : V5).cells) (w.alloc (.cells #[.int .i64 k, .bool b, .int .i64 n, .float .f64 f, .string ⟨t.toArray⟩] 47))) :=
    Lib.hid ⟨⟨h.alloc _, Blk.new w (⟨k, b, n, f, t⟩ : V5).cells _⟩, (Below.refl _ w).alloc (Nat.le_refl _) _, fun W hW => ⟨(h.alloc _).below hW, (Blk.new w (⟨k, b, n, f, t⟩ : V5).cells _).below hW⟩⟩
  have h1 := lebInt_len k hk.1 hk.2
  have HI := Lib.hid (fun B (W : World) (hB : B = W.heap.size) (hW : RowAt W vb (bytesV l)) => Int1_c B vb l k W hB hW hk (by omega))
  have hsh := Lib.hid (h.shape)
  clear h
  by_cases k1 : k = 1
  · subst k1
    have HV : Hid (l ++ lebV ⟨1, b, n, f, t⟩ = (l ++ lebInt 1) ++ lebInt (b2i b)) := Lib.hid (by simp [lebV])
    generalize l ++ lebV _ = L at HV ⊢
    go_enter Tryz.func44, Tryz.ntmps44
    go_wp2_with fail
    with_reducible refine (HI.out _ _ (by simp) H0.out.facts.1).mono ?_
    rintro e w1 he
    obtain ⟨v1, rfl, hr1, hb1⟩ := he.row
    have H1 := Lib.hid (H0.out.on hb1)
    obtain ⟨g0, g1, g2, g3, g4⟩ := V5.facts H1.out.facts.2
    obtain ⟨a1, n1, c1, rfl⟩ := hr1.sh
    have H2 := Lib.hid (Int1_c w1.heap.size _ (l ++ lebInt 1) (b2i b) w1 rfl hr1 (b2i_r b) (by simp; omega))
    clear he hr1
    go_wp2_with (first | (go_at_call 13; (with_reducible refine (RNum_c _ _).mono ?_); rintro e w' ⟨rfl, rfl⟩) | (go_at_call 12; (with_reducible refine H2.out.mono ?_); rintro e wz hz; have H3 := Lib.hid (hz.from H1.out.below); clear hz; obtain ⟨vz, rfl, hz⟩ := H3.out; clear hz))
    go_ret
    rw [HV.out]; exact H3.out
  by_cases k2 : k = 2
  · subst k2
    have HV : Hid (l ++ lebV ⟨2, b, n, f, t⟩ = (l ++ lebInt 2) ++ lebInt n) := Lib.hid (by simp [lebV])
    generalize l ++ lebV _ = L at HV ⊢
    go_enter Tryz.func44, Tryz.ntmps44
    go_wp2_with fail
    with_reducible refine (HI.out _ _ (by simp) H0.out.facts.1).mono ?_
    rintro e w1 he
    obtain ⟨v1, rfl, hr1, hb1⟩ := he.row
    have H1 := Lib.hid (H0.out.on hb1)
    obtain ⟨g0, g1, g2, g3, g4⟩ := V5.facts H1.out.facts.2
    obtain ⟨a1, n1, c1, rfl⟩ := hr1.sh
    have H2 := Lib.hid (Int1_c w1.heap.size _ (l ++ lebInt 2) n w1 rfl hr1 hn (by simp; omega))
    clear he hr1
    go_wp2_with (first | (go_at_call 12; (with_reducible refine H2.out.mono ?_); rintro e wz hz; have H3 := Lib.hid (hz.from H1.out.below); clear hz; obtain ⟨vz, rfl, hz⟩ := H3.out; clear hz) | fail)
    go_ret
    rw [HV.out]; exact H3.out
  by_cases k3 : k = 3
  · subst k3
    have HV : Hid (l ++ lebV ⟨3, b, n, f, t⟩ = (l ++ lebInt 3) ++ lebReal f) := Lib.hid (by simp [lebV])
    generalize l ++ lebV _ = L at HV ⊢
    go_enter Tryz.func44, Tryz.ntmps44
    go_wp2_with fail
    with_reducible refine (HI.out _ _ (by simp) H0.out.facts.1).mono ?_
    rintro e w1 he
    obtain ⟨v1, rfl, hr1, hb1⟩ := he.row
    have H1 := Lib.hid (H0.out.on hb1)
    obtain ⟨g0, g1, g2, g3, g4⟩ := V5.facts H1.out.facts.2
    obtain ⟨a1, n1, c1, rfl⟩ := hr1.sh
    have H2 := Lib.hid (Real1_c w1.heap.size _ (l ++ lebInt 3) f w1 rfl hr1 hf (by simp; omega))
    clear he hr1
    go_wp2_with (first | (go_at_call 14; (with_reducible refine H2.out.mono ?_); rintro e wz hz; have H3 := Lib.hid (hz.from H1.out.below); clear hz; obtain ⟨vz, rfl, hz⟩ := H3.out; clear hz) | fail)
    go_ret
    rw [HV.out]; exact H3.out
  by_cases k4 : k = 4
  · subst k4
    have HV : Hid (l ++ lebV ⟨4, b, n, f, t⟩ = (l ++ lebInt 4) ++ lebStr t) := Lib.hid (by simp [lebV])
    generalize l ++ lebV _ = L at HV ⊢
    go_enter Tryz.func44, Tryz.ntmps44
    go_wp2_with fail
    with_reducible refine (HI.out _ _ (by simp) H0.out.facts.1).mono ?_
    rintro e w1 he
    obtain ⟨v1, rfl, hr1, hb1⟩ := he.row
    have H1 := Lib.hid (H0.out.on hb1)
    obtain ⟨g0, g1, g2, g3, g4⟩ := V5.facts H1.out.facts.2
    obtain ⟨a1, n1, c1, rfl⟩ := hr1.sh
    have H2 := Lib.hid (Str1_c w1.heap.size _ (l ++ lebInt 4) t w1 rfl hr1 (by simp; omega))
    clear he hr1
    go_wp2_with (first | (go_at_call 15; (with_reducible refine H2.out.mono ?_); rintro e wz hz; have H3 := Lib.hid (hz.from H1.out.below); clear hz; obtain ⟨vz, rfl, hz⟩ := H3.out; clear hz) | fail)
    go_ret
    rw [HV.out]; exact H3.out
  have HV : Hid (l ++ lebV ⟨k, b, n, f, t⟩ = l ++ lebInt k) := Lib.hid (by simp [lebV, k1, k2, k3, k4])
  generalize l ++ lebV _ = L at HV ⊢
  have q1 : (k == 1) = false := by simpa using k1
  have q2 : (k == 2) = false := by simpa using k2
  have q3 : (k == 3) = false := by simpa using k3
  have q4 : (k == 4) = false := by simpa using k4
  clear k1 k2 k3 k4
  go_enter Tryz.func44, Tryz.ntmps44
  go_wp2_with fail
  with_reducible refine (HI.out _ _ (by simp) H0.out.facts.1).mono ?_
  rintro e w1 he
  have H3 := Lib.hid (he.from ((Below.refl _ w).alloc (Nat.le_refl _) _))
  obtain ⟨v1, rfl, hr1, hb1⟩ := he.row
  have H1 := Lib.hid (H0.out.on hb1)
  obtain ⟨g0, g1, g2, g3, g4⟩ := V5.facts H1.out.facts.2
  clear he hr1
  go_wp2_with fail
  go_ret
  rw [HV.out]; exact H3.out
end Go.Proofs.YtmbffncmogpkfaaGreatDoor
