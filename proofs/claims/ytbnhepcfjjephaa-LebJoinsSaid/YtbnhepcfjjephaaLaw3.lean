/- The walks of the laws on package leb (writers). -/
import Derived.Test.YtbnhepcfjjephaaLeb2
import Derived.Deep.RegionHeld3
namespace Go.Proofs.Ytbnhepcfjjephaa
open Go Go.RowKit
set_option linter.unusedVariables false

set_option maxRecDepth 100000 in
set_option maxHeartbeats 1000000 in
theorem known3_c (w : World) : Calls Try.prog 20 #[] w fun e w' => e = .returned (.bool true) ∧ Below w.heap.size w w' := by
  have HI := Lib.hid (Int_c (.slice none 0 0) (.slice (some ⟨w.heap.size, 0, none⟩) 4 4) [] [0, -1, 1, 64] (w.alloc (.cells #[.int .i64 0, .int .i64 (-1), .int .i64 1, .int .i64 64] 3)) (RowAt.nil _) (RowAt.new w [.int .i64 0, .int .i64 (-1), .int .i64 1, .int .i64 64] 3 4 (by unfold maxLen; simp)) (by intro n hn; simp at hn; omega) (by simp))
  have e1 : [] ++ lebInts [0, -1, 1, 64] = [0, 1, 2, 128, 1] := by decide +kernel
  have HE := Lib.hid e1
  clear e1
  go_enter Try.func20, Try.ntmps20
  go_wp2_with fail
  with_reducible refine HI.out.mono ?_
  rintro e w1 ⟨v1, rfl, hown1, hb1⟩
  rw [HE.out] at hown1
  have hcv := (RowAt.ofOwns hown1).toStr (P := Try.prog) 24 9 5 Try.underlying24 Try.underlying5 Try.underlying9
  have hbb : Below w.heap.size w w1 := ((Below.refl _ w).alloc (Nat.le_refl _) _).trans (hb1.mono (by simp))
  clear hown1 hb1
  go_wp2_with fail
  go_ret
  exact ⟨rfl, hbb⟩
/-- a slice of bytes, and what 'string(v)' gives of it. -/
theorem toS {w : World} {v : Value} {l : List UInt8} (h : RowAt w v (bytesV l)) : (convert 24 9 v).run Try.prog w = .ok (.string ⟨l.toArray⟩) w :=
  h.toStr 24 9 5 Try.underlying24 Try.underlying5 Try.underlying9
theorem keep3 {w w' : World} {a b c : Value} {x y z : List UInt8}
    (h : ((convert 24 9 a).run Try.prog w = .ok (.string ⟨x.toArray⟩) w ∧ (convert 24 9 b).run Try.prog w = .ok (.string ⟨y.toArray⟩) w ∧ (convert 24 9 c).run Try.prog w = .ok (.string ⟨z.toArray⟩) w) ∧ Hid (RowAt w a (bytesV x) ∧ RowAt w b (bytesV y) ∧ RowAt w c (bytesV z)))
    (hb : Below w.heap.size w w') :
    ((convert 24 9 a).run Try.prog w' = .ok (.string ⟨x.toArray⟩) w' ∧ (convert 24 9 b).run Try.prog w' = .ok (.string ⟨y.toArray⟩) w' ∧ (convert 24 9 c).run Try.prog w' = .ok (.string ⟨z.toArray⟩) w') ∧ Hid (RowAt w' a (bytesV x) ∧ RowAt w' b (bytesV y) ∧ RowAt w' c (bytesV z)) := by
  obtain ⟨h1, h2, h3⟩ := h.2.out
  exact ⟨⟨toS (h1.below hb), toS (h2.below hb), toS (h3.below hb)⟩, Lib.hid ⟨h1.below hb, h2.below hb, h3.below hb⟩⟩
theorem mk3 {w : World} {a b c : Value} {x y z : List UInt8} (h1 : RowAt w a (bytesV x)) (h2 : RowAt w b (bytesV y)) (h3 : RowAt w c (bytesV z)) :
    ((convert 24 9 a).run Try.prog w = .ok (.string ⟨x.toArray⟩) w ∧ (convert 24 9 b).run Try.prog w = .ok (.string ⟨y.toArray⟩) w ∧ (convert 24 9 c).run Try.prog w = .ok (.string ⟨z.toArray⟩) w) ∧ Hid (RowAt w a (bytesV x) ∧ RowAt w b (bytesV y) ∧ RowAt w c (bytesV z)) :=
  ⟨⟨toS h1, toS h2, toS h3⟩, Lib.hid ⟨h1, h2, h3⟩⟩
theorem intsV_append (a b : List Int) : intsV (a ++ b) = intsV a ++ intsV b := by simp [intsV]
theorem intsV_one : ∀ l : List Int, ∀ u ∈ intsV l, u.oneCell' = true := by
  intro l u hu
  simp only [intsV, List.mem_map] at hu
  obtain ⟨b, _, rfl⟩ := hu
  rfl
theorem infoI : (Try.prog.info? 3).map (fun i => (i.zero, i.size, i.bytes)) = some (some (.int .i64 0), 1, 8) := by kernel_rfl
theorem elemI : Elem1 22 3 8 := elem1_of Try.underlying22 infoI rfl
theorem lebInts_append (a b : List Int) : lebInts (a ++ b) = lebInts a ++ lebInts b := by simp [lebInts]
theorem IntsOk.append {a b : List Int} (ha : IntsOk a) (hb : IntsOk b) : IntsOk (a ++ b) := fun n hn => (List.mem_append.1 hn).elim (ha n) (hb n)
theorem IntsOk.nil : IntsOk [] := fun _ h => by cases h

set_option maxRecDepth 100000 in
set_option maxHeartbeats 4000000 in
theorem LebJoins_main (va vb vs : Value) (ns ms : List Int) (ss : List (List UInt8)) (w : World) (ha : RowAt w va (intsV ns)) (hb : RowAt w vb (intsV ms)) (hs : RowAt w vs (strsV ss)) (oka : IntsOk ns) (okb : IntsOk ms) :
    Calls Try.prog 3 #[va, vb, vs] w fun e w' => e = .returned (.bool true) ∧ Below w.heap.size w w' := by
  obtain ⟨xa, ca, rfl⟩ := ha.shapeI
  obtain ⟨xb, cb, rfl⟩ := hb.shapeI
  obtain ⟨xs, cs, rfl⟩ := hs.shapeS
  by_cases h1 : 60 < ns.length
  · have h1' : decide ((60 : Int) < (ns.length : Int)) = true := by simp; omega
    go_enter Try.func3, Try.ntmps3
    go_wp2
    go_ret
    exact ⟨rfl, Below.refl _ _⟩
  · by_cases h2 : 60 < ms.length
    · have h2' : decide ((60 : Int) < (ms.length : Int)) = true := by simp; omega
      go_enter Try.func3, Try.ntmps3
      go_wp2
      go_ret
      exact ⟨rfl, Below.refl _ _⟩
    · by_cases h3 : 30 < ss.length
      · have h3' : decide ((30 : Int) < (ss.length : Int)) = true := by simp; omega
        go_enter Try.func3, Try.ntmps3
        go_wp2
        go_ret
        exact ⟨rfl, Below.refl _ _⟩
      · have HA := Lib.hid ha
        have HB := Lib.hid hb
        have HS := Lib.hid hs
        have OA := Lib.hid oka
        have OB := Lib.hid okb
        have n1 : decide ((60 : Int) < (ns.length : Int)) = false := by simp; omega
        have n2 : decide ((60 : Int) < (ms.length : Int)) = false := by simp; omega
        have n3 : decide ((30 : Int) < (ss.length : Int)) = false := by simp; omega
        clear ha hb hs oka okb
        go_enter Try.func3, Try.ntmps3
        go_wp2_with fail
        with_reducible refine (Int_c _ _ [] ns w (RowAt.nil w) HA.out OA.out (by simp; omega)).mono ?_
        rintro e w1 ⟨v1, rfl, hown1, hb1⟩
        have H1 := Lib.hid hown1
        clear hown1
        go_wp2_with fail
        with_reducible refine (Int_c _ _ ([] ++ lebInts ns) ms w1 (RowAt.ofOwns H1.out) (HB.out.below hb1) OB.out (by have := lebInts_len ns OA.out; simp; omega)).mono ?_
        rintro e w2 ⟨v2, rfl, hown2, hb2⟩
        have H2 := Lib.hid hown2
        have hb12 : Below w.heap.size w w2 := Below.step hb1 hb2
        clear hown2 hb2 hb1 H1
        have hsz2 := hb12.size
        go_wp2_with (at_builtin; refine wp_appRow elemI rfl _ _ rfl w2.heap.size 0 _ [] rfl (owns_empty w2 _) _ (intsV ns) rfl (HA.out.below (hb12.alloc hsz2 _)) (intsV_one ns) ?_ ?_ ?_ ?_)
        · simp [intsV]; omega
        · simp [intsV]; omega
        · simp
        intro v3 w3 hown3 hb3
        have hb13 : Below w.heap.size w w3 := (hb12.alloc hsz2 _).trans (hb3.mono (by omega))
        have hb23 : Below w2.heap.size w2 w3 := ((Below.refl _ w2).alloc (Nat.le_refl _) _).trans hb3
        have hsz3 := hb3.size
        go_wp2_with (at_builtin; refine wp_appRow elemI rfl _ _ rfl w2.heap.size _ _ _ rfl hown3 _ (intsV ms) rfl (HB.out.below hb13) (intsV_one ms) ?_ ?_ ?_ ?_)
        · simp [intsV]; omega
        · simp [intsV]; omega
        · simp at hsz3; omega
        intro v4 w4 hown4 hb4
        have hown4' : RowAt w4 v4 (intsV (ns ++ ms)) := by rw [intsV_append]; exact RowAt.ofOwns hown4
        have H4 := Lib.hid hown4'
        have hb14 : Below w.heap.size w w4 := hb13.trans (hb4.mono hsz2)
        have hb24 : Below w2.heap.size w2 w4 := hb23.trans hb4
        clear hown3 hown4 hown4' hb3 hb13 hb23 hsz3 hb4
        go_wp2_with fail
        with_reducible refine (Int_c _ _ [] (ns ++ ms) w4 (RowAt.nil w4) H4.out (OA.out.append OB.out) (by simp; omega)).mono ?_
        rintro e w5 ⟨v5, rfl, hown5, hb5⟩
        have hb15 : Below w.heap.size w w5 := Below.step hb14 hb5
        have hb25 : Below w2.heap.size w2 w5 := Below.step hb24 hb5
        have X5 : RowAt w5 v5 (bytesV ([] ++ lebInts (ns ++ ms))) := RowAt.ofOwns hown5
        have X2 : RowAt w5 v2 (bytesV ([] ++ lebInts ns ++ lebInts ms)) := (RowAt.ofOwns H2.out).below hb25
        rw [lebInts_append, ← List.append_assoc] at X5
        have K5 := Lib.hid X5
        have K2 := Lib.hid X2
        clear X5 X2 hown5 hb5 H4 H2 hb24 hb25 hb14 hb12 hsz2
        go_wp2_with fail
        go_loopw [9, 10] (fun v i wr => ∃ k : Nat, k ≤ ss.length ∧ i = .int .i64 k ∧ RowAt wr v (bytesV (lebStrs (ss.take k))) ∧ strsRoom (ss.take k) ≤ 210 * k ∧ Below w5.heap.size w5 wr) (fun _ i _ => ss.length - (intOf i).toNat)
        case atStart => exact ⟨0, by omega, rfl, RowAt.nil _, by simp [strsRoom], Below.refl _ _⟩
        case round =>
          obtain ⟨k, hk, rfl, hrow, hroom, hbw⟩ := hrel
          by_cases hlt : k < ss.length
          · obtain ⟨b, o, rfl, hbl, hc⟩ := HS.out.cellAt k (by simpa [strsV] using hlt)
            have hbl5 : b < w5.heap.size := Nat.lt_of_lt_of_le hbl hb15.size
            have hc2 : wr.cell? ⟨b, o + k, none⟩ = some (.string ⟨ss[k].toArray⟩) := by rw [hbw.cell hbl5, hb15.cell hbl, hc]; simp [strsV, strV]
            have ht := take_snoc' ss k hlt
            have hs := lebStrs_snoc (ss.take k) ss[k]
            have hr := strsRoom_snoc (ss.take k) ss[k]
            rw [← ht] at hs hr
            have hlen := lebStrs_len (ss.take k) (by omega)
            have HS1 := Lib.hid hs
            have HR := Lib.hid hr
            have HRW := Lib.hid hrow
            have HLN := Lib.hid hlen
            clear hs ht hc hr hrow hlen
            generalize ss[k] = s at *
            by_cases hbig : 200 < s.length
            · have hb' : (200 : Int) < (s.length : Int) := by omega
              go_wp2_with fail
              go_ret
              exact ⟨rfl, hb15.trans (hbw.mono hb15.size)⟩
            · have hb' : ¬ (200 : Int) < (s.length : Int) := by omega
              have HI := Lib.hid (Str_c u9 (.slice (some ⟨wr.heap.size, 0, none⟩) 1 1) (lebStrs (ss.take k)) [s] (wr.alloc (.cells #[.string ⟨s.toArray⟩] 9)) (HRW.out.alloc _) (RowAt.new wr [.string ⟨s.toArray⟩] 9 1 (by unfold maxLen; simp)) (by have := HLN.out; simp [strsRoom]; omega))
              go_wp2_with fail
              with_reducible refine HI.out.mono ?_
              rintro e w6 ⟨v6, rfl, hown6, hb6⟩
              have e1 : lebStrs [s] = lebStr s := by simp [lebStrs]
              have X6 : RowAt w6 v6 (bytesV (lebStrs (ss.take (k + 1)))) := by rw [HS1.out, ← e1]; exact RowAt.ofOwns hown6
              have hb6' : Below w5.heap.size w5 w6 := (hbw.alloc hbw.size _).trans (hb6.mono (by have := hbw.size; simp; omega))
              have K6 := Lib.hid X6
              clear X6 hown6 hb6 e1
              go_wp2_with fail
              go_roundw
              case rel => exact ⟨k + 1, by omega, by go_num, K6.out, by rw [HR.out]; omega, hb6'⟩
              case measure => simp [intOf]; omega
          · have hk' : ss.take k = ss := List.take_of_length_le (by omega)
            rw [hk'] at hrow hroom
            have hb1r : Below w.heap.size w wr := hb15.trans (hbw.mono hb15.size)
            have KR := Lib.hid hrow
            have K5' := Lib.hid (K5.out.below hbw)
            have K2' := Lib.hid (K2.out.below hbw)
            clear hrow K5 K2 hbw hb15 hk'
            go_wp2_with fail
            have KS : Hid (RowAt wr.drew (.slice xs ss.length cs) (strsV ss)) := Lib.hid (RowAt.drewN (HS.out.below hb1r) 1)
            have hroom2 : ([] : List UInt8).length + strsRoom ss ≤ 17592186044416 := by simp; omega
            have HR2 := Lib.hid hroom2
            have hbd : Below w.heap.size w wr.drew := hb1r.drew
            have c1 : (convert 24 9 v2).run Try.prog wr.drew = .ok (.string ⟨([] ++ lebInts ns ++ lebInts ms).toArray⟩) wr.drew := toS (RowAt.drewN K2'.out 1)
            have c2 : (convert 24 9 v5).run Try.prog wr.drew = .ok (.string ⟨([] ++ lebInts ns ++ lebInts ms).toArray⟩) wr.drew := toS (RowAt.drewN K5'.out 1)
            have c3 : (convert 24 9 u9).run Try.prog wr.drew = .ok (.string ⟨(lebStrs ss).toArray⟩) wr.drew := toS (RowAt.drewN KR.out 1)
            have KR1 : Hid (RowAt wr.drew u9 (bytesV (lebStrs ss))) := Lib.hid (RowAt.drewN KR.out 1)
            clear hroom hroom2 hk KR
            go_region_with (first | (go_at_call 19; refine (Str_c _ _ [] ss _ (RowAt.nil _) KS.out HR2.out).mono ?_; rintro e w' ⟨v', rfl, hown, hb⟩; have hcv := toS (RowAt.ofOwns hown); have hcu := toS (KR1.out.below hb); have hbx := Lib.hid (hbd.trans (hb.mono hbd.size)); clear hown hb c1 c2 c3) | (go_at_call 20; refine (known3_c _).mono ?_; rintro e w' ⟨rfl, hb⟩))
            all_goals
              go_wp2_with fail
              go_ret
              exact ⟨rfl, by have := hbx.out; exact Below.step this (by assumption)⟩
theorem LebJoins_core (v0 : Value) (x0 : List Int) (v1 : Value) (x1 : List Int) (v2 : Value) (x2 : List (List UInt8)) (w : World) (w0 : RowAt w v0 (x0.map (Value.int .i64))) (y0 : ∀ n ∈ x0, -9223372036854775808 ≤ n ∧ n ≤ 9223372036854775807) (w1 : RowAt w v1 (x1.map (Value.int .i64))) (y1 : ∀ n ∈ x1, -9223372036854775808 ≤ n ∧ n ≤ 9223372036854775807) (w2 : RowAt w v2 (x2.map (fun s => Value.string ⟨s.toArray⟩))) (y2 : ∀ s ∈ x2, s.length ≤ maxLen) :
    Calls Try.prog 3 #[v0, v1, v2] w fun e w' => e = .returned (.bool true) ∧ Below w.heap.size w w' :=
  LebJoins_main v0 v1 v2 x0 x1 x2 w w0 w1 w2 y0 y1
end Go.Proofs.Ytbnhepcfjjephaa
