/- The walk of LebLays. -/
import Derived.Test.YtbnhepcfjjephaaLaw3
import Derived.BigQuiet
import Derived.Deep.QuietTactic
namespace Go.Proofs.Ytbnhepcfjjephaa
open Go Go.RowKit
set_option linter.unusedVariables false

theorem infoF3 : (Try.prog.info? 33).map (fun i => (i.zero, i.size, i.bytes)) = some (some (.float .f64 0), 1, 8) := by kernel_rfl
theorem elemF : Elem1 30 33 8 := elem1_of Try.underlying30 infoF3 rfl
theorem toSd {w : World} {v : Value} {l : List UInt8} (h : RowAt w v (bytesV l)) : ∀ n, (convert 24 9 v).run Try.prog (w.drewN n) = .ok (.string ⟨l.toArray⟩) (w.drewN n) :=
  fun n => toS (RowAt.drewN h n)

theorem realsV_snoc (a : List Nat) (f : Nat) : realsV (a ++ [f]) = realsV a ++ [Value.float .f64 f] := by simp [realsV]
theorem owns_last {w : World} {base e g cap n : Nat} {xs : List Value} {u : Value} (h : w.ownsRow base e 1 (.slice (some ⟨g, 0, none⟩) (n + 1) cap) (n + 1) (xs ++ [u])) (hx : xs.length = n) : w.cell? ⟨g, n, none⟩ = some u := by
  rw [World.ownsRow.cellAt h n (by omega), List.getElem?_append_right (by omega), hx]
  simp
set_option maxRecDepth 100000 in
set_option maxHeartbeats 4000000 in
theorem LebLays_main (v0 v1 v2 v3 : Value) (bs : List UInt8) (ns : List Int) (ss : List (List UInt8)) (fs : List Nat) (w : World) (w0 : RowAt w v0 (bytesV bs)) (w1 : RowAt w v1 (intsV ns)) (w2 : RowAt w v2 (strsV ss)) (w3 : RowAt w v3 (fs.map (fun n : Nat => Value.int .u64 (n : Int)))) (y1 : IntsOk ns) (y3 : ∀ f ∈ fs, f < W64) :
    Calls Try.prog 4 #[v0, v1, v2, v3] w fun e w' => e = .returned (.bool true) ∧ Below w.heap.size w w' := by
  obtain ⟨xb, cb, rfl⟩ := w0.shapeB
  obtain ⟨xn, cn, rfl⟩ := w1.shapeI
  obtain ⟨xs, cs, rfl⟩ := w2.shapeS
  obtain ⟨xf, cf, e3⟩ := w3.shape
  rw [List.length_map] at e3
  subst e3
  by_cases g0 : 200 < bs.length
  · have h' : decide ((200 : Int) < (bs.length : Int)) = true := by simp; omega
    go_enter Try.func4, Try.ntmps4
    go_wp2
    go_ret
    exact ⟨rfl, Below.refl _ _⟩
  by_cases g1 : 100 < ns.length
  · have h' : decide ((100 : Int) < (ns.length : Int)) = true := by simp; omega
    go_enter Try.func4, Try.ntmps4
    go_wp2
    go_ret
    exact ⟨rfl, Below.refl _ _⟩
  by_cases g2 : 60 < ss.length
  · have h' : decide ((60 : Int) < (ss.length : Int)) = true := by simp; omega
    go_enter Try.func4, Try.ntmps4
    go_wp2
    go_ret
    exact ⟨rfl, Below.refl _ _⟩
  by_cases g3 : 60 < fs.length
  · have h' : decide ((60 : Int) < (fs.length : Int)) = true := by simp; omega
    go_enter Try.func4, Try.ntmps4
    go_wp2
    go_ret
    exact ⟨rfl, Below.refl _ _⟩
  have n0 : decide ((200 : Int) < (bs.length : Int)) = false := by simp; omega
  have n1 : decide ((100 : Int) < (ns.length : Int)) = false := by simp; omega
  have n2 : decide ((60 : Int) < (ss.length : Int)) = false := by simp; omega
  have n3 : decide ((60 : Int) < (fs.length : Int)) = false := by simp; omega
  have hq := toSd w0
  have HB := Lib.hid w0
  have HN := Lib.hid w1
  have HS := Lib.hid w2
  have HF := Lib.hid w3
  have ON := Lib.hid y1
  have OF := Lib.hid y3
  clear w0 w1 w2 w3 y1 y3
  go_enter Try.func4, Try.ntmps4
  go_wp2_with fail
  go_quiet (fail)
  clear hq
  have hbq : Below w.heap.size w (w.drewN nq) := below_drewN (Below.refl _ _) nq
  generalize w.drewN nq = wq at *
  go_wp2_with fail
  go_loopw [9, 13] (fun x i wr => ∃ k : Nat, k ≤ ns.length ∧ i = .int .i64 k ∧ x = .string ⟨(bs ++ lebInts (ns.take k)).toArray⟩ ∧ Below w.heap.size w wr) (fun _ i _ => ns.length - (intOf i).toNat)
  case atStart => exact ⟨0, by omega, rfl, by simp [lebInts], hbq⟩
  case round =>
    obtain ⟨k, hk, rfl, rfl, hbw⟩ := hrel
    by_cases hlt : k < ns.length
    · obtain ⟨b, o, rfl, hbl, hc⟩ := HN.out.cellAt k (by simpa [intsV] using hlt)
      have hc2 : wr.cell? ⟨b, o + k, none⟩ = some (.int .i64 ns[k]) := by rw [hbw.cell hbl, hc]; simp [intsV]
      have hn := ON.out ns[k] (List.getElem_mem hlt)
      have ht := take_snoc' ns k hlt
      have hs := lebInts_snoc (ns.take k) ns[k]
      rw [← ht] at hs
      have hlen := lebInts_len (ns.take k) (fun m hm => ON.out m (List.mem_of_mem_take hm))
      have htl : (ns.take k).length ≤ k := List.length_take_le _ _
      have hL : (bs ++ lebInts (ns.take k)).length ≤ 100000 := by rw [List.length_append]; omega
      have hl2 := lebInt_len ns[k] hn.1 hn.2
      have HS2 := Lib.hid (show bs ++ lebInts (ns.take (k + 1)) = (bs ++ lebInts (ns.take k)) ++ lebInt ns[k] by rw [hs, List.append_assoc])
      clear hs ht hlen htl hc
      generalize ns[k] = n at *
      generalize bs ++ lebInts (ns.take k) = L at *
      generalize hln : lebInt n = ln at *
      have HLN := Lib.hid hln
      clear hln
      go_wp2_with fail
      with_reducible refine (RInt_c n wr hn.1 hn.2).mono ?_
      rintro e w5 ⟨v5, rfl, hown, hb5⟩
      rw [HLN.out] at hown
      have hcv := toS (RowAt.ofOwns hown)
      have hb5' : Below w.heap.size w w5 := Below.step hbw hb5
      clear hown hb5
      go_wp2_with fail
      go_roundw
      case rel => exact ⟨k + 1, by omega, by go_num, by rw [HS2.out]; exact congrArg Value.string (ByteArray.mk_append_mk L ln), hb5'⟩
      case measure => simp [intOf]; omega
    · have hk' : ns.take k = ns := List.take_of_length_le (by omega)
      rw [hk']
      have hXL : (bs ++ lebInts ns).length ≤ 100000 := by have := lebInts_len ns ON.out; rw [List.length_append]; omega
      clear hk' hbq
      obtain ⟨w1, rfl⟩ : ∃ w1 : World, w1 = wr := ⟨_, rfl⟩
      go_wp2_with fail
      clear hlt
      go_loopw [10, 14] (fun x i wr => ∃ k : Nat, k ≤ ss.length ∧ i = .int .i64 k ∧ x = .string ⟨(bs ++ lebStrs (ss.take k)).toArray⟩ ∧ strsRoom (ss.take k) ≤ 310 * k ∧ Below w.heap.size w wr) (fun _ i _ => ss.length - (intOf i).toNat)
      case atStart => exact ⟨0, by omega, rfl, by simp [lebStrs], by simp [strsRoom], hbw⟩
      case round =>
        clear hbw
        obtain ⟨j, hj, rfl, rfl, hroom, hbw⟩ := hrel
        by_cases hlt : j < ss.length
        · obtain ⟨b, o, rfl, hbl, hc⟩ := HS.out.cellAt j (by simpa [strsV] using hlt)
          have hc2 : wr.cell? ⟨b, o + j, none⟩ = some (.string ⟨ss[j].toArray⟩) := by rw [hbw.cell hbl, hc]; simp [strsV, strV]
          have ht := take_snoc' ss j hlt
          have hs := lebStrs_snoc (ss.take j) ss[j]
          have hr := strsRoom_snoc (ss.take j) ss[j]
          rw [← ht] at hs hr
          have hlen := lebStrs_len (ss.take j) (by omega)
          have hL : (bs ++ lebStrs (ss.take j)).length ≤ 100000 := by rw [List.length_append]; omega
          have HS2 := Lib.hid (show bs ++ lebStrs (ss.take (j + 1)) = (bs ++ lebStrs (ss.take j)) ++ lebStr ss[j] by rw [hs, List.append_assoc])
          have HR := Lib.hid hr
          clear hs ht hc hr hlen
          generalize ss[j] = s at *
          by_cases hbig : 300 < s.length
          · have hb' : (300 : Int) < (s.length : Int) := by omega
            clear hL
            go_wp2_with fail
            go_ret
            exact ⟨rfl, hbw⟩
          · have hb' : ¬ (300 : Int) < (s.length : Int) := by omega
            have hl2 := lebStr_len s (by omega)
            generalize bs ++ lebStrs (ss.take j) = L at *
            generalize hln : lebStr s = ln at *
            have HLN := Lib.hid hln
            clear hln
            go_wp2_with fail
            with_reducible refine (RStr_c s wr (by omega)).mono ?_
            rintro e w5 ⟨v5, rfl, hown, hb5⟩
            rw [HLN.out] at hown
            have hcv := toS (RowAt.ofOwns hown)
            have hb5' : Below w.heap.size w w5 := Below.step hbw hb5
            clear hown hb5
            go_wp2_with fail
            go_roundw
            case rel => exact ⟨j + 1, by omega, by go_num, by rw [HS2.out]; exact congrArg Value.string (ByteArray.mk_append_mk L ln), by rw [HR.out]; omega, hb5'⟩
            case measure => simp [intOf]; omega
        · have hk' : ss.take j = ss := List.take_of_length_le (by omega)
          rw [hk'] at hroom ⊢
          have hYL : (bs ++ lebStrs ss).length ≤ 100000 := by have := lebStrs_len ss (by omega); rw [List.length_append]; omega
          clear hk'
          obtain ⟨w2, rfl⟩ : ∃ w2 : World, w2 = wr := ⟨_, rfl⟩
          go_wp2_with fail
          clear hlt
          have hls := bytesV_one
          clear hls
          go_loopw [11, 12, 15] (fun x v i wr => ∃ k : Nat, k ≤ fs.length ∧ i = .int .i64 k ∧ x = .string ⟨(bs ++ lebReals (fs.take k)).toArray⟩ ∧ wr.ownsRow w2.heap.size 33 1 v k (realsV (fs.take k)) ∧ Below w2.heap.size w2 wr) (fun _ _ i _ => fs.length - (intOf i).toNat)
          case atStart => exact ⟨0, by omega, rfl, by simp [lebReals], owns_nil _ _ _, Below.refl _ _⟩
          case round =>
            obtain ⟨m, hm, rfl, rfl, hown, hb2⟩ := hrel
            by_cases hlt : m < fs.length
            · obtain ⟨b, o, rfl, hbl, hc⟩ := HF.out.cellAt m (by simpa using hlt)
              have hbl2 : b < w2.heap.size := Nat.lt_of_lt_of_le hbl hbw.size
              have hc2 : wr.cell? ⟨b, o + m, none⟩ = some (.int .u64 (fs[m] : Int)) := by rw [hb2.cell hbl2, hbw.cell hbl, hc]; simp
              have hf := OF.out fs[m] (List.getElem_mem hlt)
              have ht := take_snoc' fs m hlt
              have hs := lebReals_snoc (fs.take m) fs[m]
              have hv : realsV (fs.take (m + 1)) = realsV (fs.take m) ++ [Value.float .f64 fs[m]] := by rw [ht]; exact realsV_snoc _ _
              rw [← ht] at hs
              have hlen := lebReals_len (fs.take m)
              have htl : (fs.take m).length = m := by rw [List.length_take]; omega
              have hL : (bs ++ lebReals (fs.take m)).length ≤ 100000 := by rw [List.length_append]; omega
              have HS2 := Lib.hid (show bs ++ lebReals (fs.take (m + 1)) = (bs ++ lebReals (fs.take m)) ++ lebReal fs[m] by rw [hs, List.append_assoc])
              have HV := Lib.hid hv
              have HTL := Lib.hid htl
              clear hs ht hlen htl hc hv
              generalize fs[m] = f at *
              have hsz := hb2.size
              go_wp2_with (at_builtin; refine wp_app1 elemF rfl _ _ rfl w2.heap.size m _ _ rfl hown (.float .f64 f) rfl rfl ?c1 ?c2 ?c3 ?_)
              case c1 => omega
              case c2 => omega
              case c3 => exact hsz
              intro v' w6 hown6 hb6 hnn
              rw [← HV.out] at hown6
              have hrow6 := RowAt.ofOwns hown6
              have hb26 : Below w2.heap.size w2 w6 := hb2.trans hb6
              obtain ⟨g, cap, cur, rfl, hbg, hgg, hnc, hcm, hcs, htk⟩ : ∃ g cap cur, v' = .slice (some ⟨g, 0, none⟩) (m + 1) cap ∧ w2.heap.size ≤ g ∧ w6.heap[g]? = some (.cells cur 33 (0, 0)) ∧ m + 1 ≤ cap ∧ cap ≤ maxLen ∧ cur.size = cap * 1 ∧ cur.toList.take ((m + 1) * 1) = realsV (fs.take (m + 1)) := by
                rcases hown6.2 with ⟨h, _⟩ | h
                · exact (hnn h).elim
                · exact h
              have hc6 : w6.cell? ⟨g, m, none⟩ = some (.float .f64 f) := by
                rw [HV.out] at hown6
                exact owns_last hown6 (by unfold realsV; rw [List.length_map]; exact HTL.out)
              have HO6 := Lib.hid hown6
              generalize hln : lebReal f = ln at *
              have HLN := Lib.hid hln
              generalize bs ++ lebReals (fs.take m) = L at *
              have hl8 : ln.length ≤ 8 := by rw [← hln, show (lebReal f).length = 8 from beL_length 8 _]; omega
              clear hown hown6 hnn hrow6 hgg hcs htk hcm hln hbg hb6
              go_wp2_with fail
              with_reducible refine (RReal_c f w6 hf).mono ?_
              rintro e w7 ⟨v7, rfl, hown7, hb7⟩
              rw [HLN.out] at hown7
              have hcv := toS (RowAt.ofOwns hown7)
              have HO7 := Lib.hid (HO6.out.kept ⟨hb7.os, hb7.tape, hb7.output, hb7.size, fun k hk _ => hb7.block k hk⟩ (by cases h : Value.ownBlock (Value.slice (some ⟨g, 0, none⟩) (m + 1) cap) <;> simp : _ ∨ Value.ownBlock (Value.slice (some ⟨g, 0, none⟩) (m + 1) cap) ≠ none))
              have hb27 : Below w2.heap.size w2 w7 := Below.step hb26 hb7
              clear hown7 hb7 hb26 hc6 HO6
              go_wp2_with fail
              go_roundw
              case rel => exact ⟨m + 1, by omega, by go_num, by rw [HS2.out]; exact congrArg Value.string (ByteArray.mk_append_mk L ln), HO7.out, hb27⟩
              case measure => simp [intOf]; omega
            · have hk' : fs.take m = fs := List.take_of_length_le (by omega)
              rw [hk'] at hown ⊢
              have hZL : (bs ++ lebReals fs).length ≤ 100000 := by have := lebReals_len fs; rw [List.length_append]; omega
              have HFR := Lib.hid (RowAt.ofOwns hown)
              clear hk' hown
              have hbr : Below w.heap.size w wr := hbw.trans (hb2.mono hbw.size)
              have zA := hbr.size
              go_wp2_with (at_builtin; refine wp_appRow elemB rfl _ _ rfl wr.heap.size 0 _ [] rfl (owns_empty wr _) _ (bytesV bs) rfl (HB.out.below (hbr.alloc zA _)) (bytesV_one bs) ?_ ?_ ?_ ?_)
              · simp; omega
              · simp; omega
              · simp
              intro vaA waA howaA hbaA
              have HWAA := Lib.hid (RowAt.ofOwns howaA)
              have bzA : Below w.heap.size w waA := (hbr.alloc zA _).trans (hbaA.mono zA)
              have hbaA' := hbaA
              clear howaA hbaA
              go_wp2_with fail
              with_reducible refine (Int_c _ _ bs ns waA HWAA.out (HN.out.below bzA) ON.out (by omega)).mono ?_
              rintro e wbA ⟨vbA, rfl, howbA, hbbA⟩
              have hcvA := toS (RowAt.ofOwns howbA)
              have xA : Below wr.heap.size wr wbA := Below.step (((Below.refl _ wr).alloc (Nat.le_refl _) _).trans hbaA') hbbA
              have byA : Below w.heap.size w wbA := Below.step bzA hbbA
              clear howbA hbbA bzA
              have zB := byA.size
              go_wp2_with (at_builtin; refine wp_appRow elemB rfl _ _ rfl wbA.heap.size 0 _ [] rfl (owns_empty wbA _) _ (bytesV bs) rfl (HB.out.below (byA.alloc zB _)) (bytesV_one bs) ?_ ?_ ?_ ?_)
              · simp; omega
              · simp; omega
              · simp
              intro vaB waB howaB hbaB
              have HWAB := Lib.hid (RowAt.ofOwns howaB)
              have bzB : Below w.heap.size w waB := (byA.alloc zB _).trans (hbaB.mono zB)
              have hbaB' := hbaB
              clear howaB hbaB
              go_wp2_with fail
              with_reducible refine (Str_c _ _ bs ss waB HWAB.out (HS.out.below bzB) (by omega)).mono ?_
              rintro e wbB ⟨vbB, rfl, howbB, hbbB⟩
              have hcvB := toS (RowAt.ofOwns howbB)
              have xB : Below wr.heap.size wr wbB := Below.step xA (Below.step (((Below.refl _ wbA).alloc (Nat.le_refl _) _).trans hbaB') hbbB)
              have byB : Below w.heap.size w wbB := Below.step bzB hbbB
              clear howbB hbbB bzB
              have zC := byB.size
              go_wp2_with (at_builtin; refine wp_appRow elemB rfl _ _ rfl wbB.heap.size 0 _ [] rfl (owns_empty wbB _) _ (bytesV bs) rfl (HB.out.below (byB.alloc zC _)) (bytesV_one bs) ?_ ?_ ?_ ?_)
              · simp; omega
              · simp; omega
              · simp
              intro vaC waC howaC hbaC
              have HWAC := Lib.hid (RowAt.ofOwns howaC)
              have bzC : Below w.heap.size w waC := (byB.alloc zC _).trans (hbaC.mono zC)
              have bzC' : Below wr.heap.size wr waC := Below.step xB (((Below.refl _ wbB).alloc (Nat.le_refl _) _).trans hbaC)
              clear howaC hbaC
              go_wp2_with fail
              with_reducible refine (Real_c _ _ bs fs waC HWAC.out (HFR.out.below bzC') OF.out (by omega)).mono ?_
              rintro e wbC ⟨vbC, rfl, howbC, hbbC⟩
              have hcvC := toS (RowAt.ofOwns howbC)
              have byC : Below w.heap.size w wbC := Below.step bzC hbbC
              clear howbC hbbC bzC
              go_wp2_with (first | (go_at_call 20; (with_reducible refine (known3_c _).mono ?_); rintro e w' ⟨rfl, hk3⟩))
              go_ret
              exact ⟨rfl, Below.step byC hk3⟩

theorem LebLays_core (v0 : Value) (x0 : List UInt8) (v1 : Value) (x1 : List Int) (v2 : Value) (x2 : List (List UInt8)) (v3 : Value) (x3 : List Nat) (w : World) (w0 : RowAt w v0 (bytesV x0)) (w1 : RowAt w v1 (x1.map (Value.int .i64))) (y1 : ∀ n ∈ x1, -9223372036854775808 ≤ n ∧ n ≤ 9223372036854775807) (w2 : RowAt w v2 (x2.map (fun s => Value.string ⟨s.toArray⟩))) (y2 : ∀ s ∈ x2, s.length ≤ maxLen) (w3 : RowAt w v3 (x3.map (fun n : Nat => Value.int .u64 (n : Int)))) (y3 : ∀ n ∈ x3, n < 18446744073709551616) :
    Calls Try.prog 4 #[v0, v1, v2, v3] w fun e w' => e = .returned (.bool true) ∧ Below w.heap.size w w' :=
  LebLays_main v0 v1 v2 v3 x0 x1 x2 x3 w w0 w1 w2 w3 y1 y3
end Go.Proofs.Ytbnhepcfjjephaa
