
/- Contracts of the laws on package record: wide. -/
import Derived.Test.YtmbffncmogpkfaaGreatDoorCod2
import Derived.Test.YtmbffncmogpkfaaGreatDoorRec7
namespace Go.Proofs.YtmbffncmogpkfaaGreatDoor
open Go Go.Proofs Go.RowKit
set_option linter.unusedVariables false
set_option linter.unusedSimpArgs false

def szS (ss : List (List UInt8)) : Nat := sumR List.length ss
def szP (ps : List PR) : Nat := sumR (fun p : PR => p.key.length + p.v.t.length) ps
def szW (x : WR) : Nat := 1 + x.ed.t.length + x.ss.length + x.ps.length + szS x.ss + szP x.ps
/-- no part of a write is longer than a machine's memory. -/
def okBig (x : WR) : Prop := x.ed.t.length ≤ 140737488355328 ∧ x.ss.length ≤ 140737488355328 ∧ x.ps.length ≤ 140737488355328 ∧ (∀ s ∈ x.ss, s.length ≤ 140737488355328) ∧ ∀ p ∈ x.ps, p.key.length ≤ 140737488355328 ∧ p.v.t.length ≤ 140737488355328
/-- n is the sum, or it is past the limit. -/
def Upto (n m : Nat) : Prop := n = m ∨ 5000 ≤ n
def WideB (ps : List WV) (w : World) (e : Ending) (w' : World) : Prop := ∃ r, e = .returned (.bool r) ∧ (r = false → sumR (fun p : WV => szW p.x) ps < 5000) ∧ Below w.heap.size w w'
theorem below_drewN (w : World) (n : Nat) : Below w.heap.size w (w.drewN n) := ⟨rfl, rfl, rfl, Nat.le_refl _, fun _ _ => rfl⟩
theorem Upto.step {n m d : Nat} (h : Upto n m) (h5 : n < 5000) : Upto (n + d) (m + d) := by
  rcases h with h | h
  · exact .inl (by omega)
  · omega
theorem i64_add (a b : Nat) (h : a + b ≤ 9223372036854775807) : IntKind.i64.wrap ((a : Int) + (b : Int)) = ((a + b : Nat) : Int) := by rw [IntKind.wrap_i64]; omega
set_option maxRecDepth 100000 in
set_option maxHeartbeats 16000000 in
theorem wide_c (ps : List WV) (v : Value) (w : World) (hr : RowK 9 w v (ps.map WV.cells)) (hrows : ∀ p ∈ ps, p.rows w) (hb : ∀ p ∈ ps, okBig p.x) (hl : ps.length ≤ 140737488355328) :
    Calls Tryz.prog 4 #[v] w (WideB ps w) := by
  obtain ⟨a, c, rfl, hac⟩ := hr.shape
  rw [List.length_map] at *
  have HR := Lib.hid hr
  have HRW := Lib.hid hrows
  have HB := Lib.hid hb
  clear hr hrows hb hac
  go_enter Tryz.func4, Tryz.ntmps4
  go_wp2_with fail
  go_loopw [3, 4] (fun u i wr => ∃ j n : Nat, j ≤ ps.length ∧ i = .int .i64 (j : Int) ∧ u = .int .i64 (n : Int) ∧ n ≤ 1125899906842624 ∧ Upto n (sumR (fun p : WV => szW p.x) (ps.take j)) ∧ Below w.heap.size w wr) (fun _ i _ => ps.length - (intOf i).toNat)
  case atStart => exact ⟨0, 0, by omega, rfl, rfl, by omega, .inl (by simp [sumR]), Below.refl _ w⟩
  case round =>
    obtain ⟨j, n, hj, rfl, rfl, hn, hu, hbw⟩ := hrel
    have HU := Lib.hid hu
    have HBW := Lib.hid hbw
    clear hu hbw
    by_cases hlt : j < ps.length
    · by_cases h5 : n < 5000
      · obtain ⟨B, o, hB', hBl, hx⟩ := HR.out.cells j (by simpa using hlt)
        obtain rfl : a = some ⟨B, o, none⟩ := hB'
        simp only [List.getElem_map] at hx
        have hrj := HRW.out _ (List.getElem_mem hlt)
        have hbj := HB.out _ (List.getElem_mem hlt)
        have HS := Lib.hid (sumR_snoc (fun p : WV => szW p.x) ps j hlt)
        generalize ps[j] = p at *
        obtain ⟨⟨e, id, g, ss, pr, ⟨ea, eb, et, ew⟩⟩, sa, sc, pa, pc⟩ := p
        obtain ⟨b1, b2, b3, b4, b5⟩ := hbj
        have HR1 := Lib.hid hrj.1
        have HR2 := Lib.hid hrj.2
        have H4 := Lib.hid b4
        have H5 := Lib.hid b5
        have HX : Hid (∀ W, Below w.heap.size w W → W.cell? ⟨B, o + j * 9 + 3, none⟩ = some (.slice sa ss.length sc) ∧ W.cell? ⟨B, o + j * 9 + 3 + 1, none⟩ = some (.slice pa pr.length pc) ∧ W.cell? ⟨B, o + j * 9 + 4, none⟩ = some (.slice pa pr.length pc) ∧ W.cell? ⟨B, o + j * 9 + 7, none⟩ = some (.string ⟨et.toArray⟩)) := Lib.hid (fun W hW => by
          have hk := facts9At (hx.below hW hBl)
          exact ⟨hk.2.2.2.1, hk.2.2.2.2.1, hk.2.2.2.2.1, hk.2.2.2.2.2.2.2.1⟩)
        dsimp only at b1 b2 b3 HS HR1 HR2 H4 H5
        have HSW : Hid (szW ⟨e, id, g, ss, pr, ⟨ea, eb, et, ew⟩⟩ = 1 + et.length + ss.length + pr.length + szS ss + szP pr) := Lib.hid rfl
        have hi1 : (j : Int) < (ps.length : Int) := by omega
        have hn5 : (n : Int) < 5000 := by omega
        have w1 : IntKind.i64.wrap ((n : Int) + 1) = (n : Int) + 1 := by rw [IntKind.wrap_i64]; omega
        have w2 : IntKind.i64.wrap ((n : Int) + 1 + (et.length : Int)) = (n : Int) + 1 + (et.length : Int) := by rw [IntKind.wrap_i64]; omega
        have w3 : IntKind.i64.wrap ((n : Int) + 1 + (et.length : Int) + (ss.length : Int)) = (n : Int) + 1 + (et.length : Int) + (ss.length : Int) := by rw [IntKind.wrap_i64]; omega
        have w4 : IntKind.i64.wrap ((n : Int) + 1 + (et.length : Int) + (ss.length : Int) + (pr.length : Int)) = ((n + 1 + et.length + ss.length + pr.length : Nat) : Int) := by rw [IntKind.wrap_i64]; omega
        have HU1 : Hid (Upto (n + 1 + et.length + ss.length + pr.length) (sumR (fun p : WV => szW p.x) (ps.take j) + (1 + et.length + ss.length + pr.length))) := Lib.hid (by have := HU.out.step (d := 1 + et.length + ss.length + pr.length) h5; rwa [show n + (1 + et.length + ss.length + pr.length) = n + 1 + et.length + ss.length + pr.length by omega] at this)
        have hn1 : n + 1 + et.length + ss.length + pr.length ≤ 1125899906842624 := by omega
        have e7 : ∀ m, (wr.drewN m).cell? ⟨B, o + j * 9 + 7, none⟩ = _ := fun _ => (HX.out _ HBW.out).2.2.2
        have e3 : ∀ m, (wr.drewN m).cell? ⟨B, o + j * 9 + 3, none⟩ = _ := fun _ => (HX.out _ HBW.out).1
        have e4 : ∀ m, (wr.drewN m).cell? ⟨B, o + j * 9 + 4, none⟩ = _ := fun _ => (HX.out _ HBW.out).2.2.1
        clear hx hrj b4 b5
        go_wp2_with fail
        go_quiet (fail)
        go_wp2_with fail
        have HB2 := Lib.hid (HBW.out.trans ((below_drewN wr nq).mono HBW.out.size))
        clear w1 w2 w3 w4 e7 e3 e4
        generalize wr.drewN nq = wr1 at *
        go_loopw [3, 5] (fun u i W => ∃ k m : Nat, k ≤ ss.length ∧ i = .int .i64 (k : Int) ∧ u = .int .i64 (m : Int) ∧ m ≤ 1125899906842624 ∧ Upto m (sumR (fun p : WV => szW p.x) (ps.take j) + (1 + et.length + ss.length + pr.length) + sumR List.length (ss.take k)) ∧ Below w.heap.size w W) (fun _ i _ => ss.length - (intOf i).toNat)
        case atStart => exact ⟨0, _, by omega, rfl, by simp, hn1, by simpa [sumR] using HU1.out, HB2.out⟩
        case round =>
          clear HU1 hn1 HU HBW HB2 h5
          obtain ⟨k, m, hk, rfl, rfl, hm, hu, hbw⟩ := hrel
          have HU := Lib.hid hu
          have HBW := Lib.hid hbw
          clear hu hbw
          have e3 := (HX.out _ HBW.out).1
          by_cases hkl : k < ss.length
          · by_cases h5 : m < 5000
            · obtain ⟨B', o', rfl, hs⟩ := str_at (HR1.out.below HBW.out) k hkl
              have hsl := H4.out _ (List.getElem_mem hkl)
              have HSS := Lib.hid (sumR_snoc List.length ss k hkl)
              generalize ss[k] = s at *
              have hm5 : (m : Int) < 5000 := by omega
              have hk1 : (k : Int) < (ss.length : Int) := by omega
              have wm : IntKind.i64.wrap ((m : Int) + (s.length : Int)) = ((m + s.length : Nat) : Int) := i64_add m s.length (by omega)
              go_wp2_with fail
              go_roundw
              case rel => exact ⟨k + 1, m + s.length, by omega, by go_num, by first | rfl | simp, by omega, by rw [HSS.out, ← Nat.add_assoc]; exact HU.out.step h5, HBW.out⟩
              case measure => simp [intOf]; omega
            · have hm5 : ¬ (m : Int) < 5000 := by omega
              have hk1 : (k : Int) < (ss.length : Int) := by omega
              have HU2 : Hid (Upto m (sumR (fun p : WV => szW p.x) (ps.take j) + (1 + et.length + ss.length + pr.length) + szS ss)) := Lib.hid (.inr (by omega))
              clear HU
              go_wp2_with fail
              go_loopw [3, 6] (fun u i W => ∃ k m : Nat, k ≤ pr.length ∧ i = .int .i64 (k : Int) ∧ u = .int .i64 (m : Int) ∧ m ≤ 1125899906842624 ∧ Upto m (sumR (fun p : WV => szW p.x) (ps.take j) + (1 + et.length + ss.length + pr.length) + szS ss + sumR (fun p : PR => p.key.length + p.v.t.length) (pr.take k)) ∧ Below w.heap.size w W) (fun _ i _ => pr.length - (intOf i).toNat)
              case atStart => exact ⟨0, m, by omega, rfl, rfl, hm, by simpa [sumR] using HU2.out, HBW.out⟩
              case round =>
                clear HU2 HBW e3
                obtain ⟨k', m', hk', rfl, rfl, hm', hu, hbw⟩ := hrel
                have HU := Lib.hid hu
                have HBW := Lib.hid hbw
                clear hu hbw
                have e4 := (HX.out _ HBW.out).2.1
                have e4' := (HX.out _ HBW.out).2.2.1
                by_cases hkl' : k' < pr.length
                · by_cases h5' : m' < 5000
                  · obtain ⟨B', o', rfl, hBl', hx'⟩ := row_pr (HR2.out.below HBW.out) k' hkl'
                    have hsl := H5.out _ (List.getElem_mem hkl')
                    have HSS := Lib.hid (sumR_snoc (fun p : PR => p.key.length + p.v.t.length) pr k' hkl')
                    generalize pr[k'] = q at *
                    obtain ⟨key, ⟨vk, vb, vn, vf, vt⟩⟩ := q
                    dsimp only at hsl HSS
                    have hq := PR.factsAt hx'
                    clear hx'
                    have hm5 : (m' : Int) < 5000 := by omega
                    have hk1' : (k' : Int) < (pr.length : Int) := by omega
                    have wm : IntKind.i64.wrap ((m' : Int) + (key.length : Int)) = (m' : Int) + (key.length : Int) := by rw [IntKind.wrap_i64]; omega
                    have wm2 : IntKind.i64.wrap ((m' : Int) + (key.length : Int) + (vt.length : Int)) = (m' : Int) + (key.length : Int) + (vt.length : Int) := by rw [IntKind.wrap_i64]; omega
                    go_wp2_with fail
                    have f0 : ∀ z, (wr.drewN z).cell? ⟨B', o' + k' * 6, none⟩ = _ := fun _ => hq.1
                    have f5 : ∀ z, (wr.drewN z).cell? ⟨B', o' + k' * 6 + 5, none⟩ = _ := fun _ => hq.2.2.2.2.2
                    have f5' : ∀ z, (wr.drewN z).cell? ⟨B', o' + k' * 6 + 1 + 4, none⟩ = _ := fun _ => hq.2.2.2.2.2
                    have g4 : ∀ z, (wr.drewN z).cell? ⟨B, o + j * 9 + 3 + 1, none⟩ = _ := fun _ => e4
                    have g4' : ∀ z, (wr.drewN z).cell? ⟨B, o + j * 9 + 4, none⟩ = _ := fun _ => e4
                    go_quiet (fail)
                    go_wp2_with fail
                    go_roundw
                    case rel => exact ⟨k' + 1, m' + (key.length + vt.length), by omega, by go_num, by simp; omega, by omega, by have h := HU.out.step (d := key.length + vt.length) h5'; rw [HSS.out]; unfold Upto at h ⊢; omega, HBW.out.trans ((below_drewN wr _).mono HBW.out.size)⟩
                    case measure => simp [intOf]; omega
                  · have hm5 : ¬ (m' : Int) < 5000 := by omega
                    have hk1' : (k' : Int) < (pr.length : Int) := by omega
                    go_wp2_with fail
                    go_roundw
                    case rel => exact ⟨j + 1, m', by omega, by go_num, rfl, hm', .inr (by omega), HBW.out⟩
                    case measure => simp [intOf]; omega
                · obtain rfl : k' = pr.length := by omega
                  have hk1' : ¬ (pr.length : Int) < (pr.length : Int) := by omega
                  go_wp2_with fail
                  go_roundw
                  case rel => exact ⟨j + 1, m', by omega, by go_num, rfl, hm', by rw [HS.out, HSW.out]; have := HU.out; rw [List.take_of_length_le (Nat.le_refl _)] at this; unfold szP; rwa [show sumR (fun p : WV => szW p.x) (ps.take j) + (1 + et.length + ss.length + pr.length + szS ss + sumR (fun p : PR => p.key.length + p.v.t.length) pr) = sumR (fun p : WV => szW p.x) (ps.take j) + (1 + et.length + ss.length + pr.length) + szS ss + sumR (fun p : PR => p.key.length + p.v.t.length) pr by omega], HBW.out⟩
                  case measure => simp [intOf]; omega
          · obtain rfl : k = ss.length := by omega
            have hk1 : ¬ (ss.length : Int) < (ss.length : Int) := by omega
            have HU2 : Hid (Upto m (sumR (fun p : WV => szW p.x) (ps.take j) + (1 + et.length + ss.length + pr.length) + szS ss)) := Lib.hid (by have := HU.out; rwa [List.take_of_length_le (Nat.le_refl _)] at this)
            clear HU
            go_wp2_with fail
            go_loopw [3, 6] (fun u i W => ∃ k m : Nat, k ≤ pr.length ∧ i = .int .i64 (k : Int) ∧ u = .int .i64 (m : Int) ∧ m ≤ 1125899906842624 ∧ Upto m (sumR (fun p : WV => szW p.x) (ps.take j) + (1 + et.length + ss.length + pr.length) + szS ss + sumR (fun p : PR => p.key.length + p.v.t.length) (pr.take k)) ∧ Below w.heap.size w W) (fun _ i _ => pr.length - (intOf i).toNat)
            case atStart => exact ⟨0, m, by omega, rfl, rfl, hm, by simpa [sumR] using HU2.out, HBW.out⟩
            case round =>
              clear HU2 HBW e3
              obtain ⟨k', m', hk', rfl, rfl, hm', hu, hbw⟩ := hrel
              have HU := Lib.hid hu
              have HBW := Lib.hid hbw
              clear hu hbw
              have e4 := (HX.out _ HBW.out).2.1
              have e4' := (HX.out _ HBW.out).2.2.1
              by_cases hkl' : k' < pr.length
              · by_cases h5' : m' < 5000
                · obtain ⟨B', o', rfl, hBl', hx'⟩ := row_pr (HR2.out.below HBW.out) k' hkl'
                  have hsl := H5.out _ (List.getElem_mem hkl')
                  have HSS := Lib.hid (sumR_snoc (fun p : PR => p.key.length + p.v.t.length) pr k' hkl')
                  generalize pr[k'] = q at *
                  obtain ⟨key, ⟨vk, vb, vn, vf, vt⟩⟩ := q
                  dsimp only at hsl HSS
                  have hq := PR.factsAt hx'
                  clear hx'
                  have hm5 : (m' : Int) < 5000 := by omega
                  have hk1' : (k' : Int) < (pr.length : Int) := by omega
                  have wm : IntKind.i64.wrap ((m' : Int) + (key.length : Int)) = (m' : Int) + (key.length : Int) := by rw [IntKind.wrap_i64]; omega
                  have wm2 : IntKind.i64.wrap ((m' : Int) + (key.length : Int) + (vt.length : Int)) = (m' : Int) + (key.length : Int) + (vt.length : Int) := by rw [IntKind.wrap_i64]; omega
                  go_wp2_with fail
                  have f0 : ∀ z, (wr.drewN z).cell? ⟨B', o' + k' * 6, none⟩ = _ := fun _ => hq.1
                  have f5 : ∀ z, (wr.drewN z).cell? ⟨B', o' + k' * 6 + 5, none⟩ = _ := fun _ => hq.2.2.2.2.2
                  have f5' : ∀ z, (wr.drewN z).cell? ⟨B', o' + k' * 6 + 1 + 4, none⟩ = _ := fun _ => hq.2.2.2.2.2
                  have g4 : ∀ z, (wr.drewN z).cell? ⟨B, o + j * 9 + 3 + 1, none⟩ = _ := fun _ => e4
                  have g4' : ∀ z, (wr.drewN z).cell? ⟨B, o + j * 9 + 4, none⟩ = _ := fun _ => e4
                  go_quiet (fail)
                  go_wp2_with fail
                  go_roundw
                  case rel => exact ⟨k' + 1, m' + (key.length + vt.length), by omega, by go_num, by simp; omega, by omega, by have h := HU.out.step (d := key.length + vt.length) h5'; rw [HSS.out]; unfold Upto at h ⊢; omega, HBW.out.trans ((below_drewN wr _).mono HBW.out.size)⟩
                  case measure => simp [intOf]; omega
                · have hm5 : ¬ (m' : Int) < 5000 := by omega
                  have hk1' : (k' : Int) < (pr.length : Int) := by omega
                  go_wp2_with fail
                  go_roundw
                  case rel => exact ⟨j + 1, m', by omega, by go_num, rfl, hm', .inr (by omega), HBW.out⟩
                  case measure => simp [intOf]; omega
              · obtain rfl : k' = pr.length := by omega
                have hk1' : ¬ (pr.length : Int) < (pr.length : Int) := by omega
                go_wp2_with fail
                go_roundw
                case rel => exact ⟨j + 1, m', by omega, by go_num, rfl, hm', by rw [HS.out, HSW.out]; have := HU.out; rw [List.take_of_length_le (Nat.le_refl _)] at this; unfold szP; rwa [show sumR (fun p : WV => szW p.x) (ps.take j) + (1 + et.length + ss.length + pr.length + szS ss + sumR (fun p : PR => p.key.length + p.v.t.length) pr) = sumR (fun p : WV => szW p.x) (ps.take j) + (1 + et.length + ss.length + pr.length) + szS ss + sumR (fun p : PR => p.key.length + p.v.t.length) pr by omega], HBW.out⟩
                case measure => simp [intOf]; omega
      · have hn5 : ¬ (n : Int) < 5000 := by omega
        have hi1 : (j : Int) < (ps.length : Int) := by omega
        have hn6 : (5000 : Int) ≤ (n : Int) := by omega
        go_wp2_with fail
        go_ret
        exact ⟨true, rfl, by simp, HBW.out⟩
    · obtain rfl : j = ps.length := by omega
      rw [List.take_of_length_le (Nat.le_refl _)] at HU
      by_cases h5 : n < 5000
      · have hn5 : ¬ (5000 : Int) ≤ (n : Int) := by omega
        go_wp2_with fail
        go_ret
        exact ⟨false, rfl, fun _ => by rcases HU.out with h | h <;> omega, HBW.out⟩
      · have hn5 : (5000 : Int) ≤ (n : Int) := by omega
        go_wp2_with fail
        go_ret
        exact ⟨true, rfl, by simp, HBW.out⟩
end Go.Proofs.YtmbffncmogpkfaaGreatDoor
