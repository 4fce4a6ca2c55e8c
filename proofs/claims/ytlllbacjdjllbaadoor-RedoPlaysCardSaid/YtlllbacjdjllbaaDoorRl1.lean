
/- Contracts of the reference's log: sectors, entries. -/
import Derived.Test.YtlllbacjdjllbaaDoorRd3
import Derived.Test.YtlllbacjdjllbaaDoorRCur3
import Derived.Test.YtlllbacjdjllbaaDoorMin5
import Derived.BigQuiet
import Derived.Deep.QuietTactic
namespace Go.Proofs.YtlllbacjdjllbaaDoor
open Go Go.Proofs Go.Shelf Go.RowKit Go.Great
set_option linter.unusedVariables false
set_option linter.unusedSimpArgs false

theorem sectors_c {lo X : Nat} {ov sv wv : Value} {d : PD} {left : Int} {w : World} (h : RDAt lo w X ov sv wv d left) (hn : 2 ≤ d.n) : Calls Tryd.prog 44 #[.pointer (some ⟨X, 0, none⟩)] w fun e w' => e = .returned (.int .i64 (bankP d : Int)) ∧ w = w' := by
  obtain ⟨sa, sc, rfl⟩ := owns_shape h.s
  have c1 := h.blk.blk.cell 1 _ rfl
  have hn2 := h.ok.n
  have e : ((d.n : Int) - 2) / 2 = (bankP d : Int) := by unfold bankP; omega
  have HE := Lib.hid e
  clear h e
  generalize bankP d = q at *
  go_enter Tryd.func44, Tryd.ntmps44
  go_wp2_with fail
  go_ret
  exact ⟨congrArg (fun z => Ending.returned (.int .i64 z)) HE.out, rfl⟩
/-- the entries of bytes, in memory. -/
def EntTo (w : World) (l : List UInt8) (e : Ending) (w' : World) : Prop := ∃ va vc, e = .returned (.tuple #[.slice va (entP l).1.length vc, .bool (entP l).2]) ∧ RowsU w.heap.size w' (.slice va (entP l).1.length vc) (entP l).1 ∧ Below w.heap.size w w'
set_option maxRecDepth 20000 in
set_option maxHeartbeats 4000000 in
theorem entries_c (w : World) (l : List UInt8) (vb : Value) (hb : RowAt w vb (bytesV l)) (hl : l.length ≤ 6400) : Calls Tryd.prog 46 #[vb] w (EntTo w l) := by
  obtain ⟨ba, bc, rfl⟩ := hb.shapeB
  obtain ⟨R, hap, hRl⟩ := Apart.ofRow hb (Nat.le_refl w.heap.size)
  have hcur : CurAt R (w.alloc (.cells #[.slice ba l.length bc, .bool false] 102)) w.heap.size (some l) := by
    have q := Blk.new w [.slice ba l.length bc, .bool false] 102
    exact ⟨_, q.cell 0 _ rfl, q.cell 1 _ rfl, q.thaw 0, q.thaw 1, hb.below ((Below.refl _ w).alloc (Nat.le_refl _) _), hap⟩
  have HW : Hid (Below w.heap.size w (w.alloc (.cells #[.slice ba l.length bc, .bool false] 102))) := Lib.hid ((Below.refl _ w).alloc (Nat.le_refl _) _)
  have HC := Lib.hid hcur
  have HRl := Lib.hid hRl
  clear hb hap hcur hRl
  go_enter Tryd.func46, Tryd.ntmps46
  go_wp2_with fail
  have hw1 : (w.alloc (.cells #[.slice ba l.length bc, .bool false] 102)).heap.size = w.heap.size + 1 := by simp
  have HW1 := Lib.hid hw1
  clear hw1
  generalize w.alloc (.cells #[.slice ba l.length bc, .bool false] 102) = w1 at *
  go_loopw [5] (fun o wr => ∃ (c : Cur) (es : List (List UInt8)) (q n' c' : Nat) (a' : Option Addr), o = .slice a' n' c' ∧ n' = es.length ∧ entP l = (es ++ (entF q c).1, (entF q c).2) ∧ curLen c ≤ q ∧ es.length + curLen c ≤ l.length ∧ CS R w.heap.size w c wr ∧ w1.heap.size ≤ wr.heap.size ∧ RowsU w1.heap.size wr o es) (fun o _ => l.length + 1 - (match o with | .slice _ n _ => n | _ => 0))
  case atStart => exact ⟨some l, [], l.length, 0, 0, none, rfl, rfl, by simp [entP], Nat.le_refl _, by simp [curLen], ⟨HC.out, HW.out, Nat.le_refl _⟩, Nat.le_refl _, RowsU.nil _ _⟩
  case round =>
    obtain ⟨c, es, q, n', c', a', rfl, hes, hE, hcq, hle, hcs, hsz, hro⟩ := hrel
    have HCS := Lib.hid hcs
    have HES := Lib.hid hes
    have HSZ := Lib.hid hsz
    have HRO := Lib.hid hro
    have HE := Lib.hid hE
    have HLE := Lib.hid (show curLen c ≤ q ∧ es.length + curLen c ≤ l.length from ⟨hcq, hle⟩)
    obtain ⟨v, k0, k1, f0, f1, hrow, hapt⟩ := hcs.cur
    have hlen := hrow.lenRun elemU 3
    rw [bytesV_length] at hlen
    clear hsz hro hE hcq hle hrow hapt f0 f1
    rcases c with _ | (_ | ⟨x, r⟩)
    · simp only [Option.isNone, Option.getD, List.length_nil] at k1 hlen
      have hq0 : ∀ m, (wr.drewN m).cell? ⟨w.heap.size, 1, none⟩ = some (.bool true) := fun m => by rw [World.cell?_drewN]; exact k1
      clear hcs hes
      go_wp2_with fail
      go_quiet (fail)
      have HFB := Lib.hid (below_dr HCS.out.bel nq)
      go_wp2_with fail
      go_ret2
      have hE := HE.out
      have hE1 : (entP l).1 = es := by rw [hE]; simp [entF]
      have hE2 : (entP l).2 = false := by rw [hE]; simp [entF]
      have hn' : n' = (entP l).1.length := by rw [hE1, HES.out]
      subst hn'
      refine ⟨a', c', by rw [hE2]; rfl, ?_, HFB.out⟩
      rw [hE1] at HRO ⊢
      exact (HRO.out.below (below_dr (Below.refl _ wr) _)).mono (by have := HW1.out; omega)
    · simp only [Option.isNone, Option.getD, List.length_nil] at k1 hlen
      have hq0 : ∀ m, (wr.drewN m).cell? ⟨w.heap.size, 1, none⟩ = some (.bool false) := fun m => by rw [World.cell?_drewN]; exact k1
      clear hcs hes
      go_wp2_with fail
      go_quiet (fail)
      have HFB := Lib.hid (below_dr HCS.out.bel nq)
      go_wp2_with fail
      go_ret2
      have hE := HE.out
      have hE1 : (entP l).1 = es := by rw [hE]; simp [entF]
      have hE2 : (entP l).2 = true := by rw [hE]; simp [entF]
      have hn' : n' = (entP l).1.length := by rw [hE1, HES.out]
      subst hn'
      refine ⟨a', c', by rw [hE2]; rfl, ?_, HFB.out⟩
      rw [hE1] at HRO ⊢
      exact (HRO.out.below (below_dr (Below.refl _ wr) _)).mono (by have := HW1.out; omega)
    · simp only [Option.isNone, Option.getD, List.length_cons] at k1 hlen
      have hcl := curStr_len x r
      have HCL := Lib.hid (show (curStr (some (x :: r))).1.length ≤ 6400 from by have h1 := HLE.out.2; have h4 := hcl.2; simp only [curLen, List.length_cons] at h1; omega)
      have HCN := Lib.hid hcl.1
      clear hcs hes hcl
      go_wp2_with fail
      have HBL : Hid (w.heap.size < w1.heap.size) := Lib.hid (by have := HW1.out; omega)
      with_reducible refine (XStr_c _ _ wr HCS.out.cur).mono ?_
      rintro e wq ⟨rfl, hcq, hgq⟩
      have HCQ := Lib.hid (HCS.out.call hcq hgq)
      have HRQ := Lib.hid (HRO.out.low hgq HBL.out)
      have HSQ := Lib.hid (show w1.heap.size ≤ wq.heap.size from Nat.le_trans HSZ.out hgq.size)
      clear hcq hgq k0 k1 hlen
      generalize hS : curStr (some (x :: r)) = ss at *
      obtain ⟨s1, c1⟩ := ss
      obtain ⟨cv, wv, hconv, hru, hbv⟩ := conv_rowU s1 (by have h4 : s1.length ≤ 6400 := HCL.out; unfold maxLen; omega) wq w1.heap.size HSQ.out
      obtain ⟨cells, hco, hcc⟩ := HRQ.out.below hbv
      rw [← HES.out] at hco
      have HCO := Lib.hid hco
      have HCC := Lib.hid hcc
      have HCV := Lib.hid (HCQ.out.below hbv)
      have HRU := Lib.hid hru
      have HSV := Lib.hid (Nat.le_trans HSQ.out hbv.size)
      have HNB := Lib.hid (show n' + 1 ≤ 6401 from by have h1 := HLE.out.2; have h4 := HES.out; simp only [curLen, List.length_cons] at h1; omega)
      clear hco hcc hru hbv
      go_wp2_with (at_builtin; refine wp_appK1 elemRs (by decide) rfl _ _ rfl w1.heap.size n' _ cells rfl HCO.out [.slice (some ⟨wq.heap.size, 0, none⟩) s1.length cv] rfl rfl ?_ ?_ ?_ ?_ ?_)
      · intro u hu; rw [List.mem_singleton.1 hu]; rfl
      · have := HNB.out; omega
      · have := HNB.out; omega
      · exact HSV.out
      · intro v' w' hown' hgr hbl
        obtain ⟨va, vc, rfl⟩ := owns_shape hown'
        have HR' := Lib.hid (RowsU.snoc (by rw [← HES.out]; exact HCO.out.alloc _) (fun i e c h1 h2 => (HCC.out i e c h1 h2).below ((Below.refl _ wv).alloc (Nat.le_refl _) _)) (HRU.out.below ((Below.refl _ wv).alloc (Nat.le_refl _) _)) (by rw [← HES.out]; exact hown') hgr)
        have HC' := Lib.hid ((HCV.out.below ((Below.refl _ wv).alloc (Nat.le_refl _) _)).grownO (HCO.out.alloc _) hgr HBL.out (fun r' hr' => by have h1 := (HRl.out r' hr').1; have h2 := HBL.out; omega) (Nat.le_of_lt HBL.out))
        have HS' := Lib.hid (Nat.le_trans HSV.out hbl.size)
        clear hown' hgr hbl
        go_wp2_with fail
        refine ⟨⟨c1, es ++ [s1], q - 1, n' + 1, vc, va, rfl, by rw [List.length_append, HES.out]; rfl, ?_, ?_, ?_, HC'.out, HS'.out, HR'.out⟩, ?_⟩
        · have hq : q = (q - 1) + 1 := by have h1 := HLE.out.1; simp only [curLen, List.length_cons] at h1; omega
          have hE := HE.out
          rw [hq] at hE
          rw [hE]
          simp [entF, hS]
        · have h1 := HLE.out.1; have h2 := HCN.out; simp only [curLen, List.length_cons] at h1 h2 ⊢; omega
        · have h1 := HLE.out.2; have h2 := HCN.out; simp only [curLen, List.length_cons, List.length_append, List.length_nil] at h1 h2 ⊢; omega
        · have h1 := HLE.out.2; have h2 := HES.out; simp only [curLen, List.length_cons] at h1; simp only []; omega
end Go.Proofs.YtlllbacjdjllbaaDoor
