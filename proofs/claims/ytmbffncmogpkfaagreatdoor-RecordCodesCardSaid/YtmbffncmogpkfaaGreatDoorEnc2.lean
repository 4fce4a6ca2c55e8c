
/- Contracts of package record: laysNode. -/
import Derived.Test.YtmbffncmogpkfaaGreatDoorEnc
namespace Go.Proofs.YtmbffncmogpkfaaGreatDoor
open Go Go.Proofs Go.RowKit
set_option linter.unusedVariables false
set_option linter.unusedSimpArgs false

/-- a call gives a row of these bytes; nothing that was there has turned. -/
def RowB (w : World) (l : List UInt8) (e : Ending) (w' : World) : Prop := ∃ v', e = .returned v' ∧ RowAt w' v' (bytesV l) ∧ Below w.heap.size w w'
theorem keepCall {w W : World} {F : World → Prop} {fn : Nat} {args : Array Value} {post : Ending → World → Prop} (hK : Keep w F W) (h : Keep w F W → Calls Tryz.prog fn args W post) : Calls Tryz.prog fn args W post := h hK
theorem Keep.plus {w0 w w' : World} {F : World → Prop} {v : Value} {vs : List Value} (h : Keep w0 F w) (hb : Below w.heap.size w w') (hr : RowAt w' v vs) : Keep w0 (fun W => F W ∧ RowAt W v vs) w' :=
  ⟨⟨h.stable w' hb, hr⟩, h.below.trans (hb.mono h.below.size), fun w'' h2 => ⟨h.stable w'' (hb.trans (h2.mono hb.size)), hr.below h2⟩⟩
theorem Keep.map {w0 w : World} {F G : World → Prop} (h : Keep w0 F w) (hi : ∀ W, F W → G W) : Keep w0 G w := ⟨hi _ h.facts, h.below, fun W hW => hi _ (h.stable W hW)⟩
theorem row_of_blk {W : World} {g B n : Nat} {cs : List Value} (h : Blk W g cs) (hB : B = g) (hn : n = cs.length) (hm : n ≤ 4) : RowAt W (.slice (some ⟨B, 0, none⟩) n n) cs := by
  subst hB hn
  refine ⟨by unfold maxLen; omega, .inr ⟨⟨B, 0, none⟩, _, rfl, Nat.le_refl _, fun i hi => ?_⟩⟩
  rw [addr_add, Nat.zero_add]
  exact h.cell i _ (List.getElem?_eq_getElem hi)
theorem IntR_c (B g : Nat) (vb : Value) (l : List UInt8) (n : Int) (w : World) (h1 : RowAt w vb (bytesV l)) (h2 : Blk w g [.int .i64 n]) (hB : B = g) (hn : i64R n) (hb : l.length ≤ 17592186044416) :
    Calls Tryz.prog 12 #[vb, .slice (some ⟨B, 0, none⟩) 1 1] w (OwnB w (l ++ lebInt n)) := by
  have := Int_c vb (.slice (some ⟨B, 0, none⟩) 1 1) l [n] w h1 (row_of_blk h2 hB rfl (by omega)) (by intro m hm; simp at hm; subst hm; exact hn) (by simp; omega)
  rwa [lebInts_one] at this
theorem StrR_c (B g : Nat) (vb : Value) (l : List UInt8) (s : List UInt8) (w : World) (h1 : RowAt w vb (bytesV l)) (h2 : Blk w g [.string ⟨s.toArray⟩]) (hB : B = g) (hb : l.length + s.length ≤ 8796093022208) :
    Calls Tryz.prog 15 #[vb, .slice (some ⟨B, 0, none⟩) 1 1] w (OwnB w (l ++ lebStr s)) := by
  have := Str_c vb (.slice (some ⟨B, 0, none⟩) 1 1) l [s] w h1 (row_of_blk h2 hB rfl (by omega)) (by simp [strsRoom]; omega)
  rwa [show lebStrs [s] = lebStr s by simp [lebStrs]] at this
theorem RealR_c (B g : Nat) (vb : Value) (l : List UInt8) (f : Nat) (w : World) (h1 : RowAt w vb (bytesV l)) (h2 : Blk w g [.float .f64 f]) (hB : B = g) (hf : f < W64) (hb : l.length ≤ 8796093022208) :
    Calls Tryz.prog 14 #[vb, .slice (some ⟨B, 0, none⟩) 1 1] w (OwnB w (l ++ lebReal f)) := by
  have := Real_c vb (.slice (some ⟨B, 0, none⟩) 1 1) l [f] w h1 (row_of_blk h2 hB rfl (by omega)) (by intro g hg; simp at hg; subst hg; exact hf) (by simp; omega)
  rwa [show lebReals [f] = lebReal f by simp [lebReals]] at this
theorem PR.v5 {W : World} {g : Nat} {key : List UInt8} {v : V5} (h : Blk W g (⟨key, v⟩ : PR).cells) : W.cell? ⟨g, 0, none⟩ = some (.string ⟨key.toArray⟩) ∧ W.cell? ⟨g, 1, none⟩ = some (.int .i64 v.k) ∧ W.cell? ⟨g, 2, none⟩ = some (.bool v.b) ∧ W.cell? ⟨g, 3, none⟩ = some (.int .i64 v.n) ∧ W.cell? ⟨g, 4, none⟩ = some (.float .f64 v.f) ∧ W.cell? ⟨g, 5, none⟩ = some (.string ⟨v.t.toArray⟩) :=
  ⟨h.cell 0 _ rfl, h.cell 1 _ rfl, h.cell 2 _ rfl, h.cell 3 _ rfl, h.cell 4 _ rfl, h.cell 5 _ rfl⟩
set_option maxRecDepth 100000 in
set_option maxHeartbeats 8000000 in
theorem laysNode_c (vb : Value) (l : List UInt8) (ss : List (List UInt8)) (ps : List PR) (sa pa : Option Addr) (sc pc : Nat) (w : World) (h : RowAt w vb (bytesV l)) (hs : RowAt w (.slice sa ss.length sc) (ss.map strV)) (hp : RowK 6 w (.slice pa ps.length pc) (ps.map PR.cells)) (hok : ∀ p ∈ ps, okP2 p) (hb : l.length + roomNd ss ps ≤ 2199023255552) :
    Calls Tryz.prog 16 #[vb, .agg #[.slice sa ss.length sc, .slice pa ps.length pc]] w (RowB w (l ++ lebNode ss ps)) := by
  have e1 : ss.length ≤ strsRoom ss := sumR_len (fun s : List UInt8 => 10 + s.length) (by intro x; omega) ss
  have e2 : ps.length ≤ sumR roomPr ps := sumR_len roomPr (by intro x; unfold roomPr; omega) ps
  have e3 := lebInt_len (ss.length : Int) (by omega) (by unfold roomNd at hb; omega)
  have e4 := lebInt_len (ps.length : Int) (by omega) (by unfold roomNd at hb; omega)
  have e5 := lebStrs_len ss (by unfold roomNd at hb; omega)
  have HL : Hid (∃ hd, hd = (l ++ lebInt ss.length) ++ lebStrs ss ++ lebInt ps.length ∧ l ++ lebNode ss ps = hd ++ lebPrs ps ∧ hd.length ≤ l.length + 20 + strsRoom ss) := Lib.hid ⟨_, rfl, by simp [lebNode], by simp only [List.length_append]; omega⟩
  obtain ⟨hd, hhd, hL, hlen⟩ := HL.out
  have HHD := Lib.hid hhd
  have HLL := Lib.hid hL
  have HLN := Lib.hid hlen
  have HOK := Lib.hid hok
  have HB := Lib.hid hb
  have hsl : ss.length ≤ 2199023255552 := by unfold roomNd at hb; omega
  have hpl : ps.length ≤ 2199023255552 := by unfold roomNd at hb; omega
  have C1 := Lib.hid (fun B g W (h1 : RowAt W vb (bytesV l)) h2 hB => IntR_c B g vb l (ss.length : Int) W h1 h2 hB ⟨by omega, by omega⟩ (by unfold roomNd at hb; omega))
  have C2 := Lib.hid (fun v vs W (h1 : RowAt W v (bytesV (l ++ lebInt ss.length))) (h2 : RowAt W vs (strsV ss)) => Str_c v vs (l ++ lebInt ss.length) ss W h1 h2 (by simp only [List.length_append]; unfold roomNd at hb; omega))
  have C3 := Lib.hid (fun B g v W (h1 : RowAt W v (bytesV ((l ++ lebInt ss.length) ++ lebStrs ss))) h2 hB => IntR_c B g v ((l ++ lebInt ss.length) ++ lebStrs ss) (ps.length : Int) W h1 h2 hB ⟨by omega, by omega⟩ (by simp only [List.length_append]; unfold roomNd at hb; omega))
  rw [← hhd] at C3
  obtain ⟨w1, hw1⟩ : ∃ w1, w1 = w.alloc (.cells #[.slice sa ss.length sc, .slice pa ps.length pc] 43) := ⟨_, rfl⟩
  have hB1 : Below w.heap.size w w1 := by rw [hw1]; exact (Below.refl _ w).alloc (Nat.le_refl _) _
  have HB1 := Lib.hid hB1
  have hblk : Blk w1 w.heap.size [.slice sa ss.length sc, .slice pa ps.length pc] := by rw [hw1]; exact Blk.new w [.slice sa ss.length sc, .slice pa ps.length pc] _
  have HT : Hid (Keep w1 (fun W => (((True ∧ RowAt W (.slice sa ss.length sc) (strsV ss)) ∧ RowK 6 W (.slice pa ps.length pc) (ps.map PR.cells)) ∧ Blk W w.heap.size [.slice sa ss.length sc, .slice pa ps.length pc]) ∧ RowAt W vb (bytesV l)) w1) :=
    Lib.hid ⟨⟨⟨⟨⟨trivial, hs.below hB1⟩, hp.below hB1⟩, hblk⟩, h.below hB1⟩, Below.refl _ w1, fun W hW => ⟨⟨⟨⟨trivial, (hs.below hB1).below hW⟩, (hp.below hB1).below hW⟩, hblk.below hW⟩, (h.below hB1).below hW⟩⟩
  have HS : Hid (∀ W, Below w1.heap.size w1 W → W.cell? ⟨w.heap.size, 0, none⟩ = some (.slice sa ss.length sc) ∧ W.cell? ⟨w.heap.size, 1, none⟩ = some (.slice pa ps.length pc)) := Lib.hid (fun W hW => ⟨(hblk.below hW).cell 0 _ rfl, (hblk.below hW).cell 1 _ rfl⟩)
  clear h hs hp hok e1 e2 e3 e4 e5 hb hhd hL hlen HL hB1 hblk
  rw [HLL.out]
  go_enter Tryz.func16, Tryz.ntmps16
  go_wp2_with fail
  rw [← hw1]
  clear hw1
  replace HT := Lib.hid HT.out.drew
  go_region_held3 (fun w' => w'.cell? ⟨w.heap.size, 0, none⟩ = some (.slice sa ss.length sc) ∧ w'.cell? ⟨w.heap.size, 1, none⟩ = some (.slice pa ps.length pc))
    ((exact HS.out _ (by (first | exact HT.out.below | exact (HT.out.more _ _).below | exact ((HT.out.more _ _).more _ _).below | exact (((HT.out.more _ _).more _ _).more _ _).below | exact ((((HT.out.more _ _).more _ _).more _ _).more _ _).below))))
    (first
      | (go_at_call 12; apply keepCall; (next => (first | exact HT.out | exact (HT.out.more _ _) | exact ((HT.out.more _ _).more _ _) | exact (((HT.out.more _ _).more _ _).more _ _) | exact ((((HT.out.more _ _).more _ _).more _ _).more _ _))); intro hKK; replace HT := Lib.hid hKK; clear hKK; (with_reducible refine (C1.out _ _ _ (by first | exact HT.out.facts.2 | exact HT.out.facts.1.2 | exact HT.out.facts.1.1.2 | exact HT.out.facts.1.1.1.2 | exact HT.out.facts.1.1.1.1.2 | exact HT.out.facts.1.1.1.1.1.2 | exact HT.out.facts.1.1.1.1.1.1.2 | exact HT.out.facts.1.1.1.1.1.1.1.2 | exact HT.out.facts.1.1.1.1.1.1.1.1.2 | exact HT.out.facts.1.1.1.1.1.1.1.1.1.2 | exact HT.out.facts.1.1.1.1.1.1.1.1.1.1.2 | exact HT.out.facts.1.1.1.1.1.1.1.1.1.1.1.2 | exact HT.out.facts.1.1.1.1.1.1.1.1.1.1.1.1.2) (by first | exact HT.out.facts.2 | exact HT.out.facts.1.2 | exact HT.out.facts.1.1.2 | exact HT.out.facts.1.1.1.2 | exact HT.out.facts.1.1.1.1.2 | exact HT.out.facts.1.1.1.1.1.2 | exact HT.out.facts.1.1.1.1.1.1.2 | exact HT.out.facts.1.1.1.1.1.1.1.2 | exact HT.out.facts.1.1.1.1.1.1.1.1.2 | exact HT.out.facts.1.1.1.1.1.1.1.1.1.2 | exact HT.out.facts.1.1.1.1.1.1.1.1.1.1.2 | exact HT.out.facts.1.1.1.1.1.1.1.1.1.1.1.2 | exact HT.out.facts.1.1.1.1.1.1.1.1.1.1.1.1.2) (by first | rfl | simp)).mono ?_); rintro e wq ⟨v', rfl, hown, hq⟩; have hr' := RowAt.ofOwns hown; obtain ⟨a', n', c', rfl⟩ := hr'.sh; replace HT := Lib.hid (HT.out.plus hq hr'); clear hown hq hr')
      | (go_at_call 12; apply keepCall; (next => (first | exact HT.out | exact (HT.out.more _ _) | exact ((HT.out.more _ _).more _ _) | exact (((HT.out.more _ _).more _ _).more _ _) | exact ((((HT.out.more _ _).more _ _).more _ _).more _ _))); intro hKK; replace HT := Lib.hid hKK; clear hKK; (with_reducible refine (C3.out _ _ _ _ (by first | exact HT.out.facts.2 | exact HT.out.facts.1.2 | exact HT.out.facts.1.1.2 | exact HT.out.facts.1.1.1.2 | exact HT.out.facts.1.1.1.1.2 | exact HT.out.facts.1.1.1.1.1.2 | exact HT.out.facts.1.1.1.1.1.1.2 | exact HT.out.facts.1.1.1.1.1.1.1.2 | exact HT.out.facts.1.1.1.1.1.1.1.1.2 | exact HT.out.facts.1.1.1.1.1.1.1.1.1.2 | exact HT.out.facts.1.1.1.1.1.1.1.1.1.1.2 | exact HT.out.facts.1.1.1.1.1.1.1.1.1.1.1.2 | exact HT.out.facts.1.1.1.1.1.1.1.1.1.1.1.1.2) (by first | exact HT.out.facts.2 | exact HT.out.facts.1.2 | exact HT.out.facts.1.1.2 | exact HT.out.facts.1.1.1.2 | exact HT.out.facts.1.1.1.1.2 | exact HT.out.facts.1.1.1.1.1.2 | exact HT.out.facts.1.1.1.1.1.1.2 | exact HT.out.facts.1.1.1.1.1.1.1.2 | exact HT.out.facts.1.1.1.1.1.1.1.1.2 | exact HT.out.facts.1.1.1.1.1.1.1.1.1.2 | exact HT.out.facts.1.1.1.1.1.1.1.1.1.1.2 | exact HT.out.facts.1.1.1.1.1.1.1.1.1.1.1.2 | exact HT.out.facts.1.1.1.1.1.1.1.1.1.1.1.1.2) (by first | rfl | simp)).mono ?_); rintro e wq ⟨v', rfl, hown, hq⟩; have hr' := RowAt.ofOwns hown; obtain ⟨a', n', c', rfl⟩ := hr'.sh; replace HT := Lib.hid (HT.out.plus hq hr'); clear hown hq hr')
      | (go_at_call 15; apply keepCall; (next => (first | exact HT.out | exact (HT.out.more _ _) | exact ((HT.out.more _ _).more _ _) | exact (((HT.out.more _ _).more _ _).more _ _) | exact ((((HT.out.more _ _).more _ _).more _ _).more _ _))); intro hKK; replace HT := Lib.hid hKK; clear hKK; (with_reducible refine (C2.out _ _ _ (by first | exact HT.out.facts.2 | exact HT.out.facts.1.2 | exact HT.out.facts.1.1.2 | exact HT.out.facts.1.1.1.2 | exact HT.out.facts.1.1.1.1.2 | exact HT.out.facts.1.1.1.1.1.2 | exact HT.out.facts.1.1.1.1.1.1.2 | exact HT.out.facts.1.1.1.1.1.1.1.2 | exact HT.out.facts.1.1.1.1.1.1.1.1.2 | exact HT.out.facts.1.1.1.1.1.1.1.1.1.2 | exact HT.out.facts.1.1.1.1.1.1.1.1.1.1.2 | exact HT.out.facts.1.1.1.1.1.1.1.1.1.1.1.2 | exact HT.out.facts.1.1.1.1.1.1.1.1.1.1.1.1.2) (by first | exact HT.out.facts.2 | exact HT.out.facts.1.2 | exact HT.out.facts.1.1.2 | exact HT.out.facts.1.1.1.2 | exact HT.out.facts.1.1.1.1.2 | exact HT.out.facts.1.1.1.1.1.2 | exact HT.out.facts.1.1.1.1.1.1.2 | exact HT.out.facts.1.1.1.1.1.1.1.2 | exact HT.out.facts.1.1.1.1.1.1.1.1.2 | exact HT.out.facts.1.1.1.1.1.1.1.1.1.2 | exact HT.out.facts.1.1.1.1.1.1.1.1.1.1.2 | exact HT.out.facts.1.1.1.1.1.1.1.1.1.1.1.2 | exact HT.out.facts.1.1.1.1.1.1.1.1.1.1.1.1.2)).mono ?_); rintro e wq ⟨v', rfl, hown, hq⟩; have hr' := RowAt.ofOwns hown; obtain ⟨a', n', c', rfl⟩ := hr'.sh; replace HT := Lib.hid (HT.out.plus hq hr'); clear hown hq hr'))
  all_goals
    have hl1 := (HS.out _ HT.out.below).2
    replace HT := Lib.hid (HT.out.map (G := fun W => (True ∧ RowK 6 W (.slice pa ps.length pc) (ps.map PR.cells)) ∧ RowAt W _ (bytesV hd)) (fun W hf => ⟨⟨trivial, (by first | exact hf.2 | exact hf.1.2 | exact hf.1.1.2 | exact hf.1.1.1.2 | exact hf.1.1.1.1.2 | exact hf.1.1.1.1.1.2 | exact hf.1.1.1.1.1.1.2 | exact hf.1.1.1.1.1.1.1.2 | exact hf.1.1.1.1.1.1.1.1.2 | exact hf.1.1.1.1.1.1.1.1.1.2 | exact hf.1.1.1.1.1.1.1.1.1.1.2 | exact hf.1.1.1.1.1.1.1.1.1.1.1.2 | exact hf.1.1.1.1.1.1.1.1.1.1.1.1.2)⟩, hf.2⟩))
    clear HS C1 C2 C3
    go_wp2_with fail
    go_loopw [0, 24] (fun b i wr => ∃ (j : Nat) (va : Option Addr) (vn vc : Nat), j ≤ ps.length ∧ b = .slice va vn vc ∧ i = .int .i64 (j : Int) ∧ Keep w1 (fun W => (True ∧ RowK 6 W (.slice pa ps.length pc) (ps.map PR.cells)) ∧ RowAt W (.slice va vn vc) (bytesV (hd ++ lebPrs (ps.take j)))) wr) (fun _ i _ => ps.length - (intOf i).toNat)
    case atStart => exact ⟨0, _, _, _, by omega, rfl, rfl, by simpa [lebPrs] using HT.out⟩
    case round =>
      clear HT hl1
      obtain ⟨j, va, vn, vc, hj, rfl, rfl, hrT⟩ := hrel
      have HT := Lib.hid hrT
      clear hrT
      by_cases hlt : j < ps.length
      · obtain ⟨B, o, rfl, hBl, hx⟩ := row_pr HT.out.facts.1.2 j hlt
        have hHD := hd
        have hokj := HOK.out _ (List.getElem_mem hlt)
        have HE : Hid ((hd ++ lebPrs (ps.take (j + 1))) = (((hd ++ lebPrs (ps.take j)) ++ lebStr ps[j].key) ++ lebV ps[j].v)) := Lib.hid (by unfold lebPrs; rw [flatG_snoc lebPr ps j hlt]; simp [lebPr])
        have hpre := flatG_len lebPr roomPr (ps.take j) (fun p hp => lebPr_len (HOK.out p (List.mem_of_mem_take hp)))
        have hrm := sumR_step roomPr ps j hlt
        have hlk := lebStr_len ps[j].key (by have := hokj.2.2.2.2; omega)
        have hbd : (hd ++ lebPrs (ps.take j)).length + roomPr ps[j] ≤ 2199023255592 := by
          have h1 := HLN.out
          have h2 := HB.out
          unfold roomNd at h2
          unfold lebPrs
          rw [List.length_append]
          omega
        unfold roomPr at hbd
        have C4 := Lib.hid (fun B g v W (h1 : RowAt W v (bytesV (hd ++ lebPrs (ps.take j)))) (h2 : Blk W g [.string ⟨ps[j].key.toArray⟩]) (hB : B = g) => StrR_c B g v (hd ++ lebPrs (ps.take j)) ps[j].key W h1 h2 hB (by omega))
        have C5 := Lib.hid (fun v W (h1 : RowAt W v (bytesV ((hd ++ lebPrs (ps.take j)) ++ lebStr ps[j].key))) => laysValue_c v _ ps[j].v W h1 hokj.1 hokj.2.1 hokj.2.2.1 (by rw [List.length_append]; omega))
        have hmi : (j : Int) < (ps.length : Int) := by omega
        clear hokj hpre hrm hlk hbd
        replace HT : Hid (Keep w1 (fun W => ((True ∧ RowK 6 W (.slice (some ⟨B, o, none⟩) ps.length pc) (ps.map PR.cells)) ∧ RowAt W (.slice va vn vc) (bytesV (hd ++ lebPrs (ps.take j)))) ∧ Blk W wr.heap.size ps[j].cells) (wr.alloc (.cells ps[j].cells.toArray 49))) := Lib.hid (HT.out.more _ _)
        generalize hd ++ lebPrs (ps.take j) = l1 at *
        generalize ps[j] = y at *
        obtain ⟨key, ⟨k, b, n, f, t⟩⟩ := y
        have hk := PR.factsAt hx
        unfold V5.v at C5
        unfold PR.cells at HT
        dsimp only at HT C4 C5 HE
        clear hx
        go_wp2_with fail
        replace HT := Lib.hid HT.out.drew
        go_region_held3 (fun w' => w'.cell? ⟨wr.heap.size, 0, none⟩ = some (.string ⟨key.toArray⟩) ∧ w'.cell? ⟨wr.heap.size, 1, none⟩ = some (.int .i64 k) ∧ w'.cell? ⟨wr.heap.size, 2, none⟩ = some (.bool b) ∧ w'.cell? ⟨wr.heap.size, 3, none⟩ = some (.int .i64 n) ∧ w'.cell? ⟨wr.heap.size, 4, none⟩ = some (.float .f64 f) ∧ w'.cell? ⟨wr.heap.size, 5, none⟩ = some (.string ⟨t.toArray⟩))
          ((exact PR.facts (by first | exact HT.out.facts.2 | exact HT.out.facts.1.2 | exact HT.out.facts.1.1.2 | exact HT.out.facts.1.1.1.2 | exact HT.out.facts.1.1.1.1.2 | exact HT.out.facts.1.1.1.1.1.2 | exact HT.out.facts.1.1.1.1.1.1.2 | exact HT.out.facts.1.1.1.1.1.1.1.2 | exact HT.out.facts.1.1.1.1.1.1.1.1.2 | exact HT.out.facts.1.1.1.1.1.1.1.1.1.2 | exact HT.out.facts.1.1.1.1.1.1.1.1.1.1.2 | exact HT.out.facts.1.1.1.1.1.1.1.1.1.1.1.2 | exact (HT.out.alloc _).facts.2 | exact (HT.out.alloc _).facts.1.2 | exact (HT.out.alloc _).facts.1.1.2 | exact (HT.out.alloc _).facts.1.1.1.2 | exact (HT.out.alloc _).facts.1.1.1.1.2 | exact (HT.out.alloc _).facts.1.1.1.1.1.2 | exact (HT.out.alloc _).facts.1.1.1.1.1.1.2 | exact (HT.out.alloc _).facts.1.1.1.1.1.1.1.2 | exact (HT.out.alloc _).facts.1.1.1.1.1.1.1.1.2 | exact (HT.out.alloc _).facts.1.1.1.1.1.1.1.1.1.2 | exact (HT.out.alloc _).facts.1.1.1.1.1.1.1.1.1.1.2 | exact (HT.out.alloc _).facts.1.1.1.1.1.1.1.1.1.1.1.2 | exact ((HT.out.alloc _).alloc _).facts.2 | exact ((HT.out.alloc _).alloc _).facts.1.2 | exact ((HT.out.alloc _).alloc _).facts.1.1.2 | exact ((HT.out.alloc _).alloc _).facts.1.1.1.2 | exact ((HT.out.alloc _).alloc _).facts.1.1.1.1.2 | exact ((HT.out.alloc _).alloc _).facts.1.1.1.1.1.2 | exact ((HT.out.alloc _).alloc _).facts.1.1.1.1.1.1.2 | exact ((HT.out.alloc _).alloc _).facts.1.1.1.1.1.1.1.2 | exact ((HT.out.alloc _).alloc _).facts.1.1.1.1.1.1.1.1.2 | exact ((HT.out.alloc _).alloc _).facts.1.1.1.1.1.1.1.1.1.2 | exact ((HT.out.alloc _).alloc _).facts.1.1.1.1.1.1.1.1.1.1.2 | exact ((HT.out.alloc _).alloc _).facts.1.1.1.1.1.1.1.1.1.1.1.2 | exact (((HT.out.alloc _).alloc _).alloc _).facts.2 | exact (((HT.out.alloc _).alloc _).alloc _).facts.1.2 | exact (((HT.out.alloc _).alloc _).alloc _).facts.1.1.2 | exact (((HT.out.alloc _).alloc _).alloc _).facts.1.1.1.2 | exact (((HT.out.alloc _).alloc _).alloc _).facts.1.1.1.1.2 | exact (((HT.out.alloc _).alloc _).alloc _).facts.1.1.1.1.1.2 | exact (((HT.out.alloc _).alloc _).alloc _).facts.1.1.1.1.1.1.2 | exact (((HT.out.alloc _).alloc _).alloc _).facts.1.1.1.1.1.1.1.2 | exact (((HT.out.alloc _).alloc _).alloc _).facts.1.1.1.1.1.1.1.1.2 | exact (((HT.out.alloc _).alloc _).alloc _).facts.1.1.1.1.1.1.1.1.1.2 | exact (((HT.out.alloc _).alloc _).alloc _).facts.1.1.1.1.1.1.1.1.1.1.2 | exact (((HT.out.alloc _).alloc _).alloc _).facts.1.1.1.1.1.1.1.1.1.1.1.2)))
          (first
            | (go_at_call 15; apply keepCall; (next => (first | exact HT.out | exact (HT.out.more _ _) | exact ((HT.out.more _ _).more _ _) | exact (((HT.out.more _ _).more _ _).more _ _) | exact ((((HT.out.more _ _).more _ _).more _ _).more _ _))); intro hKK; replace HT := Lib.hid hKK; clear hKK; (with_reducible refine (C4.out _ _ _ _ (by first | exact HT.out.facts.2 | exact HT.out.facts.1.2 | exact HT.out.facts.1.1.2 | exact HT.out.facts.1.1.1.2 | exact HT.out.facts.1.1.1.1.2 | exact HT.out.facts.1.1.1.1.1.2 | exact HT.out.facts.1.1.1.1.1.1.2 | exact HT.out.facts.1.1.1.1.1.1.1.2 | exact HT.out.facts.1.1.1.1.1.1.1.1.2 | exact HT.out.facts.1.1.1.1.1.1.1.1.1.2 | exact HT.out.facts.1.1.1.1.1.1.1.1.1.1.2 | exact HT.out.facts.1.1.1.1.1.1.1.1.1.1.1.2 | exact HT.out.facts.1.1.1.1.1.1.1.1.1.1.1.1.2) (by first | exact HT.out.facts.2 | exact HT.out.facts.1.2 | exact HT.out.facts.1.1.2 | exact HT.out.facts.1.1.1.2 | exact HT.out.facts.1.1.1.1.2 | exact HT.out.facts.1.1.1.1.1.2 | exact HT.out.facts.1.1.1.1.1.1.2 | exact HT.out.facts.1.1.1.1.1.1.1.2 | exact HT.out.facts.1.1.1.1.1.1.1.1.2 | exact HT.out.facts.1.1.1.1.1.1.1.1.1.2 | exact HT.out.facts.1.1.1.1.1.1.1.1.1.1.2 | exact HT.out.facts.1.1.1.1.1.1.1.1.1.1.1.2 | exact HT.out.facts.1.1.1.1.1.1.1.1.1.1.1.1.2) (by first | rfl | simp)).mono ?_); rintro e wq ⟨v', rfl, hown, hq⟩; have hr' := RowAt.ofOwns hown; obtain ⟨a', n', c', rfl⟩ := hr'.sh; replace HT := Lib.hid (HT.out.plus hq hr'); clear hown hq hr')
            | (go_at_call 44; apply keepCall; (next => (first | exact HT.out | exact (HT.out.more _ _) | exact ((HT.out.more _ _).more _ _) | exact (((HT.out.more _ _).more _ _).more _ _) | exact ((((HT.out.more _ _).more _ _).more _ _).more _ _))); intro hKK; replace HT := Lib.hid hKK; clear hKK; (with_reducible refine (C5.out _ _ (by first | exact HT.out.facts.2 | exact HT.out.facts.1.2 | exact HT.out.facts.1.1.2 | exact HT.out.facts.1.1.1.2 | exact HT.out.facts.1.1.1.1.2 | exact HT.out.facts.1.1.1.1.1.2 | exact HT.out.facts.1.1.1.1.1.1.2 | exact HT.out.facts.1.1.1.1.1.1.1.2 | exact HT.out.facts.1.1.1.1.1.1.1.1.2 | exact HT.out.facts.1.1.1.1.1.1.1.1.1.2 | exact HT.out.facts.1.1.1.1.1.1.1.1.1.1.2 | exact HT.out.facts.1.1.1.1.1.1.1.1.1.1.1.2 | exact HT.out.facts.1.1.1.1.1.1.1.1.1.1.1.1.2)).mono ?_); rintro e wq ⟨v', rfl, hown, hq⟩; have hr' := RowAt.ofOwns hown; obtain ⟨a', n', c', rfl⟩ := hr'.sh; replace HT := Lib.hid (HT.out.plus hq hr'); clear hown hq hr'))
        replace HT := Lib.hid (HT.out.map (G := fun W => (True ∧ RowK 6 W (.slice (some ⟨B, o, none⟩) ps.length pc) (ps.map PR.cells)) ∧ RowAt W _ (bytesV (hd ++ lebPrs (ps.take (j + 1))))) (fun W hf => ⟨⟨trivial, (by first | exact hf.2 | exact hf.1.2 | exact hf.1.1.2 | exact hf.1.1.1.2 | exact hf.1.1.1.1.2 | exact hf.1.1.1.1.1.2 | exact hf.1.1.1.1.1.1.2 | exact hf.1.1.1.1.1.1.1.2 | exact hf.1.1.1.1.1.1.1.1.2 | exact hf.1.1.1.1.1.1.1.1.1.2 | exact hf.1.1.1.1.1.1.1.1.1.1.2 | exact hf.1.1.1.1.1.1.1.1.1.1.1.2 | exact hf.1.1.1.1.1.1.1.1.1.1.1.1.2)⟩, by rw [HE.out]; exact hf.2⟩))
        go_wp2_with fail
        go_roundw
        case rel => exact ⟨j + 1, _, _, _, by omega, rfl, by go_num, HT.out⟩
        case measure => simp [intOf]; omega
      · obtain rfl : j = ps.length := by omega
        go_wp2_with fail
        go_ret
        refine ⟨_, rfl, ?_, HB1.out.trans (HT.out.below.mono HB1.out.size)⟩
        have := HT.out.facts.2
        rwa [List.take_of_length_le (Nat.le_refl _)] at this
end Go.Proofs.YtmbffncmogpkfaaGreatDoor
