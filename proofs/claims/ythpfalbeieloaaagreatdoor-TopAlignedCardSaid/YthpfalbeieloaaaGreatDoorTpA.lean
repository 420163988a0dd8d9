/-
  Walks of schismatop: the score and the rows of the examples, tones, true rows, head.
-/
import Derived.Test.YthpfalbeieloaaaGreatDoorTpH
import Derived.Test.YthpfalbeieloaaaGreatDoorLibQ
import Derived.Test.YthpfalbeieloaaaGreatDoorLibK
import Derived.Test.YthpfalbeieloaaaGreatDoorAuE
set_option linter.unusedVariables false
namespace Go.Sx.Tp
open Go.Sx.Sz Go.Sx.Sc Go.Sx.Au Go.Sx.Po Go.Sx.Bl Go.Sx.Al
def exTs : Sc := ⟨2, [⟨0, 0, 10, ⟨0, 0, 0, 0, 0, 0⟩, false⟩, ⟨1, 0, 10, ⟨-1, 1, 0, 0, 0, 0⟩, false⟩], [⟨0, 1, ⟨3, -3, 1, 0, 0, 0⟩, 1000⟩], []⟩
def exTr : List (List Row) := [[⟨1, -5, 5⟩], [⟨2, 19019549000, 19019551000⟩]]
def exTh : List V6 := [⟨0, 0, 0, 0, 0, 0⟩]
def exTt : List S2 := exTr.map fun l => (toneR l).1
theorem add_hon {x : V6} {n : Int} (hx : within x 48 = true) (h1 : 1 ≤ n) (h2 : n ≤ 16) : addR (wantS x) (harmS n) = (⟨(wantS x).lo + (harmS n).lo, (wantS x).hi + (harmS n).hi⟩, 0) := by
  have a := expo_bd (within_times (n := 12) (by omega) hx)
  have b := harmS_bd h1 h2
  have e : wantS x = expo (x.times 12) := rfl
  rw [← e] at a
  unfold addR combR
  rw [if_pos ⟨by rw [szOk_iff]; omega, harmS_ok h1 h2⟩, if_pos (by unfold addS; rw [szOk_iff]; simp only; omega)]
  rfl
end Go.Sx.Tp
namespace Go.Proofs.YthpfalbeieloaaaGreatDoor
open Go.RowKit Go.Sx Go.Sx.Sz Go.Sx.Sc Go.Sx.Au Go.Sx.Po Go.Sx.Bl Go.Sx.Tp

/-- A slice of rows of partials. -/
def RowsR (w : World) (v : Value) (ls : List (List Row)) : Prop := ∃ zs : List (Value × List Row), zs.map Prod.snd = ls ∧ Sl w 1 (fun z => [z.1]) v zs ∧ ∀ z ∈ zs, Sl w 3 encR z.1 z.2
theorem RowsR.ext {w w' : World} {v : Value} {ls : List (List Row)} (h : RowsR w v ls) (x : Ext w w') : RowsR w' v ls := by
  obtain ⟨zs, a, b, c⟩ := h
  exact ⟨zs, a, b.ext x, fun z hz => (c z hz).ext x⟩
theorem RowsR.len {w : World} {v : Value} {ls : List (List Row)} (h : RowsR w v ls) : ∃ a? c, v = .slice a? ls.length c ∧ ls.length ≤ 140737488351232 := by
  obtain ⟨zs, rfl, b, -⟩ := h
  obtain ⟨a?, c, e, -, -, h3⟩ := b.len
  exact ⟨a?, c, by rw [List.length_map]; exact e, by rw [List.length_map]; exact h3⟩
theorem RowsR.at {w : World} {a? : Option Addr} {n c : Nat} {ls : List (List Row)} (h : RowsR w (.slice a? n c) ls) (k : Nat) (hk : k < ls.length) : ∃ b o a q, a? = some ⟨b, o, none⟩ ∧ w.cell? ⟨b, o + k, none⟩ = some (.slice a ls[k].length q) ∧ Sl w 3 encR (.slice a ls[k].length q) ls[k] := by
  obtain ⟨zs, rfl, hb, hc⟩ := h
  rw [List.length_map] at hk
  obtain ⟨b, o, e, h1⟩ := hb.at1 k hk
  have S := hc _ (List.getElem_mem hk)
  obtain ⟨a, q, e2, -, -, -⟩ := S.len
  refine ⟨b, o, a, q, e, ?_, ?_⟩
  · rw [List.getElem_map, ← e2]; exact h1
  · rw [List.getElem_map, ← e2]; exact S

set_option maxRecDepth 100000 in
set_option maxHeartbeats 4000000 in
theorem score41_walk (w : World) : Calls Tryz.prog 13 #[] w fun e w' => ∃ vn vp vc, e = .returned (.agg #[.int .i64 2, vn, vp, vc]) ∧ ScR w' vn vp vc exTs ∧ Ext w w' := by
  go_enter Tryz.func13, Tryz.ntmps13
  go_wp2
  refine bodyPost_ret (v := .agg #[.int .i64 2, .slice (some ⟨w.heap.size + 1, 0, none⟩) 2 2, .slice (some ⟨w.heap.size + 1 + 1, 0, none⟩) 1 1, .slice none 0 0]) (by simp [results, Tryz.results13, go_sem]) rfl ⟨_, _, _, rfl, ⟨?_, ?_, ?_⟩, (by repeat (first | with_reducible exact Ext.refl _ | with_reducible assumption | with_reducible apply Ext.alloc | with_reducible apply Ext.drew | (with_reducible refine Ext.setCell ?_ (by (try simp) <;> omega) _)))⟩
  · exact Bk.sl (e := 46) (enc := encN) (xs := exTs.notes) (sz := 10) ⟨_, block_alloc (block_at (by simp) _) _, rfl⟩ (fun _ _ => rfl) rfl (by simp [exTs])
  · exact Bk.sl (e := 117) (enc := encP) (xs := exTs.pairs) (sz := 9) ⟨_, block_at (by simp) _, rfl⟩ (fun _ _ => rfl) rfl (by simp [exTs])
  · exact Sl.nil _ _ _

set_option maxRecDepth 100000 in
set_option maxHeartbeats 4000000 in
theorem tones41_walk (v : Value) (ls : List (List Row)) (hlen : ls.length ≤ 1000) (w : World) (G : Gv 0 1 w) (R : RowsR w v ls) :
    Calls Tryz.prog 7 #[v] w fun e w' => ∃ v', e = .returned (.tuple #[v', .bool (tonR ls).2]) ∧ Sl w' 2 encS v' (tonR ls).1 ∧ Ext w w' := by
  obtain ⟨a?, c, rfl, -⟩ := R.len
  have hyes := @tonR_yes ls; have hno := fun k => @tonR_no ls k
  obtain ⟨⟨tl, tb⟩, ht⟩ : ∃ z, tonR ls = z := ⟨_, rfl⟩
  simp only [ht] at hyes hno
  rw [ht]
  have HYES := Lib.hid hyes; have HNO := Lib.hid hno
  clear ht hyes hno
  go_enter Tryz.func7, Tryz.ntmps7
  go_wp2
  go_loopw [4, 5] (fun o i wr => ∃ k : Nat, k ≤ ls.length ∧ i = .int .i64 k ∧ Hid (∀ l ∈ ls.take k, (toneR l).2 = 0) ∧ OwnR wr w.heap.size 50 2 encS o ((ls.take k).map fun l => (toneR l).1) ∧ Ext w wr) (fun _ i _ => ls.length - (intOf i).toNat)
  case atStart => exact ⟨0, by omega, by first | rfl | trivial, Lib.hid (fun x hx => by simp at hx), OwnR.nil, Ext.refl _⟩
  case round =>
    obtain ⟨k, hk, rfl, HT, own, X⟩ := hrel
    by_cases hlt : k < ls.length
    case neg =>
      obtain rfl : k = ls.length := by omega
      have hT := HT.out
      rw [List.take_length] at hT own
      obtain ⟨rfl, rfl⟩ := Prod.mk.inj (HYES.out hT)
      have SF := Lib.hid (own.sl (fun _ _ => rfl) (by rw [List.length_map]; omega))
      have HX := Lib.hid X
      clear own X hT
      go_wp2
      go_ret2
      exact ⟨_, rfl, SF.out, HX.out⟩
    case pos =>
    obtain ⟨b, o, a, q, rfl, q0, SR⟩ := (R.ext X).at k hlt
    have hst : (ls.take (k + 1)).map (fun l => (toneR l).1) = (ls.take k).map (fun l => (toneR l).1) ++ [(toneR ls[k]).1] := by rw [List.take_succ_eq_append_getElem hlt, List.map_append]; rfl
    have hll : ((ls.take k).map fun l => (toneR l).1).length = k := by rw [List.length_map, List.length_take]; omega
    have htk := List.take_succ_eq_append_getElem hlt
    have hnk := HNO.out k hlt
    have TW := tone_walk (.slice a ls[k].length q) ls[k] wr (G.ext X) SR
    obtain ⟨l, hl⟩ : ∃ z, ls[k] = z := ⟨_, rfl⟩
    rw [hl] at q0 hst htk hnk TW
    obtain ⟨⟨⟨zl, zh⟩, te⟩, hte⟩ : ∃ z, toneR l = z := ⟨_, rfl⟩
    rw [hte] at hst hnk TW
    simp only at hst hnk TW
    have HST := Lib.hid hst; have HTK := Lib.hid htk; have HTE := Lib.hid hte; have HNK := Lib.hid hnk; have HLL := Lib.hid hll
    have i1 : (0 : Int) ≤ (k : Int) := by omega
    have i2 : (k : Int) < (ls.length : Int) := by omega
    have HO := Lib.hid own; have HXX := Lib.hid X
    obtain ⟨va, vm, vd, rfl⟩ := own.shape
    clear own X hl hte hst htk hnk hll SR
    go_wp2_with fail
    refine TW.mono ?_
    rintro e w1 ⟨rfl, x1⟩
    clear q0 TW
    by_cases h0 : te = 0
    case neg =>
      obtain ⟨rfl, rfl⟩ := Prod.mk.inj (HNK.out h0)
      have t1 : (te != 0) = true := by rw [bne_iff_ne]; exact h0
      have HX := Lib.hid (HXX.out.trans x1)
      clear h0
      have e2 := Ext.alloc' w1 (.cells #[.int .i64 zl, .int .i64 zh] 50)
      have HX2 := Lib.hid (HX.out.trans e2)
      clear e2
      go_wp2
      go_ret2
      exact ⟨_, rfl, Sl.nil _ _ _, HX2.out⟩
    subst h0
    have HT2 : Hid (∀ y ∈ ls.take (k + 1), (toneR y).2 = 0) := Lib.hid (fun y hy => by
      rw [HTK.out] at hy
      rcases List.mem_append.1 hy with h9 | h9
      · exact HT.out y h9
      · rw [List.mem_singleton.1 h9, HTE.out])
    have X2 : Ext w1 (w1.alloc (.cells #[.int .i64 zl, .int .i64 zh] 50)) := (by repeat (first | with_reducible exact Ext.refl _ | with_reducible assumption | with_reducible apply Ext.alloc | with_reducible apply Ext.drew | (with_reducible refine Ext.setCell ?_ (by (try simp) <;> omega) _)))
    have b2_0 := block_new w1 (.cells #[.int .i64 zl, .int .i64 zh] 50)
    obtain ⟨W2, hW2⟩ : ∃ W, (w1.alloc (.cells #[.int .i64 zl, .int .i64 zh] 50)) = W := ⟨_, rfl⟩
    obtain ⟨B2, hB2⟩ : ∃ B, w1.heap.size = B := ⟨_, rfl⟩
    rw [hW2] at X2 b2_0
    rw [hB2] at b2_0
    have HZ2 : Hid (w1.heap.size ≤ B2) := Lib.hid (by omega)
    have HW2 := Lib.hid hW2; have HB2 := Lib.hid hB2
    clear hW2 hB2
    have X2' := HXX.out.trans (x1.trans X2)
    have own := HO.out.ext (x1.trans X2)
    have s0 := block_cell b2_0 0 _ rfl; have s1 := block_cell b2_0 1 _ rfl
    have hsz := X2'.size
    have hlb : (((ls.take k).map fun l => (toneR l).1).length + 1) * 16 ≤ 140737488355328 := by rw [HLL.out]; omega
    have HX2 := Lib.hid X2'
    clear b2_0 X2 X2' x1
    go_upto_region 6 with fail
    rw [HW2.out, HB2.out]
    clear HW2 HB2
    go_wp2_with (first | (at_builtin; go_must (refine wpList_own1 et_sz rfl _ _ rfl own rfl (⟨zl, zh⟩ : S2) rfl rfl rfl (by simp [encS, Value.oneCell']) hlb hsz ?_; intro v' w6 hown' hb' happ _)) | fail)
    rw [← HST.out] at hown'
    have FIN := Lib.hid (And.intro hown' (Below.trans HX2.out hb'))
    clear hown' hb' happ own s0 s1
    go_roundw
    case rel => exact ⟨k + 1, by omega, by go_num, HT2, FIN.out.1, FIN.out.2⟩
    case measure => simp [intOf] <;> omega

set_option maxRecDepth 100000 in
set_option maxHeartbeats 8000000 in
theorem true41_walk (v : Value) (l : List Row) (x : V6) (w : World) (G : Gv 0 1 w) (R : Sl w 3 encR v l) :
    Calls Tryz.prog 8 #[v, .agg #[.int .i64 x.a, .int .i64 x.b, .int .i64 x.c, .int .i64 x.d, .int .i64 x.e, .int .i64 x.f]] w fun e w' => e = .returned (.bool (trueB l x)) ∧ Ext w w' := by
  obtain ⟨a?, c, rfl, -, -, hlen⟩ := R.len
  have X0 : Ext w (w.alloc (.cells (#[.int .i64 x.a, .int .i64 x.b, .int .i64 x.c, .int .i64 x.d, .int .i64 x.e, .int .i64 x.f] : Array Value) 44)) := (by repeat (first | with_reducible exact Ext.refl _ | with_reducible assumption | with_reducible apply Ext.alloc | with_reducible apply Ext.drew | (with_reducible refine Ext.setCell ?_ (by (try simp) <;> omega) _)))
  have b0_0 := block_new w (.cells (#[.int .i64 x.a, .int .i64 x.b, .int .i64 x.c, .int .i64 x.d, .int .i64 x.e, .int .i64 x.f] : Array Value) 44)
  obtain ⟨W0, hW0⟩ : ∃ W, (w.alloc (.cells (#[.int .i64 x.a, .int .i64 x.b, .int .i64 x.c, .int .i64 x.d, .int .i64 x.e, .int .i64 x.f] : Array Value) 44)) = W := ⟨_, rfl⟩
  obtain ⟨B0, hB0⟩ : ∃ B, w.heap.size = B := ⟨_, rfl⟩
  rw [hW0] at X0 b0_0
  rw [hB0] at b0_0
  have HZ0 : Hid (w.heap.size ≤ B0) := Lib.hid (by omega)
  have HW0 := Lib.hid hW0; have HB0 := Lib.hid hB0
  clear hW0 hB0
  have G1 := G.ext X0; have R1 := R.ext X0
  have a0 := block_cell b0_0 0 _ rfl; have a1 := block_cell b0_0 1 _ rfl; have a2 := block_cell b0_0 2 _ rfl; have a3 := block_cell b0_0 3 _ rfl; have a4 := block_cell b0_0 4 _ rfl; have a5 := block_cell b0_0 5 _ rfl
  have OW := of_walk x W0
  have SW := Lib.hid fun p w' (g : Gl 1 w') => sof_walk p w' g
  have VW := Lib.hid fun w' (y : Ext W0 w') => rvalid_walk (.slice a? l.length c) l w' (G1.ext y) (R1.ext y)
  have htb : trueB l x = (rowsOk l && within x 48 && l.all fun r => honB r x) := rfl
  have hok : within x 48 = true → ofR x = (x.times 12, 0) ∧ sizeR (x.times 12) = (wantS x, 0) := fun h => ⟨ofR_ok h, sizeR_ok (want_ok h).1⟩
  have hbad : within x 48 = false → ofR x = (V6.zero, 1) := fun h => by unfold ofR; rw [h]; rfl
  have hadd : ∀ n, 1 ≤ n → n ≤ 16 → within x 48 = true → addR (wantS x) (harmS n) = (⟨(wantS x).lo + (harmS n).lo, (wantS x).hi + (harmS n).hi⟩, 0) := fun n h1 h2 h => add_hon h h1 h2
  have hro : rowsOk l = true → l.length ≤ 16 ∧ ∀ r ∈ l, 1 ≤ r.h ∧ r.h ≤ 16 := fun h => ⟨(rowsOk_iff.1 h).1, fun r hr => by have := rowOk_iff.1 ((rowsOk_iff.1 h).2 r hr); omega⟩
  have hhon : ∀ r, honB r x = (decide (r.lo ≤ (wantS x).lo + (harmS r.h).lo) && decide ((wantS x).hi + (harmS r.h).hi ≤ r.hi)) := fun r => rfl
  obtain ⟨tb, ht⟩ : ∃ z, trueB l x = z := ⟨_, rfl⟩
  obtain ⟨vb, hv⟩ : ∃ z, rowsOk l = z := ⟨_, rfl⟩
  obtain ⟨wb, hw⟩ : ∃ z, within x 48 = z := ⟨_, rfl⟩
  rw [ht] at htb ⊢
  rw [hv] at htb hro VW
  rw [hw] at htb hok hbad hadd
  have HTB := Lib.hid htb; have HOK := Lib.hid hok; have HBAD := Lib.hid hbad; have HADD := Lib.hid hadd; have HRO := Lib.hid hro; have HHON := Lib.hid hhon
  clear b0_0 G R ht hv htb hok hbad hadd hro hhon hw
  go_enter Tryz.func8, Tryz.ntmps8
  go_wp2_with fail
  rw [HW0.out, HB0.out]
  clear HW0 HB0
  refine OW.mono ?_
  cases wb with
  | false =>
    rw [HBAD.out rfl]
    rintro e w1 ⟨rfl, x1⟩
    have e1 := Ext.alloc' w1 (.cells #[.int .i64 0, .int .i64 0, .int .i64 0, .int .i64 0, .int .i64 0, .int .i64 0] 79)
    have S1 := SW.out V6.zero _ (G1.gl.ext (x1.trans e1))
    obtain ⟨⟨⟨zl, zh⟩, se⟩, hse⟩ : ∃ z, sizeR V6.zero = z := ⟨_, rfl⟩
    rw [hse] at S1
    clear a0 a1 a2 a3 a4 a5 hse OW
    go_wp2_with fail
    refine S1.mono ?_
    rintro e w2 ⟨rfl, x2⟩
    have e2 := Ext.alloc' w2 (.cells #[.int .i64 zl, .int .i64 zh] 50)
    have X2 := x1.trans (e1.trans (x2.trans e2))
    clear S1
    go_wp2_with fail
    refine (VW.out _ X2).mono ?_
    rintro e w3 ⟨rfl, x3⟩
    have HX := Lib.hid (X0.trans (X2.trans x3))
    have HF : Hid (tb = false) := Lib.hid (by rw [HTB.out]; cases vb <;> rfl)
    clear e1 e2 x1 x2 x3 X2
    cases vb with
    | false =>
      go_wp2
      go_ret
      exact ⟨by rw [HF.out] <;> rfl, HX.out⟩
    | true =>
      go_wp2
      go_ret
      exact ⟨by rw [HF.out] <;> rfl, HX.out⟩
  | true =>
  obtain ⟨ho, hs⟩ := HOK.out rfl
  obtain ⟨y, hy⟩ : ∃ u, x.times 12 = u := ⟨_, rfl⟩
  obtain ⟨⟨zl, zh⟩, hz⟩ : ∃ u, wantS x = u := ⟨_, rfl⟩
  have hadd := fun n h1 h2 => HADD.out n h1 h2 rfl
  have hhon := HHON.out
  rw [hy] at ho hs
  simp only [hz] at hadd hhon hs
  rw [ho]
  rintro e w1 ⟨rfl, x1⟩
  have e1 := Ext.alloc' w1 (.cells (#[.int .i64 y.a, .int .i64 y.b, .int .i64 y.c, .int .i64 y.d, .int .i64 y.e, .int .i64 y.f] : Array Value) 79)
  have S1 := SW.out y _ (G1.gl.ext (x1.trans e1))
  rw [hs] at S1
  have HAD := Lib.hid hadd; have HHO := Lib.hid hhon
  clear a0 a1 a2 a3 a4 a5 OW hy hz ho hs hadd hhon HADD HHON HOK HBAD
  go_wp2_with fail
  refine S1.mono ?_
  rintro e w2 ⟨rfl, x2⟩
  have X3 : Ext w2 (w2.alloc (.cells #[.int .i64 zl, .int .i64 zh] 50)) := (by repeat (first | with_reducible exact Ext.refl _ | with_reducible assumption | with_reducible apply Ext.alloc | with_reducible apply Ext.drew | (with_reducible refine Ext.setCell ?_ (by (try simp) <;> omega) _)))
  have b3_0 := block_new w2 (.cells #[.int .i64 zl, .int .i64 zh] 50)
  obtain ⟨W3, hW3⟩ : ∃ W, (w2.alloc (.cells #[.int .i64 zl, .int .i64 zh] 50)) = W := ⟨_, rfl⟩
  obtain ⟨B3, hB3⟩ : ∃ B, w2.heap.size = B := ⟨_, rfl⟩
  rw [hW3] at X3 b3_0
  rw [hB3] at b3_0
  have HZ3 : Hid (w2.heap.size ≤ B3) := Lib.hid (by omega)
  have HW3 := Lib.hid hW3; have HB3 := Lib.hid hB3
  clear hW3 hB3
  have X3' := x1.trans (e1.trans (x2.trans X3))
  have HB3C := Lib.hid b3_0
  clear S1 b3_0 X3 e1 x1 x2
  go_upto_region 3 with fail
  rw [HW3.out, HB3.out]
  clear HW3 HB3
  go_wp2_with fail
  refine (VW.out _ X3').mono ?_
  rintro e w4 ⟨rfl, x4⟩
  have X4 := X3'.trans x4
  cases vb with
  | false =>
    have HX := Lib.hid (X0.trans X4)
    have HF : Hid (tb = false) := Lib.hid (by rw [HTB.out]; rfl)
    clear X4 X3' x4
    go_wp2
    go_ret
    exact ⟨by rw [HF.out] <;> rfl, HX.out⟩
  | true =>
  obtain ⟨hl16, hrh⟩ := HRO.out rfl
  have HRH := Lib.hid hrh
  have HY4 := Lib.hid X4; have HB4C := Lib.hid (block_ext x4 HB3C.out)
  clear hrh X4 X3' x4
  go_wp2
  go_loopw [9] (fun i wr => ∃ k : Nat, k ≤ l.length ∧ i = .int .i64 k ∧ Hid (∀ r ∈ l.take k, honB r x = true) ∧ Ext w4 wr) (fun i _ => l.length - (intOf i).toNat)
  case atStart => exact ⟨0, by omega, by first | rfl | trivial, Lib.hid (fun x hx => by simp at hx), Ext.refl _⟩
  case round =>
    obtain ⟨k, hk, rfl, HT, X⟩ := hrel
    by_cases hlt : k < l.length
    case neg =>
      obtain rfl : k = l.length := by omega
      have hT := HT.out
      rw [List.take_length] at hT
      have HF : Hid (tb = true) := Lib.hid (by rw [HTB.out, List.all_eq_true.2 hT]; rfl)
      have HX := Lib.hid (X0.trans (HY4.out.trans X))
      clear hT
      go_wp2
      go_ret
      exact ⟨by rw [HF.out] <;> rfl, HX.out⟩
    case pos =>
    obtain ⟨b, o, rfl, q0, q1, q2⟩ := Sl.row (R1.ext (HY4.out.trans X)) k hlt
    have htk := List.take_succ_eq_append_getElem hlt
    have hmem : l[k] ∈ l := List.getElem_mem hlt
    have hr := HRH.out _ hmem
    have hhr := HHO.out l[k]
    have had := HAD.out l[k].h hr.1 hr.2
    have RW := ratio_walk l[k].h hr.1 hr.2 wr (G1.ext (HY4.out.trans X))
    have hho := ofR_ok (harm_within hr.1 hr.2)
    have hhs := sizeR_ok (times_within (harm_within hr.1 hr.2))
    have hhe : expo ((harmV l[k].h).times 12) = harmS l[k].h := rfl
    rw [hhe] at hhs
    obtain ⟨⟨rh, rl, ru⟩, hrr⟩ : ∃ z, l[k] = z := ⟨_, rfl⟩
    rw [hrr] at q0 q1 q2 htk hmem hhr had RW hho hhs
    simp only at q0 q1 q2 hhr had RW hho hhs
    obtain ⟨hv, hhv⟩ : ∃ z, harmV rh = z := ⟨_, rfl⟩
    rw [hhv] at RW hho hhs
    obtain ⟨hp, hhp⟩ : ∃ z, hv.times 12 = z := ⟨_, rfl⟩
    rw [hhp] at hho hhs
    obtain ⟨⟨sl, sh⟩, hss⟩ : ∃ z, harmS rh = z := ⟨_, rfl⟩
    rw [hss] at hhs had hhr
    simp only at hhs had hhr
    obtain ⟨ul, hul⟩ : ∃ z, zl + sl = z := ⟨_, rfl⟩
    obtain ⟨uh, huh⟩ : ∃ z, zh + sh = z := ⟨_, rfl⟩
    rw [hul, huh] at had hhr
    have AW := Lib.hid fun w' => add_walk ⟨zl, zh⟩ ⟨sl, sh⟩ w'
    rw [had] at AW
    have PW := Lib.hid fun w' => of_walk hv w'
    rw [hho] at PW
    have ZW := Lib.hid fun w' (g : Gl 1 w') => sof_walk hp w' g
    rw [hhs] at ZW
    simp only at AW PW ZW
    have HHR := Lib.hid hhr; have HTK := Lib.hid htk; have HME := Lib.hid hmem; have HXX := Lib.hid X
    have Q1 := Lib.hid (ext_cells q1); have Q2 := Lib.hid (ext_cells q2)
    have i1 : (0 : Int) ≤ (k : Int) := by omega
    have i2 : (k : Int) < (l.length : Int) := by omega
    clear htk hmem hr hhr had hho hhs hhe hrr hhv hhp hss hul huh q1 q2
    go_wp2_with fail
    refine RW.mono ?_
    rintro e w5 ⟨rfl, x5⟩
    have e5 := Ext.alloc' w5 (.cells (#[.int .i64 hv.a, .int .i64 hv.b, .int .i64 hv.c, .int .i64 hv.d, .int .i64 hv.e, .int .i64 hv.f] : Array Value) 44)
    clear q0 RW
    go_wp2_with fail
    refine (PW.out _).mono ?_
    rintro e w6 ⟨rfl, x6⟩
    have e6 := Ext.alloc' w6 (.cells (#[.int .i64 hp.a, .int .i64 hp.b, .int .i64 hp.c, .int .i64 hp.d, .int .i64 hp.e, .int .i64 hp.f] : Array Value) 79)
    have X6 := x5.trans (e5.trans (x6.trans e6))
    go_wp2_with fail
    refine (ZW.out _ (G1.gl.ext (HY4.out.trans (HXX.out.trans X6)))).mono ?_
    rintro e w7 ⟨rfl, x7⟩
    have e7 := Ext.alloc' w7 (.cells #[.int .i64 sl, .int .i64 sh] 50)
    have X7 := X6.trans (x7.trans e7)
    have hb := block_ext (HXX.out.trans X7) HB4C.out
    have z0 := block_cell hb 0 _ rfl; have z1 := block_cell hb 1 _ rfl
    clear hb
    go_wp2_with fail
    refine (AW.out _).mono ?_
    rintro e w8 ⟨rfl, x8⟩
    have X9 : Ext w8 (w8.alloc (.cells #[.int .i64 ul, .int .i64 uh] 50)) := (by repeat (first | with_reducible exact Ext.refl _ | with_reducible assumption | with_reducible apply Ext.alloc | with_reducible apply Ext.drew | (with_reducible refine Ext.setCell ?_ (by (try simp) <;> omega) _)))
    have b9_0 := block_new w8 (.cells #[.int .i64 ul, .int .i64 uh] 50)
    obtain ⟨W9, hW9⟩ : ∃ W, (w8.alloc (.cells #[.int .i64 ul, .int .i64 uh] 50)) = W := ⟨_, rfl⟩
    obtain ⟨B9, hB9⟩ : ∃ B, w8.heap.size = B := ⟨_, rfl⟩
    rw [hW9] at X9 b9_0
    rw [hB9] at b9_0
    have HZ9 : Hid (w8.heap.size ≤ B9) := Lib.hid (by omega)
    have HW9 := Lib.hid hW9; have HB9 := Lib.hid hB9
    clear hW9 hB9
    have X9' := X7.trans (x8.trans X9)
    have u0 := block_cell b9_0 0 _ rfl; have u1 := block_cell b9_0 1 _ rfl
    have q1 := Q1.out _ X9'; have q2 := Q2.out _ X9'
    have HX9 := Lib.hid (HXX.out.trans X9')
    clear z0 z1 x5 e5 x6 e6 X6 x7 e7 X7 x8 X9 X9' b9_0 Q1 Q2
    go_upto_region 12 with fail
    rw [HW9.out, HB9.out]
    clear HW9 HB9
    by_cases h1 : ul < rl
    · have t1 : decide (ul < rl) = true := decide_eq_true h1
      have HF : Hid (tb = false) := Lib.hid (by
        rw [HTB.out, List.all_eq_false.2 ⟨_, HME.out, by rw [HHR.out, decide_eq_false (show ¬ rl ≤ ul by omega)]; simp⟩]; rfl)
      have HX := Lib.hid (X0.trans (HY4.out.trans HX9.out))
      clear h1
      go_wp2
      go_quiet (fail)
      go_wp2
      go_ret
      exact ⟨by rw [HF.out] <;> rfl, HX.out.trans (Ext.drawn _ _)⟩
    · have t1 : decide (ul < rl) = false := decide_eq_false h1
      by_cases h2 : ru < uh
      · have t2 : decide (ru < uh) = true := decide_eq_true h2
        have HF : Hid (tb = false) := Lib.hid (by
          rw [HTB.out, List.all_eq_false.2 ⟨_, HME.out, by rw [HHR.out, decide_eq_false (show ¬ uh ≤ ru by omega)]; simp⟩]; rfl)
        have HX := Lib.hid (X0.trans (HY4.out.trans HX9.out))
        clear h1 h2
        go_wp2
        go_quiet (fail)
        go_wp2
        go_ret
        exact ⟨by rw [HF.out] <;> rfl, HX.out.trans (Ext.drawn _ _)⟩
      · have t2 : decide (ru < uh) = false := decide_eq_false h2
        have HT2 : Hid (∀ r ∈ l.take (k + 1), honB r x = true) := Lib.hid (fun y hy => by
          rw [HTK.out] at hy
          rcases List.mem_append.1 hy with h9 | h9
          · exact HT.out y h9
          · rw [List.mem_singleton.1 h9, HHR.out, decide_eq_true (show rl ≤ ul by omega), decide_eq_true (show uh ≤ ru by omega)]; rfl)
        clear h1 h2
        go_wp2
        go_quiet (fail)
        go_wp2
        go_roundw
        case rel => exact ⟨k + 1, by omega, by go_num, HT2, HX9.out.trans (Ext.drawn _ _)⟩
        case measure => simp [intOf] <;> omega
end Go.Proofs.YthpfalbeieloaaaGreatDoor
