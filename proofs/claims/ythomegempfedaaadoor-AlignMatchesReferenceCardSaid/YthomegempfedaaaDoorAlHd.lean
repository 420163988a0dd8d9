/-
  Walk: schismalaw38.head, the examples of the chapter.
-/
import Derived.Test.YthomegempfedaaaDoorAlK
set_option linter.unusedVariables false
namespace Go.Proofs.YthomegempfedaaaDoor
open Go.RowKit Go.Sx Go.Sx.Sz Go.Sx.Al

def exD : List Due := [⟨0, ⟨0, 0, 0, 0, 0, 0⟩⟩, ⟨10, ⟨-1, 1, 0, 0, 0, 0⟩⟩, ⟨20, ⟨-2, 0, 1, 0, 0, 0⟩⟩]
def exH : List Hrd := [⟨1, ⟨-1000000, 1000000⟩⟩, ⟨19, ⟨3863130000, 3863140000⟩⟩]
def exP : Prc := ⟨6, 100⟩
theorem ex_ok : alOk exD exH exP = true := by kernel_rfl
theorem ex_l : alLr exD exH exP = [⟨0, 0⟩, ⟨2, 1⟩] := by kernel_rfl
theorem ex_c : alCr exD exH exP = 8 := by kernel_rfl
theorem ex_e : alEr exD exH exP = 0 := by kernel_rfl
theorem ex_t : alTr exD exH exP = [[8, 13, 18], [13, 7, 12], [7, 1, 6], [12, 6, 0]] := by kernel_rfl
theorem ex_a : costR exD exH exP [⟨0, 0⟩, ⟨1, 1⟩] = (116, 0) := by kernel_rfl
theorem ex_b : costR exD exH exP [] = (30, 0) := by kernel_rfl
theorem ex_is : checkR exD exH exP [⟨0, 0⟩, ⟨2, 1⟩] [[8, 13, 18], [13, 7, 12], [7, 1, 6], [12, 6, 0]] = (true, 0) := by kernel_rfl
theorem ex_was : checkR exD exH exP [⟨0, 0⟩, ⟨2, 1⟩] [[8, 0, 0], [0, 0, 0], [0, 0, 0], [0, 0, 0]] = (false, 0) := by kernel_rfl

theorem Tab.lit {w : World} {g : Nat} (cs : Array Value) (vs : List Value) (t : List (List Int)) (hl : vs.length = t.length) (hcs : cs.toList = vs) (hg : w.heap[g]? = some (.cells cs 62 (0, 0))) (hn : vs.length ≤ 1000) (hr : ∀ i (h : i < vs.length) (h' : i < t.length), Sl w 1 encZ vs[i] t[i]) :
    Tab w (.slice (some ⟨g, 0, none⟩) vs.length vs.length) t := by
  refine ⟨vs, hl, ?_, hr⟩
  have : Bk w g 62 (fun v => [v]) vs := ⟨cs, hg, by rw [hcs]; simp⟩
  exact this.sl (sz := 1) (fun _ _ => rfl) rfl (by omega)
theorem Sl.lit3 (w : World) (a b c : Int) : Sl (w.alloc (.cells #[.int .i64 a, .int .i64 b, .int .i64 c] 3)) 1 encZ (.slice (some ⟨w.heap.size, 0, none⟩) 3 3) [a, b, c] :=
  (Bk.mk (xs := [a, b, c]) (enc := encZ) w 3 #[.int .i64 a, .int .i64 b, .int .i64 c] rfl).sl (sz := 1) (fun _ _ => rfl) rfl (by simp)
/-- A table of four rows of three integers, as the examples lay it. -/
theorem Tab.lit43 (w : World) (a b c d e f g h i j k l : Int) :
    Tab (((((w.alloc (.cells #[.int .i64 a, .int .i64 b, .int .i64 c] 3)).alloc (.cells #[.int .i64 d, .int .i64 e, .int .i64 f] 3)).alloc (.cells #[.int .i64 g, .int .i64 h, .int .i64 i] 3)).alloc (.cells #[.int .i64 j, .int .i64 k, .int .i64 l] 3)).alloc
      (.cells #[.slice (some ⟨w.heap.size, 0, none⟩) 3 3, .slice (some ⟨w.heap.size + 1, 0, none⟩) 3 3, .slice (some ⟨w.heap.size + 1 + 1, 0, none⟩) 3 3, .slice (some ⟨w.heap.size + 1 + 1 + 1, 0, none⟩) 3 3] 62))
      (.slice (some ⟨w.heap.size + 1 + 1 + 1 + 1, 0, none⟩) 4 4) [[a, b, c], [d, e, f], [g, h, i], [j, k, l]] := by
  have s1 := Sl.lit3 w a b c
  have s2 := Sl.lit3 (w.alloc (.cells #[.int .i64 a, .int .i64 b, .int .i64 c] 3)) d e f
  have s3 := Sl.lit3 ((w.alloc (.cells #[.int .i64 a, .int .i64 b, .int .i64 c] 3)).alloc (.cells #[.int .i64 d, .int .i64 e, .int .i64 f] 3)) g h i
  have s4 := Sl.lit3 (((w.alloc (.cells #[.int .i64 a, .int .i64 b, .int .i64 c] 3)).alloc (.cells #[.int .i64 d, .int .i64 e, .int .i64 f] 3)).alloc (.cells #[.int .i64 g, .int .i64 h, .int .i64 i] 3)) j k l
  simp only [World.size_alloc] at s2 s3 s4
  refine Tab.lit _ [_, _, _, _] _ rfl rfl (block_at (by simp) _) (by simp) ?_
  intro q h1 h2
  match q, h1 with
  | 0, _ => exact s1.ext (by repeat (first | with_reducible exact Ext.refl _ | with_reducible assumption | with_reducible apply Ext.alloc | with_reducible apply Ext.drew | (with_reducible refine Ext.setCell ?_ (by (try simp) <;> omega) _)))
  | 1, _ => exact s2.ext (by repeat (first | with_reducible exact Ext.refl _ | with_reducible assumption | with_reducible apply Ext.alloc | with_reducible apply Ext.drew | (with_reducible refine Ext.setCell ?_ (by (try simp) <;> omega) _)))
  | 2, _ => exact s3.ext (by repeat (first | with_reducible exact Ext.refl _ | with_reducible assumption | with_reducible apply Ext.alloc | with_reducible apply Ext.drew | (with_reducible refine Ext.setCell ?_ (by (try simp) <;> omega) _)))
  | 3, _ => exact s4.ext (by repeat (first | with_reducible exact Ext.refl _ | with_reducible assumption | with_reducible apply Ext.alloc | with_reducible apply Ext.drew | (with_reducible refine Ext.setCell ?_ (by (try simp) <;> omega) _)))

set_option maxRecDepth 100000 in
set_option maxHeartbeats 4000000 in
theorem head_walk (w : World) (G : Gl 0 w) : Calls Tryd.prog 11 #[] w fun e w' => e = .returned (.bool true) ∧ Ext w w' := by
  have cd := (Bk.mk (xs := exD) (enc := encD) w 48 #[.int .i64 0, .int .i64 0, .int .i64 0, .int .i64 0, .int .i64 0, .int .i64 0, .int .i64 0, .int .i64 10, .int .i64 (-1), .int .i64 1, .int .i64 0, .int .i64 0, .int .i64 0, .int .i64 0, .int .i64 20, .int .i64 (-2), .int .i64 0, .int .i64 1, .int .i64 0, .int .i64 0, .int .i64 0] rfl).sl (sz := 7) (fun _ _ => rfl) (n := 3) rfl (by simp [exD])
  obtain ⟨Wa, hWa⟩ : ∃ W, w.alloc (.cells #[.int .i64 0, .int .i64 0, .int .i64 0, .int .i64 0, .int .i64 0, .int .i64 0, .int .i64 0, .int .i64 10, .int .i64 (-1), .int .i64 1, .int .i64 0, .int .i64 0, .int .i64 0, .int .i64 0, .int .i64 20, .int .i64 (-2), .int .i64 0, .int .i64 1, .int .i64 0, .int .i64 0, .int .i64 0] 48) = W := ⟨_, rfl⟩
  have ya : Ext w Wa := by rw [← hWa]; exact Ext.alloc' _ _
  rw [hWa] at cd
  have HWA := Lib.hid hWa
  have ch := (Bk.mk (xs := exH) (enc := encH) Wa 54 #[.int .i64 1, .int .i64 (-1000000), .int .i64 1000000, .int .i64 19, .int .i64 3863130000, .int .i64 3863140000] rfl).sl (sz := 3) (fun _ _ => rfl) (n := 2) rfl (by simp [exH])
  obtain ⟨Wb, hWb⟩ : ∃ W, Wa.alloc (.cells #[.int .i64 1, .int .i64 (-1000000), .int .i64 1000000, .int .i64 19, .int .i64 3863130000, .int .i64 3863140000] 54) = W := ⟨_, rfl⟩
  have yb : Ext Wa Wb := by rw [← hWb]; exact Ext.alloc' _ _
  rw [hWb] at ch
  have HWB := Lib.hid hWb
  have bp := block_new Wb (.cells #[.int .i64 6, .int .i64 100] 25)
  obtain ⟨Wc, hWc⟩ : ∃ W, Wb.alloc (.cells #[.int .i64 6, .int .i64 100] 25) = W := ⟨_, rfl⟩
  have yc : Ext Wb Wc := by rw [← hWc]; exact Ext.alloc' _ _
  rw [hWc] at bp
  have HWC := Lib.hid hWc
  obtain ⟨A, hA⟩ : ∃ A, w.heap.size = A := ⟨_, rfl⟩
  obtain ⟨B, hB⟩ : ∃ A, Wa.heap.size = A := ⟨_, rfl⟩
  obtain ⟨C, hC⟩ : ∃ A, Wb.heap.size = A := ⟨_, rfl⟩
  rw [hA] at cd; rw [hB] at ch; rw [hC] at bp
  have SD := (cd.ext yb).ext yc
  have SH := ch.ext yc
  have GC := (((G.ext ya).ext yb).ext yc)
  have XC := (ya.trans yb).trans yc
  have sB : w.heap.size + 1 = Wa.heap.size := by rw [← hWa]; simp
  have sC : Wa.heap.size + 1 = Wb.heap.size := by rw [← hWb]; simp
  rw [hA, hB] at sB; rw [hB, hC] at sC
  have HA := Lib.hid hA; have SB := Lib.hid sB; have SC := Lib.hid sC
  clear hWa hWb hWc cd ch ya yb yc hA hB hC sB sC G
  go_enter Tryd.func11, Tryd.ntmps11
  go_wp2_with fail
  rw [HWA.out, HWB.out, HWC.out, HA.out, SB.out, SC.out]
  refine (align_walk _ _ exD exH exP (by decide) (by decide) _ GC SD SH).mono ?_
  rw [ex_l, ex_c, ex_e, ex_t]
  rintro e w1 ⟨vl, vt, rfl, SL, TT, x1⟩
  have b1 := block_ext x1 bp
  have c10 := block_cell b1 0 (.int .i64 6) rfl
  have c11 := block_cell b1 1 (.int .i64 100) rfl
  have X1 := XC.trans x1
  have SD1 := SD.ext x1; have SH1 := SH.ext x1; have G1 := GC.ext x1
  have l1 := block_lt b1
  have n1 : ¬ C = w1.heap.size := by omega
  obtain ⟨al, cl, e4, -, -, -⟩ := SL.len
  simp only [List.length_cons, List.length_nil, Nat.reduceAdd] at e4
  subst e4
  obtain ⟨aT, cT, e5, -⟩ := TT.len
  simp only [List.length_cons, List.length_nil, Nat.reduceAdd] at e5
  subst e5
  have B1 := Lib.hid b1
  clear x1 bp SD SH GC XC HWA HWB HWC HA SB SC b1
  go_wp2_with fail
  have s2 := (Bk.mk (xs := [⟨0, 0⟩, ⟨1, 1⟩]) (enc := encM) w1 56 #[.int .i64 0, .int .i64 0, .int .i64 1, .int .i64 1] rfl).sl (sz := 2) (fun _ _ => rfl) (n := 2) rfl (by simp)
  refine (cost_walk _ _ _ exD exH exP [⟨0, 0⟩, ⟨1, 1⟩] (by decide) (by decide) _ (G1.ext (by repeat (first | with_reducible exact Ext.refl _ | with_reducible assumption | with_reducible apply Ext.alloc | with_reducible apply Ext.drew | (with_reducible refine Ext.setCell ?_ (by (try simp) <;> omega) _)))) (SD1.ext (by repeat (first | with_reducible exact Ext.refl _ | with_reducible assumption | with_reducible apply Ext.alloc | with_reducible apply Ext.drew | (with_reducible refine Ext.setCell ?_ (by (try simp) <;> omega) _)))) (SH1.ext (by repeat (first | with_reducible exact Ext.refl _ | with_reducible assumption | with_reducible apply Ext.alloc | with_reducible apply Ext.drew | (with_reducible refine Ext.setCell ?_ (by (try simp) <;> omega) _)))) s2).mono ?_
  rw [ex_a]
  rintro e w2 ⟨rfl, x2⟩
  have y2 : Ext w1 w2 := Ext.trans (by repeat (first | with_reducible exact Ext.refl _ | with_reducible assumption | with_reducible apply Ext.alloc | with_reducible apply Ext.drew | (with_reducible refine Ext.setCell ?_ (by (try simp) <;> omega) _))) x2
  have B2 := Lib.hid (block_ext y2 B1.out)
  have c20 := block_cell B2.out 0 (.int .i64 6) rfl
  have c21 := block_cell B2.out 1 (.int .i64 100) rfl
  have X2 := X1.trans y2
  clear x2 s2 c10 c11 B1 n1 l1
  go_wp2_with fail
  refine (cost_walk _ _ _ exD exH exP [] (by decide) (by decide) _ (G1.ext y2) (SD1.ext y2) (SH1.ext y2) (Sl.nil _ _ _)).mono ?_
  rw [ex_b]
  rintro e w3 ⟨rfl, x3⟩
  have y3 := y2.trans x3
  have B3 := Lib.hid (block_ext x3 B2.out)
  have c30 := block_cell B3.out 0 (.int .i64 6) rfl
  have c31 := block_cell B3.out 1 (.int .i64 100) rfl
  have X3 := X1.trans y3
  clear x3 c20 c21 B2
  go_wp2_with fail
  refine (check_walk _ _ _ _ exD exH exP _ _ (by decide) (by decide) _ (G1.ext y3) (SD1.ext y3) (SH1.ext y3) (SL.ext y3) (TT.ext y3)).mono ?_
  rw [ex_is]
  rintro e w4 ⟨rfl, x4⟩
  have y4 := y3.trans x4
  have B4 := Lib.hid (block_ext x4 B3.out)
  have c40 := block_cell B4.out 0 (.int .i64 6) rfl
  have c41 := block_cell B4.out 1 (.int .i64 100) rfl
  have X4 := X1.trans y4
  clear x4 c30 c31 B3
  go_wp2_with fail
  have tl := Tab.lit43 w4 8 0 0 0 0 0 0 0 0 0 0 0
  refine (check_walk _ _ _ _ exD exH exP _ _ (by decide) (by decide) _ ((G1.ext y4).ext (by repeat (first | with_reducible exact Ext.refl _ | with_reducible assumption | with_reducible apply Ext.alloc | with_reducible apply Ext.drew | (with_reducible refine Ext.setCell ?_ (by (try simp) <;> omega) _)))) ((SD1.ext y4).ext (by repeat (first | with_reducible exact Ext.refl _ | with_reducible assumption | with_reducible apply Ext.alloc | with_reducible apply Ext.drew | (with_reducible refine Ext.setCell ?_ (by (try simp) <;> omega) _)))) ((SH1.ext y4).ext (by repeat (first | with_reducible exact Ext.refl _ | with_reducible assumption | with_reducible apply Ext.alloc | with_reducible apply Ext.drew | (with_reducible refine Ext.setCell ?_ (by (try simp) <;> omega) _)))) ((SL.ext y4).ext (by repeat (first | with_reducible exact Ext.refl _ | with_reducible assumption | with_reducible apply Ext.alloc | with_reducible apply Ext.drew | (with_reducible refine Ext.setCell ?_ (by (try simp) <;> omega) _)))) tl).mono ?_
  rw [ex_was]
  rintro e w5 ⟨rfl, x5⟩
  have z5 : Ext w4 w5 := Ext.trans (by repeat (first | with_reducible exact Ext.refl _ | with_reducible assumption | with_reducible apply Ext.alloc | with_reducible apply Ext.drew | (with_reducible refine Ext.setCell ?_ (by (try simp) <;> omega) _))) x5
  have y5 := y4.trans z5
  have X5 := X1.trans y5
  clear x5 c40 c41 tl B4
  go_wp2_with fail
  have sm := (Bk.mk (xs := [⟨0, 0⟩, ⟨2, 1⟩]) (enc := encM) w5 56 #[.int .i64 0, .int .i64 0, .int .i64 2, .int .i64 1] rfl).sl (sz := 2) (fun _ _ => rfl) (n := 2) rfl (by simp)
  refine (matches_walk _ _ _ _ _ ((SL.ext y5).ext (by repeat (first | with_reducible exact Ext.refl _ | with_reducible assumption | with_reducible apply Ext.alloc | with_reducible apply Ext.drew | (with_reducible refine Ext.setCell ?_ (by (try simp) <;> omega) _)))) sm).mono ?_
  rw [decide_eq_true rfl]
  rintro e w6 ⟨rfl, x6⟩
  have y6 : Ext w5 w6 := Ext.trans (by repeat (first | with_reducible exact Ext.refl _ | with_reducible assumption | with_reducible apply Ext.alloc | with_reducible apply Ext.drew | (with_reducible refine Ext.setCell ?_ (by (try simp) <;> omega) _))) x6
  have X6 := X5.trans y6
  clear x6 sm
  go_wp2_with fail
  have tl := Tab.lit43 w6 8 13 18 13 7 12 7 1 6 12 6 0
  refine (tables_walk _ _ _ _ _ ((TT.ext (y5.trans y6)).ext (by repeat (first | with_reducible exact Ext.refl _ | with_reducible assumption | with_reducible apply Ext.alloc | with_reducible apply Ext.drew | (with_reducible refine Ext.setCell ?_ (by (try simp) <;> omega) _)))) tl).mono ?_
  rw [decide_eq_true rfl]
  rintro e w7 ⟨rfl, x7⟩
  have y7 : Ext w6 w7 := Ext.trans (by repeat (first | with_reducible exact Ext.refl _ | with_reducible assumption | with_reducible apply Ext.alloc | with_reducible apply Ext.drew | (with_reducible refine Ext.setCell ?_ (by (try simp) <;> omega) _))) x7
  have X7 := X6.trans y7
  clear x7 tl
  go_wp2
  go_ret
  exact ⟨rfl, X7⟩
end Go.Proofs.YthomegempfedaaaDoor
