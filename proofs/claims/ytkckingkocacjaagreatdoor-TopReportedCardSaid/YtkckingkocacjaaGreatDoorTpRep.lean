/-
  Proved: 'TopReported' returns true for every input and leaves its arguments as they were. No condition.
-/
import Derived.Test.YtkckingkocacjaaGreatDoorTpB
import Derived.Test.YtkckingkocacjaaGreatDoorTpR
import Derived.Test.YtkckingkocacjaaGreatDoorR23A
import Derived.Test.YtkckingkocacjaaGreatDoorAuG
import Derived.Test.YtkckingkocacjaaGreatDoorR39B
import Derived.Test.YtkckingkocacjaaGreatDoorLibZ
set_option linter.unusedVariables false
namespace Go.Sx.Tp
open Go.Sx.Sz Go.Sx.Sc Go.Sx.Au Go.Sx.Rep
def leafZ (f : Fnd) : Int := leafF f.i f.verdict f.bound
theorem rep_facts {s : Sc} {l : List S2} {m : Nat} (h0 : (auditR s l).2 = 0) (h1 : 1 ≤ m) (h2 : m ≤ s.pairs.length) :
    (auditR s l).1.length = s.pairs.length ∧ s.pairs.length ≤ 400 ∧ auditR (partS s m) l = ((auditR s l).1.take m, 0) ∧ ScOk s := by
  have ht : tonesB s l = true := by
    cases h : tonesB s l with
    | true => rfl
    | false => unfold auditR at h0; rw [h, if_neg (by decide)] at h0; exact absurd (show (1 : Int) = 0 from h0) (by decide)
  have hok := (tonesB_iff.1 ht).1
  refine ⟨?_, hok.sz.2.2.1, part_audit h2 ht, hok⟩
  unfold auditR
  rw [if_pos ht, List.length_map, List.length_range]
theorem rep_laws {xs : List Int} {m : Nat} (h1 : 1 ≤ m) (h2 : m ≤ xs.length) (hn : xs.length ≤ 1024) :
    rootErr xs = 0 ∧ rootV xs = root xs ∧ rootErr (xs.take m) = 0 ∧ rootV (xs.take m) = root (xs.take m) ∧ growErr xs m = 0 ∧ growL xs m = growG xs m ∧ (growG xs m).length ≤ 11 ∧ followsF (root (xs.take m)) (root xs) m xs.length (growG xs m) = true ∧
    ∀ i, i < xs.length → ∀ h : i < xs.length, pathErr xs i = 0 ∧ pathL xs i = pathG xs i ∧ (pathG xs i).length ≤ 10 ∧ checkF (root xs) xs[i] i xs.length (pathG xs i) = true := by
  have a := rootErr_zero.2 ⟨show 0 < xs.length by omega, hn⟩
  have b : rootErr (xs.take m) = 0 := rootErr_zero.2 ⟨by rw [List.length_take]; omega, by rw [List.length_take]; omega⟩
  have c : growErr xs m = 0 := growErr_zero.2 ⟨⟨by omega, hn⟩, by omega, by omega⟩
  refine ⟨a, by unfold rootV; rw [if_pos a], b, by unfold rootV; rw [if_pos b], c, by unfold growL; rw [if_pos c]; rfl, growG_deep xs m h1 h2 hn, grow_follows xs m h1 h2 hn, fun i hi h => ?_⟩
  have d : pathErr xs i = 0 := pathErr_zero.2 ⟨⟨by omega, hn⟩, by omega, by omega⟩
  exact ⟨d, by unfold pathL; rw [if_pos d]; rfl, pathG_deep xs i hi hn, path_check xs i hi hn⟩
end Go.Sx.Tp
namespace Go.Proofs.YtkckingkocacjaaGreatDoor
open Go.RowKit Go.Sx Go.Sx.Sz Go.Sx.Sc Go.Sx.Au Go.Sx.Po Go.Sx.Bl Go.Sx.Tp Go.Sx.Rep Go.ChangeShapes Go.WideShapes Go.ChangeAt

theorem et_pr41 : ET Tryz.prog 23 151 9 72 := .mk' (z := .agg #[.int .i64 0, .int .i64 0, .int .i64 0, .int .i64 0, .int .i64 0, .int .i64 0, .int .i64 0, .int .i64 0, .int .i64 0]) Tryz.underlying23 (by kernel_rfl) rfl (by decide) (by decide)
set_option maxRecDepth 100000 in
set_option maxHeartbeats 16000000 in
theorem toprep_out (vn vp vc vt : Value) (s : Sc) (l : List S2) (k : Int) (hk : ¬ (1 ≤ k ∧ k ≤ s.pairs.length)) (w : World) (GL : Gv 0 1 w) (S : ScR w vn vp vc s) (R : Sl w 2 encS vt l) :
    Calls Tryz.prog 4 #[.agg #[.int .i64 s.voices, vn, vp, vc], vt, .int .i64 k] w fun e w' => e = .returned (.bool true) ∧ Ext w w' := by
  obtain ⟨an, cn, rfl, -, -, hln⟩ := S.nt.len
  obtain ⟨ap, cp, rfl, hcp, -, hlp⟩ := S.pr.len
  obtain ⟨ac, cc, rfl, -, -, hlc⟩ := S.cd.len
  obtain ⟨at', ct, rfl, -, -, -⟩ := R.len
  have X0 : Ext w (w.alloc (.cells #[.int .i64 s.voices, .slice an s.notes.length cn, .slice ap s.pairs.length cp, .slice ac s.cads.length cc] 26)) := (by repeat (first | with_reducible exact Ext.refl _ | with_reducible assumption | with_reducible apply Ext.alloc | with_reducible apply Ext.drew | (with_reducible refine Ext.setCell ?_ (by (try simp) <;> omega) _)))
  have b0_0 := block_new w (.cells #[.int .i64 s.voices, .slice an s.notes.length cn, .slice ap s.pairs.length cp, .slice ac s.cads.length cc] 26)
  obtain ⟨W0, hW0⟩ : ∃ W, (w.alloc (.cells #[.int .i64 s.voices, .slice an s.notes.length cn, .slice ap s.pairs.length cp, .slice ac s.cads.length cc] 26)) = W := ⟨_, rfl⟩
  obtain ⟨B0, hB0⟩ : ∃ B, w.heap.size = B := ⟨_, rfl⟩
  rw [hW0] at X0 b0_0
  rw [hB0] at b0_0
  have HZ0 : Hid (w.heap.size ≤ B0) := Lib.hid (by omega)
  have HW0 := Lib.hid hW0; have HB0 := Lib.hid hB0
  clear hW0 hB0
  have CB := Lib.hid (boxS b0_0)
  have S1 := S.ext X0; have G1 := GL.ext X0; have R1 := R.ext X0
  have HCP := Lib.hid hcp
  clear S GL R b0_0 hcp
  go_enter Tryz.func4, Tryz.ntmps4
  go_wp2_with fail
  rw [HW0.out, HB0.out]
  clear HW0 HB0
  refine (head41_walk _ G1).mono ?_
  rintro e w1 ⟨rfl, x1⟩
  obtain ⟨c0, c1, c2, c3⟩ := CB.out _ x1
  go_wp2_with fail
  refine (rfew_walk _ _ _ s _ (S1.ext x1)).mono ?_
  obtain ⟨fw, hfw⟩ : ∃ z, (decide (s.notes.length ≤ 40) && decide (s.pairs.length ≤ 60)) = z := ⟨_, rfl⟩
  rw [hfw]
  clear hfw
  rintro e w2 ⟨rfl, y2⟩
  have x2 := x1.trans y2
  clear c0 c1 c2 c3
  obtain ⟨d0, d1, d2, d3⟩ := CB.out _ x2
  cases fw with
  | false =>
    have HX := Lib.hid (X0.trans x2)
    clear d0 d1 d2 d3
    go_wp2
    go_ret
    exact ⟨by first | rfl | simp, HX.out⟩
  | true =>
  by_cases hp0 : s.pairs.length = 0
  · have t1 : ((s.pairs.length : Int) == 0) = true := by rw [beq_iff_eq]; omega
    clear hp0 hk
    have HX := Lib.hid (X0.trans x2)
    go_wp2
    go_ret
    exact ⟨by first | rfl | simp, HX.out⟩
  have t1 : ((s.pairs.length : Int) == 0) = false := by rw [beq_eq_false_iff_ne]; omega
  by_cases hk0 : k < 1
  · have t2 : decide (k < 1) = true := decide_eq_true hk0
    clear hk0 hk hp0
    have HX := Lib.hid (X0.trans x2)
    go_wp2
    go_ret
    exact ⟨by first | rfl | simp, HX.out⟩
  · have t2 : decide (k < 1) = false := decide_eq_false hk0
    have t3 : decide ((s.pairs.length : Int) < k) = true := decide_eq_true (by omega)
    clear hk0 hk hp0
    have HX := Lib.hid (X0.trans x2)
    go_wp2
    go_ret
    exact ⟨by first | rfl | simp, HX.out⟩
set_option maxRecDepth 100000 in
set_option maxHeartbeats 16000000 in
theorem toprep_law (vn vp vc vt : Value) (s : Sc) (l : List S2) (k : Nat) (hk1 : 1 ≤ k) (hk2 : k ≤ s.pairs.length) (w : World) (GL : Gv 0 1 w) (S : ScR w vn vp vc s) (R : Sl w 2 encS vt l) :
    Calls Tryz.prog 4 #[.agg #[.int .i64 s.voices, vn, vp, vc], vt, .int .i64 k] w fun e w' => e = .returned (.bool true) ∧ Ext w w' := by
  obtain ⟨an, cn, rfl, -, -, hln⟩ := S.nt.len
  obtain ⟨ap, cp, rfl, hcp, -, hlp⟩ := S.pr.len
  obtain ⟨ac, cc, rfl, -, -, hlc⟩ := S.cd.len
  obtain ⟨at', ct, rfl, -, -, -⟩ := R.len
  have AW := Lib.hid (@audit_walk (.slice an s.notes.length cn))
  have AW1 := @audit_walk (.slice an s.notes.length cn) (.slice ap s.pairs.length cp) (.slice ac s.cads.length cc) (.slice at' l.length ct) s l
  have hf := fun e => @rep_facts s l k e hk1 hk2
  have VC := S.pr.cut (by omega) 0 k (Nat.zero_le _) hk2
  rw [List.drop_zero] at VC
  obtain ⟨⟨al, ae⟩, ha⟩ : ∃ z, auditR s l = z := ⟨_, rfl⟩
  rw [ha] at AW1 hf
  simp only at AW1 hf
  have HAW1 := Lib.hid AW1; have HF := Lib.hid hf
  clear AW1 hf ha
  have X0 : Ext w (w.alloc (.cells #[.int .i64 s.voices, .slice an s.notes.length cn, .slice ap s.pairs.length cp, .slice ac s.cads.length cc] 26)) := (by repeat (first | with_reducible exact Ext.refl _ | with_reducible assumption | with_reducible apply Ext.alloc | with_reducible apply Ext.drew | (with_reducible refine Ext.setCell ?_ (by (try simp) <;> omega) _)))
  have b0_0 := block_new w (.cells #[.int .i64 s.voices, .slice an s.notes.length cn, .slice ap s.pairs.length cp, .slice ac s.cads.length cc] 26)
  obtain ⟨W0, hW0⟩ : ∃ W, (w.alloc (.cells #[.int .i64 s.voices, .slice an s.notes.length cn, .slice ap s.pairs.length cp, .slice ac s.cads.length cc] 26)) = W := ⟨_, rfl⟩
  obtain ⟨B0, hB0⟩ : ∃ B, w.heap.size = B := ⟨_, rfl⟩
  rw [hW0] at X0 b0_0
  rw [hB0] at b0_0
  have HZ0 : Hid (w.heap.size ≤ B0) := Lib.hid (by omega)
  have HW0 := Lib.hid hW0; have HB0 := Lib.hid hB0
  clear hW0 hB0
  have CB := Lib.hid (boxS b0_0)
  have S1 := S.ext X0; have G1 := GL.ext X0; have R1 := R.ext X0
  have HCP := Lib.hid hcp
  have VC1 := Lib.hid (VC.ext X0)
  clear S GL R b0_0 hcp VC
  go_enter Tryz.func4, Tryz.ntmps4
  go_wp2_with fail
  rw [HW0.out, HB0.out]
  clear HW0 HB0
  refine (head41_walk _ G1).mono ?_
  rintro e w1 ⟨rfl, x1⟩
  obtain ⟨c0, c1, c2, c3⟩ := CB.out _ x1
  go_wp2_with fail
  refine (rfew_walk _ _ _ s _ (S1.ext x1)).mono ?_
  obtain ⟨fw, hfw⟩ : ∃ z, (decide (s.notes.length ≤ 40) && decide (s.pairs.length ≤ 60)) = z := ⟨_, rfl⟩
  rw [hfw]
  clear hfw
  rintro e w2 ⟨rfl, y2⟩
  have x2 := x1.trans y2
  clear c0 c1 c2 c3
  obtain ⟨d0, d1, d2, d3⟩ := CB.out _ x2
  cases fw with
  | false =>
    have HX := Lib.hid (X0.trans x2)
    clear d0 d1 d2 d3
    go_wp2
    go_ret
    exact ⟨by first | rfl | simp, HX.out⟩
  | true =>
  have t1 : ((s.pairs.length : Int) == 0) = false := by rw [beq_eq_false_iff_ne]; omega
  have t2 : decide ((k : Int) < 1) = false := decide_eq_false (by omega)
  have t3 : decide (s.pairs.length < k) = false := decide_eq_false (by omega)
  go_wp2_with fail
  refine (HAW1.out _ (G1.gl.ext x2) (S1.ext x2) (R1.ext x2)).mono ?_
  rintro e w3 ⟨v3, rfl, L3, y3⟩
  have x3 := x2.trans y3
  obtain ⟨a3, q3, rfl, hq3, -, -⟩ := L3.len
  have HX3 := Lib.hid (X0.trans x3)
  clear d0 d1 d2 d3 t1 t2 t3
  by_cases h0 : ae = 0
  case neg =>
    have t1 : (ae != 0) = true := by rw [bne_iff_ne]; exact h0
    clear h0
    go_wp2
    go_ret
    exact ⟨by first | rfl | simp, HX3.out⟩
  subst h0
  obtain ⟨hal, hp400, hpa, hok⟩ := HF.out (by first | rfl | trivial)
  have HPA := Lib.hid hpa; have HAL := Lib.hid hal; have HQ3 := Lib.hid hq3
  have HY3 := Lib.hid x3
  obtain ⟨c0, c1, c2, c3⟩ := CB.out _ x3
  obtain ⟨W3, rfl⟩ : ∃ z : World, z = w3 := ⟨_, rfl⟩
  clear hal hpa hok HF hq3 y3 x1 x2 y2
  go_upto_region 7 with fail
  have h0 := ext_cells c0; have h1 := ext_cells c1; have h2 := ext_cells c2; have h3 := ext_cells c3
  have SL := VC1.out.ext x3
  have i1 : (0 : Int) ≤ (k : Int) := by omega
  have i2 : (k : Int) ≤ (s.pairs.length : Int) := by omega
  have i3 : (k : Int) ≤ (cp : Int) := by have := HCP.out; omega
  apply Y.wp_region_ordY [(0, .det _), (1, .det _), (2, .det _), (3, .det _), (4, .new Zero (fun v w' => OwnR w' W3.heap.size 151 9 encP v []) _ zero0), (5, .det _), (6, .det _), (7, .det _), (8, .det (sliced ap 0 k cp 9)), (9, .new (fun v => ∃ a n c, v = .slice a n c) (fun v w' => OwnR w' W3.heap.size 151 9 encP v (s.pairs.take k)) (.slice none 0 0) ⟨none, 0, 0, rfl⟩ [4]), (10, .det _), (11, .det _),
    (12, .new (fun v => ∃ a n c, v = .agg #[.int .i64 s.voices, .slice an s.notes.length cn, .slice a n c, .slice ac s.cads.length cc]) (fun v w' => ∃ a n c, v = .agg #[.int .i64 s.voices, .slice an s.notes.length cn, .slice a n c, .slice ac s.cads.length cc] ∧ OwnR w' W3.heap.size 151 9 encP (.slice a n c) (s.pairs.take k)) (.agg #[.int .i64 s.voices, .slice an s.notes.length cn, .slice none 0 0, .slice ac s.cads.length cc]) ⟨none, 0, 0, rfl⟩ [9]), (13, .new (fun v => ∃ g, v = .pointer (some ⟨g, 0, none⟩)) (fun v w' => ∃ g, v = .pointer (some ⟨g, 0, none⟩) ∧ W3.heap.size ≤ g ∧ w'.heap[g]? = some (.cells #[.int .i64 0, .slice none 0 0, .slice none 0 0, .slice none 0 0] 26 (0, 0))) (.pointer (some ⟨0, 0, none⟩)) ⟨0, rfl⟩)]
    14 Ext Ext (Ext W3) (fun _ => True) wide
    [(0,true), (1,true), (2,true), (3,true), (4,true), (5,true), (6,true), (7,true), (8,true), (9,true), (10,true), (11,true), (12,true), (13,true)] [(0,[]),(1,[]),(2,[]),(3,[]),(4,[]),(5,[]),(6,[]),(7,[]),(8,[]),(9,[4]),(10,[]),(11,[]),(12,[9]),(13,[])] (by kernel_rfl) (by kernel_rfl) rfl rfl (by simp [Y.Kd.new, Y.Kd.det, Y.Kd.one, Y.kdOf]) (by decide) (fun _ _ h => h) (stable_ext _) stable_true (Ext.drawn _ _) trivial ?main
  case main =>
    iterate 4 (apply Y.ordX_det rfl rfl; (intro w' hw'; unfold opR; go_simp; exact ⟨Ext.refl _, rfl⟩); (simp only [List.getElem_toArray, List.getElem_cons_succ, List.getElem_cons_zero, Act.put, List.setIfInBounds_toArray, List.set_cons_succ, List.set_cons_zero]; rfl))
    apply Y.ordX_new (fun v => stable_own' _ _ _ _ _ _) rfl rfl
    · intro w' hw' _
      unfold opR
      go_simp
      exact ⟨Ext.alloc' _ _, ⟨_, rfl⟩, OwnR.lit w' #[] [] 0 rfl hw'.size rfl rfl (by simp [maxLen])⟩
    · intro v; (simp only [List.getElem_toArray, List.getElem_cons_succ, List.getElem_cons_zero, Act.put, List.setIfInBounds_toArray, List.set_cons_succ, List.set_cons_zero]; rfl)
    rintro v0 ⟨g0, rfl⟩
    iterate 3 (apply Y.ordX_det rfl rfl; (intro w' hw'; unfold opR; go_simp; exact ⟨Ext.refl _, rfl⟩); (simp only [List.getElem_toArray, List.getElem_cons_succ, List.getElem_cons_zero, Act.put, List.setIfInBounds_toArray, List.set_cons_succ, List.set_cons_zero]; rfl))
    apply Y.ordX_det rfl rfl
    · intro w' hw'
      unfold opR
      go_simp
      exact ⟨Ext.refl _, rfl⟩
    · (simp only [List.getElem_toArray, List.getElem_cons_succ, List.getElem_cons_zero, Act.put, List.setIfInBounds_toArray, List.set_cons_succ, List.set_cons_zero]; rfl)
    apply Y.ordX_new (fun v => stable_own' _ _ _ _ _ _) rfl rfl
    · intro w' hw' hN
      refine opR_app0 et_pr41 (.tmp 59) (.tmp 63) rfl (hN 4 (by simp)) rfl (s.pairs.take k) _ (SL.ext hw') rfl (fun _ _ => rfl) (by simp; omega) hw'.size ?_
      intro v' w4 h1 h2 _
      exact ⟨h2, h1.shape, h1⟩
    · intro v; (simp only [List.getElem_toArray, List.getElem_cons_succ, List.getElem_cons_zero, Act.put, List.setIfInBounds_toArray, List.set_cons_succ, List.set_cons_zero]; rfl)
    rintro v7 ⟨a8, n8, q8, rfl⟩
    iterate 2 (apply Y.ordX_det rfl rfl; (intro w' hw'; unfold opR; go_simp; exact ⟨Ext.refl _, rfl⟩); (simp only [List.getElem_toArray, List.getElem_cons_succ, List.getElem_cons_zero, Act.put, List.setIfInBounds_toArray, List.set_cons_succ, List.set_cons_zero]; rfl))
    apply Y.ordX_new (fun v w1 w2 h k => by obtain ⟨a, n, c, h1, h2⟩ := h; exact ⟨a, n, c, h1, h2.ext k⟩) rfl rfl
    · intro w' hw' hN
      have hO := hN 9 (by simp)
      unfold opR
      go_simp
      exact ⟨Ext.refl _, ⟨_, _, _, rfl⟩, _, _, _, rfl, hO⟩
    · intro v; (simp only [List.getElem_toArray, List.getElem_cons_succ, List.getElem_cons_zero, Act.put, List.setIfInBounds_toArray, List.set_cons_succ, List.set_cons_zero]; rfl)
    rintro v10 -
    apply Y.ordX_new (fun v w1 w2 h k => by obtain ⟨g, a, b, c⟩ := h; exact ⟨g, a, b, block_ext k c⟩) rfl rfl
    · intro w' hw' _
      unfold opR
      go_simp
      exact ⟨Ext.alloc' _ _, ⟨_, rfl⟩, _, rfl, hw'.size, block_new _ _⟩
    · intro v; (simp only [List.getElem_toArray, List.getElem_cons_succ, List.getElem_cons_zero, Act.put, List.setIfInBounds_toArray, List.set_cons_succ, List.set_cons_zero]; rfl)
    rintro v11 -
    refine Y.ordX_nil rfl ?_
    rintro w9 hw9 - ⟨⟨⟨⟨-, -⟩, -⟩, a7, n7, q7, rfl, o7⟩, D, rfl, hDW, bD⟩
    have X9 := hw9
    have hne : (Value.slice a7 n7 q7).ownBlock ≠ some D := fun e => by
      obtain ⟨cs, hcs⟩ := o7.kind e
      rw [hcs] at bD; cases bD
    have n9 := o7.setRow hne #[.int .i64 s.voices, .slice an s.notes.length cn, .slice a7 n7 q7, .slice ac s.cads.length cc]
    have d9 := setRow_at bD #[.int .i64 s.voices, .slice an s.notes.length cn, .slice a7 n7 q7, .slice ac s.cads.length cc]
    have x9 := X9.setRow hDW #[.int .i64 s.voices, .slice an s.notes.length cn, .slice a7 n7 q7, .slice ac s.cads.length cc]
    obtain ⟨W9, hW9⟩ : ∃ z, w9.setRow D #[.int .i64 s.voices, .slice an s.notes.length cn, .slice a7 n7 q7, .slice ac s.cads.length cc] = z := ⟨_, rfl⟩
    have HW9 := Lib.hid hW9
    rw [hW9] at n9 d9 x9
    have hkl : (s.pairs.take k).length = k := by rw [List.length_take]; omega
    have SP := n9.sl (fun _ _ => rfl) (by rw [hkl]; omega)
    have S9 : ScR W9 (.slice an s.notes.length cn) (.slice a7 n7 q7) (.slice ac s.cads.length cc) (partS s k) := ⟨S1.nt.ext (x3.trans x9), SP, S1.cd.ext (x3.trans x9)⟩
    have HS9 := Lib.hid S9
    have e0 := block_cell d9 0 _ rfl; have e1 := block_cell d9 1 _ rfl; have e2 := block_cell d9 2 _ rfl; have e3 := block_cell d9 3 _ rfl
    have HX9 := Lib.hid (x3.trans x9); have HZ9 := Lib.hid x9
    have hpv : (partS s k).voices = s.voices := rfl
    have A9 := AW.out (.slice a7 n7 q7) (.slice ac s.cads.length cc) (.slice at' l.length ct) (partS s k) l W9 (G1.gl.ext HX9.out) S9 (R1.ext HX9.out)
    rw [HPA.out, hpv] at A9
    simp only at A9
    have HA9 := Lib.hid A9
    clear hne n9 d9 x9 X9 o7 hw9 h0 h1 h2 h3 c0 c1 c2 c3 i2 i3 hDW SL hW9 SP S9 A9 hpv hkl x3
    generalize sliced ap 0 k cp 9 = z64
    refine wpList_store_row rfl _ _ _ rfl D _ rfl rfl _ _ bD (by kernel_rfl) rfl (by simp [Value.oneCell']) ?_
    rw [HW9.out]
    clear bD
    go_wp2_with fail
    refine HA9.out.mono ?_
    rintro e w10 ⟨v10, rfl, L10, y10⟩
    have x10 := HX9.out.trans y10
    have X3 := HZ9.out.trans y10
    have L3 := L3.ext X3
    clear e0 e1 e2 e3
    have hak : (al.take k).length = k := by rw [List.length_take, HAL.out]; omega
    have F3 := Sl.front L3 k (by rw [HAL.out]; exact hk2)
    obtain ⟨bl, hbl⟩ : ∃ z, al.take k = z := ⟨_, rfl⟩
    rw [hbl] at hak F3 L10
    obtain ⟨a10, q10, rfl, -, -, -⟩ := L10.len
    obtain ⟨b3, o3, rfl, -, -, -⟩ := Sl.fd L3 0 (by rw [HAL.out]; omega)
    have t1 : ((al.length : Int) != (s.pairs.length : Int)) = false := by rw [bne_eq_false_iff_eq, HAL.out]
    have t2 : ((bl.length : Int) != (k : Int)) = false := by rw [bne_eq_false_iff_eq, hak]
    have hcap : k ≤ q3 := by have := HQ3.out; have := HAL.out; omega
    have hcap2 : (k : Int) ≤ (q3 : Int) := by omega
    have hkal : k ≤ al.length := by rw [HAL.out]; exact hk2
    have HX10 := Lib.hid x10
    obtain ⟨c0, c1, c2, c3⟩ := CB.out _ x10
    clear hak hbl X3 y10 x10
    go_wp2_with fail
    refine (samefd_walk _ _ bl bl _ L10 F3).mono ?_
    rw [decide_eq_true rfl]
    rintro e w11 ⟨rfl, y11⟩
    have HX11 := Lib.hid (X0.trans (HX10.out.trans y11))
    have L11 := L3.ext y11
    have hal400 : al.length ≤ 400 := by rw [HAL.out]; exact hp400
    clear t1 t2 c0 c1 c2 c3 L10 F3 L3 y11
    go_wp2
    go_loopw [13, 14] (fun o i wr => ∃ q : Nat, q ≤ al.length ∧ i = .int .i64 q ∧ OwnR wr w11.heap.size 68 1 encU o ((al.take q).map leafZ) ∧ Ext w11 wr) (fun _ i _ => al.length - (intOf i).toNat)
    case atStart => exact ⟨0, by omega, by first | rfl | trivial, OwnR.nil, Ext.refl _⟩
    case round =>
      obtain ⟨q, hq, rfl, own, X⟩ := hrel
      by_cases hlt : q < al.length
      case pos =>
        obtain ⟨_, _, e', f0, f1, f2⟩ := Sl.fd (L11.ext X) q hlt
        cases e'
        have hst : (al.take (q + 1)).map leafZ = (al.take q).map leafZ ++ [leafZ al[q]] := by rw [List.take_succ_eq_append_getElem hlt, List.map_append]; rfl
        have hll : ((al.take q).map leafZ).length = q := by rw [List.length_map, List.length_take]; omega
        have hlb : (((al.take q).map leafZ).length + 1) * 8 ≤ 140737488355328 := by rw [hll]; omega
        obtain ⟨⟨fi, fv, fb⟩, hf⟩ : ∃ z, al[q] = z := ⟨_, rfl⟩
        rw [hf] at f0 f1 f2 hst
        have hlz : leafZ ⟨fi, fv, fb⟩ = leafF fi fv fb := rfl
        rw [hlz] at hst
        have LW := leaf_walk fi fv fb wr
        obtain ⟨z, hz⟩ : ∃ z, leafF fi fv fb = z := ⟨_, rfl⟩
        rw [hz] at hst LW
        have HST := Lib.hid hst; have HO := Lib.hid own; have HXX := Lib.hid X
        obtain ⟨va, vm, vd, rfl⟩ := own.shape
        have i1 : (0 : Int) ≤ (q : Int) := by omega
        have i2 : (q : Int) < (al.length : Int) := by omega
        clear own X hf hlz hz hst hll
        go_wp2_with fail
        refine LW.mono ?_
        rintro e w12 ⟨rfl, x12⟩
        have own := HO.out.ext x12
        have HX12 := Lib.hid (HXX.out.trans x12)
        have hsz := HX12.out.size
        clear LW f0 f1 f2 x12
        go_wp2_with (first | (at_builtin; go_must (refine wpList_own1 et_u64 rfl _ _ rfl own rfl z rfl rfl rfl (by simp [encU, Value.oneCell']) hlb hsz ?_; intro v' w13 hown' hb' happ _)) | fail)
        rw [← HST.out] at hown'
        have FIN := Lib.hid (And.intro hown' (Below.trans HX12.out hb'))
        clear hown' hb' happ own
        go_roundw
        case rel => exact ⟨q + 1, by omega, by go_num, FIN.out.1, FIN.out.2⟩
        case measure => simp [intOf] <;> omega
      case neg =>
      obtain rfl : q = al.length := by omega
      rw [List.take_length] at own
      have hlm : (al.map leafZ).length = al.length := List.length_map _
      obtain ⟨lv, hlv⟩ : ∃ z, al.map leafZ = z := ⟨_, rfl⟩
      rw [hlv] at own hlm
      have hlg : ∀ i (h1 : i < lv.length) (h2 : i < al.length), lv[i] = leafZ al[i] := fun i h1 h2 => by subst hlv; rw [List.getElem_map]
      obtain ⟨r1, r2, r3, r4, r5, r6, r7, r8, r9⟩ := rep_laws (xs := lv) (m := k) hk1 (by omega) (by omega)
      obtain ⟨g, cap, rfl, -, -, -⟩ := own.block (by rintro rfl; simp at hlm; omega)
      have SLv := own.sl (fun _ _ => rfl) (by omega)
      obtain ⟨_, _, e5, hc5, -, -⟩ := SLv.len
      cases e5
      have FLv := Sl.front SLv k (by omega)
      have hcap3 : k ≤ cap := by omega
      have hcap4 : (k : Int) ≤ (cap : Int) := by omega
      have hklv : k ≤ lv.length := by omega
      have hlv400 : lv.length ≤ 400 := by omega
      have HLM := Lib.hid hlm; have HLG := Lib.hid hlg; have HR9 := Lib.hid r9
      have HX12 := Lib.hid (HX11.out.trans X)
      have HL11 := Lib.hid (L11.ext X)
      have RW1 := reproot_walk (.slice (some ⟨g, 0, none⟩) lv.length cap) lv wr SLv
      have RW2 := Lib.hid fun w' (y : Ext wr w') => reproot_walk (.slice (some ⟨g, 0, none⟩) k cap) (lv.take k) w' (FLv.ext y)
      have GW2 := Lib.hid fun w' (y : Ext wr w') => grow_walk (.slice (some ⟨g, 0, none⟩) lv.length cap) lv k w' (SLv.ext y)
      have PW2 := Lib.hid fun i w' (y : Ext wr w') => path_walk (.slice (some ⟨g, 0, none⟩) lv.length cap) lv i w' (SLv.ext y)
      rw [r1, r2] at RW1; rw [r3, r4] at RW2; rw [r5, r6] at GW2
      obtain ⟨rt, hrt⟩ : ∃ z, root lv = z := ⟨_, rfl⟩
      obtain ⟨ro, hro⟩ : ∃ z, root (lv.take k) = z := ⟨_, rfl⟩
      obtain ⟨gl, hgl⟩ : ∃ z, growG lv k = z := ⟨_, rfl⟩
      rw [hrt] at RW1 r8 HR9; rw [hro] at RW2 r8; rw [hgl] at GW2 r7 r8
      have HR7 := Lib.hid r7; have HR8 := Lib.hid r8
      obtain ⟨W12, rfl⟩ : ∃ z : World, z = wr := ⟨_, rfl⟩
      clear own hlm hlg hlv r1 r2 r3 r4 r5 r6 r7 r8 r9 SLv FLv X L11 hrt hro hgl hc5
      go_wp2_with fail
      refine RW1.mono ?_
      rintro e w13 ⟨rfl, x13⟩
      clear RW1
      go_wp2_with fail
      refine (RW2.out w13 x13).mono ?_
      rintro e w14 ⟨rfl, y14⟩
      have x14 := x13.trans y14
      go_wp2_with fail
      refine (GW2.out w14 x14).mono ?_
      rintro e w15 ⟨p, rfl, o15, y15⟩
      have x15 := x14.trans y15
      have SG := o15.sl (fun _ _ => rfl) (by have := HR7.out; omega)
      obtain ⟨ag, cg, rfl, -, -, -⟩ := SG.len
      have HX15 := Lib.hid x15
      have FW := follows_walk ro rt k lv.length (.slice ag gl.length cg) gl w15 SG
      rw [HR8.out] at FW
      clear o15 y14 y15 x13 x14 x15 SG
      go_wp2_with fail
      refine FW.mono ?_
      rintro e w16 ⟨rfl, x16⟩
      have HX16 := Lib.hid (HX15.out.trans x16)
      clear FW x16
      go_wp2
      go_loopw [21] (fun i wr => ∃ q : Nat, q ≤ lv.length ∧ i = .int .i64 q ∧ Ext w16 wr) (fun i _ => lv.length - (intOf i).toNat)
      case atStart => exact ⟨0, by omega, by first | rfl | trivial, Ext.refl _⟩
      case round =>
        obtain ⟨q, hq, rfl, Y⟩ := hrel
        by_cases hlt : q < lv.length
        case neg =>
          have HX := Lib.hid (HX12.out.trans (HX16.out.trans Y))
          obtain rfl : q = lv.length := by omega
          go_wp2
          go_ret
          exact ⟨by first | rfl | simp, HX.out⟩
        case pos =>
        have hqa : q < al.length := by have := HLM.out; omega
        obtain ⟨r1, r2, r3, r4⟩ := HR9.out q hlt hlt
        obtain ⟨_, _, e', f0, f1, f2⟩ := Sl.fd (HL11.out.ext (HX16.out.trans Y)) q hqa
        cases e'
        have PWq := PW2.out q wr (HX16.out.trans Y)
        rw [r1, r2] at PWq
        rw [HLG.out q hlt hqa] at r4
        obtain ⟨⟨fi, fv, fb⟩, hf⟩ : ∃ z, al[q] = z := ⟨_, rfl⟩
        rw [hf] at f0 f1 f2 r4
        have hlz : leafZ ⟨fi, fv, fb⟩ = leafF fi fv fb := rfl
        rw [hlz] at r4
        have LW := Lib.hid fun w' => leaf_walk fi fv fb w'
        obtain ⟨z, hz⟩ : ∃ z, leafF fi fv fb = z := ⟨_, rfl⟩
        obtain ⟨pg, hpg⟩ : ∃ z, pathG lv q = z := ⟨_, rfl⟩
        rw [hz] at r4 LW
        rw [hpg] at r3 r4 PWq
        have HR3 := Lib.hid r3; have HR4 := Lib.hid r4
        have F0 := Lib.hid (ext_cells f0); have F1 := Lib.hid (ext_cells f1); have F2 := Lib.hid (ext_cells f2)
        have i1 : (0 : Int) ≤ (q : Int) := by omega
        have i2 : (q : Int) < (al.length : Int) := by omega
        have HY := Lib.hid Y
        clear r1 r2 r3 r4 hf hlz hz hpg f0 f1 f2 Y
        go_wp2_with fail
        refine PWq.mono ?_
        rintro e w17 ⟨p17, rfl, o17, x17⟩
        have SP := o17.sl (fun _ _ => rfl) (by have := HR3.out; omega)
        obtain ⟨app, cpp, rfl, -, -, -⟩ := SP.len
        have f0 := F0.out _ x17; have f1 := F1.out _ x17; have f2 := F2.out _ x17
        have HX17 := Lib.hid (HY.out.trans x17)
        clear PWq o17 x17 F0 F1 F2
        go_wp2_with fail
        refine (LW.out _).mono ?_
        rintro e w18 ⟨rfl, x18⟩
        have KW := check_walk rt z q lv.length (.slice app pg.length cpp) pg w18 (SP.ext x18)
        rw [HR4.out] at KW
        have HX18 := Lib.hid (HX17.out.trans x18)
        clear f0 f1 f2 x18 SP
        go_wp2_with fail
        refine KW.mono ?_
        rintro e w19 ⟨rfl, x19⟩
        have HX := Lib.hid (HX18.out.trans x19)
        clear KW x19
        go_wp2
        go_roundw
        case rel => exact ⟨q + 1, by omega, by go_num, HX.out⟩
        case measure => simp [intOf] <;> omega

theorem toprep_any (vn vp vc vt : Value) (s : Sc) (l : List S2) (k : Int) (w : World) (GL : Gv 0 1 w) (S : ScR w vn vp vc s) (R : Sl w 2 encS vt l) :
    Calls Tryz.prog 4 #[.agg #[.int .i64 s.voices, vn, vp, vc], vt, .int .i64 k] w fun e w' => e = .returned (.bool true) ∧ Ext w w' := by
  by_cases hk : 1 ≤ k ∧ k ≤ s.pairs.length
  · obtain ⟨n, rfl⟩ : ∃ n : Nat, k = (n : Int) := ⟨k.toNat, by omega⟩
    exact toprep_law vn vp vc vt s l n (by omega) (by omega) w GL S R
  · exact toprep_out vn vp vc vt s l k hk w GL S R

theorem topReported_args (H : Type) (enc : TypeId × Value → H) (W : World) (base : Nat) (vs : List Value) (ds : List (DataW H)) (_ : ∀ k, (OpenSpec.ofChange Rows.topReportedSpec).cond = some k → k H ds = true) (hL : laidMetH Tryz.prog Rows.topReportedRow.laid W) (hA : Args enc Tryz.prog W base Tryz.f4.params.toList vs ds) :
    Calls Tryz.prog 4 vs.toArray W fun e W' => e = .returned (.bool true) ∧ Ext W W' := by
  rw [Tryz.params4] at hA
  obtain ⟨v0, _, d0, _, rfl, rfl, h0, hA⟩ := hA.cons
  obtain ⟨v1, _, d1, _, rfl, rfl, h1, hA⟩ := hA.cons
  obtain ⟨v2, _, d2, _, rfl, rfl, h2, hA⟩ := hA.cons
  obtain ⟨rfl, rfl⟩ := hA.nil
  obtain ⟨s0, vn0, vp0, vc0, rfl, S0⟩ := arg_score h0
  obtain ⟨l1, S1, n1⟩ := arg_sizes h1
  obtain ⟨k2, rfl, b2⟩ := h2.int Tryz.underlying3
  exact toprep_any _ _ _ _ s0 l1 k2 W (gv_of hL) S0 S1

theorem topReported_met (os : Os) : laidMet Tryz.prog Rows.topReportedRow.laid ((laidWorld os).forCall (fun _ _ => 0) ⟨#[], #[.agg #[.int .i64 0, .slice none 0 0, .slice none 0 0, .slice none 0 0], .slice none 0 0, .int .i64 0], []⟩).memory := laidMet_of_run' 8 (by kernel_rfl) (by kernel_rfl)
theorem topReported_reads (os : Os) {H : Type} (enc : TypeId × Value → H) : ∃ places, DataW.whole enc Tryz.prog ((laidWorld os).forCall (fun _ _ => 0) ⟨#[], #[.agg #[.int .i64 0, .slice none 0 0, .slice none 0 0, .slice none 0 0], .slice none 0 0, .int .i64 0], []⟩).memory Tryz.f4.params.toList Rows.topReportedSpec.vars false #[.agg #[.int .i64 0, .slice none 0 0, .slice none 0 0, .slice none 0 0], .slice none 0 0, .int .i64 0].toList 8 = some ([.agg [.lit (.int .i64 0), .nil, .nil, .nil], .nil, .lit (.int .i64 0)], [], places) := ⟨[], by kernel_rfl⟩
set_option maxRecDepth 100000 in
theorem topReported_lifted (os : Os) (started : os.Started) (H : Type) (enc : TypeId × Value → H) (F : Stop.Interp) :
    ReturnsInHanded {} Tryz.checked os 4 .any ((OpenSpec.ofChange Rows.topReportedSpec).preRow enc Tryz.prog Tryz.f4 Rows.topReportedRow.domain false Rows.topReportedRow.laid) (((OpenSpec.ofChange Rows.topReportedSpec).at F).post enc Tryz.prog Tryz.f4 false true false false) := by
  obtain ⟨places, hx⟩ := topReported_reads os enc
  exact law_row (C := Tryz.checked) (s := (OpenSpec.ofChange Rows.topReportedSpec)) (by kernel_rfl) started (by kernel_rfl) Tryz.func4
    (witness_row_at (enc := enc) (C := Tryz.checked) false (laidWorld os) #[.agg #[.int .i64 0, .slice none 0 0, .slice none 0 0, .slice none 0 0], .slice none 0 0, .int .i64 0] rfl (by kernel_rfl) (by kernel_rfl) (by kernel_rfl) (OpenSpec.preRow_of_cond 8 hx (by kernel_rfl) (fun k hk => by cases hk) (by kernel_rfl) (topReported_met os)))
    (by kernel_rfl) (by kernel_rfl) (by kernel_rfl) rfl (fun ds h => by match ds, h with | [_, _, _], _ => rfl) (topReported_args H enc)
theorem topReported_said : Rows.TopReportedSaid :=
  OpenClaim.holds_of_cond 4 Tryz.f4 rfl rfl rfl rfl rfl rfl rfl ⟨rfl, rfl, rfl, rfl, rfl⟩ rfl rfl rfl rfl rfl (by kernel_rfl) Tryz.func4 (by kernel_rfl)
    (of_decide_eq_true (by kernel_rfl)) (by unfold Func.isWrapper; first | (rw [if_pos (by decide +kernel)]; kernel_rfl) | (rw [if_neg (by decide +kernel)]; exact ⟨rfl, rfl⟩))
    (fun os started H enc _ F => by rw [OpenClaim.pre_eq_preRow]; exact topReported_lifted os started H enc F)
theorem topReported_plain (f : FuncId) (fn : Func) (hf : Tryz.pinned.checked.prog.funcNamed "schisma/schismatop.TopReported" = some f) (hfn : Tryz.pinned.checked.prog.funcs[f]? = some fn) :
    false = Tryz.pinned.checked.prog.looks [] ∧ ∀ (j : Nat) t, fn.params[j]? = some t → Tryz.pinned.checked.prog.wantsStandIn t = false := by
  obtain rfl : f = 4 := Option.some.inj ((show Tryz.prog.funcNamed "schisma/schismatop.TopReported" = some 4 by kernel_rfl).symm.trans hf) |>.symm
  obtain rfl : fn = Tryz.f4 := (Option.some.inj (Tryz.func4.symm.trans hfn)).symm
  refine ⟨by kernel_rfl, fun j t ht => ?_⟩
  have hall : Tryz.f4.params.all (fun t => !Tryz.prog.wantsStandIn t) = true := by kernel_rfl
  have := (Array.all_eq_true'.1 hall) t (Array.mem_of_getElem? ht)
  have e : Tryz.prog.wantsStandIn t = false := by simpa using this
  exact e
/-- The card. -/
theorem topReported_holds : Rows.TopReportedCardSaid :=
  Claim7.holds_tied_plain_at .later [] _ _ _ _ topReported_said (fun _ h => by cases h) (by kernel_rfl) (fun _ h => by cases h) topReported_row_tie rfl ⟨rfl, rfl⟩ (by kernel_rfl) rfl topReported_plain (by kernel_rfl)
end Go.Proofs.YtkckingkocacjaaGreatDoor
