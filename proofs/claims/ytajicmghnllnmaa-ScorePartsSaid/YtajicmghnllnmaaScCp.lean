/-
  Walk: schismalaw19.copied.
-/
import Derived.Test.YtajicmghnllnmaaScH
import Derived.Test.YtajicmghnllnmaaIns
set_option linter.unusedVariables false
namespace Go.Proofs.Ytajicmghnllnmaa
open Go.RowKit Go.Sx Go.Sx.Sz Go.Sx.Sc

theorem et_nt : ET Try.prog 22 40 10 80 := .mk' (z := .agg #[.int .i64 0, .int .i64 0, .int .i64 0, .int .i64 0, .int .i64 0, .int .i64 0, .int .i64 0, .int .i64 0, .int .i64 0, .bool false]) Try.underlying22 (by kernel_rfl) rfl (by decide) (by decide)
theorem et_pr : ET Try.prog 23 49 9 72 := .mk' (z := .agg #[.int .i64 0, .int .i64 0, .int .i64 0, .int .i64 0, .int .i64 0, .int .i64 0, .int .i64 0, .int .i64 0, .int .i64 0]) Try.underlying23 (by kernel_rfl) rfl (by decide) (by decide)

set_option maxRecDepth 100000 in
set_option maxHeartbeats 4000000 in
theorem copied_walk (vn vp vc : Value) (s : Sc) (hsz : s.notes.length ≤ 200 ∧ s.pairs.length ≤ 400 ∧ s.cads.length ≤ 15) (w : World) (S : ScR w vn vp vc s) : Calls Try.prog 28 #[.agg #[.int .i64 s.voices, vn, vp, vc]] w fun e w' =>
    ∃ un up uc, e = .returned (.agg #[.int .i64 s.voices, un, up, uc]) ∧ OwnR w' w.heap.size 40 10 encN un s.notes ∧ OwnR w' w.heap.size 49 9 encP up s.pairs ∧ OwnR w' w.heap.size 3 1 encZ uc s.cads ∧ Ext w w' := by
  obtain ⟨an, cn, rfl, -, -, hln⟩ := S.nt.len
  obtain ⟨ap, cp, rfl, -, -, hlp⟩ := S.pr.len
  obtain ⟨ac, cc, rfl, -, -, hlc⟩ := S.cd.len
  go_enter Try.func28, Try.ntmps28
  go_wp2
  have b0 := block_alloc (block_new w (.cells #[.int .i64 s.voices, .slice an s.notes.length cn, .slice ap s.pairs.length cp, .slice ac s.cads.length cc] 26)) (.cells #[.int .i64 0, .slice none 0 0, .slice none 0 0, .slice none 0 0] 26)
  have b1 := block_at (w := w.alloc (.cells #[.int .i64 s.voices, .slice an s.notes.length cn, .slice ap s.pairs.length cp, .slice ac s.cads.length cc] 26)) (n := w.heap.size + 1) (by simp) (.cells #[.int .i64 0, .slice none 0 0, .slice none 0 0, .slice none 0 0] 26)
  have XW : Ext w ((w.alloc (.cells #[.int .i64 s.voices, .slice an s.notes.length cn, .slice ap s.pairs.length cp, .slice ac s.cads.length cc] 26)).alloc (.cells #[.int .i64 0, .slice none 0 0, .slice none 0 0, .slice none 0 0] 26)) := (by repeat (first | with_reducible exact Ext.refl _ | with_reducible assumption | with_reducible apply Ext.alloc | with_reducible apply Ext.drew | (with_reducible refine Ext.setCell ?_ (by (try simp) <;> omega) _)))
  have hZ : ((w.alloc (.cells #[.int .i64 s.voices, .slice an s.notes.length cn, .slice ap s.pairs.length cp, .slice ac s.cads.length cc] 26)).alloc (.cells #[.int .i64 0, .slice none 0 0, .slice none 0 0, .slice none 0 0] 26)).heap.size = w.heap.size + 2 := by simp
  obtain ⟨W, hW⟩ : ∃ W, (w.alloc (.cells #[.int .i64 s.voices, .slice an s.notes.length cn, .slice ap s.pairs.length cp, .slice ac s.cads.length cc] 26)).alloc (.cells #[.int .i64 0, .slice none 0 0, .slice none 0 0, .slice none 0 0] 26) = W := ⟨_, rfl⟩
  obtain ⟨B, hB⟩ : ∃ B, w.heap.size = B := ⟨_, rfl⟩
  rw [hW] at b0 b1 XW hZ
  rw [hB] at b0 b1 hZ
  rw [hW, hB]
  have HZ := Lib.hid hZ
  clear hW hZ
  have S1 := S.ext XW
  have f0 := ext_cells (block_cell b0 0 (.int .i64 s.voices) rfl)
  have f1 := ext_cells (block_cell b0 1 (.slice an s.notes.length cn) rfl)
  have f2 := ext_cells (block_cell b0 2 (.slice ap s.pairs.length cp) rfl)
  have f3 := ext_cells (block_cell b0 3 (.slice ac s.cads.length cc) rfl)
  apply Y.wp_region_ordY [(0, .det _), (1, .det _), (2, .new Zero (fun v w' => OwnR w' W.heap.size 40 10 encN v []) _ zero0), (3, .det _), (4, .det _), (5, .new (fun _ => True) (fun v w' => OwnR w' W.heap.size 40 10 encN v s.notes) undef trivial [2]),
    (6, .new Zero (fun v w' => OwnR w' W.heap.size 49 9 encP v []) _ zero0), (7, .det _), (8, .det _), (9, .new (fun _ => True) (fun v w' => OwnR w' W.heap.size 49 9 encP v s.pairs) undef trivial [6]),
    (10, .new Zero (fun v w' => OwnR w' W.heap.size 3 1 encZ v []) _ zero0), (11, .det _), (12, .det _), (13, .new (fun _ => True) (fun v w' => OwnR w' W.heap.size 3 1 encZ v s.cads) undef trivial [10])] 14 Ext Ext (Ext W) (fun _ => True) wide
    [(0,true),(1,true),(2,true),(3,true),(4,true),(5,true),(6,true),(7,true),(8,true),(9,true),(10,true),(11,true),(12,true),(13,true)] [(0,[]),(1,[]),(2,[]),(3,[]),(4,[]),(5,[2]),(6,[]),(7,[]),(8,[]),(9,[6]),(10,[]),(11,[]),(12,[]),(13,[10])] (by kernel_rfl) (by kernel_rfl) rfl rfl (by simp [Y.Kd.new, Y.Kd.det, Y.kdOf]) (by decide) (fun _ _ h => h) (stable_ext _) stable_true (Ext.drawn _ _) trivial ?main
  case main =>
    iterate 2 (apply Y.ordX_det rfl rfl; (intro w' hw'; unfold opR; go_simp; exact ⟨Ext.refl _, rfl⟩); (simp only [List.getElem_toArray, List.getElem_cons_succ, List.getElem_cons_zero, Act.put, List.setIfInBounds_toArray, List.set_cons_succ, List.set_cons_zero]; rfl))
    apply Y.ordX_new (fun v => stable_own' _ _ _ _ _ _) rfl rfl
    · intro w' hw' _
      unfold opR
      go_simp
      exact ⟨Ext.alloc' _ _, ⟨_, rfl⟩, OwnR.lit w' #[] [] 0 rfl hw'.size rfl rfl (by simp [maxLen])⟩
    · intro v; (simp only [List.getElem_toArray, List.getElem_cons_succ, List.getElem_cons_zero, Act.put, List.setIfInBounds_toArray, List.set_cons_succ, List.set_cons_zero]; rfl)
    rintro v0 ⟨g0, rfl⟩
    iterate 2 (apply Y.ordX_det rfl rfl; (intro w' hw'; unfold opR; go_simp; exact ⟨Ext.refl _, rfl⟩); (simp only [List.getElem_toArray, List.getElem_cons_succ, List.getElem_cons_zero, Act.put, List.setIfInBounds_toArray, List.set_cons_succ, List.set_cons_zero]; rfl))
    apply Y.ordX_new (fun v => stable_own' _ _ _ _ _ _) rfl rfl
    · intro w' hw' hN
      refine opR_app0 et_nt (.tmp 5) (.tmp 7) rfl (hN 2 (by simp)) rfl s.notes _ (S1.nt.ext hw') rfl (fun _ _ => rfl) (by omega) hw'.size ?_
      intro v' w4 h1 h2 _
      exact ⟨h2, trivial, h1⟩
    · intro v; (simp only [List.getElem_toArray, List.getElem_cons_succ, List.getElem_cons_zero, Act.put, List.setIfInBounds_toArray, List.set_cons_succ, List.set_cons_zero]; rfl)
    intro v5 _
    apply Y.ordX_new (fun v => stable_own' _ _ _ _ _ _) rfl rfl
    · intro w' hw' _
      unfold opR
      go_simp
      exact ⟨Ext.alloc' _ _, ⟨_, rfl⟩, OwnR.lit w' #[] [] 0 rfl hw'.size rfl rfl (by simp [maxLen])⟩
    · intro v; (simp only [List.getElem_toArray, List.getElem_cons_succ, List.getElem_cons_zero, Act.put, List.setIfInBounds_toArray, List.set_cons_succ, List.set_cons_zero]; rfl)
    rintro v6 ⟨g6, rfl⟩
    iterate 2 (apply Y.ordX_det rfl rfl; (intro w' hw'; unfold opR; go_simp; exact ⟨Ext.refl _, rfl⟩); (simp only [List.getElem_toArray, List.getElem_cons_succ, List.getElem_cons_zero, Act.put, List.setIfInBounds_toArray, List.set_cons_succ, List.set_cons_zero]; rfl))
    apply Y.ordX_new (fun v => stable_own' _ _ _ _ _ _) rfl rfl
    · intro w' hw' hN
      refine opR_app0 et_pr (.tmp 9) (.tmp 11) rfl (hN 6 (by simp)) rfl s.pairs _ (S1.pr.ext hw') rfl (fun _ _ => rfl) (by omega) hw'.size ?_
      intro v' w4 h1 h2 _
      exact ⟨h2, trivial, h1⟩
    · intro v; (simp only [List.getElem_toArray, List.getElem_cons_succ, List.getElem_cons_zero, Act.put, List.setIfInBounds_toArray, List.set_cons_succ, List.set_cons_zero]; rfl)
    intro v9 _
    apply Y.ordX_new (fun v => stable_own' _ _ _ _ _ _) rfl rfl
    · intro w' hw' _
      unfold opR
      go_simp
      exact ⟨Ext.alloc' _ _, ⟨_, rfl⟩, OwnR.lit w' #[] [] 0 rfl hw'.size rfl rfl (by simp [maxLen])⟩
    · intro v; (simp only [List.getElem_toArray, List.getElem_cons_succ, List.getElem_cons_zero, Act.put, List.setIfInBounds_toArray, List.set_cons_succ, List.set_cons_zero]; rfl)
    rintro v10 ⟨g10, rfl⟩
    iterate 2 (apply Y.ordX_det rfl rfl; (intro w' hw'; unfold opR; go_simp; exact ⟨Ext.refl _, rfl⟩); (simp only [List.getElem_toArray, List.getElem_cons_succ, List.getElem_cons_zero, Act.put, List.setIfInBounds_toArray, List.set_cons_succ, List.set_cons_zero]; rfl))
    apply Y.ordX_new (fun v => stable_own' _ _ _ _ _ _) rfl rfl
    · intro w' hw' hN
      refine opR_app0 et_z (.tmp 13) (.tmp 15) rfl (hN 10 (by simp)) rfl s.cads _ (S1.cd.ext hw') rfl (fun _ _ => rfl) (by omega) hw'.size ?_
      intro v' w4 h1 h2 _
      exact ⟨h2, trivial, h1⟩
    · intro v; (simp only [List.getElem_toArray, List.getElem_cons_succ, List.getElem_cons_zero, Act.put, List.setIfInBounds_toArray, List.set_cons_succ, List.set_cons_zero]; rfl)
    intro v13 _
    refine Y.ordX_nil rfl ?_
    rintro w2 hw2 - ⟨⟨⟨⟨⟨⟨-, -⟩, o5⟩, -⟩, o9⟩, -⟩, o13⟩
    have d1 := block_ext hw2 b1
    have hZ := HZ.out
    have X2 : Ext w (w2.setRow (B + 1) #[.int .i64 s.voices, v5, v9, v13]) := (XW.trans hw2).setRow (by omega) _
    have n5 := (o5.mono (show B ≤ W.heap.size by omega)).setRow (OwnR.apart_below o5 (show B + 1 < W.heap.size by omega)) #[.int .i64 s.voices, v5, v9, v13]
    have n9 := (o9.mono (show B ≤ W.heap.size by omega)).setRow (OwnR.apart_below o9 (show B + 1 < W.heap.size by omega)) #[.int .i64 s.voices, v5, v9, v13]
    have n13 := (o13.mono (show B ≤ W.heap.size by omega)).setRow (OwnR.apart_below o13 (show B + 1 < W.heap.size by omega)) #[.int .i64 s.voices, v5, v9, v13]
    have d2 := setRow_at d1 #[.int .i64 s.voices, v5, v9, v13]
    obtain ⟨a5, c5, rfl⟩ := o5.len
    obtain ⟨a9, c9, rfl⟩ := o9.len
    obtain ⟨a13, c13, rfl⟩ := o13.len
    have e0 := block_cell d2 0 _ rfl; have e1 := block_cell d2 1 _ rfl; have e2 := block_cell d2 2 _ rfl; have e3 := block_cell d2 3 _ rfl
    clear f0 f1 f2 f3 b0 b1 S1 S hZ XW hw2 o5 o9 o13 d2
    go_wp2_with (first | (refine wpList_store_row rfl _ _ _ rfl (B + 1) _ rfl rfl _ _ d1 (by kernel_rfl) rfl (by simp [Value.oneCell']) ?_) | fail)
    refine bodyPost_ret (v := .agg #[.int .i64 s.voices, .slice a5 s.notes.length c5, .slice a9 s.pairs.length c9, .slice a13 s.cads.length c13]) (by simp [results, Try.results28, go_sem, e0, e1, e2, e3]) rfl ⟨_, _, _, rfl, by rw [hB]; exact n5, by rw [hB]; exact n9, by rw [hB]; exact n13, X2⟩
end Go.Proofs.Ytajicmghnllnmaa
