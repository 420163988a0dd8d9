/-
  Walk: schismalaw39.head, the examples of the chapter.
-/
import Derived.Test.YtglngmfnoganpaaDoorR39H
import Derived.Test.YtglngmfnoganpaaDoorR39I
import Derived.Test.YtglngmfnoganpaaDoorR39C
import Derived.Test.YtglngmfnoganpaaDoorLibB
set_option linter.unusedVariables false
namespace Go.Proofs.YtglngmfnoganpaaDoor
open Go.RowKit Go.Sx Go.Sx.Sz Go.Sx.Sc Go.Sx.Au

def exN : Array Value := #[.int .i64 0, .int .i64 0, .int .i64 10, .int .i64 0, .int .i64 0, .int .i64 0, .int .i64 0, .int .i64 0, .int .i64 0, .bool false, .int .i64 1, .int .i64 0, .int .i64 10, .int .i64 0, .int .i64 0, .int .i64 0, .int .i64 0, .int .i64 0, .int .i64 0, .bool false]
def exPr : Array Value := #[.int .i64 0, .int .i64 1, .int .i64 (-1), .int .i64 1, .int .i64 0, .int .i64 0, .int .i64 0, .int .i64 0, .int .i64 1000]
/-- The score of the examples lies so. -/
def TwoR (v : Value) (w : World) : Prop := ∃ b1 b2 : Nat, v = .agg #[.int .i64 2, .slice (some ⟨b1, 0, none⟩) 2 2, .slice (some ⟨b2, 0, none⟩) 1 1, .slice none 0 0] ∧ w.heap[b1]? = some (.cells exN 91 (0, 0)) ∧ w.heap[b2]? = some (.cells exPr 51 (0, 0))
theorem TwoR.ext {v : Value} {w w' : World} (h : TwoR v w) (x : Ext w w') : TwoR v w' := by
  obtain ⟨b1, b2, e, h1, h2⟩ := h
  exact ⟨b1, b2, e, block_ext x h1, block_ext x h2⟩
theorem TwoR.score {v : Value} {w : World} (h : TwoR v w) : ∃ vn vp vc, v = .agg #[.int .i64 exT.voices, vn, vp, vc] ∧ ScR w vn vp vc exT := by
  obtain ⟨b1, b2, rfl, h1, h2⟩ := h
  exact ⟨_, _, _, rfl, Bk.sl (e := 91) (enc := encN) (xs := exT.notes) (sz := 10) ⟨_, h1, rfl⟩ (fun _ _ => rfl) rfl (by simp [exT]), Bk.sl (e := 51) (enc := encP) (xs := exT.pairs) (sz := 9) ⟨_, h2, rfl⟩ (fun _ _ => rfl) rfl (by simp [exT]), Sl.nil _ _ _⟩

set_option maxRecDepth 100000 in
set_option maxHeartbeats 2000000 in
theorem two_walk' (w : World) : Calls Tryd.prog 31 #[] w fun e w' => ∃ v, e = .returned v ∧ TwoR v w' ∧ Ext w w' := by
  go_enter Tryd.func31, Tryd.ntmps31
  go_wp2
  refine bodyPost_ret (v := .agg #[.int .i64 2, .slice (some ⟨w.heap.size + 1, 0, none⟩) 2 2, .slice (some ⟨w.heap.size + 1 + 1, 0, none⟩) 1 1, .slice none 0 0]) (by simp [results, Tryd.results31, go_sem]) rfl ⟨_, rfl, ⟨_, _, rfl, ?_, ?_⟩, (by repeat (first | with_reducible exact Ext.refl _ | with_reducible assumption | with_reducible apply Ext.alloc | with_reducible apply Ext.drew | (with_reducible refine Ext.setCell ?_ (by (try simp) <;> omega) _)))⟩
  · first | exact block_alloc (block_at (by simp) _) _ | exact block_ne (block_ne (block_ne (block_ne (block_alloc (block_at (by simp) _) _) _ _ (by simp)) _ _ (by simp)) _ _ (by simp)) _ _ (by simp)
  · first | exact block_at (by simp) _ | exact block_ne (block_ne (block_ne (block_ne (block_at (by simp) _) _ _ (by simp)) _ _ (by simp)) _ _ (by simp)) _ _ (by simp)

/-- A row of two sizes lies so. -/
def Row2 (a b c d : Int) (v : Value) (w : World) : Prop := ∃ g : Nat, v = .slice (some ⟨g, 0, none⟩) 2 2 ∧ w.heap[g]? = some (.cells #[.int .i64 a, .int .i64 b, .int .i64 c, .int .i64 d] 56 (0, 0))
theorem Row2.ext {a b c d : Int} {v : Value} {w w' : World} (h : Row2 a b c d v w) (x : Ext w w') : Row2 a b c d v w' := by
  obtain ⟨g, e, h1⟩ := h; exact ⟨g, e, block_ext x h1⟩
theorem Row2.sl {a b c d : Int} {v : Value} {w : World} (h : Row2 a b c d v w) : Sl w 2 encS v [⟨a, b⟩, ⟨c, d⟩] := by
  obtain ⟨g, rfl, h1⟩ := h
  exact Bk.sl (e := 56) (enc := encS) (sz := 2) (xs := [⟨a, b⟩, ⟨c, d⟩]) ⟨_, h1, rfl⟩ (fun _ _ => rfl) rfl (by simp)
/-- What a call of Audit hands on. -/
def AudT (L : List Fnd) (v : Value) (w : World) : Prop := ∃ u, v = .tuple #[u, .int .i64 0] ∧ Sl w 3 encF u L

theorem ex_a : auditR exT [⟨0, 0⟩, ⟨7020000000, 7025000000⟩] = ([⟨0, 1, 545⟩], 0) := by kernel_rfl
theorem ex_b : auditR exT [⟨0, 0⟩, ⟨7020000000, 7030000000⟩] = ([⟨0, 3, 1045⟩], 0) := by kernel_rfl
theorem ex_c : judgeR exT [⟨0, 0⟩, ⟨7040000000, 7050000000⟩] 0 = (⟨0, 2, 2044⟩, 0) := by kernel_rfl
theorem ex_d : judgeR exT [⟨-100000000000000, 100000000000000⟩, ⟨7040000000, 7050000000⟩] 0 = (⟨0, 3, 10000003045⟩, 0) := by kernel_rfl
theorem ex_n : narrowQ [⟨1, 5⟩] [⟨4, 9⟩] = ([⟨4, 5⟩], 0) := by kernel_rfl
theorem ex_f : narrowQ [⟨1, 5⟩] [⟨6, 9⟩] = ([], 23) := by kernel_rfl
theorem ex_i : idealR exT [⟨0, 0, 0, 0, 0, 0⟩, ⟨-1, 1, 0, 0, 0, 0⟩] = ([⟨0, 0⟩, ⟨7019550000, 7019550012⟩], 0) := by kernel_rfl

/-- In a world behind w, what a call of two and a row of sizes make: Audit's contract. -/
theorem audit_ex {W : World} (G : Gl 0 W) {w : World} (x : Ext W w) {v s : Value} {a b c d : Int} {L : List Fnd} (hT : TwoR v w) (hS : Row2 a b c d s w) (hL : auditR exT [⟨a, b⟩, ⟨c, d⟩] = (L, 0)) :
    Calls Tryd.prog 15 #[v, s] w fun e w' => ∃ u, e = .returned u ∧ (Ext w w' ∧ (∃ q, u = .tuple #[q, .int .i64 0]) ∧ AudT L u w') := by
  obtain ⟨vn, vp, vc, rfl, S⟩ := hT.score
  refine (audit_walk vn vp vc s exT _ w (G.ext x) S hS.sl).mono ?_
  rw [hL]
  rintro e w' ⟨u, rfl, hs, hx⟩
  exact ⟨_, rfl, hx, ⟨u, rfl⟩, u, rfl, hs⟩

theorem TwoR.zr {v : Value} {B : Nat} {w w' : World} (h : TwoR v w) (k : Zr 32 B w w') : TwoR v w' := by
  obtain ⟨b1, b2, e, h1, h2⟩ := h
  exact ⟨b1, b2, e, k.block h1 (fun _ _ e => by injection e with _ e2; exact absurd e2 (by decide)), k.block h2 (fun _ _ e => by injection e with _ e2; exact absurd e2 (by decide))⟩
theorem Row2.zr {a b c d : Int} {v : Value} {B : Nat} {w w' : World} (h : Row2 a b c d v w) (k : Zr 32 B w w') : Row2 a b c d v w' := by
  obtain ⟨g, e, h1⟩ := h; exact ⟨g, e, k.block h1 (fun _ _ e => by injection e with _ e2; exact absurd e2 (by decide))⟩
theorem judge_ex {W : World} (G : Gl 0 W) {w : World} (x : Ext W w) {v s : Value} {a b c d p q r : Int} (hT : TwoR v w) (hS : Row2 a b c d s w) (hL : judgeR exT [⟨a, b⟩, ⟨c, d⟩] 0 = (⟨p, q, r⟩, 0)) :
    Calls Tryd.prog 13 #[v, s, .int .i64 0] w fun e w' => ∃ u, e = .returned u ∧ (Ext w w' ∧ (u = .tuple #[.agg #[.int .i64 p, .int .i64 q, .int .i64 r], .int .i64 0]) ∧ True) := by
  obtain ⟨vn, vp, vc, rfl, S⟩ := hT.score
  refine (judge_walk vn vp vc s exT _ 0 w (G.ext x) S hS.sl).mono ?_
  rw [hL]
  rintro e w' ⟨rfl, hx⟩
  exact ⟨_, rfl, hx, rfl, trivial⟩

set_option maxRecDepth 100000 in
set_option maxHeartbeats 10000000 in
theorem head_walk (w : World) (G0 : Gl 0 w) : Calls Tryd.prog 10 #[] w fun e w' => e = .returned (.bool true) ∧ Ext w w' := by
  have X1 : Ext w (w.alloc (.cells #[.int .i64 0, .int .i64 0] 56)) := (by repeat (first | with_reducible exact Ext.refl _ | with_reducible assumption | with_reducible apply Ext.alloc | with_reducible apply Ext.drew | (with_reducible refine Ext.setCell ?_ (by (try simp) <;> omega) _)))
  have b1_0 := block_new w (.cells #[.int .i64 0, .int .i64 0] 56)
  obtain ⟨W1, hW1⟩ : ∃ W, (w.alloc (.cells #[.int .i64 0, .int .i64 0] 56)) = W := ⟨_, rfl⟩
  obtain ⟨B1, hB1⟩ : ∃ B, w.heap.size = B := ⟨_, rfl⟩
  rw [hW1] at X1 b1_0
  rw [hB1] at b1_0
  have HZ1 : Hid (w.heap.size ≤ B1) := Lib.hid (by omega)
  have HW1 := Lib.hid hW1; have HB1 := Lib.hid hB1
  clear hW1 hB1
  go_enter Tryd.func10, Tryd.ntmps10
  go_upto_region 2 with fail
  rw [HW1.out, HB1.out]
  have XW := Ext.refl W1
  have G := G0.ext X1
  have c0 := ext_cells (block_cell b1_0 0 _ rfl); have c1 := ext_cells (block_cell b1_0 1 _ rfl)
  apply Y.wp_region_ordY [(0, .new (fun v => ∃ b1 b2 : Nat, v = .agg #[.int .i64 2, .slice (some ⟨b1, 0, none⟩) 2 2, .slice (some ⟨b2, 0, none⟩) 1 1, .slice none 0 0]) TwoR (.agg #[.int .i64 2, .slice (some ⟨0, 0, none⟩) 2 2, .slice (some ⟨0, 0, none⟩) 1 1, .slice none 0 0]) ⟨0, 0, rfl⟩), (1, .det _), (2, .det _), (3, .new (fun v => ∃ g : Nat, v = .slice (some ⟨g, 0, none⟩) 2 2) (Row2 0 0 7020000000 7025000000) (.slice (some ⟨0, 0, none⟩) 2 2) ⟨0, rfl⟩), (4, .new (fun v => ∃ u, v = .tuple #[u, .int .i64 0]) (AudT [⟨0, 1, 545⟩]) (.tuple #[undef, .int .i64 0]) ⟨undef, rfl⟩ [0, 3]), (5, .new (fun v => ∃ u, v = .tuple #[u, .int .i64 0]) (AudT [⟨0, 1, 545⟩]) (.tuple #[undef, .int .i64 0]) ⟨undef, rfl⟩ [4]), (6, .new (fun _ => True) (fun v w' => Sl w' 3 encF v [⟨0, 1, 545⟩]) undef trivial [5]), (7, .det (.int .i64 0)), (8, .new (fun _ => True) (fun v w' => Sl w' 3 encF v [⟨0, 1, 545⟩]) undef trivial [6]), (9, .det (.int .i64 0))] 10 Ext Ext (Ext W1) (fun _ => True) wide [(0,true), (1,true), (2,true), (3,true), (4,true), (5,true), (6,true), (7,true), (8,true), (9,true)]
    [(0, []), (1, []), (2, []), (3, []), (4, [0, 3]), (5, [4]), (6, [5]), (7, []), (8, [6]), (9, [])] (by kernel_rfl) (by kernel_rfl) rfl rfl (by simp [Y.Kd.new, Y.Kd.det, Y.kdOf]) (by decide) (fun _ _ h => h) (stable_ext _) stable_true (Ext.drawn _ _) trivial ?main
  case' main =>
    apply Y.ordX_new (fun v _ _ h k => h.ext k) rfl rfl
    · intro w' hw' _
      refine opR_call rfl (Go.Proofs.enters_of Tryd.func31 (by kernel_rfl) rfl) (by simp only [List.map_toArray, List.map_nil]; rfl) ?_
      refine (two_walk' w').mono ?_
      rintro e w'' ⟨v, rfl, hT, hx⟩
      exact ⟨_, rfl, hx, (by obtain ⟨b1, b2, e, -⟩ := hT; exact ⟨b1, b2, e⟩), hT⟩
    · intro v; (simp only [List.getElem_toArray, List.getElem_cons_succ, List.getElem_cons_zero, Act.put, List.setIfInBounds_toArray, List.set_cons_succ, List.set_cons_zero]; rfl)
    rintro v0 ⟨p1, p2, rfl⟩
    iterate 2 (apply Y.ordX_det rfl rfl; (intro w' hw'; unfold opR; go_simp; exact ⟨Ext.refl _, rfl⟩); (simp only [List.getElem_toArray, List.getElem_cons_succ, List.getElem_cons_zero, Act.put, List.setIfInBounds_toArray, List.set_cons_succ, List.set_cons_zero]; rfl))
    apply Y.ordX_new (fun v _ _ h k => h.ext k) rfl rfl
    · intro w' hw' _
      unfold opR
      go_simp
      exact ⟨Ext.alloc' _ _, ⟨_, rfl⟩, ⟨_, rfl, block_new _ _⟩⟩
    · intro v; (simp only [List.getElem_toArray, List.getElem_cons_succ, List.getElem_cons_zero, Act.put, List.setIfInBounds_toArray, List.set_cons_succ, List.set_cons_zero]; rfl)
    rintro v3 ⟨g3, rfl⟩
    apply Y.ordX_new (fun v _ _ h k => by obtain ⟨u, e, s⟩ := h; exact ⟨u, e, s.ext k⟩) rfl rfl
    · intro w' hw' hN
      refine opR_call rfl (Go.Proofs.enters_of Tryd.func15 (by kernel_rfl) rfl) (by simp only [List.map_toArray, List.map_cons, List.map_nil, Act.eval, Array.getD_eq_getD_getElem?, List.getElem?_toArray, List.getElem?_cons_succ, List.getElem?_cons_zero, Option.getD_some]; rfl) ?_
      exact audit_ex G (XW.trans hw') (hN 0 (by simp)) (hN 3 (by simp)) ex_a
    · intro v; (simp only [List.getElem_toArray, List.getElem_cons_succ, List.getElem_cons_zero, Act.put, List.setIfInBounds_toArray, List.set_cons_succ, List.set_cons_zero]; rfl)
    rintro v4 ⟨q4, rfl⟩
    apply Y.ordX_new (fun v _ _ h k => by obtain ⟨u, e, s⟩ := h; exact ⟨u, e, s.ext k⟩) rfl rfl
    · intro w' hw' hN
      unfold opR
      go_simp
      exact ⟨Ext.refl _, ⟨_, rfl⟩, hN 4 (by simp)⟩
    · intro v; (simp only [List.getElem_toArray, List.getElem_cons_succ, List.getElem_cons_zero, Act.put, List.setIfInBounds_toArray, List.set_cons_succ, List.set_cons_zero]; rfl)
    rintro v5 ⟨q5, rfl⟩
    apply Y.ordX_new (fun v _ _ h k => h.ext k) rfl rfl
    · intro w' hw' hN
      have h5 : AudT [⟨0, 1, 545⟩] (.tuple #[q5, .int .i64 0]) w' := hN 5 (by simp)
      unfold opR
      go_simp
      obtain ⟨u, e, hs⟩ := h5
      simp at e
      subst e
      first | exact ⟨Ext.refl _, trivial, hs⟩ | exact ⟨Ext.refl _, hs⟩
    · intro v; (simp only [List.getElem_toArray, List.getElem_cons_succ, List.getElem_cons_zero, Act.put, List.setIfInBounds_toArray, List.set_cons_succ, List.set_cons_zero]; rfl)
    intro v6 _
    iterate 1 (apply Y.ordX_det rfl rfl; (intro w' hw'; unfold opR; go_simp; exact ⟨Ext.refl _, rfl⟩); (simp only [List.getElem_toArray, List.getElem_cons_succ, List.getElem_cons_zero, Act.put, List.setIfInBounds_toArray, List.set_cons_succ, List.set_cons_zero]; rfl))
    apply Y.ordX_new (fun v _ _ h k => h.ext k) rfl rfl
    · intro w' hw' hN
      unfold opR
      go_simp
      first | exact ⟨Ext.refl _, trivial, hN 6 (by simp)⟩ | exact ⟨Ext.refl _, hN 6 (by simp)⟩
    · intro v; (simp only [List.getElem_toArray, List.getElem_cons_succ, List.getElem_cons_zero, Act.put, List.setIfInBounds_toArray, List.set_cons_succ, List.set_cons_zero]; rfl)
    intro va _
    iterate 1 (apply Y.ordX_det rfl rfl; (intro w' hw'; unfold opR; go_simp; exact ⟨Ext.refl _, rfl⟩); (simp only [List.getElem_toArray, List.getElem_cons_succ, List.getElem_cons_zero, Act.put, List.setIfInBounds_toArray, List.set_cons_succ, List.set_cons_zero]; rfl))
    refine Y.ordX_nil rfl ?_

  rintro w2 x2 - ⟨-, S2⟩
  clear c0 c1
  have XW := x2
  have c0 := ext_cells (block_cell (block_ext XW b1_0) 0 _ rfl); have c1 := ext_cells (block_cell (block_ext XW b1_0) 1 _ rfl)
  go_upto_region 3 with fail
  apply Y.wp_region_ordY [(0, .new (fun v => ∃ b1 b2 : Nat, v = .agg #[.int .i64 2, .slice (some ⟨b1, 0, none⟩) 2 2, .slice (some ⟨b2, 0, none⟩) 1 1, .slice none 0 0]) TwoR (.agg #[.int .i64 2, .slice (some ⟨0, 0, none⟩) 2 2, .slice (some ⟨0, 0, none⟩) 1 1, .slice none 0 0]) ⟨0, 0, rfl⟩), (1, .det _), (2, .det _), (3, .new (fun v => ∃ g : Nat, v = .slice (some ⟨g, 0, none⟩) 2 2) (Row2 0 0 7020000000 7030000000) (.slice (some ⟨0, 0, none⟩) 2 2) ⟨0, rfl⟩), (4, .new (fun v => ∃ u, v = .tuple #[u, .int .i64 0]) (AudT [⟨0, 3, 1045⟩]) (.tuple #[undef, .int .i64 0]) ⟨undef, rfl⟩ [0, 3]), (5, .new (fun v => ∃ u, v = .tuple #[u, .int .i64 0]) (AudT [⟨0, 3, 1045⟩]) (.tuple #[undef, .int .i64 0]) ⟨undef, rfl⟩ [4]), (6, .new (fun _ => True) (fun v w' => Sl w' 3 encF v [⟨0, 3, 1045⟩]) undef trivial [5]), (7, .det (.int .i64 0)), (8, .new (fun _ => True) (fun v w' => Sl w' 3 encF v [⟨0, 3, 1045⟩]) undef trivial [6]), (9, .det (.int .i64 0))] 10 Ext Ext (Ext w2) (fun _ => True) wide [(0,true), (1,true), (2,true), (3,true), (4,true), (5,true), (6,true), (7,true), (8,true), (9,true)]
    [(0, []), (1, []), (2, []), (3, []), (4, [0, 3]), (5, [4]), (6, [5]), (7, []), (8, [6]), (9, [])] (by kernel_rfl) (by kernel_rfl) rfl rfl (by simp [Y.Kd.new, Y.Kd.det, Y.kdOf]) (by decide) (fun _ _ h => h) (stable_ext _) stable_true (Ext.drawn _ _) trivial ?mainb
  case' mainb =>
    apply Y.ordX_new (fun v _ _ h k => h.ext k) rfl rfl
    · intro w' hw' _
      refine opR_call rfl (Go.Proofs.enters_of Tryd.func31 (by kernel_rfl) rfl) (by simp only [List.map_toArray, List.map_nil]; rfl) ?_
      refine (two_walk' w').mono ?_
      rintro e w'' ⟨v, rfl, hT, hx⟩
      exact ⟨_, rfl, hx, (by obtain ⟨b1, b2, e, -⟩ := hT; exact ⟨b1, b2, e⟩), hT⟩
    · intro v; (simp only [List.getElem_toArray, List.getElem_cons_succ, List.getElem_cons_zero, Act.put, List.setIfInBounds_toArray, List.set_cons_succ, List.set_cons_zero]; rfl)
    rintro v0 ⟨p1, p2, rfl⟩
    iterate 2 (apply Y.ordX_det rfl rfl; (intro w' hw'; unfold opR; go_simp; exact ⟨Ext.refl _, rfl⟩); (simp only [List.getElem_toArray, List.getElem_cons_succ, List.getElem_cons_zero, Act.put, List.setIfInBounds_toArray, List.set_cons_succ, List.set_cons_zero]; rfl))
    apply Y.ordX_new (fun v _ _ h k => h.ext k) rfl rfl
    · intro w' hw' _
      unfold opR
      go_simp
      exact ⟨Ext.alloc' _ _, ⟨_, rfl⟩, ⟨_, rfl, block_new _ _⟩⟩
    · intro v; (simp only [List.getElem_toArray, List.getElem_cons_succ, List.getElem_cons_zero, Act.put, List.setIfInBounds_toArray, List.set_cons_succ, List.set_cons_zero]; rfl)
    rintro v3 ⟨g3, rfl⟩
    apply Y.ordX_new (fun v _ _ h k => by obtain ⟨u, e, s⟩ := h; exact ⟨u, e, s.ext k⟩) rfl rfl
    · intro w' hw' hN
      refine opR_call rfl (Go.Proofs.enters_of Tryd.func15 (by kernel_rfl) rfl) (by simp only [List.map_toArray, List.map_cons, List.map_nil, Act.eval, Array.getD_eq_getD_getElem?, List.getElem?_toArray, List.getElem?_cons_succ, List.getElem?_cons_zero, Option.getD_some]; rfl) ?_
      exact audit_ex G (XW.trans hw') (hN 0 (by simp)) (hN 3 (by simp)) ex_b
    · intro v; (simp only [List.getElem_toArray, List.getElem_cons_succ, List.getElem_cons_zero, Act.put, List.setIfInBounds_toArray, List.set_cons_succ, List.set_cons_zero]; rfl)
    rintro v4 ⟨q4, rfl⟩
    apply Y.ordX_new (fun v _ _ h k => by obtain ⟨u, e, s⟩ := h; exact ⟨u, e, s.ext k⟩) rfl rfl
    · intro w' hw' hN
      unfold opR
      go_simp
      exact ⟨Ext.refl _, ⟨_, rfl⟩, hN 4 (by simp)⟩
    · intro v; (simp only [List.getElem_toArray, List.getElem_cons_succ, List.getElem_cons_zero, Act.put, List.setIfInBounds_toArray, List.set_cons_succ, List.set_cons_zero]; rfl)
    rintro v5 ⟨q5, rfl⟩
    apply Y.ordX_new (fun v _ _ h k => h.ext k) rfl rfl
    · intro w' hw' hN
      have h5 : AudT [⟨0, 3, 1045⟩] (.tuple #[q5, .int .i64 0]) w' := hN 5 (by simp)
      unfold opR
      go_simp
      obtain ⟨u, e, hs⟩ := h5
      simp at e
      subst e
      first | exact ⟨Ext.refl _, trivial, hs⟩ | exact ⟨Ext.refl _, hs⟩
    · intro v; (simp only [List.getElem_toArray, List.getElem_cons_succ, List.getElem_cons_zero, Act.put, List.setIfInBounds_toArray, List.set_cons_succ, List.set_cons_zero]; rfl)
    intro v6 _
    iterate 1 (apply Y.ordX_det rfl rfl; (intro w' hw'; unfold opR; go_simp; exact ⟨Ext.refl _, rfl⟩); (simp only [List.getElem_toArray, List.getElem_cons_succ, List.getElem_cons_zero, Act.put, List.setIfInBounds_toArray, List.set_cons_succ, List.set_cons_zero]; rfl))
    apply Y.ordX_new (fun v _ _ h k => h.ext k) rfl rfl
    · intro w' hw' hN
      unfold opR
      go_simp
      first | exact ⟨Ext.refl _, trivial, hN 6 (by simp)⟩ | exact ⟨Ext.refl _, hN 6 (by simp)⟩
    · intro v; (simp only [List.getElem_toArray, List.getElem_cons_succ, List.getElem_cons_zero, Act.put, List.setIfInBounds_toArray, List.set_cons_succ, List.set_cons_zero]; rfl)
    intro vb _
    iterate 1 (apply Y.ordX_det rfl rfl; (intro w' hw'; unfold opR; go_simp; exact ⟨Ext.refl _, rfl⟩); (simp only [List.getElem_toArray, List.getElem_cons_succ, List.getElem_cons_zero, Act.put, List.setIfInBounds_toArray, List.set_cons_succ, List.set_cons_zero]; rfl))
    refine Y.ordX_nil rfl ?_

  rintro w3 x3 - ⟨-, S3⟩
  clear c0 c1
  have XW := XW.trans x3
  replace S2 := S2.ext x3
  have c0 := ext_cells (block_cell (block_ext XW b1_0) 0 _ rfl); have c1 := ext_cells (block_cell (block_ext XW b1_0) 1 _ rfl)
  go_upto_region 4 with fail
  apply Z.wp_region_ordZ [(0, .new (fun v => ∃ b1 b2 : Nat, v = .agg #[.int .i64 2, .slice (some ⟨b1, 0, none⟩) 2 2, .slice (some ⟨b2, 0, none⟩) 1 1, .slice none 0 0]) TwoR (.agg #[.int .i64 2, .slice (some ⟨0, 0, none⟩) 2 2, .slice (some ⟨0, 0, none⟩) 1 1, .slice none 0 0]) ⟨0, 0, rfl⟩), (1, .det _), (2, .det _), (3, .new (fun v => ∃ g : Nat, v = .slice (some ⟨g, 0, none⟩) 2 2) (Row2 0 0 7040000000 7050000000) (.slice (some ⟨0, 0, none⟩) 2 2) ⟨0, rfl⟩), (4, .new (fun u => u = .tuple #[.agg #[.int .i64 0, .int .i64 2, .int .i64 2044], .int .i64 0]) (fun _ _ => True) (.tuple #[.agg #[.int .i64 0, .int .i64 2, .int .i64 2044], .int .i64 0]) rfl [0, 3]), (5, .det _), (6, .det _), (7, .det _), (8, .new (fun v => ∃ g : Nat, v = .pointer (some ⟨g, 0, none⟩)) (ZRow 32 w3.heap.size 3) (.pointer (some ⟨0, 0, none⟩)) ⟨0, rfl⟩), (9, .one (fun u => u = undef) (fun vs _ w => ZAt 32 #[.int .i64 0, .int .i64 2, .int .i64 2044] (vs.headD undef) w) undef rfl [8]), (10, .det _)] 11 Ext (Zr 32 w3.heap.size) (Ext w3) (fun _ => True) wide
    [(0,true),(1,true),(2,true),(3,true),(4,true),(5,true),(6,true),(7,true),(8,true),(9,false),(10,true)] [(0, []), (1, []), (2, []), (3, []), (4, [0, 3]), (5, []), (6, []), (7, []), (8, []), (9, [8]), (10, [])] (by kernel_rfl) (by kernel_rfl) rfl rfl (by simp [Z.Kd.new, Z.Kd.det, Z.Kd.one, Z.kdOf]) (by decide) (sub_zr _ _) stable_zr (fun _ _ _ _ => trivial) (Ext.drawn _ _) trivial ?mainc
  case' mainc =>
    apply Z.ordX_new (fun v _ _ h k => h.zr k) rfl rfl
    · intro w' hw' _
      refine opR_call rfl (Go.Proofs.enters_of Tryd.func31 (by kernel_rfl) rfl) (by simp only [List.map_toArray, List.map_nil]; rfl) ?_
      refine (two_walk' w').mono ?_
      rintro e w'' ⟨v, rfl, hT, hx⟩
      exact ⟨_, rfl, hx, (by obtain ⟨b1, b2, e, -⟩ := hT; exact ⟨b1, b2, e⟩), hT⟩
    · intro v; (simp only [List.getElem_toArray, List.getElem_cons_succ, List.getElem_cons_zero, Act.put, List.setIfInBounds_toArray, List.set_cons_succ, List.set_cons_zero]; rfl)
    rintro v0 ⟨p1, p2, rfl⟩
    iterate 2 (apply Z.ordX_det rfl rfl; (intro w' hw'; unfold opR; go_simp; exact ⟨Ext.refl _, rfl⟩); (simp only [List.getElem_toArray, List.getElem_cons_succ, List.getElem_cons_zero, Act.put, List.setIfInBounds_toArray, List.set_cons_succ, List.set_cons_zero]; rfl))
    apply Z.ordX_new (fun v _ _ h k => h.zr k) rfl rfl
    · intro w' hw' _
      unfold opR
      go_simp
      exact ⟨Ext.alloc' _ _, ⟨_, rfl⟩, ⟨_, rfl, block_new _ _⟩⟩
    · intro v; (simp only [List.getElem_toArray, List.getElem_cons_succ, List.getElem_cons_zero, Act.put, List.setIfInBounds_toArray, List.set_cons_succ, List.set_cons_zero]; rfl)
    rintro v3 ⟨g3, rfl⟩
    apply Z.ordX_new (fun v _ _ h k => trivial) rfl rfl
    · intro w' hw' hN
      refine opR_call rfl (Go.Proofs.enters_of Tryd.func13 (by kernel_rfl) rfl) (by simp only [List.map_toArray, List.map_cons, List.map_nil, Act.eval, Array.getD_eq_getD_getElem?, List.getElem?_toArray, List.getElem?_cons_succ, List.getElem?_cons_zero, Option.getD_some]; rfl) ?_
      exact judge_ex G (XW.trans hw') (hN 0 (by simp)) (hN 3 (by simp)) ex_c
    · intro v; (simp only [List.getElem_toArray, List.getElem_cons_succ, List.getElem_cons_zero, Act.put, List.setIfInBounds_toArray, List.set_cons_succ, List.set_cons_zero]; rfl)
    rintro v4 rfl
    iterate 3 (apply Z.ordX_det rfl rfl; (intro w' hw'; unfold opR; go_simp; exact ⟨Ext.refl _, rfl⟩); (simp only [List.getElem_toArray, List.getElem_cons_succ, List.getElem_cons_zero, Act.put, List.setIfInBounds_toArray, List.set_cons_succ, List.set_cons_zero]; rfl))
    apply Z.ordX_new (fun v _ _ h k => h.zr k) rfl rfl
    · intro w' hw' _
      unfold opR
      go_simp
      exact ⟨Ext.alloc' _ _, ⟨_, rfl⟩, ZRow.new w' hw'.size _⟩
    · intro v; (simp only [List.getElem_toArray, List.getElem_cons_succ, List.getElem_cons_zero, Act.put, List.setIfInBounds_toArray, List.set_cons_succ, List.set_cons_zero]; rfl)
    rintro v8 ⟨g8, rfl⟩
    apply Z.ordX_one (fun vs v _ _ h k => h.ext k) rfl rfl
    · intro w' hw' _ hN
      exact opR_zstore _ _ _ rfl _ rfl rfl (hN 8 (by simp)) (by kernel_rfl) rfl (by simp [Value.oneCell'])
    · intro v; (simp only [List.getElem_toArray, List.getElem_cons_succ, List.getElem_cons_zero, Act.put, List.setIfInBounds_toArray, List.set_cons_succ, List.set_cons_zero]; rfl)
    rintro v9 rfl
    iterate 1 (apply Z.ordX_det rfl rfl; (intro w' hw'; unfold opR; go_simp; exact ⟨Ext.refl _, rfl⟩); (simp only [List.getElem_toArray, List.getElem_cons_succ, List.getElem_cons_zero, Act.put, List.setIfInBounds_toArray, List.set_cons_succ, List.set_cons_zero]; rfl))
    refine Z.ordX_nil (l := []) rfl ?_

  rintro w4 x4 ⟨gg, e9, hb4⟩ -
  simp [Z.upd] at e9
  subst e9
  have XW := XW.trans x4
  replace S2 := S2.ext x4
  replace S3 := S3.ext x4
  clear c0 c1
  go_wp2_with fail
  refine (two_walk' _).mono ?_
  rintro e w5 ⟨v5, rfl, hT5, x5⟩
  have e5 := Ext.alloc' w5 (.cells #[.int .i64 (-100000000000000), .int .i64 100000000000000, .int .i64 7040000000, .int .i64 7050000000] 56)
  have r5 : Row2 (-100000000000000) 100000000000000 7040000000 7050000000 (.slice (some ⟨w5.heap.size, 0, none⟩) 2 2) (w5.alloc (.cells #[.int .i64 (-100000000000000), .int .i64 100000000000000, .int .i64 7040000000, .int .i64 7050000000] 56)) := ⟨_, rfl, block_new _ _⟩
  go_wp2_with fail
  refine (judge_ex G (XW.trans (x5.trans e5)) (hT5.ext e5) r5 ex_d).mono ?_
  rintro e w6 ⟨u6, rfl, x6, rfl, -⟩
  have e6 := Ext.alloc' w6 (.cells #[.int .i64 0, .int .i64 3, .int .i64 10000003045] 32)
  have b6 := block_new w6 (.cells #[.int .i64 0, .int .i64 3, .int .i64 10000003045] 32)
  have Y6 := x5.trans (e5.trans (x6.trans e6))
  have XW := XW.trans Y6
  replace S2 := S2.ext Y6
  replace S3 := S3.ext Y6
  have hb6 := block_ext Y6 hb4
  clear e5 r5 hT5 x5 x6 hb4
  obtain ⟨W6, hW6⟩ : ∃ W, w6.alloc (.cells #[.int .i64 0, .int .i64 3, .int .i64 10000003045] 32) = W := ⟨_, rfl⟩
  obtain ⟨B6, hB6⟩ : ∃ W, w6.heap.size = W := ⟨_, rfl⟩
  rw [hW6] at e6 b6 XW S2 S3 hb6 Y6
  rw [hB6] at b6
  have HW6 := Lib.hid hW6; have HB6 := Lib.hid hB6
  clear hW6 hB6 e6 Y6
  go_wp2_with fail
  rw [HW6.out, HB6.out]
  have hZ6 : Hid (W6.heap.size = B6 + 1) := Lib.hid (by rw [← HW6.out, ← HB6.out]; simp)
  have f1 : Sl (W6.alloc (.cells #[.int .i64 0, .int .i64 1, .int .i64 545] 32)) 3 encF (.slice (some ⟨B6 + 1, 0, none⟩) 1 1) [⟨0, 1, 545⟩] := Bk.sl (e := 32) (enc := encF) (sz := 3) (xs := [⟨0, 1, 545⟩]) ⟨_, block_at hZ6.out _, rfl⟩ (fun _ _ => rfl) rfl (by simp)
  have e7 := Ext.alloc' W6 (.cells #[.int .i64 0, .int .i64 1, .int .i64 545] 32)
  refine (samefd_walk _ _ _ _ _ (S2.ext e7) f1).mono ?_
  rw [show decide (([⟨0, 1, 545⟩] : List Fnd) = [⟨0, 1, 545⟩]) = true from rfl]
  rintro e w7 ⟨rfl, x7⟩
  have Y7 := e7.trans x7
  replace XW := XW.trans Y7
  replace S3 := S3.ext Y7
  replace hb6 := block_ext Y7 hb6
  replace b6 := block_ext Y7 b6
  clear e7 x7 f1 S2 Y7
  go_wp2_with fail
  have f1 : Sl (w7.alloc (.cells #[.int .i64 0, .int .i64 3, .int .i64 1045] 32)) 3 encF (.slice (some ⟨w7.heap.size, 0, none⟩) 1 1) [⟨0, 3, 1045⟩] := Bk.sl (e := 32) (enc := encF) (sz := 3) (xs := [⟨0, 3, 1045⟩]) ⟨_, block_new _ _, rfl⟩ (fun _ _ => rfl) rfl (by simp)
  have e7 := Ext.alloc' w7 (.cells #[.int .i64 0, .int .i64 3, .int .i64 1045] 32)
  refine (samefd_walk _ _ _ _ _ (S3.ext e7) f1).mono ?_
  rw [show decide (([⟨0, 3, 1045⟩] : List Fnd) = [⟨0, 3, 1045⟩]) = true from rfl]
  rintro e w8 ⟨rfl, x8⟩
  have Y8 := e7.trans x8
  replace XW := XW.trans Y8
  replace hb6 := block_ext Y8 hb6
  replace b6 := block_ext Y8 b6
  have p0 := block_cell hb6 0 _ rfl; have p1' := block_cell hb6 1 _ rfl; have p2' := block_cell hb6 2 _ rfl
  have q0 := block_cell b6 0 _ rfl; have q1 := block_cell b6 1 _ rfl; have q2 := block_cell b6 2 _ rfl
  clear e7 x8 f1 S3 Y8
  have s1 : Sl ((w8.alloc (.cells #[.int .i64 1, .int .i64 5] 56)).alloc (.cells #[.int .i64 4, .int .i64 9] 56)) 2 encS (.slice (some ⟨w8.heap.size, 0, none⟩) 1 1) [⟨1, 5⟩] := Bk.sl (e := 56) (enc := encS) (sz := 2) (xs := [⟨1, 5⟩]) ⟨_, block_alloc (block_new _ _) _, rfl⟩ (fun _ _ => rfl) rfl (by simp)
  have s2 : Sl ((w8.alloc (.cells #[.int .i64 1, .int .i64 5] 56)).alloc (.cells #[.int .i64 4, .int .i64 9] 56)) 2 encS (.slice (some ⟨w8.heap.size + 1, 0, none⟩) 1 1) [⟨4, 9⟩] := Bk.sl (e := 56) (enc := encS) (sz := 2) (xs := [⟨4, 9⟩]) ⟨_, block_at (by simp) _, rfl⟩ (fun _ _ => rfl) rfl (by simp)
  have e9 : Ext w8 ((w8.alloc (.cells #[.int .i64 1, .int .i64 5] 56)).alloc (.cells #[.int .i64 4, .int .i64 9] 56)) := (by repeat (first | with_reducible exact Ext.refl _ | with_reducible assumption | with_reducible apply Ext.alloc | with_reducible apply Ext.drew | (with_reducible refine Ext.setCell ?_ (by (try simp) <;> omega) _)))
  go_wp2_with fail
  refine (narrow_walk _ _ _ _ (by simp) _ s1 s2).mono ?_
  rw [ex_n]
  rintro e w9 ⟨u9, rfl, SN, x9⟩
  have Y9 := e9.trans x9
  replace XW := XW.trans Y9
  clear e9 x9 s1 s2 p0 p1' p2' q0 q1 q2 hb6 b6 Y9
  have s1 : Sl ((w9.alloc (.cells #[.int .i64 1, .int .i64 5] 56)).alloc (.cells #[.int .i64 6, .int .i64 9] 56)) 2 encS (.slice (some ⟨w9.heap.size, 0, none⟩) 1 1) [⟨1, 5⟩] := Bk.sl (e := 56) (enc := encS) (sz := 2) (xs := [⟨1, 5⟩]) ⟨_, block_alloc (block_new _ _) _, rfl⟩ (fun _ _ => rfl) rfl (by simp)
  have s2 : Sl ((w9.alloc (.cells #[.int .i64 1, .int .i64 5] 56)).alloc (.cells #[.int .i64 6, .int .i64 9] 56)) 2 encS (.slice (some ⟨w9.heap.size + 1, 0, none⟩) 1 1) [⟨6, 9⟩] := Bk.sl (e := 56) (enc := encS) (sz := 2) (xs := [⟨6, 9⟩]) ⟨_, block_at (by simp) _, rfl⟩ (fun _ _ => rfl) rfl (by simp)
  have e9 : Ext w9 ((w9.alloc (.cells #[.int .i64 1, .int .i64 5] 56)).alloc (.cells #[.int .i64 6, .int .i64 9] 56)) := (by repeat (first | with_reducible exact Ext.refl _ | with_reducible assumption | with_reducible apply Ext.alloc | with_reducible apply Ext.drew | (with_reducible refine Ext.setCell ?_ (by (try simp) <;> omega) _)))
  go_wp2_with fail
  refine (narrow_walk _ _ _ _ (by simp) _ s1 s2).mono ?_
  rw [ex_f]
  rintro e wa ⟨ua, rfl, -, xa⟩
  have Y9 := e9.trans xa
  replace XW := XW.trans Y9
  replace SN := SN.ext Y9
  clear e9 xa s1 s2 Y9
  go_wp2_with fail
  refine (two_walk' _).mono ?_
  rintro e wb ⟨v5', rfl, hT, xb⟩
  obtain ⟨vn, vp, vc, rfl, ST⟩ := hT.score
  clear hT
  have s1 : Sl (wb.alloc (.cells #[.int .i64 0, .int .i64 0, .int .i64 0, .int .i64 0, .int .i64 0, .int .i64 0, .int .i64 (-1), .int .i64 1, .int .i64 0, .int .i64 0, .int .i64 0, .int .i64 0] 49)) 6 V6.list (.slice (some ⟨wb.heap.size, 0, none⟩) 2 2) [⟨0, 0, 0, 0, 0, 0⟩, ⟨-1, 1, 0, 0, 0, 0⟩] := Bk.sl (e := 49) (enc := V6.list) (sz := 6) (xs := [⟨0, 0, 0, 0, 0, 0⟩, ⟨-1, 1, 0, 0, 0, 0⟩]) ⟨_, block_new _ _, rfl⟩ (fun _ _ => rfl) rfl (by simp)
  have eb := Ext.alloc' wb (.cells #[.int .i64 0, .int .i64 0, .int .i64 0, .int .i64 0, .int .i64 0, .int .i64 0, .int .i64 (-1), .int .i64 1, .int .i64 0, .int .i64 0, .int .i64 0, .int .i64 0] 49)
  go_wp2_with fail
  refine (ideal_walk vn vp vc _ exT _ _ (G.ext (XW.trans (xb.trans eb))) (ST.ext eb) s1).mono ?_
  rw [ex_i]
  rintro e wc ⟨uc, rfl, SI, xc⟩
  have Y9 := xb.trans (eb.trans xc)
  replace XW := XW.trans Y9
  replace SN := SN.ext Y9
  clear xb eb xc s1 ST Y9
  go_wp2_with fail
  have s1 : Sl (wc.alloc (.cells #[.int .i64 4, .int .i64 5] 56)) 2 encS (.slice (some ⟨wc.heap.size, 0, none⟩) 1 1) [⟨4, 5⟩] := Bk.sl (e := 56) (enc := encS) (sz := 2) (xs := [⟨4, 5⟩]) ⟨_, block_new _ _, rfl⟩ (fun _ _ => rfl) rfl (by simp)
  have ec := Ext.alloc' wc (.cells #[.int .i64 4, .int .i64 5] 56)
  refine (samesz_walk _ _ _ _ _ (SN.ext ec) s1).mono ?_
  rw [show decide (([⟨4, 5⟩] : List S2) = [⟨4, 5⟩]) = true from rfl]
  rintro e wd ⟨rfl, xd⟩
  have Y9 := ec.trans xd
  replace XW := XW.trans Y9
  replace SI := SI.ext Y9
  clear ec xd s1 SN Y9
  go_wp2_with fail
  have s1 : Sl (wd.alloc (.cells #[.int .i64 0, .int .i64 0, .int .i64 7019550000, .int .i64 7019550012] 56)) 2 encS (.slice (some ⟨wd.heap.size, 0, none⟩) 2 2) [⟨0, 0⟩, ⟨7019550000, 7019550012⟩] := Bk.sl (e := 56) (enc := encS) (sz := 2) (xs := [⟨0, 0⟩, ⟨7019550000, 7019550012⟩]) ⟨_, block_new _ _, rfl⟩ (fun _ _ => rfl) rfl (by simp)
  have ed := Ext.alloc' wd (.cells #[.int .i64 0, .int .i64 0, .int .i64 7019550000, .int .i64 7019550012] 56)
  refine (samesz_walk _ _ _ _ _ (SI.ext ed) s1).mono ?_
  rw [show decide (([⟨0, 0⟩, ⟨7019550000, 7019550012⟩] : List S2) = [⟨0, 0⟩, ⟨7019550000, 7019550012⟩]) = true from rfl]
  rintro e we ⟨rfl, xe⟩
  have HE := Lib.hid (X1.trans (XW.trans (ed.trans xe)))
  go_wp2
  go_ret
  exact ⟨rfl, HE.out⟩
end Go.Proofs.YtglngmfnoganpaaDoor
