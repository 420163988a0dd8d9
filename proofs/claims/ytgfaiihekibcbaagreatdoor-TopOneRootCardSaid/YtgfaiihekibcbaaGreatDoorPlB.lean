/-
  Walks of potential: plant.
-/
import Derived.Test.YtgfaiihekibcbaaGreatDoorLibV
import Derived.Test.YtgfaiihekibcbaaGreatDoorLibA
import Derived.Deep.CutRange
set_option linter.unusedVariables false
namespace Go.Proofs.YtgfaiihekibcbaaGreatDoor
open Go.RowKit Go.Sx Go.Sx.Sz Go.Sx.Sc Go.Sx.Po
attribute [local go_sem] Oper.semAt_some wide_fn wide_depth

/-- The steps when the pairs from m on have been looked at. -/
def upA (s : Sc) (m i : Nat) : St := match (s.pairs.drop m).find? (purP i) with
  | some p => ⟨p.a, i, 2⟩
  | none => ⟨-1, i, 3⟩
def wanA (s : Sc) (m i : Nat) : V6 := match (s.pairs.drop m).find? (purP i) with
  | some p => p.want
  | none => V6.zero
theorem pur_dec {i : Nat} {p : Pr} : purP i p = true ↔ p.b = (i : Int) ∧ p.bound = 0 := by unfold purP; rw [Bool.and_eq_true, decide_eq_true_eq, decide_eq_true_eq]
theorem upA_yes {s : Sc} {m i : Nat} (hm : m < s.pairs.length) (h : (s.P m).b = (i : Int) ∧ (s.P m).bound = 0) : upA s m i = ⟨(s.P m).a, i, 2⟩ ∧ wanA s m i = (s.P m).want := by
  unfold upA wanA
  rw [List.drop_eq_getElem_cons hm, ← Sc.P_eq hm, List.find?_cons, pur_dec.2 h]
  exact ⟨rfl, rfl⟩
theorem upA_no {s : Sc} {m i : Nat} (hm : m < s.pairs.length) (h : ¬ ((s.P m).b = (i : Int) ∧ (s.P m).bound = 0)) : upA s m i = upA s (m + 1) i ∧ wanA s m i = wanA s (m + 1) i := by
  unfold upA wanA
  have hf : purP i (s.P m) = false := by
    cases hp : purP i (s.P m) with
    | false => rfl
    | true => exact absurd (pur_dec.1 hp) h
  rw [List.drop_eq_getElem_cons hm, ← Sc.P_eq hm, List.find?_cons, hf]
  exact ⟨rfl, rfl⟩
theorem upA_end (s : Sc) (i : Nat) : upA s s.pairs.length i = ⟨-1, i, 3⟩ ∧ wanA s s.pairs.length i = V6.zero := by
  unfold upA wanA; rw [List.drop_length]; exact ⟨rfl, rfl⟩
theorem upF_A (s : Sc) (i : Nat) : upF s i = (if (s.N i).tied = true then ⟨aheadF s i, i, 1⟩ else upA s 0 i) ∧ wantF s i = (if (s.N i).tied = true then V6.zero else wanA s 0 i) := by
  unfold upF wantF upA wanA purF
  rw [List.drop_zero]
  exact ⟨rfl, rfl⟩
theorem up_ex {w : World} {u n b : Nat} {F : Nat → St} (h : Bk w u 39 encSt (rgL F n)) (hb : b < n) : (∃ y0 y1 y2, w.cell? ⟨u, b * 3, none⟩ = some y0 ∧ w.cell? ⟨u, b * 3 + 1, none⟩ = some y1 ∧ w.cell? ⟨u, b * 3 + 2, none⟩ = some y2) ∧ w.frozen? ⟨u, b * 3, none⟩ = false ∧ w.frozen? ⟨u, b * 3 + 1, none⟩ = false ∧ w.frozen? ⟨u, b * 3 + 2, none⟩ = false := by
  have hk' : b < (rgL F n).length := by rw [rgL_len]; exact hb
  obtain ⟨y0, e0⟩ := h.ex0 (sz := 3) (fun _ _ => rfl) b hk' (by omega)
  obtain ⟨y1, e1⟩ := h.ex (sz := 3) (fun _ _ => rfl) b 1 hk' (by omega)
  obtain ⟨y2, e2⟩ := h.ex (sz := 3) (fun _ _ => rfl) b 2 hk' (by omega)
  exact ⟨⟨y0, y1, y2, e0, e1, e2⟩, h.free _, h.free _, h.free _⟩

set_option maxRecDepth 100000 in
set_option maxHeartbeats 16000000 in
theorem plant_walk (vn vp vc : Value) (s : Sc) (hok : ScOk s) (w : World) (S : ScR w vn vp vc s) :
    Calls Tryz.prog 21 #[.agg #[.int .i64 s.voices, vn, vp, vc]] w fun e w' => ∃ g u q : Nat, e = .returned (.pointer (some ⟨g, 0, none⟩)) ∧ w.heap.size ≤ g ∧ w.heap.size ≤ u ∧ w.heap.size ≤ q ∧ TreeR w' g u q s.voices vn vp vc s.notes.length (upF s) (wantF s) (.slice none 0 0) ∧ Ext w w' := by
  have SL := S.nt
  have SP := S.pr
  obtain ⟨an, cn, rfl, -, -, hln⟩ := S.nt.len
  obtain ⟨ap, cp, rfl, -, -, hlp⟩ := S.pr.len
  obtain ⟨ac, cc, rfl, -, -, hlc⟩ := S.cd.len
  have hn := hok.sz.2.1
  have hpn := hok.sz.2.2.1
  have HOK := Lib.hid hok
  clear hok
  have X0 : Ext w (w.alloc (.cells #[.int .i64 s.voices, .slice an s.notes.length cn, .slice ap s.pairs.length cp, .slice ac s.cads.length cc] 26)) := (by repeat (first | with_reducible exact Ext.refl _ | with_reducible assumption | with_reducible apply Ext.alloc | with_reducible apply Ext.drew | (with_reducible refine Ext.setCell ?_ (by (try simp) <;> omega) _)))
  have b0_0 := block_new w (.cells #[.int .i64 s.voices, .slice an s.notes.length cn, .slice ap s.pairs.length cp, .slice ac s.cads.length cc] 26)
  obtain ⟨W0, hW0⟩ : ∃ W, (w.alloc (.cells #[.int .i64 s.voices, .slice an s.notes.length cn, .slice ap s.pairs.length cp, .slice ac s.cads.length cc] 26)) = W := ⟨_, rfl⟩
  obtain ⟨B0, hB0⟩ : ∃ B, w.heap.size = B := ⟨_, rfl⟩
  rw [hW0] at X0 b0_0
  rw [hB0] at b0_0
  have HZ0 : Hid (w.heap.size ≤ B0) := Lib.hid (by omega)
  have HW0 := Lib.hid hW0; have HB0 := Lib.hid hB0
  clear hW0 hB0
  have HB := Lib.hid fun w' (y : Ext W0 w') => block_ext y b0_0
  have c0 := ext_cells (block_cell b0_0 0 _ rfl); have c1 := ext_cells (block_cell b0_0 1 _ rfl); have c2 := ext_cells (block_cell b0_0 2 _ rfl); have c3 := ext_cells (block_cell b0_0 3 _ rfl)
  clear b0_0
  refine (callsIn_wide (n := 0)).1 ?_
  refine callsIn_of_wp_marks Tryz.func21 rfl trivial ?_ rfl
  simp only [Tryz.ntmps21, List.size_toArray, List.length_cons, List.length_nil, Nat.reduceAdd, Nat.reduceSub, Array.replicate_succ, Array.replicate_zero, List.push_toArray, List.append_toArray, List.nil_append, List.cons_append]
  refine wpIn_wide.2 ?_
  go_upto_region 1 with fail
  rw [HW0.out, HB0.out]
  go_cut [3] from 12 to 22 (fun s3 wx => ∃ t g u q : Nat, s3 = .pointer (some ⟨t, 0, none⟩) ∧ W0.heap.size ≤ t ∧ W0.heap.size ≤ g ∧ W0.heap.size ≤ u ∧ W0.heap.size ≤ q ∧ wx.heap[t]? = some (.cells #[.pointer (some ⟨g, 0, none⟩)] 62 (0, 0)) ∧ TreeR wx g u q s.voices (.slice an s.notes.length cn) (.slice ap s.pairs.length cp) (.slice ac s.cads.length cc) s.notes.length (fun _ => ⟨0, 0, 0⟩) (fun _ => V6.zero) (.slice none 0 0) ∧ Ext W0 wx)
  case first =>
    apply Y.wp_region_ordY [(0, .det _), (1, .det _), (2, .det _), (3, .det _), (4, .new (fun v => ∃ u : Nat, v = .slice (some ⟨u, 0, none⟩) s.notes.length s.notes.length) (fun v w' => ∃ u : Nat, v = .slice (some ⟨u, 0, none⟩) s.notes.length s.notes.length ∧ W0.heap.size ≤ u ∧ Bk w' u 39 encSt (List.replicate s.notes.length ⟨0, 0, 0⟩)) (.slice (some ⟨0, 0, none⟩) s.notes.length s.notes.length) ⟨0, rfl⟩), (5, .det _), (6, .det _), (7, .det _), (8, .new (fun v => ∃ u : Nat, v = .slice (some ⟨u, 0, none⟩) s.notes.length s.notes.length) (fun v w' => ∃ u : Nat, v = .slice (some ⟨u, 0, none⟩) s.notes.length s.notes.length ∧ W0.heap.size ≤ u ∧ Bk w' u 32 V6.list (List.replicate s.notes.length V6.zero)) (.slice (some ⟨0, 0, none⟩) s.notes.length s.notes.length) ⟨0, rfl⟩), (9, .new (fun v => ∃ u q : Nat, v = .agg (TrC s.voices (.slice an s.notes.length cn) (.slice ap s.pairs.length cp) (.slice ac s.cads.length cc) s.notes.length u q (.slice none 0 0))) (fun v w' => ∃ u q : Nat, v = .agg (TrC s.voices (.slice an s.notes.length cn) (.slice ap s.pairs.length cp) (.slice ac s.cads.length cc) s.notes.length u q (.slice none 0 0)) ∧ W0.heap.size ≤ u ∧ W0.heap.size ≤ q ∧ Bk w' u 39 encSt (List.replicate s.notes.length ⟨0, 0, 0⟩) ∧ Bk w' q 32 V6.list (List.replicate s.notes.length V6.zero)) (.agg (TrC s.voices (.slice an s.notes.length cn) (.slice ap s.pairs.length cp) (.slice ac s.cads.length cc) s.notes.length 0 0 (.slice none 0 0))) ⟨0, 0, rfl⟩ [4, 8]), (10, .new (fun v => ∃ g : Nat, v = .pointer (some ⟨g, 0, none⟩)) (fun v w' => ∃ g u q : Nat, v = .pointer (some ⟨g, 0, none⟩) ∧ W0.heap.size ≤ g ∧ W0.heap.size ≤ u ∧ W0.heap.size ≤ q ∧ TreeR w' g u q s.voices (.slice an s.notes.length cn) (.slice ap s.pairs.length cp) (.slice ac s.cads.length cc) s.notes.length (fun _ => ⟨0, 0, 0⟩) (fun _ => V6.zero) (.slice none 0 0)) (.pointer (some ⟨0, 0, none⟩)) ⟨0, rfl⟩ [9]), (11, .new (fun v => ∃ t : Nat, v = .pointer (some ⟨t, 0, none⟩)) (fun v w' => ∃ t : Nat, v = .pointer (some ⟨t, 0, none⟩) ∧ W0.heap.size ≤ t ∧ w'.heap[t]? = some (.cells #[.pointer none] 62 (0, 0))) (.pointer (some ⟨0, 0, none⟩)) ⟨0, rfl⟩)] 12 Ext Ext (Ext W0) (fun _ => True) wide [(0,true), (1,true), (2,true), (3,true), (4,true), (5,true), (6,true), (7,true), (8,true), (9,true), (10,true), (11,true)]
      [(0, []),(1, []),(2, []),(3, []),(4, []),(5, []),(6, []),(7, []),(8, []),(9, [4, 8]),(10, [9]),(11, [])] (by kernel_rfl) (by kernel_rfl) rfl rfl (by simp [Y.Kd.new, Y.Kd.det, Y.kdOf]) (by decide) (fun _ _ h => h) (stable_ext _) stable_true (Ext.drawn _ _) trivial ?main
    case' main =>
      iterate 4 (apply Y.ordX_det rfl rfl; (intro w' hw'; unfold opR; go_simp; exact ⟨Ext.refl _, rfl⟩); (simp only [List.getElem_toArray, List.getElem_cons_succ, List.getElem_cons_zero, Act.put, List.setIfInBounds_toArray, List.set_cons_succ, List.set_cons_zero]; rfl))
      apply Y.ordX_new (fun v _ _ h k => by obtain ⟨u, e, h1, h2⟩ := h; exact ⟨u, e, h1, h2.ext k⟩) rfl rfl
      · intro w' hw' _
        refine opR_mk (e := 39) (sz := 3) (bytes := 24) (enc := encSt) (z := .agg #[.int .i64 0, .int .i64 0, .int .i64 0]) (⟨0, 0, 0⟩ : St) Tryz.underlying30 (by kernel_rfl) rfl rfl _ _ rfl s.notes.length (by rfl) (by rfl) (by omega) (by omega) ?_
        intro cs hbk
        exact ⟨Ext.alloc' _ _, ⟨_, rfl⟩, _, rfl, hw'.size, hbk⟩
      · intro v; (simp only [List.getElem_toArray, List.getElem_cons_succ, List.getElem_cons_zero, Act.put, List.setIfInBounds_toArray, List.set_cons_succ, List.set_cons_zero]; rfl)
      rintro v4 ⟨g4, rfl⟩
      iterate 3 (apply Y.ordX_det rfl rfl; (intro w' hw'; unfold opR; go_simp; exact ⟨Ext.refl _, rfl⟩); (simp only [List.getElem_toArray, List.getElem_cons_succ, List.getElem_cons_zero, Act.put, List.setIfInBounds_toArray, List.set_cons_succ, List.set_cons_zero]; rfl))
      apply Y.ordX_new (fun v _ _ h k => by obtain ⟨u, e, h1, h2⟩ := h; exact ⟨u, e, h1, h2.ext k⟩) rfl rfl
      · intro w' hw' _
        refine opR_mk (e := 32) (sz := 6) (bytes := 48) (enc := V6.list) (z := .agg #[.int .i64 0, .int .i64 0, .int .i64 0, .int .i64 0, .int .i64 0, .int .i64 0]) (V6.zero : V6) Tryz.underlying27 (by kernel_rfl) rfl rfl _ _ rfl s.notes.length (by rfl) (by rfl) (by omega) (by omega) ?_
        intro cs hbk
        exact ⟨Ext.alloc' _ _, ⟨_, rfl⟩, _, rfl, hw'.size, hbk⟩
      · intro v; (simp only [List.getElem_toArray, List.getElem_cons_succ, List.getElem_cons_zero, Act.put, List.setIfInBounds_toArray, List.set_cons_succ, List.set_cons_zero]; rfl)
      rintro v8 ⟨g8, rfl⟩
      apply Y.ordX_new (fun v _ _ h k => by obtain ⟨u, q, e, h1, h2, h3, h4⟩ := h; exact ⟨u, q, e, h1, h2, h3.ext k, h4.ext k⟩) rfl rfl
      · intro w' hw' hN
        obtain ⟨u, e, h1, h2⟩ := hN 4 (by simp)
        obtain ⟨q, e', h3, h4⟩ := hN 8 (by simp)
        obtain rfl : g4 = u := by injection e with e1; injection e1 with e2; injection e2
        obtain rfl : g8 = q := by injection e' with e1; injection e1 with e2; injection e2
        unfold opR
        go_simp
        exact ⟨Ext.refl _, ⟨g4, g8, rfl⟩, g4, g8, rfl, h1, h3, h2, h4⟩
      · intro v; (simp only [List.getElem_toArray, List.getElem_cons_succ, List.getElem_cons_zero, Act.put, List.setIfInBounds_toArray, List.set_cons_succ, List.set_cons_zero]; rfl)
      rintro v9 ⟨u9, q9, rfl⟩
      apply Y.ordX_new (fun v _ _ h k => by obtain ⟨g, u, q, e, h1, h2, h3, h4⟩ := h; exact ⟨g, u, q, e, h1, h2, h3, h4.ext k⟩) rfl rfl
      · intro w' hw' hN
        obtain ⟨u, q, e, h1, h2, h3, h4⟩ := hN 9 (by simp)
        simp [TrC] at e
        obtain ⟨rfl, rfl⟩ := e
        rw [rgL_rep] at h3 h4
        unfold TrC
        unfold opR
        go_simp
        exact ⟨Ext.alloc' _ _, ⟨_, rfl⟩, _, rfl, hw'.size, _, h1, _, h2, block_new _ _, h3.alloc _, h4.alloc _⟩
      · intro v; (simp only [List.getElem_toArray, List.getElem_cons_succ, List.getElem_cons_zero, Act.put, List.setIfInBounds_toArray, List.set_cons_succ, List.set_cons_zero]; rfl)
      rintro v10 ⟨g10, rfl⟩
      apply Y.ordX_new (fun v _ _ h k => by obtain ⟨t, e, h1, h2⟩ := h; exact ⟨t, e, h1, block_ext k h2⟩) rfl rfl
      · intro w' hw' hN
        unfold opR
        go_simp
        exact ⟨Ext.alloc' _ _, ⟨w'.heap.size, rfl⟩, w'.heap.size, rfl, hw'.size, block_new _ _⟩
      · intro v; (simp only [List.getElem_toArray, List.getElem_cons_succ, List.getElem_cons_zero, Act.put, List.setIfInBounds_toArray, List.set_cons_succ, List.set_cons_zero]; rfl)
      rintro v11 ⟨t11, rfl⟩
      refine Y.ordX_nil (l := [_]) rfl ?_
    rintro w2 x2 - ⟨⟨-, g, u, q, e, h1, h2, h3, T⟩, t, e', h4, hb⟩
    obtain rfl : g10 = g := by injection e with e1; injection e1 with e2; injection e2
    obtain rfl : t11 = t := by injection e' with e1; injection e1 with e2; injection e2
    have ct := block_cell hb 0 _ rfl
    have ft := block_free hb 0
    have n1 : g10 ≠ t11 := fun e => by
      have h5 := T.tb
      rw [e, hb] at h5
      cases h5
    have n2 := T.up.ne_block hb (by decide)
    have n3 := T.pr.ne_block hb (by decide)
    have FIN := Lib.hid (And.intro (block_set hb 0 (.pointer (some ⟨g10, 0, none⟩))) (And.intro (T.kb (kb_set w2 t11 0 (.pointer (some ⟨g10, 0, none⟩))) n1 n2 n3) (x2.setCell (p := ⟨t11, 0, none⟩) h4 (.pointer (some ⟨g10, 0, none⟩)))))
    clear hb T x2 n1 n2 n3
    go_wp2
    go_meet
    exact ⟨t11, g10, u, q, rfl, h4, h1, h2, h3, FIN.out.1, FIN.out.2.1, FIN.out.2.2⟩
  case rest =>
    obtain ⟨t, g, u, q, rfl, ht, hg, hu, hq, bt, T, X1⟩ := hcut
    obtain ⟨W1, rfl⟩ : ∃ z : World, z = wc := ⟨_, rfl⟩
    clear c0 c2 c3 HW0 HB0
    have k1 := c1 W1 X1
    go_wp2
    clear k1
    have hF0 : ∀ i, i < s.notes.length → (if i < 0 then (⟨-1, i, 3⟩ : St) else ⟨0, 0, 0⟩) = ⟨0, 0, 0⟩ := fun i _ => by rw [if_neg (Nat.not_lt_zero i)]
    go_loopw [26] (fun i wr => ∃ k : Nat, k ≤ s.notes.length ∧ i = .int .i64 k ∧ wr.heap[t]? = some (.cells #[.pointer (some ⟨g, 0, none⟩)] 62 (0, 0)) ∧ TreeR wr g u q s.voices (.slice an s.notes.length cn) (.slice ap s.pairs.length cp) (.slice ac s.cads.length cc) s.notes.length (fun i => if i < k then ⟨-1, i, 3⟩ else ⟨0, 0, 0⟩) (fun _ => V6.zero) (.slice none 0 0) ∧ Ext W0 wr) (fun i _ => s.notes.length - (intOf i).toNat)
    case atStart => exact ⟨0, by omega, rfl, bt, T.congr hF0 (fun _ _ => rfl), X1⟩
    case round =>
      obtain ⟨k, hk, rfl, bt, T, X⟩ := hrel
      by_cases hlt : k < s.notes.length
      · have ct := block_cell bt 0 _ rfl
        have cu := T.c4
        obtain ⟨⟨y0, y1, y2, e0, e1, e2⟩, hfr⟩ := T.upEx k hlt
        have f0 := hfr (k * 3); have f1 := hfr (k * 3 + 1); have f2 := hfr (k * 3 + 2)
        obtain ⟨-, n2, -⟩ := T.gne bt (by decide) (by decide) (by decide)
        have NX := Lib.hid (And.intro (((kb_sets u (encSt ⟨-1, k, 3⟩) wr (k * 3)).at bt (Ne.symm n2))) (And.intro ((T.putUp k hlt ⟨-1, k, 3⟩).congr (F' := fun i => if i < k + 1 then ⟨-1, i, 3⟩ else ⟨0, 0, 0⟩) (G' := fun _ => V6.zero) (fun i hi => by
          by_cases h : i = k
          · subst h; rw [if_pos rfl, if_pos (by omega)]
          · rw [if_neg h]
            by_cases h' : i < k
            · rw [if_pos h', if_pos (by omega)]
            · rw [if_neg h', if_neg (by omega)]) (fun _ _ => rfl)) (setCells_ext X hu (encSt ⟨-1, k, 3⟩) (k * 3))))
        have i1 : (0 : Int) ≤ (k : Int) := by omega
        have i2 : (k : Int) < (s.notes.length : Int) := by omega
        clear hfr bt T n2 X hF0
        go_wp2
        go_roundw
        case rel => exact ⟨k + 1, by omega, by go_num, NX.out.1, NX.out.2.1, NX.out.2.2⟩
        case measure => simp [intOf]; omega
      · obtain rfl : k = s.notes.length := by omega
        have T1 := T.congr (F' := fun i => ⟨-1, i, 3⟩) (G' := fun _ => V6.zero) (fun i hi => by rw [if_pos hi]) (fun _ _ => rfl)
        obtain ⟨W2, rfl⟩ : ∃ z : World, z = wr := ⟨_, rfl⟩
        clear T hF0
        have hbs := HB.out _ X
        have c2 := block_cell hbs 2 _ rfl
        go_wp2_with fail
        refine (backp_walk _ _ _ _).mono ?_
        rintro e w3 ⟨rfl, rfl⟩
        clear c2
        have X3 : Ext W2 (W2.alloc (.cells #[.slice ap s.pairs.length cp] 23)) := (by repeat (first | with_reducible exact Ext.refl _ | with_reducible assumption | with_reducible apply Ext.alloc | with_reducible apply Ext.drew | (with_reducible refine Ext.setCell ?_ (by (try simp) <;> omega) _)))
        have b3_0 := block_new W2 (.cells #[.slice ap s.pairs.length cp] 23)
        obtain ⟨W3, hW3⟩ : ∃ W, (W2.alloc (.cells #[.slice ap s.pairs.length cp] 23)) = W := ⟨_, rfl⟩
        obtain ⟨B3, hB3⟩ : ∃ B, W2.heap.size = B := ⟨_, rfl⟩
        rw [hW3] at X3 b3_0
        rw [hB3] at b3_0
        have HZ3 : Hid (W2.heap.size ≤ B3) := Lib.hid (by omega)
        have HW3 := Lib.hid hW3; have HB3 := Lib.hid hB3
        clear hW3 hB3
        have hz2 : W2.heap.size = B3 := HB3.out
        have hz3 : W3.heap.size = B3 + 1 := by rw [← HW3.out]; simp [hz2]
        have hb3 := block_ext X3 hbs
        have bt3 := block_ext X3 bt
        have T3 := (T1.ext X3).congr (F' := upA s (s.pairs.length - 0)) (G' := wanA s (s.pairs.length - 0)) (fun i hi => by rw [Nat.sub_zero]; exact (upA_end s i).1) (fun i hi => by rw [Nat.sub_zero]; exact (upA_end s i).2)
        have hXW := X0.trans (X.trans X3)
        have lb := (Array.getElem?_eq_some_iff.1 hbs).1
        have lt := (Array.getElem?_eq_some_iff.1 bt).1
        have lg := (Array.getElem?_eq_some_iff.1 T1.tb).1
        have lu := T1.up.lt
        have lq := T1.pr.lt
        have hx0 := X0.size
        have hbz := HZ0.out
        rw [HW3.out, HB3.out]
        clear HW3 HB3 hbs bt T1 X X3
        go_wp2_with fail
        refine (wpIn_wide (n := 0)).1 ?_
        refine wpIn_rangeN (gf := 75) (lb := #[.pointer (some ⟨B3, 0, none⟩)]) rfl (enters_of Tryz.func75 (by kernel_rfl) rfl)
          (backp_iter B3 (.slice ap s.pairs.length cp) s).n (fun _ => rfl)
          (fun j W => Ext w W ∧ (W.heap[t]? = some (.cells #[.pointer (some ⟨g, 0, none⟩)] 62 (0, 0)) ∧ W.heap[B0]? = some (.cells #[.int .i64 s.voices, .slice an s.notes.length cn, .slice ap s.pairs.length cp, .slice ac s.cads.length cc] 26 (0, 0)) ∧ W.heap[B3]? = some (.cells #[.slice ap s.pairs.length cp] 23 (0, 0))) ∧ TreeR W g u q s.voices (.slice an s.notes.length cn) (.slice ap s.pairs.length cp) (.slice ac s.cads.length cc) s.notes.length (upA s (s.pairs.length - j)) (wanA s (s.pairs.length - j)) (.slice none 0 0))
          (fun c W => False)
          (fun j => (Low.ext (by omega)).and (((Low.block (by omega)).and ((Low.block (by omega)).and (Low.block (by omega)))).and (TreeR.low (by omega) (by omega) (by omega))))
          (fun c => Low.pure _)
          (fun j W ⟨h1, ⟨_, _, h4⟩, _⟩ => ⟨block_cell h4 0 _ rfl, SP.ext h1⟩)
          ⟨hXW, ⟨bt3, hb3, b3_0⟩, T3⟩ ?round ?done ?stop
        case stop => intro D c W _ h; exact h.elim
        case done =>
          rintro D W hD ⟨hx, ⟨e0, e1, e2⟩, T⟩ hdef
          rw [rgL_len, Nat.sub_self] at T
          have hzD := (Array.getElem?_eq_some_iff.1 hdef).1
          have m0 := MpL.made W Tryz.prog 102 3
          have X6 : Ext W (W.alloc (.map #[] 0)) := (by repeat (first | with_reducible exact Ext.refl _ | with_reducible assumption | with_reducible apply Ext.alloc | with_reducible apply Ext.drew | (with_reducible refine Ext.setCell ?_ (by (try simp) <;> omega) _)))
          obtain ⟨W6, hW6⟩ : ∃ Z, W.alloc (.map #[] 0) = Z := ⟨_, rfl⟩
          obtain ⟨B6, hB6⟩ : ∃ Z, W.heap.size = Z := ⟨_, rfl⟩
          rw [hW6] at X6
          have HW6 := Lib.hid hW6; have HB6 := Lib.hid hB6
          clear hW6 hB6
          have T6 := T.ext X6
          have q0 := block_ext X6 e0; have q1 := block_ext X6 e1; have q2 := block_ext X6 hdef
          have hx6 : Ext w W6 := hx.trans X6
          have c1 := block_cell q1 1 _ rfl
          rw [HW6.out] at m0
          have hz6 : W6.heap.size = B6 + 1 := by rw [← HW6.out]; simp [HB6.out]
          have hz6' : W.heap.size = B6 := HB6.out
          rw [hz6'] at m0 hzD
          have lz6 := T.tb
          have l1 := (Array.getElem?_eq_some_iff.1 T.tb).1
          have l2 := T.up.lt
          have l3 := T.pr.lt
          have l4 := (Array.getElem?_eq_some_iff.1 e0).1
          have l5 := (Array.getElem?_eq_some_iff.1 e1).1
          have l6 := hx.size
          clear lz6 T e0 e1 e2 hdef X6 hx
          have hmm := @run_makeMap Tryz.prog
          go_upto_region 12 with fail
          clear hmm
          rw [HW6.out]
          clear HW6 HB6
          go_wp2
          clear c1
          go_loopw [71] (fun i wr => ∃ k : Nat, k ≤ s.notes.length ∧ i = .int .i64 k ∧ MpL Tryz.prog 102 3 B6 k (endS s k) wr ∧ (wr.heap[t]? = some (.cells #[.pointer (some ⟨g, 0, none⟩)] 62 (0, 0)) ∧ wr.heap[B0]? = some (.cells #[.int .i64 s.voices, .slice an s.notes.length cn, .slice ap s.pairs.length cp, .slice ac s.cads.length cc] 26 (0, 0)) ∧ wr.heap[D]? = some (.deferred (some []))) ∧ TreeR wr g u q s.voices (.slice an s.notes.length cn) (.slice ap s.pairs.length cp) (.slice ac s.cads.length cc) s.notes.length (upA s 0) (wanA s 0) (.slice none 0 0) ∧ Ext w wr) (fun i _ => s.notes.length - (intOf i).toNat)
          case atStart => exact ⟨0, by omega, rfl, m0, ⟨q0, q1, q2⟩, T6, hx6⟩
          case round =>
            obtain ⟨k, hk, rfl, M, ⟨e0, e1, e2⟩, T, X⟩ := hrel
            by_cases hlt : k < s.notes.length
            · obtain ⟨b, o, rfl, A⟩ := Sl.nt (SL.ext X) k hlt
              rw [← Sc.N_eq hlt] at A
              have hke := (note_key HOK.out hlt).1
              have hsuc : endS s (k + 1) = updL (endS s k) (klitZ (s.N k).v (s.N k).u) (.int .i64 k) := rfl
              obtain ⟨x, hx⟩ : ∃ x, s.N k = x := ⟨_, rfl⟩
              rw [hx] at A hke hsuc
              obtain ⟨r0, r1, r2, r3, r4, r5, r6, r7, r8, r9⟩ := A
              have X7 : Ext wr (wr.alloc (.cells #[.int .i64 x.v, .int .i64 x.f, .int .i64 x.u, .int .i64 x.x.a, .int .i64 x.x.b, .int .i64 x.x.c, .int .i64 x.x.d, .int .i64 x.x.e, .int .i64 x.x.f, .bool x.tied] 69)) := (by repeat (first | with_reducible exact Ext.refl _ | with_reducible assumption | with_reducible apply Ext.alloc | with_reducible apply Ext.drew | (with_reducible refine Ext.setCell ?_ (by (try simp) <;> omega) _)))
              have b7_0 := block_new wr (.cells #[.int .i64 x.v, .int .i64 x.f, .int .i64 x.u, .int .i64 x.x.a, .int .i64 x.x.b, .int .i64 x.x.c, .int .i64 x.x.d, .int .i64 x.x.e, .int .i64 x.x.f, .bool x.tied] 69)
              obtain ⟨W7, hW7⟩ : ∃ W, (wr.alloc (.cells #[.int .i64 x.v, .int .i64 x.f, .int .i64 x.u, .int .i64 x.x.a, .int .i64 x.x.b, .int .i64 x.x.c, .int .i64 x.x.d, .int .i64 x.x.e, .int .i64 x.x.f, .bool x.tied] 69)) = W := ⟨_, rfl⟩
              obtain ⟨B7, hB7⟩ : ∃ B, wr.heap.size = B := ⟨_, rfl⟩
              rw [hW7] at X7 b7_0
              rw [hB7] at b7_0
              have HZ7 : Hid (wr.heap.size ≤ B7) := Lib.hid (by omega)
              have HW7 := Lib.hid hW7; have HB7 := Lib.hid hB7
              clear hW7 hB7
              have i1 : (0 : Int) ≤ (k : Int) := by omega
              have i2 : (k : Int) < (s.notes.length : Int) := by omega
              have hkey := keyZ hke
              have hval : plainElem (H := Unit) Tryz.prog 3 (.int .i64 (k : Int)) = some (.lit (.int .i64 k), []) := plainElem_int Tryz.underlying3 (WalkArith.wf_i64 (by omega))
              have d0 := block_cell b7_0 0 _ rfl; have d2 := block_cell b7_0 2 _ rfl
              have M7 := M.ext X7; have T7 := T.ext X7; have X8 := X.trans X7
              have f0 := block_ext X7 e0; have f1 := block_ext X7 e1; have f2 := block_ext X7 e2
              have hs7 := X8.size
              have HS := Lib.hid hsuc
              clear hx hsuc b7_0 M T X X7 e0 e1 e2 hke
              go_upto_region 15 with fail
              rw [HW7.out, HB7.out]
              clear r0 r1 r2 r3 r4 r5 r6 r7 r8 r9 HW7 HB7
              go_wp2_with (at_mapUpdate; go_must (refine wpList_mp_put rfl _ _ _ 101 rfl keyed_pl Tryz.underlying101 rfl M7 (by unfold maxLen; omega) _ _ _ _ rfl rfl hkey hval ?_; intro w8 M8 gr8))
              have kb := kb_grown gr8
              have T8 := T7.kb kb (by omega) (by omega) (by omega)
              have X9 : Ext w w8 := Below.trans X8 (below_grown' gr8 (by omega) hs7)
              have Q := Lib.hid (And.intro (kb.at f0 (by omega)) (And.intro (kb.at f1 (by omega)) (kb.at f2 (by omega))))
              clear kb f0 f1 f2 gr8 M7 T7
              go_wp2
              go_roundw
              case rel => exact ⟨k + 1, by omega, by go_num, by rw [HS.out]; exact M8, Q.out, T8, X9⟩
              case measure => simp [intOf]; omega
            · obtain rfl : k = s.notes.length := by omega
              obtain ⟨W9, rfl⟩ : ∃ z : World, z = wr := ⟨_, rfl⟩
              have T9 := T.congr (F' := fun i => if i < 0 then upF s i else upA s 0 i) (G' := fun i => if i < 0 then wantF s i else wanA s 0 i) (fun i _ => if_neg (Nat.not_lt_zero i)) (fun i _ => if_neg (Nat.not_lt_zero i))
              have c1 := block_cell e1 1 _ rfl
              clear T
              go_wp2
              clear c1
              go_loopw [87] (fun i wr => ∃ k : Nat, k ≤ s.notes.length ∧ i = .int .i64 k ∧ MpL Tryz.prog 102 3 B6 s.notes.length (endS s s.notes.length) wr ∧ (wr.heap[t]? = some (.cells #[.pointer (some ⟨g, 0, none⟩)] 62 (0, 0)) ∧ wr.heap[B0]? = some (.cells #[.int .i64 s.voices, .slice an s.notes.length cn, .slice ap s.pairs.length cp, .slice ac s.cads.length cc] 26 (0, 0)) ∧ wr.heap[D]? = some (.deferred (some []))) ∧ TreeR wr g u q s.voices (.slice an s.notes.length cn) (.slice ap s.pairs.length cp) (.slice ac s.cads.length cc) s.notes.length (fun i => if i < k then upF s i else upA s 0 i) (fun i => if i < k then wantF s i else wanA s 0 i) (.slice none 0 0) ∧ Ext w wr) (fun i _ => s.notes.length - (intOf i).toNat)
              case atStart => exact ⟨0, by omega, rfl, M, ⟨e0, e1, e2⟩, T9, X⟩
              case round =>
                obtain ⟨k, hk, rfl, M, ⟨e0, e1, e2⟩, T, X⟩ := hrel
                by_cases hlt : k < s.notes.length
                · obtain ⟨b, o, rfl, A⟩ := Sl.nt (SL.ext X) k hlt
                  rw [← Sc.N_eq hlt] at A
                  have hke := (note_key HOK.out hlt).2
                  obtain ⟨hU1, hU2⟩ := upF_A s k
                  have htie := fun h => endS_tie HOK.out hlt h
                  obtain ⟨x, hx⟩ : ∃ x, s.N k = x := ⟨_, rfl⟩
                  rw [hx] at A hke hU1 hU2
                  simp only [hx] at htie
                  obtain ⟨r0, r1, r2, r3, r4, r5, r6, r7, r8, r9⟩ := A
                  have X7 : Ext wr (wr.alloc (.cells #[.int .i64 x.v, .int .i64 x.f, .int .i64 x.u, .int .i64 x.x.a, .int .i64 x.x.b, .int .i64 x.x.c, .int .i64 x.x.d, .int .i64 x.x.e, .int .i64 x.x.f, .bool x.tied] 69)) := (by repeat (first | with_reducible exact Ext.refl _ | with_reducible assumption | with_reducible apply Ext.alloc | with_reducible apply Ext.drew | (with_reducible refine Ext.setCell ?_ (by (try simp) <;> omega) _)))
                  have b7_0 := block_new wr (.cells #[.int .i64 x.v, .int .i64 x.f, .int .i64 x.u, .int .i64 x.x.a, .int .i64 x.x.b, .int .i64 x.x.c, .int .i64 x.x.d, .int .i64 x.x.e, .int .i64 x.x.f, .bool x.tied] 69)
                  obtain ⟨W7, hW7⟩ : ∃ W, (wr.alloc (.cells #[.int .i64 x.v, .int .i64 x.f, .int .i64 x.u, .int .i64 x.x.a, .int .i64 x.x.b, .int .i64 x.x.c, .int .i64 x.x.d, .int .i64 x.x.e, .int .i64 x.x.f, .bool x.tied] 69)) = W := ⟨_, rfl⟩
                  obtain ⟨B7, hB7⟩ : ∃ B, wr.heap.size = B := ⟨_, rfl⟩
                  rw [hW7] at X7 b7_0
                  rw [hB7] at b7_0
                  have HZ7 : Hid (wr.heap.size ≤ B7) := Lib.hid (by omega)
                  have HW7 := Lib.hid hW7; have HB7 := Lib.hid hB7
                  clear hW7 hB7
                  have i1 : (0 : Int) ≤ (k : Int) := by omega
                  have i2 : (k : Int) < (s.notes.length : Int) := by omega
                  have d0 := block_cell b7_0 0 _ rfl; have d1 := block_cell b7_0 1 _ rfl; have d9 := block_cell b7_0 9 _ rfl
                  have M7 := M.ext X7; have T7 := T.ext X7; have X8 := X.trans X7
                  have f0 := block_ext X7 e0; have f1 := block_ext X7 e1; have f2 := block_ext X7 e2
                  have hs7 := X8.size
                  have HU1 := Lib.hid hU1; have HU2 := Lib.hid hU2
                  clear hx M T X X7 e0 e1 e2 hU1 hU2
                  cases htd : x.tied with
                  | false =>
                    have T8 := T7.congr (F' := fun i => if i < k + 1 then upF s i else upA s 0 i) (G' := fun i => if i < k + 1 then wantF s i else wanA s 0 i) (fun i hi => by
                      by_cases h : i = k
                      · subst h
                        have h1 := HU1.out
                        rw [htd, if_neg (by simp)] at h1
                        rw [if_pos (by omega), if_neg (Nat.lt_irrefl i), h1]
                      · by_cases h' : i < k
                        · rw [if_pos h', if_pos (by omega)]
                        · rw [if_neg h', if_neg (by omega)]) (fun i hi => by
                      by_cases h : i = k
                      · subst h
                        have h1 := HU2.out
                        rw [htd, if_neg (by simp)] at h1
                        rw [if_pos (by omega), if_neg (Nat.lt_irrefl i), h1]
                      · by_cases h' : i < k
                        · rw [if_pos h', if_pos (by omega)]
                        · rw [if_neg h', if_neg (by omega)])
                    rw [htd] at d9
                    have HTD := Lib.hid htd
                    clear htd T7 htie
                    go_upto_region 20 with fail
                    rw [HW7.out, HB7.out]
                    clear r0 r1 r2 r3 r4 r5 r6 r7 r8 r9 HW7 HB7
                    go_wp2
                    go_roundw
                    case rel => exact ⟨k + 1, by omega, by go_num, M7, ⟨f0, f1, f2⟩, T8, X8⟩
                    case measure => simp [intOf]; omega
                  | true =>
                    obtain ⟨jj, hah, hen⟩ := htie htd
                    have hlook : ∀ w, MpL Tryz.prog 102 3 B6 s.notes.length (endS s s.notes.length) w → (Instr.lookup 101 (.map (some B6)) (.agg #[.int .i64 x.v, .int .i64 x.f]) false).run Tryz.prog w = .ok (.int .i64 jj) w := fun w h => h.look_int keyed_pl Tryz.underlying101 Tryz.underlying3 (by kernel_rfl) (keyZ hke) (.inl hen)
                    obtain ⟨F0, hF0⟩ : ∃ F : Nat → St, F = fun i => if i < k then upF s i else upA s 0 i := ⟨_, rfl⟩
                    obtain ⟨F1, hF1⟩ : ∃ F : Nat → St, F = fun i => if i = k then ⟨jj, k, 1⟩ else F0 i := ⟨_, rfl⟩
                    have hF1b : (fun i => if i = k then (⟨jj, k, 1⟩ : St) else F1 i) = F1 := by
                      funext i
                      rw [hF1]
                      by_cases h : i = k
                      · simp only [h, if_pos]
                      · simp only [h, if_neg, not_false_iff]
                    rw [← hF0] at T7
                    obtain ⟨A, hA⟩ : ∃ A : World → Prop, A = fun w => Bk w u 39 encSt (rgL F0 s.notes.length) ∨ Bk w u 39 encSt (rgL F1 s.notes.length) := ⟨_, rfl⟩
                    obtain ⟨Nw, hNw⟩ : ∃ A : World → Prop, A = fun w => Bk w u 39 encSt (rgL F1 s.notes.length) := ⟨_, rfl⟩
                    have hput : ∀ w, A w → Nw (w.setCells u (k * 3) (encSt ⟨jj, k, 1⟩)) := fun w h => by
                      rw [hA] at h
                      rw [hNw]
                      rcases h with h | h
                      · have := h.put (sz := 3) (fun _ _ => rfl) ⟨jj, k, 1⟩ rfl k (by rw [rgL_len]; exact hlt)
                        rw [rgL_set, ← hF1] at this
                        exact this
                      · have := h.put (sz := 3) (fun _ _ => rfl) ⟨jj, k, 1⟩ rfl k (by rw [rgL_len]; exact hlt)
                        rw [rgL_set, hF1b] at this
                        exact this
                    have hNA : ∀ w, Nw w → A w := fun w h => by rw [hA]; rw [hNw] at h; exact .inr h
                    have hcell : ∀ w, A w → (∃ y0 y1 y2, w.cell? ⟨u, k * 3, none⟩ = some y0 ∧ w.cell? ⟨u, k * 3 + 1, none⟩ = some y1 ∧ w.cell? ⟨u, k * 3 + 2, none⟩ = some y2) ∧ w.frozen? ⟨u, k * 3, none⟩ = false ∧ w.frozen? ⟨u, k * 3 + 1, none⟩ = false ∧ w.frozen? ⟨u, k * 3 + 2, none⟩ = false := fun w h => by
                      rw [hA] at h
                      rcases h with h | h
                      · exact up_ex h hlt
                      · exact up_ex h hlt
                    have hA7 : ∀ n, A { W7 with drawn := n } := fun n => by rw [hA]; exact .inl (T7.up.ext (Ext.drawn _ _))
                    obtain ⟨n1, n2, n3⟩ := T7.gne f0 (by decide) (by decide) (by decide)
                    obtain ⟨n4, n5, n6⟩ := T7.ne
                    have np : B7 ≠ u := Ne.symm (T7.up.ne_block b7_0 (by decide))
                    have nB6 : B6 ≠ u := by omega
                    have z0 : ∀ w, Cw u A W7 w → w.cell? ⟨t, 0, none⟩ = some (.pointer (some ⟨g, 0, none⟩)) := fun w h => h.1.cell (block_cell f0 0 _ rfl) (fun e => n2 (Option.some.inj e).symm)
                    have z1 : ∀ w, Cw u A W7 w → w.cell? ⟨g, 4, none⟩ = some (.slice (some ⟨u, 0, none⟩) s.notes.length s.notes.length) := fun w h => h.1.cell T7.c4 (fun e => n4 (Option.some.inj e).symm)
                    have z2 : ∀ w, Cw u A W7 w → w.cell? ⟨g, 5, none⟩ = some (.slice (some ⟨q, 0, none⟩) s.notes.length s.notes.length) := fun w h => h.1.cell T7.c5 (fun e => n4 (Option.some.inj e).symm)
                    have z3 : ∀ w, Cw u A W7 w → w.cell? ⟨B7, 0, none⟩ = some (.int .i64 x.v) := fun w h => h.1.cell d0 (fun e => np (Option.some.inj e))
                    have z4 : ∀ w, Cw u A W7 w → w.cell? ⟨B7, 1, none⟩ = some (.int .i64 x.f) := fun w h => h.1.cell d1 (fun e => np (Option.some.inj e))
                    have z5 : ∀ w, Cw u A W7 w → (Instr.lookup 101 (.map (some B6)) (.agg #[.int .i64 x.v, .int .i64 x.f]) false).run Tryz.prog w = .ok (.int .i64 jj) w := fun w h => hlook w (M7.kept (h.1.kept B6 M7.lt (fun e => nB6 (Option.some.inj e))))
                    have HPUT := Lib.hid hput; have HCELL := Lib.hid hcell; have HNA := Lib.hid hNA; have HNW := Lib.hid hNw; have HF0 := Lib.hid hF0; have HF1 := Lib.hid hF1
                    have T7' := Lib.hid T7
                    have FB := Lib.hid (And.intro f0 (And.intro f1 f2))
                    have HX8 := Lib.hid X8; have HM7 := Lib.hid M7
                    have HAH := Lib.hid hah; have HTD := Lib.hid htd
                    rw [htd] at d9
                    clear htd hah hen hA hNw hput hNA hcell hF1 hF1b hF0 T7 f0 f1 f2 X8 M7 n1 n3 hlook b7_0
                    go_upto_region 20 with fail
                    rw [HW7.out, HB7.out]
                    clear r0 r1 r2 r3 r4 r5 r6 r7 r8 r9 HW7 HB7
                    go_upto_region 21 with fail
                    clear d0 d1 d9
                    apply wp_region_ordX [(0, .det _), (1, .det _), (2, .det _), (3, .det _), (4, .det _), (5, .det _), (6, .det _), (7, .det _), (8, .det _), (9, .det _), (10, .det _), (11, .det _), (12, .det _), (13, .det _), (14, .det _), (15, .det _), (16, .det _), (17, .det _), (18, .det _), (19, .det _), (20, .det _), (21, .new (fun _ => True) (fun _ w => Nw w) undef trivial)] 22 (Rw u A Nw) (Rw u A Nw) (Cw u A W7) (fun _ => True) wide
                      [(0,true), (1,true), (2,true), (3,true), (4,true), (5,true), (6,true), (7,true), (8,true), (9,true), (10,true), (11,true), (12,true), (13,true), (14,true), (15,true), (16,true), (17,true), (18,true), (19,true), (20,true), (21,true)] (by kernel_rfl) rfl (by decide) (fun _ _ h => h) stable_cw (fun _ _ _ _ => trivial) ⟨Kb.drawn _ _ _, hA7 _⟩ trivial ?mainc
                    case mainc =>
                      iterate 21 (apply ordX_det rfl rfl; (intro w' hw'; unfold opR; go_simp; exact ⟨Rw.refl _, rfl⟩); (simp only [List.getElem_toArray, List.getElem_cons_succ, List.getElem_cons_zero, Act.put, List.setIfInBounds_toArray, List.set_cons_succ, List.set_cons_zero]; rfl))
                      apply ordX_new (fun _ _ _ h k => k.2.2 h) rfl rfl
                      · intro w' hw'
                        obtain ⟨⟨y0, y1, y2, e0, e1, e2⟩, g0, g1, g2⟩ := HCELL.out w' hw'.2
                        have hfin := HPUT.out w' hw'.2
                        have hkb := kb_sets u (encSt ⟨jj, k, 1⟩) w' (k * 3)
                        have HF := Lib.hid hfin; have HK := Lib.hid hkb
                        clear hfin hkb z0 z1 z2 z3 z4 z5
                        unfold opR
                        go_simp
                        exact ⟨⟨HK.out, fun _ => HNA.out _ HF.out, fun _ => HF.out⟩, HF.out⟩
                      · intro v; rfl
                      intro v21 _
                      refine ordX_nil rfl ?_
                      rintro w8 hw8 - ⟨-, hN8⟩
                      rw [HNW.out] at hN8
                      have T8 : TreeR w8 g u q s.voices _ _ _ s.notes.length F1 (fun i => if i < k then wantF s i else wanA s 0 i) (.slice none 0 0) := ⟨hw8.1.at T7'.out.tb (Ne.symm n4), hN8, T7'.out.pr.kb hw8.1 (Ne.symm n6)⟩
                      obtain ⟨⟨e0, e1, e2, e3, e4, e5⟩, hfr⟩ := T8.prC k hlt
                      have g0 := hfr (k * 6); have g1 := hfr (k * 6 + 1); have g2 := hfr (k * 6 + 2); have g3 := hfr (k * 6 + 3); have g4 := hfr (k * 6 + 4); have g5 := hfr (k * 6 + 5)
                      have nt : t ≠ q := Ne.symm (T7'.out.pr.ne_block FB.out.1 (by decide))
                      have nB : B0 ≠ u ∧ B0 ≠ q := ⟨Ne.symm (T7'.out.up.ne_block FB.out.2.1 (by decide)), Ne.symm (T7'.out.pr.ne_block FB.out.2.1 (by decide))⟩
                      have nD : D ≠ u ∧ D ≠ q := by omega
                      have kq := kb_sets q (V6.list V6.zero) w8 (k * 6)
                      have T9 := (T8.putPr k hlt V6.zero).congr (F' := fun i => if i < k + 1 then upF s i else upA s 0 i) (G' := fun i => if i < k + 1 then wantF s i else wanA s 0 i) (fun i hi => by
                        rw [HF1.out, HF0.out]
                        by_cases h : i = k
                        · subst h
                          have h1 := HU1.out
                          rw [HTD.out, if_pos rfl] at h1
                          simp only [if_pos, Nat.lt_succ_self]
                          rw [h1, HAH.out]
                        · by_cases h' : i < k
                          · simp only [h, h', if_neg, if_pos, not_false_iff, (show i < k + 1 by omega)]
                          · simp only [h, h', if_neg, not_false_iff, (show ¬ i < k + 1 by omega)]) (fun i hi => by
                        by_cases h : i = k
                        · subst h
                          have h1 := HU2.out
                          rw [HTD.out, if_pos rfl] at h1
                          simp only [if_pos, Nat.lt_succ_self]
                          rw [h1]
                        · by_cases h' : i < k
                          · simp only [h, h', if_neg, if_pos, not_false_iff, (show i < k + 1 by omega)]
                          · simp only [h, h', if_neg, not_false_iff, (show ¬ i < k + 1 by omega)])
                      have X9 : Ext w (w8.setCells q (k * 6) (V6.list V6.zero)) := setCells_ext (Below.trans HX8.out (hw8.1.below HX8.out.size (fun b' e => by have := Option.some.inj e; omega))) (by omega) _ _
                      have M9 := (HM7.out.kept (hw8.1.kept B6 HM7.out.lt (fun e => nB6 (Option.some.inj e))))
                      have M9 := M9.kept (kq.kept B6 M9.lt (fun e => by have := Option.some.inj e; omega))
                      have Q := Lib.hid (And.intro M9 (And.intro (And.intro (kq.at (hw8.1.at FB.out.1 (Ne.symm n2)) nt) (And.intro (kq.at (hw8.1.at FB.out.2.1 nB.1) nB.2) (kq.at (hw8.1.at FB.out.2.2 nD.1) nD.2))) (And.intro T9 X9)))
                      clear hfr T8 T9 X9 M9 kq hN8 hw8 nt nB nD n2 n4 n5 n6 z0 z1 z2 z3 z4 z5
                      go_wp2
                      go_roundw
                      case rel => exact ⟨k + 1, by omega, by go_num, Q.out.1, Q.out.2.1, Q.out.2.2.1, Q.out.2.2.2⟩
                      case measure => simp [intOf]; omega
                · obtain rfl : k = s.notes.length := by omega
                  have T9 := T.congr (F' := upF s) (G' := wantF s) (fun i hi => (if_pos hi).symm) (fun i hi => (if_pos hi).symm)
                  have ct := block_cell e0 0 _ rfl
                  have HD := Lib.hid e2
                  clear T M e0 e1 e2
                  go_wp2
                  exact bodyPostM_ret (v := .pointer (some ⟨g, 0, none⟩)) rfl HD.out (fun W' _ => by simp [results, Tryz.results21, go_sem]) (fun W' hs => ⟨g, u, q, rfl, by omega, by omega, by omega, T9.kept (hs.cells T9.tb |>.trans T9.tb.symm) (by obtain ⟨cs, h1, -⟩ := T9.up; exact (hs.cells h1).trans h1.symm) (by obtain ⟨cs, h1, -⟩ := T9.pr; exact (hs.cells h1).trans h1.symm), Below.trans X (hs.below (by omega))⟩)
        case round =>
          rintro lr j W hj ⟨hx, ⟨e0, e1, e2⟩, T⟩ hle hlt'
          have hj' : j < s.pairs.length := by rw [rgL_len] at hj; exact hj
          rw [rgL_get]
          obtain ⟨m, hm⟩ : ∃ m, s.pairs.length - 1 - j = m := ⟨_, rfl⟩
          have hml : m < s.pairs.length := by omega
          have hm1 : s.pairs.length - j = m + 1 := by omega
          have hm2 : Hid (s.pairs.length - (j + 1) = m) := Lib.hid (by omega)
          have hpk := HOK.out.pr.1 m hml
          unfold pairOk at hpk
          have hA := fun i h => upA_yes (s := s) (m := m) (i := i) hml h
          have hN := fun i h => upA_no (s := s) (m := m) (i := i) hml h
          rw [hm]
          rw [hm1] at T
          simp only [encBP, prC]
          obtain ⟨p, hp⟩ : ∃ p, s.P m = p := ⟨_, rfl⟩
          rw [hp] at hpk ⊢
          simp only [hp] at hA hN
          obtain ⟨b, hb⟩ : ∃ b : Nat, p.b = (b : Int) := ⟨p.b.toNat, by omega⟩
          have hbn : b < s.notes.length := by omega
          have HAA := Lib.hid hA; have HNN := Lib.hid hN; have HBB := Lib.hid hb
          clear hA hN hp hm hm1 hpk hb
          gi_wp2
          refine ⟨KeepsUp.ext (Ext.alloc' _ _), fun W5 hs5 => ?_⟩
          have ea := Ext.alloc' W (.cells #[.int .i64 p.a, .int .i64 p.b, .int .i64 p.want.a, .int .i64 p.want.b, .int .i64 p.want.c, .int .i64 p.want.d, .int .i64 p.want.e, .int .i64 p.want.f, .int .i64 p.bound] 48)
          have f0 := hs5.cells (block_ext ea e0); have f1 := hs5.cells (block_ext ea e1); have f2 := hs5.cells (block_ext ea e2)
          have fp := hs5.cells (block_new W (.cells #[.int .i64 p.a, .int .i64 p.b, .int .i64 p.want.a, .int .i64 p.want.b, .int .i64 p.want.c, .int .i64 p.want.d, .int .i64 p.want.e, .int .i64 p.want.f, .int .i64 p.bound] 48))
          have T5 : TreeR W5 g u q s.voices (.slice an s.notes.length cn) (.slice ap s.pairs.length cp) (.slice ac s.cads.length cc) s.notes.length (upA s (m + 1)) (wanA s (m + 1)) (.slice none 0 0) := (T.ext ea).kept (hs5.cells (T.ext ea).tb |>.trans (T.ext ea).tb.symm) (by obtain ⟨cs, h1, -⟩ := (T.ext ea).up; exact (hs5.cells h1).trans h1.symm) (by obtain ⟨cs, h1, -⟩ := (T.ext ea).pr; exact (hs5.cells h1).trans h1.symm)
          have hx5 : Ext w W5 := Below.trans hx ((ea.below (B := w.heap.size) (by omega)).trans (hs5.below (by omega)))
          have hz5 : W.heap.size < W5.heap.size := by have := hs5.size; simp at this; omega
          obtain ⟨PB, hPB⟩ : ∃ z, W.heap.size = z := ⟨_, rfl⟩
          rw [hPB] at fp hz5 ⊢
          have hpb : W3.heap.size < PB + 1 := by omega
          clear ea hs5 T e0 e1 e2 hx hPB
          have d3 := block_cell fp 8 _ rfl
          by_cases hbd : p.bound = 0
          case neg =>
            have e9 : (p.bound == 0) = false := by rw [beq_eq_false_iff_ne]; exact hbd
            have T6 := T5.congr (F' := upA s m) (G' := wanA s m) (fun i _ => (HNN.out i (fun h => hbd h.2)).1) (fun i _ => (HNN.out i (fun h => hbd h.2)).2)
            have Q := Lib.hid (And.intro hx5 (And.intro (And.intro f0 (And.intro f1 f2)) T6))
            clear hbd f0 f1 f2 fp T5 T6 hx5
            gi_wp2
            refine ⟨KeepsUp.refl _ _, Q.out.1, Q.out.2.1, ?_⟩
            rw [hm2.out]; exact Q.out.2.2
          have e9 : (p.bound == 0) = true := by rw [beq_iff_eq]; exact hbd
          obtain ⟨F1, hF1⟩ : ∃ F : Nat → St, F = fun i => if i = b then ⟨p.a, b, 2⟩ else upA s (m + 1) i := ⟨_, rfl⟩
          have hF1b : (fun i => if i = b then (⟨p.a, b, 2⟩ : St) else F1 i) = F1 := by
            funext i
            rw [hF1]
            by_cases h : i = b
            · simp only [h, if_pos]
            · simp only [h, if_neg, not_false_iff]
          obtain ⟨A, hA⟩ : ∃ A : World → Prop, A = fun w => Bk w u 39 encSt (rgL (upA s (m + 1)) s.notes.length) ∨ Bk w u 39 encSt (rgL F1 s.notes.length) := ⟨_, rfl⟩
          obtain ⟨Nw, hNw⟩ : ∃ A : World → Prop, A = fun w => Bk w u 39 encSt (rgL F1 s.notes.length) := ⟨_, rfl⟩
          have hput : ∀ w, A w → Nw (w.setCells u (b * 3) (encSt ⟨p.a, b, 2⟩)) := fun w h => by
            rw [hA] at h
            rw [hNw]
            rcases h with h | h
            · have := h.put (sz := 3) (fun _ _ => rfl) ⟨p.a, b, 2⟩ rfl b (by rw [rgL_len]; exact hbn)
              rw [rgL_set, ← hF1] at this
              exact this
            · have := h.put (sz := 3) (fun _ _ => rfl) ⟨p.a, b, 2⟩ rfl b (by rw [rgL_len]; exact hbn)
              rw [rgL_set, hF1b] at this
              exact this
          have hNA : ∀ w, Nw w → A w := fun w h => by rw [hA]; rw [hNw] at h; exact .inr h
          have hcell : ∀ w, A w → (∃ y0 y1 y2, w.cell? ⟨u, b * 3, none⟩ = some y0 ∧ w.cell? ⟨u, b * 3 + 1, none⟩ = some y1 ∧ w.cell? ⟨u, b * 3 + 2, none⟩ = some y2) ∧ w.frozen? ⟨u, b * 3, none⟩ = false ∧ w.frozen? ⟨u, b * 3 + 1, none⟩ = false ∧ w.frozen? ⟨u, b * 3 + 2, none⟩ = false := fun w h => by
            rw [hA] at h
            rcases h with h | h
            · exact up_ex h hbn
            · exact up_ex h hbn
          have hA5 : ∀ n, A { W5 with drawn := n } := fun n => by rw [hA]; exact .inl (T5.up.ext (Ext.drawn _ _))
          obtain ⟨n1, n2, n3⟩ := T5.gne f0 (by decide) (by decide) (by decide)
          obtain ⟨n4, n5, n6⟩ := T5.ne
          have np : PB ≠ u := Ne.symm (T5.up.ne_block fp (by decide))
          have z0 : ∀ w, Cw u A W5 w → w.cell? ⟨t, 0, none⟩ = some (.pointer (some ⟨g, 0, none⟩)) := fun w h => h.1.cell (block_cell f0 0 _ rfl) (fun e => n2 (Option.some.inj e).symm)
          have z1 : ∀ w, Cw u A W5 w → w.cell? ⟨g, 4, none⟩ = some (.slice (some ⟨u, 0, none⟩) s.notes.length s.notes.length) := fun w h => h.1.cell T5.c4 (fun e => n4 (Option.some.inj e).symm)
          have z2 : ∀ w, Cw u A W5 w → w.cell? ⟨g, 5, none⟩ = some (.slice (some ⟨q, 0, none⟩) s.notes.length s.notes.length) := fun w h => h.1.cell T5.c5 (fun e => n4 (Option.some.inj e).symm)
          have hbp : p.b = (b : Int) := HBB.out
          have zp : ∀ (j : Nat) (v : Value), (#[.int .i64 p.a, .int .i64 p.b, .int .i64 p.want.a, .int .i64 p.want.b, .int .i64 p.want.c, .int .i64 p.want.d, .int .i64 p.want.e, .int .i64 p.want.f, .int .i64 p.bound] : Array Value)[j]? = some v → ∀ w, Cw u A W5 w → w.cell? ⟨PB, j, none⟩ = some v := fun j v hv w h => h.1.cell (block_cell fp j v hv) (fun e => np (Option.some.inj e))
          have z3 := zp 0 _ rfl; have z4 := zp 1 (.int .i64 b) (by rw [hbp]; rfl); have z5 := zp 2 _ rfl; have z6 := zp 3 _ rfl; have z7 := zp 4 _ rfl; have z8 := zp 5 _ rfl; have z9 := zp 6 _ rfl; have z10 := zp 7 _ rfl
          have HPUT := Lib.hid hput; have HCELL := Lib.hid hcell; have HNA := Lib.hid hNA; have HNW := Lib.hid hNw; have HAE := Lib.hid hA; have HFF := Lib.hid hF1
          have T5' := Lib.hid T5
          have FB := Lib.hid (And.intro f0 (And.intro f1 (And.intro f2 fp)))
          have HX5 := Lib.hid hx5
          have i1 : (0 : Int) ≤ (b : Int) := by omega
          have i2 : (b : Int) < (s.notes.length : Int) := by omega
          have HBD := Lib.hid hbd
          clear hbd hA hNw hput hNA hcell hF1 hF1b T5 f0 f1 f2 fp hx5 n1 n3 zp hbp
          gi_wp2_with fail
          apply wpIn_region_ordX [(0, .det _), (1, .det _), (2, .det _), (3, .det _), (4, .det _), (5, .det _), (6, .det _), (7, .det _), (8, .det _), (9, .det _), (10, .det _), (11, .det _), (12, .det _), (13, .det _), (14, .det _), (15, .det _), (16, .det _), (17, .det _), (18, .det _), (19, .det _), (20, .new (fun _ => True) (fun _ w => Nw w) undef trivial)] 21 (Rw u A Nw) (Rw u A Nw) (Cw u A W5) (fun _ => True) wide
            [(0,true), (1,true), (2,true), (3,true), (4,true), (5,true), (6,true), (7,true), (8,true), (9,true), (10,true), (11,true), (12,true), (13,true), (14,true), (15,true), (16,true), (17,true), (18,true), (19,true), (20,true)] (by kernel_rfl) (by rintro ⟨_, _, h⟩; exact h) rfl (by decide) (fun _ _ h => h) stable_cw (fun _ _ _ _ => trivial) ⟨Kb.drawn _ _ _, hA5 _⟩ trivial ?mainb
          case mainb =>
            iterate 20 (apply ordX_det rfl rfl; (intro w' hw'; unfold opR; go_simp; exact ⟨Rw.refl _, rfl⟩); (simp only [List.getElem_toArray, List.getElem_cons_succ, List.getElem_cons_zero, Act.put, List.setIfInBounds_toArray, List.set_cons_succ, List.set_cons_zero]; rfl))
            apply ordX_new (fun _ _ _ h k => k.2.2 h) rfl rfl
            · intro w' hw'
              obtain ⟨⟨y0, y1, y2, e0, e1, e2⟩, g0, g1, g2⟩ := HCELL.out w' hw'.2
              have hfin := HPUT.out w' hw'.2
              have hkb := kb_sets u (encSt ⟨p.a, b, 2⟩) w' (b * 3)
              have HF := Lib.hid hfin; have HK := Lib.hid hkb
              clear hfin hkb z0 z1 z2 z3 z4 z5 z6 z7 z8 z9 z10
              unfold opR
              go_simp
              exact ⟨⟨HK.out, fun _ => HNA.out _ HF.out, fun _ => HF.out⟩, HF.out⟩
            · intro v; rfl
            intro v20 _
            refine ordX_nil rfl ?_
            rintro w6 hw6 - ⟨-, hN6⟩
            rw [HNW.out] at hN6
            have T6 : TreeR w6 g u q s.voices (.slice an s.notes.length cn) (.slice ap s.pairs.length cp) (.slice ac s.cads.length cc) s.notes.length F1 (wanA s (m + 1)) (.slice none 0 0) := ⟨hw6.1.at T5'.out.tb (Ne.symm n4), hN6, T5'.out.pr.kb hw6.1 (Ne.symm n6)⟩
            obtain ⟨⟨e0, e1, e2, e3, e4, e5⟩, hfr⟩ := T6.prC b hbn
            have g0 := hfr (b * 6); have g1 := hfr (b * 6 + 1); have g2 := hfr (b * 6 + 2); have g3 := hfr (b * 6 + 3); have g4 := hfr (b * 6 + 4); have g5 := hfr (b * 6 + 5)
            have nt : t ≠ q := Ne.symm (T5'.out.pr.ne_block FB.out.1 (by decide))
            have nB : B0 ≠ u ∧ B0 ≠ q := ⟨Ne.symm (T5'.out.up.ne_block FB.out.2.1 (by decide)), Ne.symm (T5'.out.pr.ne_block FB.out.2.1 (by decide))⟩
            have n3B : B3 ≠ u ∧ B3 ≠ q := ⟨Ne.symm (T5'.out.up.ne_block FB.out.2.2.1 (by decide)), Ne.symm (T5'.out.pr.ne_block FB.out.2.2.1 (by decide))⟩
            have kq := kb_sets q (V6.list p.want) w6 (b * 6)
            have T7 := (T6.putPr b hbn p.want).congr (F' := upA s m) (G' := wanA s m) (fun i hi => by
              rw [HFF.out]
              by_cases h : i = b
              · subst h; simp only [if_pos]; exact (HAA.out i ⟨HBB.out, HBD.out⟩).1
              · simp only [h, if_neg, not_false_iff]; exact (HNN.out i (fun e => h (by have := HBB.out; omega))).1) (fun i hi => by
              by_cases h : i = b
              · subst h; simp only [if_pos]; exact (HAA.out i ⟨HBB.out, HBD.out⟩).2
              · simp only [h, if_neg, not_false_iff]; exact (HNN.out i (fun e => h (by have := HBB.out; omega))).2)
            have X7 : Ext w (w6.setCells q (b * 6) (V6.list p.want)) := setCells_ext (Below.trans HX5.out (hw6.1.below HX5.out.size (fun b' e => by have := Option.some.inj e; omega))) (by omega) _ _
            have Q := Lib.hid (And.intro X7 (And.intro (And.intro (kq.at (hw6.1.at FB.out.1 (Ne.symm n2)) nt) (And.intro (kq.at (hw6.1.at FB.out.2.1 nB.1) nB.2) (kq.at (hw6.1.at FB.out.2.2.1 n3B.1) n3B.2))) T7))
            have KU : Hid (KeepsUp W3.heap.size W5 (w6.setCells q (b * 6) (V6.list p.want))) := Lib.hid ⟨by have := hw6.1.size; have := kq.size; omega, fun k h1 h2 => (kq.kept k (by have := hw6.1.size; omega) (fun e => by have := Option.some.inj e; omega)).trans (hw6.1.kept k h2 (fun e => by have := Option.some.inj e; omega))⟩
            clear hfr T6 T7 X7 kq hN6 hw6 nt nB n3B n2 n4 n5 n6 z0 z1 z2 z3 z4 z5 z6 z7 z8 z9 z10
            go_wp2
            gi_wp2
            refine ⟨KU.out, Q.out.1, Q.out.2.1, ?_⟩
            rw [hm2.out]; exact Q.out.2.2

end Go.Proofs.YtgfaiihekibcbaaGreatDoor
