/-
  Proved: 'PartialPredicted' returns true for every input and leaves its arguments as they were. No condition.
-/
import Derived.Test.YthhkpgbfefakeaaDoorPaL
import Derived.Test.YthhkpgbfefakeaaDoorPaRefM
import Derived.Test.YthhkpgbfefakeaaDoorAz
namespace Go.Proofs.YthhkpgbfefakeaaDoor
open Go.RowKit Go.Sx Go.Sx.Sz Go.ChangeShapes Go.WideShapes Go.ChangeAt

theorem cmp_ok {a b : S2} (ha : szOk a = true) (hb : szOk b = true) : cmpR a b = ((cmpR a b).1, 0) ∧ ((cmpR a b).1 = 0 ↔ disj a b = false) := by
  have h := cmp_disj ha hb
  refine ⟨?_, ?_⟩
  · rw [cmpR, if_pos ⟨ha, hb⟩]; split
    · rfl
    · split <;> rfl
  · rw [← h]; simp
theorem disj_iff {a b : S2} : disj a b = true ↔ a.hi < b.lo ∨ b.hi < a.lo := by simp [disj]
theorem common_snoc (l : List S2) (s : S2) : common (l ++ [s]) = meet (common l) s := by
  unfold common; rw [List.foldl_append]; rfl
theorem meet_ok {a b : S2} (ha : szOk a = true) (hb : szOk b = true) : (meet a b).lo ≤ (meet a b).hi ↔ disj a b = false := by
  rw [szOk_iff] at ha hb
  simp only [meet, disj, Bool.or_eq_false_iff, decide_eq_false_iff_not]
  split <;> split <;> omega

theorem pred_facts {l : List Row} {m : Row} {s : S2} (hr : rowsOk (l ++ [m]) = true) (hp : predR l m.h = (s, 0)) :
    ∃ n te, cmpR s ⟨m.lo, m.hi⟩ = (n, 0) ∧ (∃ t, toneR (l ++ [m]) = (t, te)) ∧ ((te = 0 ∧ n = 0) ∨ (te = 23 ∧ n ≠ 0)) := by
  have hall := rowsOk_iff.1 hr
  have hm : rowOk m = true := hall.2 m (by simp)
  have hl : rowsOk l = true := rowsOk_iff.2 ⟨by have := hall.1; simp at this; omega, fun r hr => hall.2 r (by simp [hr])⟩
  have hmb := rowOk_iff.1 hm
  rw [predR, if_pos ⟨hmb.1, hmb.2.1⟩] at hp
  by_cases hc : (common (l.map rootS)).lo ≤ (common (l.map rootS)).hi
  · have ht : toneR l = (common (l.map rootS), 0) := by rw [toneR, if_pos hl, commonR, if_pos hc]
    rw [ht, if_pos rfl] at hp
    have hco := common_ok hc
    have hmo : szOk (⟨m.lo, m.hi⟩ : S2) = true := by rw [szOk_iff]; simp only; omega
    have hs : s = addS (common (l.map rootS)) (harmS m.h) ∧ szOk s = true := by
      cases hso : szOk (addS (common (l.map rootS)) (harmS m.h)) with
      | true => rw [addR_d hco (harmS_ok hmb.1 hmb.2.1) hso] at hp; cases hp; exact ⟨rfl, hso⟩
      | false => rw [addR_c hco (harmS_ok hmb.1 hmb.2.1) hso] at hp; cases hp
    obtain ⟨c1, c2⟩ := cmp_ok hs.2 hmo
    have hd : disj s ⟨m.lo, m.hi⟩ = disj (common (l.map rootS)) (rootS m) := by
      rw [hs.1, Bool.eq_iff_iff, disj_iff, disj_iff]
      simp only [addS, rootS, subS]
      omega
    have hto : toneR (l ++ [m]) = commonR ((l.map rootS) ++ [rootS m]) := by rw [toneR, if_pos hr]; simp
    have hme := meet_ok hco (rootS_ok hm)
    rw [← common_snoc] at hme
    by_cases hd0 : disj (common (l.map rootS)) (rootS m) = false
    · exact ⟨_, 0, c1, ⟨_, by rw [hto, commonR, if_pos (hme.2 hd0)]⟩, .inl ⟨rfl, c2.2 (hd.trans hd0)⟩⟩
    · exact ⟨_, 23, c1, ⟨_, by rw [hto, commonR, if_neg (fun h => hd0 (hme.1 h))]⟩, .inr ⟨rfl, fun h => hd0 (hd.symm.trans (c2.1 h))⟩⟩
  · have ht : toneR l = (zeroS, 23) := by rw [toneR, if_pos hl, commonR, if_neg hc]
    rw [ht, if_neg (by decide)] at hp
    cases hp

set_option maxHeartbeats 8000000 in
theorem pred_law_walk (v : Value) (l : List Row) (m : Row) (hn24 : l.length * 24 ≤ 140737488351232) (w : World) (G : Gv 0 1 w) (S : Sl w 3 encR v l) :
    Calls Tryd.prog 9 #[v, .agg #[.int .i64 m.h, .int .i64 m.lo, .int .i64 m.hi]] w fun e w' => e = .returned (.bool true) ∧ Ext w w' := by
  have facts : rowsOk (l ++ [m]) = true → (predR l m.h).2 = 0 → ∃ n te, cmpR (predR l m.h).1 ⟨m.lo, m.hi⟩ = (n, 0) ∧ (∃ t, toneR (l ++ [m]) = (t, te)) ∧ ((te = 0 ∧ n = 0) ∨ (te = 23 ∧ n ≠ 0)) := fun hr hp =>
    pred_facts hr (Prod.ext rfl hp)
  have HF := Lib.hid facts
  clear facts
  obtain ⟨pr, hpr⟩ : ∃ pr, predR l m.h = pr := ⟨_, rfl⟩
  rw [hpr] at HF
  have HP := Lib.hid hpr
  clear hpr
  go_enter Tryd.func9, Tryd.ntmps9
  go_wp2_with fail
  refine (head_walk _ (G.ext (by repeat (first | with_reducible exact Ext.refl _ | with_reducible assumption | with_reducible apply Ext.alloc | with_reducible apply Ext.drew | (with_reducible refine Ext.setCell ?_ (by (try simp) <;> omega) _))))).mono ?_
  rintro e w1 ⟨rfl, x1⟩
  obtain ⟨hc1, hf1⟩ := x1.rules
  have hz1_0 : w.heap.size < w1.heap.size := by have := x1.size; (try simp at this); omega
  obtain ⟨hl1_0, hl1_1, hl1_2, hl1_3⟩ : w.heap.size < w1.heap.size + 1 ∧ w.heap.size < w1.heap.size + 1 + 1 ∧ w.heap.size < w1.heap.size + 1 + 1 + 1 ∧ ¬ w.heap.size = w1.heap.size := by omega
  have X1 : Ext w w1 := Ext.trans (by repeat (first | with_reducible exact Ext.refl _ | with_reducible assumption | with_reducible apply Ext.alloc | with_reducible apply Ext.drew | (with_reducible refine Ext.setCell ?_ (by (try simp) <;> omega) _))) x1
  go_wp2_with fail
  have q0 : w1.cell? ⟨w.heap.size, 0, none⟩ = some (.int .i64 m.h) := x1.cell (alloc_cell w _ _ 0 _ rfl)
  have q1 : w1.cell? ⟨w.heap.size, 1, none⟩ = some (.int .i64 m.lo) := x1.cell (alloc_cell w _ _ 1 _ rfl)
  have q2 : w1.cell? ⟨w.heap.size, 2, none⟩ = some (.int .i64 m.hi) := x1.cell (alloc_cell w _ _ 2 _ rfl)
  have f0 := ext_cells q0; have f1 := ext_cells q1; have f2 := ext_cells q2
  have S1 := S.ext X1
  clear x1 hc1 hf1 hz1_0 hl1_0 hl1_1 hl1_2 hl1_3
  apply Y.wp_region_ordY [(0, .new Zero (fun v w' => OwnR w' w1.heap.size 23 3 encR v []) _ zero0), (1, .det _), (2, .new (fun _ => True) (fun v w' => OwnR w' w1.heap.size 23 3 encR v l) undef trivial [0]), (3, .det _), (4, .new (fun _ => True) (Sl1 w1.heap.size 23 #[.int .i64 m.h, .int .i64 m.lo, .int .i64 m.hi]) undef trivial)] 5 Ext Ext (Ext w1) (fun _ => True) wide
    [(0,true),(1,true),(2,true),(3,true),(4,true)] [(0,[]),(1,[]),(2,[0]),(3,[]),(4,[])] (by kernel_rfl) (by kernel_rfl) rfl rfl (by simp [Y.Kd.new, Y.Kd.det, Y.kdOf]) (by decide) (fun _ _ h => h) (stable_ext _) stable_true (Ext.drawn _ _) trivial ?main
  case main =>
    apply Y.ordX_new (fun v => stable_own' _ _ _ _ _ _) rfl rfl
    · intro w' hw' _
      unfold opR
      go_simp
      exact ⟨Ext.alloc' _ _, ⟨_, rfl⟩, OwnR.lit w' #[] [] 0 rfl hw'.size rfl rfl (by simp [maxLen])⟩
    · intro v; (simp only [List.getElem_toArray, List.getElem_cons_succ, List.getElem_cons_zero, Act.put, List.setIfInBounds_toArray, List.set_cons_succ, List.set_cons_zero]; rfl)
    rintro v0 ⟨g0, rfl⟩
    (apply Y.ordX_det rfl rfl; (intro w' hw'; unfold opR; go_simp; exact ⟨Ext.refl _, rfl⟩); (simp only [List.getElem_toArray, List.getElem_cons_succ, List.getElem_cons_zero, Act.put, List.setIfInBounds_toArray, List.set_cons_succ, List.set_cons_zero]; rfl))
    apply Y.ordX_new (fun v => stable_own' _ _ _ _ _ _) rfl rfl
    · intro w' hw' hN
      refine opR_app0 et_row (.tmp 14) (.tmp 15) rfl (hN 0 (by simp)) rfl l v (S1.ext hw') rfl (fun _ _ => rfl) (by omega) hw'.size ?_
      intro v' w4 h1 h2 _
      exact ⟨h2, trivial, h1⟩
    · intro v; (simp only [List.getElem_toArray, List.getElem_cons_succ, List.getElem_cons_zero, Act.put, List.setIfInBounds_toArray, List.set_cons_succ, List.set_cons_zero]; rfl)
    intro v2 _
    (apply Y.ordX_det rfl rfl; (intro w' hw'; unfold opR; go_simp; exact ⟨Ext.refl _, rfl⟩); (simp only [List.getElem_toArray, List.getElem_cons_succ, List.getElem_cons_zero, Act.put, List.setIfInBounds_toArray, List.set_cons_succ, List.set_cons_zero]; rfl))
    apply Y.ordX_new (Sl1.stable _ _ _) rfl rfl
    · intro w' hw' _
      unfold opR
      go_simp
      exact ⟨Ext.alloc' _ _, Sl1.new w' _ _ hw'.size⟩
    · intro v; (simp only [List.getElem_toArray, List.getElem_cons_succ, List.getElem_cons_zero, Act.put, List.setIfInBounds_toArray, List.set_cons_succ, List.set_cons_zero]; rfl)
    intro v4 _
    refine Y.ordX_nil rfl ?_
    rintro w2 hw2 - ⟨⟨⟨-, o0⟩, o2⟩, g, rfl, hg, hrow⟩
    refine wpList_own_app et_row rfl (.tmp 16) (.tmp 18) rfl o2 rfl [m] ⟨g, 0, none⟩ 1 rfl (fun _ _ => rfl) (fun j u hu => row_news hrow j u hu) (by simp [encR, Value.oneCell']) (by simp; omega) hw2.size ?_
    intro v5 w5 o5 b5 a5 _
    have XB : Ext w1 w5 := Below.trans hw2 b5
    have S5 := o5.sl (fun _ _ => rfl) (by simp; omega)
    have SL := S1.ext XB
    have XW := X1.trans XB
    replace q0 := XB.cell q0
    replace q1 := XB.cell q1
    replace q2 := XB.cell q2
    clear o2 o0 hrow hg o5 b5 a5 hw2 XB S1 f0 f1 f2 X1
    have z0 := lt_of_cell q0
    simp only at z0
    go_wp2_with fail
    refine (predict_walk v l m.h _ (G.ext XW) SL).mono ?_
    rw [HP.out]
    rintro e w6 ⟨rfl, x6⟩
    have X6 := XW.trans x6
    replace S5 := S5.ext x6
    replace q0 := x6.cell q0
    replace q1 := x6.cell q1
    replace q2 := x6.cell q2
    replace z0 := lt_of_cell q0
    simp only at z0
    clear x6 SL XW
    go_wp2_with fail
    refine (rvalid_walk v5 (l ++ [m]) _ (G.ext (by repeat (first | with_reducible exact Ext.refl _ | with_reducible assumption | with_reducible apply Ext.alloc | with_reducible apply Ext.drew | (with_reducible refine Ext.setCell ?_ (by (try simp) <;> omega) _)))) (S5.ext (by repeat (first | with_reducible exact Ext.refl _ | with_reducible assumption | with_reducible apply Ext.alloc | with_reducible apply Ext.drew | (with_reducible refine Ext.setCell ?_ (by (try simp) <;> omega) _))))).mono ?_
    rintro e w7 ⟨rfl, x7⟩
    have y7 : Ext w6 w7 := Ext.trans (by repeat (first | with_reducible exact Ext.refl _ | with_reducible assumption | with_reducible apply Ext.alloc | with_reducible apply Ext.drew | (with_reducible refine Ext.setCell ?_ (by (try simp) <;> omega) _))) x7
    have k0 := x7.cell (alloc_cell w6 _ 26 0 _ rfl)
    have k1 := x7.cell (alloc_cell w6 _ 26 1 _ rfl)
    have X7 := X6.trans y7
    replace S5 := S5.ext y7
    replace q0 := y7.cell q0
    replace q1 := y7.cell q1
    replace q2 := y7.cell q2
    clear x7 y7 X6 z0
    cases hr : rowsOk (l ++ [m]) with
    | false =>
      go_wp2
      go_ret
      exact ⟨rfl, X7⟩
    | true =>
      by_cases he : pr.2 = 0
      · obtain ⟨n, te, hn, ⟨t, ht⟩, hte⟩ := HF.out hr he
        have HN := Lib.hid hn; have HT := Lib.hid ht
        clear hn ht hr
        go_wp2_with fail
        refine (tone_walk v5 (l ++ [m]) _ (G.ext (by repeat (first | with_reducible exact Ext.refl _ | with_reducible assumption | with_reducible apply Ext.alloc | with_reducible apply Ext.drew | (with_reducible refine Ext.setCell ?_ (by (try simp) <;> omega) _)))) (S5.ext (by repeat (first | with_reducible exact Ext.refl _ | with_reducible assumption | with_reducible apply Ext.alloc | with_reducible apply Ext.drew | (with_reducible refine Ext.setCell ?_ (by (try simp) <;> omega) _))))).mono ?_
        rw [HT.out]
        rintro e w8 ⟨rfl, x8⟩
        have X8 := X7.trans x8
        replace q0 := x8.cell q0
        replace q1 := x8.cell q1
        replace q2 := x8.cell q2
        replace k0 := x8.cell k0
        replace k1 := x8.cell k1
        have z0 := lt_of_cell q0
        have z1 := lt_of_cell k0
        simp only at z0 z1
        clear x8 X7 S5
        go_wp2_with fail
        refine (cmp_walk pr.1 ⟨m.lo, m.hi⟩ _).mono ?_
        rw [HN.out]
        rintro e w9 ⟨rfl, x9⟩
        have X9 : Ext w w9 := Ext.trans (by repeat (first | with_reducible exact Ext.refl _ | with_reducible assumption | with_reducible apply Ext.alloc | with_reducible apply Ext.drew | (with_reducible refine Ext.setCell ?_ (by (try simp) <;> omega) _))) x9
        rcases hte with ⟨rfl, rfl⟩ | ⟨rfl, hn0⟩
        · go_wp2
          go_ret
          exact ⟨rfl, X9⟩
        · have hnb : (n == 0) = false := by simpa using hn0
          go_wp2
          go_ret
          exact ⟨rfl, X9⟩
      · have heb : (pr.2 != 0) = true := by simpa using he
        go_wp2
        go_ret
        exact ⟨rfl, X7⟩

theorem partialPredicted_args (H : Type) (enc : TypeId × Value → H) (W : World) (base : Nat) (vs : List Value) (ds : List (DataW H)) (_ : ∀ k, (OpenSpec.ofChange Rows.partialPredictedSpec).cond = some k → k H ds = true) (hL : laidMetH Tryd.prog Rows.partialPredictedRow.laid W) (hA : Args enc Tryd.prog W base Tryd.f9.params.toList vs ds) :
    Calls Tryd.prog 9 vs.toArray W fun e W' => e = .returned (.bool true) ∧ Ext W W' := by
  rw [Tryd.params9] at hA
  obtain ⟨v0, _, d0, _, rfl, rfl, h0, hA⟩ := hA.cons
  obtain ⟨v1, _, d1, _, rfl, rfl, h1, hA⟩ := hA.cons
  obtain ⟨rfl, rfl⟩ := hA.nil
  obtain ⟨l, S, _, hn⟩ := arg_rows h0
  obtain ⟨m, rfl, _⟩ := arg_row h1
  exact pred_law_walk v0 l m hn W (gv_of hL) S

theorem partialPredicted_met (os : Os) : laidMet Tryd.prog Rows.partialPredictedRow.laid ((laidWorld os).forCall (fun _ _ => 0) ⟨#[], #[.slice none 0 0, .agg #[.int .i64 0, .int .i64 0, .int .i64 0]], []⟩).memory := laidMet_of_run' 8 (by kernel_rfl) (by kernel_rfl)
theorem partialPredicted_reads (os : Os) {H : Type} (enc : TypeId × Value → H) : ∃ places, DataW.whole enc Tryd.prog ((laidWorld os).forCall (fun _ _ => 0) ⟨#[], #[.slice none 0 0, .agg #[.int .i64 0, .int .i64 0, .int .i64 0]], []⟩).memory Tryd.f9.params.toList Rows.partialPredictedSpec.vars false #[.slice none 0 0, .agg #[.int .i64 0, .int .i64 0, .int .i64 0]].toList 8 = some ([.nil, .agg [.lit (.int .i64 0), .lit (.int .i64 0), .lit (.int .i64 0)]], [], places) := ⟨[], by kernel_rfl⟩
set_option maxRecDepth 100000 in
theorem partialPredicted_lifted (os : Os) (started : os.Started) (H : Type) (enc : TypeId × Value → H) (F : Stop.Interp) :
    ReturnsInHanded {} Tryd.checked os 9 .any ((OpenSpec.ofChange Rows.partialPredictedSpec).preRow enc Tryd.prog Tryd.f9 Rows.partialPredictedRow.domain false Rows.partialPredictedRow.laid) (((OpenSpec.ofChange Rows.partialPredictedSpec).at F).post enc Tryd.prog Tryd.f9 false true false false) := by
  obtain ⟨places, hx⟩ := partialPredicted_reads os enc
  exact law_row (C := Tryd.checked) (s := (OpenSpec.ofChange Rows.partialPredictedSpec)) (by kernel_rfl) started (by kernel_rfl) Tryd.func9
    (witness_row_at (enc := enc) (C := Tryd.checked) false (laidWorld os) #[.slice none 0 0, .agg #[.int .i64 0, .int .i64 0, .int .i64 0]] rfl (by kernel_rfl) (by kernel_rfl) (by kernel_rfl) (OpenSpec.preRow_of_cond 8 hx (by kernel_rfl) (fun k hk => by cases hk) (by kernel_rfl) (partialPredicted_met os)))
    (by kernel_rfl) (by kernel_rfl) (by kernel_rfl) rfl (fun ds h => by match ds, h with | [_, _], _ => rfl) (partialPredicted_args H enc)
theorem partialPredicted_said : Rows.PartialPredictedSaid :=
  OpenClaim.holds_of_cond 9 Tryd.f9 rfl rfl rfl rfl rfl rfl rfl ⟨rfl, rfl, rfl, rfl, rfl⟩ rfl rfl rfl rfl rfl (by kernel_rfl) Tryd.func9 (by kernel_rfl)
    (of_decide_eq_true (by kernel_rfl)) (by unfold Func.isWrapper; first | (rw [if_pos (by decide +kernel)]; kernel_rfl) | (rw [if_neg (by decide +kernel)]; exact ⟨rfl, rfl⟩))
    (fun os started H enc _ F => by rw [OpenClaim.pre_eq_preRow]; exact partialPredicted_lifted os started H enc F)
theorem partialPredicted_plain (f : FuncId) (fn : Func) (hf : Tryd.pinned.checked.prog.funcNamed "schisma/schismalaw37.PartialPredicted" = some f) (hfn : Tryd.pinned.checked.prog.funcs[f]? = some fn) :
    false = Tryd.pinned.checked.prog.looks [] ∧ ∀ (j : Nat) t, fn.params[j]? = some t → Tryd.pinned.checked.prog.wantsStandIn t = false := by
  obtain rfl : f = 9 := Option.some.inj ((show Tryd.prog.funcNamed "schisma/schismalaw37.PartialPredicted" = some 9 by kernel_rfl).symm.trans hf) |>.symm
  obtain rfl : fn = Tryd.f9 := (Option.some.inj (Tryd.func9.symm.trans hfn)).symm
  refine ⟨by kernel_rfl, fun j t ht => ?_⟩
  have hall : Tryd.f9.params.all (fun t => !Tryd.prog.wantsStandIn t) = true := by kernel_rfl
  have := (Array.all_eq_true'.1 hall) t (Array.mem_of_getElem? ht)
  have e : Tryd.prog.wantsStandIn t = false := by simpa using this
  exact e
/-- The card. -/
theorem partialPredicted_holds : Rows.PartialPredictedCardSaid :=
  Claim7.holds_tied_plain_at .later [] _ _ _ _ partialPredicted_said (fun _ h => by cases h) (by kernel_rfl) (fun _ h => by cases h) partialPredicted_row_tie rfl ⟨rfl, rfl⟩ (by kernel_rfl) rfl partialPredicted_plain (by kernel_rfl)
end Go.Proofs.YthhkpgbfefakeaaDoor
