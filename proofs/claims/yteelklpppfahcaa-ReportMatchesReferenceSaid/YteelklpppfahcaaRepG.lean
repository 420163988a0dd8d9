/-
  Walks: report.fold, ends.
-/
import Derived.Test.YteelklpppfahcaaRepF
namespace Go.Proofs.Yteelklpppfahcaa
open Go.RowKit Go.Sx Go.Sx.Rep
attribute [local go_sem] Oper.semAt_some wide_fn wide_depth

set_option maxRecDepth 100000 in
set_option maxHeartbeats 1000000 in
theorem fold_walk (g : Nat) (cap : Array Value) (q : Nat × Nat × Nat → Bool) (d : Int) (cv pv : Value) (l : List (Nat × Nat × Nat)) (ps : List Int) (w : World) (sp : Sl w 1 encU pv ps) (sc : Sl w 3 encCut cv l) (hlen : ps.length = l.length)
    (eg : ∀ args w, (callFunc g args).run Try.prog w = .ok (.enter g args) w)
    (hleft : ∀ c ∈ l, ∀ w', Ext w w' → Calls Try.prog g (#[.agg #[.int .i64 c.1, .int .i64 c.2.1, .int .i64 c.2.2]] ++ cap) w' fun e w'' => e = .returned (.bool (q c)) ∧ Ext w' w'') :
    Calls Try.prog 38 #[.int .u64 d, cv, pv, .func (.func g) #[] cap] w fun e w' => e = .returned (.int .u64 (foldF q d l ps)) ∧ Ext w w' := by
  have HLF := Lib.hid hleft
  clear hleft
  obtain ⟨pa, pc, hpv, hl1, hl2, hl3⟩ := sp.len
  obtain ⟨ca, cc, hcv, hc1, hc2, hc3⟩ := sc.len
  refine (callsIn_wide (n := 0)).1 ?_
  refine callsIn_of_wp_marks Try.func38 rfl trivial ?_ rfl
  simp only [Try.ntmps38, List.size_toArray, List.length_cons, List.length_nil, Nat.reduceAdd, Nat.reduceSub, Array.replicate_succ, Array.replicate_zero, List.push_toArray, List.append_toArray, List.nil_append, List.cons_append]
  subst hpv; subst hcv
  clear hl1 hl2 hc1 hc2
  have HLN := Lib.hid hlen
  clear hlen
  gi_wp2_with (gi_at_call 41; go_must (refine (callsIn_wide.2 (back_walk ca l.length cc _ rfl _)).mono ?_; rintro e w' ⟨rfl, rfl⟩))
  obtain ⟨S, hS⟩ : ∃ S : Nat, S = w.heap.size := ⟨_, rfl⟩
  obtain ⟨w1, hw1⟩ : ∃ w1, w.alloc (.cells #[.int .u64 d] 24) = w1 := ⟨_, rfl⟩
  obtain ⟨w2, hw2⟩ : ∃ w2, w1.alloc (.cells #[.slice pa ps.length pc] 27) = w2 := ⟨_, rfl⟩
  obtain ⟨w3, hw3⟩ : ∃ w3, w2.alloc (.cells #[.func (.func g) #[] cap] 65) = w3 := ⟨_, rfl⟩
  obtain ⟨w4, hw4⟩ : ∃ w4, w3.alloc (.cells #[.int .i64 0] 3) = w4 := ⟨_, rfl⟩
  obtain ⟨w5, hw5⟩ : ∃ w5, w4.alloc (.cells #[.slice ca l.length cc] 56) = w5 := ⟨_, rfl⟩
  have x1 : Ext w w1 := by rw [← hw1]; exact Ext.alloc' _ _
  have x2 : Ext w1 w2 := by rw [← hw2]; exact Ext.alloc' _ _
  have x3 : Ext w2 w3 := by rw [← hw3]; exact Ext.alloc' _ _
  have x4 : Ext w3 w4 := by rw [← hw4]; exact Ext.alloc' _ _
  have x5 : Ext w4 w5 := by rw [← hw5]; exact Ext.alloc' _ _
  have z1 : w1.heap.size = S + 1 := by rw [← hw1, hS]; simp
  have z2 : w2.heap.size = S + 2 := by rw [← hw2]; simp; omega
  have z3 : w3.heap.size = S + 3 := by rw [← hw3]; simp; omega
  have z4 : w4.heap.size = S + 4 := by rw [← hw4]; simp; omega
  have z5 : w5.heap.size = S + 5 := by rw [← hw5]; simp; omega
  have b0 : Boxed w1 S 24 (.int .u64 d) := by rw [← hw1, hS]; exact Boxed.new _ _ _
  have b1 : Boxed w2 (S + 1) 27 (.slice pa ps.length pc) := by rw [← hw2, ← z1]; exact Boxed.new _ _ _
  have b2 : Boxed w3 (S + 2) 65 (.func (.func g) #[] cap) := by rw [← hw3, ← z2]; exact Boxed.new _ _ _
  have b3 : Boxed w4 (S + 3) 3 (.int .i64 0) := by rw [← hw4, ← z3]; exact Boxed.new _ _ _
  have b4 : Boxed w5 (S + 4) 56 (.slice ca l.length cc) := by rw [← hw5, ← z4]; exact Boxed.new _ _ _
  have b0' := (((b0.ext x2).ext x3).ext x4).ext x5
  have b1' := ((b1.ext x3).ext x4).ext x5
  have b2' := (b2.ext x4).ext x5
  have b3' := b3.ext x5
  have hx := (((x1.trans x2).trans x3).trans x4).trans x5
  rw [hw1, hw2, hw3, hw4, hw5]
  simp only [← hS]
  clear b0 b1 b2 b3 hw1 hw2 hw3 hw4 hw5 x1 x2 x3 x4 x5 z1 z2 z3 z4 w1 w2 w3 w4
  have hSw : w.heap.size = S := hS.symm
  clear hS
  have hBS : S ≤ w5.heap.size := by omega
  have sp0 := (sp.slB (by omega)).mono (Nat.le_of_eq hSw)
  have sc0 := (sc.slB (by omega)).mono (Nat.le_of_eq hSw)
  refine wpIn_range (gf := 50) (lb := #[.pointer (some ⟨S + 4, 0, none⟩)]) rfl (enters_of Try.func50 (by kernel_rfl) rfl) (back_iter (S + 4) (.slice ca l.length cc) l) (fun _ => rfl)
    (fun k W => Boxed W S 24 (.int .u64 (foldK q d l ps k)) ∧ Boxed W (S + 1) 27 (.slice pa ps.length pc) ∧ Boxed W (S + 2) 65 (.func (.func g) #[] cap) ∧ Boxed W (S + 3) 3 (.int .i64 k) ∧ Boxed W (S + 4) 56 (.slice ca l.length cc) ∧ SlB W S 1 encU (.slice pa ps.length pc) ps ∧ SlB W S 3 encCut (.slice ca l.length cc) l ∧ Ext w W)
    (fun _ _ => False)
    (fun k => .and .boxed (.and .boxed (.and .boxed (.and .boxed (.and .boxed (.and .slB (.and .slB (.extw (by omega)))))))))
    (fun c => .false) (fun k W h => ⟨h.2.2.2.2.1.cell, h.2.2.2.2.2.2.1.1⟩)
    ⟨b0', b1', b2', b3', b4, sp0.below hx (by omega), sc0.below hx (by omega), hx⟩ ?round ?done ?stop
  case stop => intro D c W _ h; exact h.elim
  case done =>
    rintro D W hD ⟨h0, _, _, _, _, _, _, hbw⟩ hdef
    rw [backL_len, foldK_all q d l ps (by rw [HLN.out]; exact Nat.le_refl _)] at h0
    have hcv := h0.cell
    gi_wp2
    refine bodyPostM_ret rfl hdef (fun W' _ => results_tmp rfl _ _ _) (fun W' hs => ⟨rfl, Below.trans hbw (hs.below (by omega))⟩)
  case round =>
    rintro lr k W hk hIk hle hlt
    rw [backL_len] at hk
    obtain ⟨m, hm⟩ : ∃ m : Nat, m = l.length - 1 - k := ⟨_, rfl⟩
    have hml : m < l.length := by omega
    have hkp : k < ps.length := by rw [HLN.out]; exact hk
    rw [backL_get' l k m hm hml]
    simp only [encBack]
    obtain ⟨c, hc0⟩ : ∃ c, c = l[m] := ⟨_, rfl⟩
    have hcm : c ∈ l := by rw [hc0]; exact List.getElem_mem _
    have hbt := foldK_succ q d l ps k m hm hk hml hkp
    rw [← hc0] at hbt ⊢
    have HLC := Lib.hid (HLF.out c hcm)
    obtain ⟨c0, c1, c2⟩ := c
    have HK := Lib.hid hbt
    clear hbt hm hc0
    gi_wp2
    refine ⟨KeepsOthers.alloc _ _, fun W2 hs2 => ?_⟩
    obtain ⟨h0, h1, h2, h3, h4, sp2, sc2, hbw⟩ := hIk
    have hx1 := Ext.alloc' W (.cells #[.int .i64 c0, .int .i64 c1, .int .i64 c2] 64)
    have e0 := (hs2.cell _).trans (alloc_cell W #[.int .i64 c0, .int .i64 c1, .int .i64 c2] 64 0 (.int .i64 c0) rfl)
    have e1 := (hs2.cell _).trans (alloc_cell W #[.int .i64 c0, .int .i64 c1, .int .i64 c2] 64 1 (.int .i64 c1) rfl)
    have e2 := (hs2.cell _).trans (alloc_cell W #[.int .i64 c0, .int .i64 c1, .int .i64 c2] 64 2 (.int .i64 c2) rfl)
    replace h0 := hs2.boxed (h0.ext hx1)
    replace h1 := hs2.boxed (h1.ext hx1)
    replace h2 := hs2.boxed (h2.ext hx1)
    replace h3 := hs2.boxed (h3.ext hx1)
    replace h4 := hs2.boxed (h4.ext hx1)
    replace sp2 : SlB W2 S 1 encU _ ps := ⟨hs2.sl (sp2.1.ext hx1), sp2.2⟩
    replace sc2 : SlB W2 S 3 encCut _ l := ⟨hs2.sl (sc2.1.ext hx1), sc2.2⟩
    have hbW : Below S w W2 := by
      have := (hbw.trans hx1).trans (Ext.refl _)
      have h9 : Below S w (W.alloc (.cells #[.int .i64 c0, .int .i64 c1, .int .i64 c2] 64)) := Below.mono this (by omega)
      exact h9.trans (hs2.below (by omega))
    have hW2S : S ≤ W2.heap.size := by have := hbW.size; omega
    have hbWx : Ext w W2 := Ext.of_below (by rw [hSw]; exact hbW)
    have g2 := h2.cell
    clear hx1 hbw
    gi_wp2_with fail
    refine (CallsIn.inRound lr (callsIn_wide.2 (HLC.out W2 hbWx))).mono ?_
    rintro e W3 ⟨rfl, hx3⟩
    have hW3S : S ≤ W3.heap.size := by have := hx3.size; omega
    replace h0 := h0.ext hx3
    replace h1 := h1.ext hx3
    replace h2 := h2.ext hx3
    replace h3 := h3.ext hx3
    replace h4 := h4.ext hx3
    have sp3 := sp2.below hx3 hW2S
    have sc3 := sc2.below hx3 hW2S
    obtain ⟨b0, o0, rfl, hpk⟩ := sp3.1.at1 k hkp
    simp only [encU, List.getD_cons_zero] at hpk
    have g0 := ext_cells h0.cell
    have g1 := ext_cells h1.cell
    have g3 := ext_cells h3.cell
    have gp := ext_cells hpk
    clear hpk e0 e1 e2 g2
    cases hq : q (c0, c1, c2) with
    | true =>
      have HQ := Lib.hid (show (if q (c0, c1, c2) = true then node (foldK q d l ps k) ps[k] else node ps[k] (foldK q d l ps k)) = node (foldK q d l ps k) ps[k] by rw [if_pos hq])
      clear hq
      gi_wp2
      refine wpIn_region_ord [(0,true),(1,true),(2,true),(3,true),(4,true),(5,true)] 6 Ext (Ext W3) wide (by kernel_rfl) (by rintro ⟨_, _, h⟩; exact h) (stable_ext _) (Ext.drawn _ _) ?_
      iterate 5 (apply wpOrd_det rfl rfl; (intro w' hw'; unfold opR; go_simp; exact ⟨Ext.refl _, rfl⟩); (simp only [List.getElem_toArray, List.getElem_cons_succ, List.getElem_cons_zero, Act.put, List.setIfInBounds_toArray, List.set_cons_succ, List.set_cons_zero]; rfl))
      (apply wpOrd_det rfl rfl; (intro w' hw'; refine opR_call rfl (Go.Proofs.enters_of Try.func22 (by kernel_rfl) rfl) (by simp only [List.map_toArray, List.map_cons, List.map_nil, Act.eval, Array.getD_eq_getD_getElem?, List.getElem?_toArray, List.getElem?_cons_succ, List.getElem?_cons_zero, Option.getD_some]; rfl) ?_; refine (node_walk _ _ w').mono ?_; rintro e w4 ⟨rfl, hx⟩; exact ⟨_, rfl, hx, rfl⟩); (simp only [List.getElem_toArray, List.getElem_cons_succ, List.getElem_cons_zero, Act.put, List.setIfInBounds_toArray, List.set_cons_succ, List.set_cons_zero]; rfl))
      refine wpOrd_nil (l := [_]) rfl ?_
      intro w4 hw4
      have k0 := (h0.ext hw4).cell
      have k0f := (h0.ext hw4).frozen
      have k3 := ((h3.ext hw4).set' (p := ⟨S, 0, none⟩) (by simp) (.int .u64 (node (foldK q d l ps k) ps[k]))).cell
      have k3f := ((h3.ext hw4).set' (p := ⟨S, 0, none⟩) (by simp) (.int .u64 (node (foldK q d l ps k) ps[k]))).frozen
      go_wp2
      gi_wp2
      refine ⟨((KeepsOthers.ext (hx3.trans hw4)).trans (KeepsOthers.setCell _ _ _)).trans (KeepsOthers.setCell _ _ _), ?_, ?_, ?_, ?_, ?_, ?_, ?_, ?_⟩
      · have := ((h0.ext hw4).set (.int .u64 (node (foldK q d l ps k) ps[k]))).set' (p := ⟨S + 3, 0, none⟩) (by simp) (.int .i64 (k + 1))
        rw [HK.out, HQ.out]; exact this
      · exact ((h1.ext hw4).set' (by simp) _).set' (by simp) _
      · exact ((h2.ext hw4).set' (by simp) _).set' (by simp) _
      · have := ((h3.ext hw4).set' (p := ⟨S, 0, none⟩) (by simp) (.int .u64 (node (foldK q d l ps k) ps[k]))).set (.int .i64 (k + 1))
        exact this
      · exact ((h4.ext hw4).set' (by simp) _).set' (by simp) _
      · exact ((sp3.below hw4 hW3S).below ((Below.refl S _).setCell (Nat.le_refl _) _) (Nat.le_refl _)).below ((Below.refl S _).setCell (show S ≤ S + 3 by omega) _) (Nat.le_refl _)
      · exact ((sc3.below hw4 hW3S).below ((Below.refl S _).setCell (Nat.le_refl _) _) (Nat.le_refl _)).below ((Below.refl S _).setCell (show S ≤ S + 3 by omega) _) (Nat.le_refl _)
      · exact Ext.of_below (by rw [hSw]; exact (((hbW.trans (hx3.below hW2S)).trans (hw4.below hW3S)).setCell (Nat.le_refl _) _).setCell (show S ≤ S + 3 by omega) _)
    | false =>
      have HQ := Lib.hid (show (if q (c0, c1, c2) = true then node (foldK q d l ps k) ps[k] else node ps[k] (foldK q d l ps k)) = node ps[k] (foldK q d l ps k) by rw [if_neg (by rw [hq]; decide)])
      clear hq
      gi_wp2
      refine wpIn_region_ord [(0,true),(1,true),(2,true),(3,true),(4,true),(5,true)] 6 Ext (Ext W3) wide (by kernel_rfl) (by rintro ⟨_, _, h⟩; exact h) (stable_ext _) (Ext.drawn _ _) ?_
      iterate 5 (apply wpOrd_det rfl rfl; (intro w' hw'; unfold opR; go_simp; exact ⟨Ext.refl _, rfl⟩); (simp only [List.getElem_toArray, List.getElem_cons_succ, List.getElem_cons_zero, Act.put, List.setIfInBounds_toArray, List.set_cons_succ, List.set_cons_zero]; rfl))
      (apply wpOrd_det rfl rfl; (intro w' hw'; refine opR_call rfl (Go.Proofs.enters_of Try.func22 (by kernel_rfl) rfl) (by simp only [List.map_toArray, List.map_cons, List.map_nil, Act.eval, Array.getD_eq_getD_getElem?, List.getElem?_toArray, List.getElem?_cons_succ, List.getElem?_cons_zero, Option.getD_some]; rfl) ?_; refine (node_walk _ _ w').mono ?_; rintro e w4 ⟨rfl, hx⟩; exact ⟨_, rfl, hx, rfl⟩); (simp only [List.getElem_toArray, List.getElem_cons_succ, List.getElem_cons_zero, Act.put, List.setIfInBounds_toArray, List.set_cons_succ, List.set_cons_zero]; rfl))
      refine wpOrd_nil (l := [_]) rfl ?_
      intro w4 hw4
      have k0 := (h0.ext hw4).cell
      have k0f := (h0.ext hw4).frozen
      have k3 := ((h3.ext hw4).set' (p := ⟨S, 0, none⟩) (by simp) (.int .u64 (node ps[k] (foldK q d l ps k)))).cell
      have k3f := ((h3.ext hw4).set' (p := ⟨S, 0, none⟩) (by simp) (.int .u64 (node ps[k] (foldK q d l ps k)))).frozen
      go_wp2
      gi_wp2
      refine ⟨((KeepsOthers.ext (hx3.trans hw4)).trans (KeepsOthers.setCell _ _ _)).trans (KeepsOthers.setCell _ _ _), ?_, ?_, ?_, ?_, ?_, ?_, ?_, ?_⟩
      · have := ((h0.ext hw4).set (.int .u64 (node ps[k] (foldK q d l ps k)))).set' (p := ⟨S + 3, 0, none⟩) (by simp) (.int .i64 (k + 1))
        rw [HK.out, HQ.out]; exact this
      · exact ((h1.ext hw4).set' (by simp) _).set' (by simp) _
      · exact ((h2.ext hw4).set' (by simp) _).set' (by simp) _
      · have := ((h3.ext hw4).set' (p := ⟨S, 0, none⟩) (by simp) (.int .u64 (node ps[k] (foldK q d l ps k)))).set (.int .i64 (k + 1))
        exact this
      · exact ((h4.ext hw4).set' (by simp) _).set' (by simp) _
      · exact ((sp3.below hw4 hW3S).below ((Below.refl S _).setCell (Nat.le_refl _) _) (Nat.le_refl _)).below ((Below.refl S _).setCell (show S ≤ S + 3 by omega) _) (Nat.le_refl _)
      · exact ((sc3.below hw4 hW3S).below ((Below.refl S _).setCell (Nat.le_refl _) _) (Nat.le_refl _)).below ((Below.refl S _).setCell (show S ≤ S + 3 by omega) _) (Nat.le_refl _)
      · exact Ext.of_below (by rw [hSw]; exact (((hbW.trans (hx3.below hW2S)).trans (hw4.below hW3S)).setCell (Nat.le_refl _) _).setCell (show S ≤ S + 3 by omega) _)


theorem left_walk (i : Int) (b : Nat) (c : Nat × Nat × Nat) (w : World) (hb : Boxed w b 3 (.int .i64 i)) :
    Calls Try.prog 39 #[.agg #[.int .i64 c.1, .int .i64 c.2.1, .int .i64 c.2.2], .pointer (some ⟨b, 0, none⟩)] w fun e w' => e = .returned (.bool (decide (i < c.2.1))) ∧ Ext w w' := by
  obtain ⟨c0, c1, c2⟩ := c
  have hc := (hb.ext (Ext.alloc' w (.cells #[.int .i64 c0, .int .i64 c1, .int .i64 c2] 64))).cell
  go_enter Try.func39, Try.ntmps39
  go_wp2
  go_ret
  exact ⟨rfl, (by repeat (first | exact Ext.refl _ | assumption | apply Ext.alloc | apply Ext.drew | (refine Ext.setCell ?_ (by simp) _)))⟩
theorem before_walk (i : Int) (b : Nat) (c : Nat × Nat × Nat) (w : World) (hb : Boxed w b 3 (.int .i64 i)) :
    Calls Try.prog 42 #[.agg #[.int .i64 c.1, .int .i64 c.2.1, .int .i64 c.2.2], .pointer (some ⟨b, 0, none⟩)] w fun e w' => e = .returned (.bool (decide (i ≤ c.2.1))) ∧ Ext w w' := by
  obtain ⟨c0, c1, c2⟩ := c
  have hc := (hb.ext (Ext.alloc' w (.cells #[.int .i64 c0, .int .i64 c1, .int .i64 c2] 64))).cell
  go_enter Try.func42, Try.ntmps42
  go_wp2
  go_ret
  exact ⟨rfl, (by repeat (first | exact Ext.refl _ | assumption | apply Ext.alloc | apply Ext.drew | (refine Ext.setCell ?_ (by simp) _)))⟩
theorem endp_walk (m b lo hi : Nat) (w : World) (hb : Boxed w b 3 (.int .i64 m)) :
    Calls Try.prog 49 #[.int .i64 lo, .int .i64 hi, .pointer (some ⟨b, 0, none⟩)] w fun e w' => e = .returned (.bool (endp m lo hi)) ∧ Ext w w' := by
  have hc := hb.cell
  by_cases h : hi = m
  · have h' : ((hi : Int) == m) = true := beq_iff_eq.2 (by omega)
    go_enter Try.func49, Try.ntmps49
    go_wp2
    go_ret
    exact ⟨by simp [endp, h], (by repeat (first | exact Ext.refl _ | assumption | apply Ext.alloc | apply Ext.drew | (refine Ext.setCell ?_ (by simp) _)))⟩
  · have h' : ((hi : Int) == m) = false := beq_eq_false_iff_ne.2 (by omega)
    go_enter Try.func49, Try.ntmps49
    go_wp2
    go_ret
    exact ⟨by simp [endp, h], (by repeat (first | exact Ext.refl _ | assumption | apply Ext.alloc | apply Ext.drew | (refine Ext.setCell ?_ (by simp) _)))⟩

set_option maxHeartbeats 400000 in
theorem ends_walk (m n : Nat) (w : World) (h1 : 1 ≤ m) (h2 : m ≤ n) (hn : n ≤ 1073741824) :
    Calls Try.prog 40 #[.int .i64 m, .int .i64 n] w fun e w' =>
      ∃ v, e = .returned (.tuple #[v, .int .i64 ((endsAll m n).2.1 : Nat), .int .i64 ((endsAll m n).2.2 : Nat)]) ∧ OwnR w' w.heap.size 64 3 encCut v (endsAll m n).1 ∧ Ext w w' := by
  have hb := Boxed.new w 3 (.int .i64 m)
  have hx := Ext.alloc' w (.cells #[.int .i64 m] 3)
  have C := Lib.hid (cuts_walk 49 #[.pointer (some ⟨w.heap.size, 0, none⟩)] (endp m) (m - 1) n (w.alloc (.cells #[.int .i64 m] 3)) (by omega) hn (enters_of Try.func49 (by kernel_rfl) rfl) (endp_ok m h1)
    (fun lo hi w1 _ _ _ hxx => endp_walk m w.heap.size lo hi w1 (hb.ext hxx)))
  have hmi : (m : Int) - 1 = ((m - 1 : Nat) : Int) := by omega
  have hc := hb.cell
  go_enter Try.func40, Try.ntmps40
  go_wp2_with fail
  refine C.out.mono ?_
  rintro e w1 ⟨v, rfl, hv, hx1⟩
  go_wp2
  go_ret3
  exact ⟨v, rfl, hv.mono (by simp), hx.trans hx1⟩

set_option maxHeartbeats 1000000 in
theorem check_walk (rt leaf i n : Int) (pv : Value) (ps : List Int) (w : World) (S : Sl w 1 encU pv ps) :
    Calls Try.prog 14 #[.int .u64 rt, .int .u64 leaf, .int .i64 i, .int .i64 n, pv] w fun e w' => e = .returned (.bool (checkF rt leaf i n ps)) ∧ Ext w w' := by
  obtain ⟨a?, cap, rfl, h1, h2, h3⟩ := S.len
  clear h1 h2
  have hc := (Boxed.new w 3 (.int .i64 i)).cell
  by_cases c1 : n < 1
  · have hF : checkF rt leaf i n ps = false := if_pos (.inl c1)
    rw [hF]; clear hF
    go_enter Try.func14, Try.ntmps14
    go_wp2
    go_ret
    exact ⟨rfl, (by repeat (first | exact Ext.refl _ | assumption | apply Ext.alloc | apply Ext.drew | (refine Ext.setCell ?_ (by simp) _)))⟩
  by_cases c2 : 1024 < n
  · have hF : checkF rt leaf i n ps = false := if_pos (.inr (.inl c2))
    rw [hF]; clear hF
    go_enter Try.func14, Try.ntmps14
    go_wp2
    go_ret
    exact ⟨rfl, (by repeat (first | exact Ext.refl _ | assumption | apply Ext.alloc | apply Ext.drew | (refine Ext.setCell ?_ (by simp) _)))⟩
  by_cases c3 : i < 0
  · have hF : checkF rt leaf i n ps = false := if_pos (.inr (.inr (.inl c3)))
    rw [hF]; clear hF
    go_enter Try.func14, Try.ntmps14
    go_wp2
    go_ret
    exact ⟨rfl, (by repeat (first | exact Ext.refl _ | assumption | apply Ext.alloc | apply Ext.drew | (refine Ext.setCell ?_ (by simp) _)))⟩
  by_cases c4 : n ≤ i
  · have hF : checkF rt leaf i n ps = false := if_pos (.inr (.inr (.inr c4)))
    rw [hF]; clear hF
    go_enter Try.func14, Try.ntmps14
    go_wp2
    go_ret
    exact ⟨rfl, (by repeat (first | exact Ext.refl _ | assumption | apply Ext.alloc | apply Ext.drew | (refine Ext.setCell ?_ (by simp) _)))⟩
  obtain ⟨j, rfl⟩ := Int.eq_ofNat_of_zero_le (show 0 ≤ i by omega)
  obtain ⟨N, rfl⟩ := Int.eq_ofNat_of_zero_le (show 0 ≤ n by omega)
  have hF : checkF rt leaf j N ps = ((ps.length == (cutsAll onep j N).1.length) && foldF (fun c => decide (j < c.2.1)) leaf (cutsAll onep j N).1 ps == rt) := by
    unfold checkF; rw [if_neg (by omega)]; rfl
  have HF := Lib.hid hF
  clear hF
  have hj : j < N := by omega
  have hb := Boxed.new w 3 (.int .i64 j)
  have hx := Ext.alloc' w (.cells #[.int .i64 j] 3)
  have C := Lib.hid (fun w' => cuts_walk 35 #[] onep j N w' hj (by omega) (enters_of Try.func35 (by kernel_rfl) rfl) (onep_ok j)
    (fun lo hi w1 h1 h2 h3 _ => one_walk lo hi w1 (by omega) (by omega)))
  have hlen := cutsF_len onep j N 0 N
  have HL := Lib.hid (show (cutsAll onep j N).1.length ≤ N from hlen)
  clear hlen
  by_cases hlen : ps.length = (cutsAll onep j N).1.length
  · have hl' : ((ps.length : Int) == (cutsAll onep j N).1.length) = true := beq_iff_eq.2 (by omega)
    have hl2 : (ps.length == (cutsAll onep j N).1.length) = true := beq_iff_eq.2 hlen
    have HLE := Lib.hid hlen
    clear hlen
    go_enter Try.func14, Try.ntmps14
    go_wp2_with fail
    refine (C.out _).mono ?_
    rintro e w2 ⟨cv, rfl, hcv, hx2⟩
    obtain ⟨ca, cc, rfl⟩ := hcv.len
    have hsl := (S.ext hx).ext hx2
    have hcl := hcv.sl (by simp [encCut]) (by have := HL.out; omega)
    go_wp2_with fail
    refine (fold_walk 39 #[.pointer (some ⟨w.heap.size, 0, none⟩)] (fun c => decide (j < c.2.1)) leaf _ _ (cutsAll onep j N).1 ps w2 hsl hcl HLE.out (enters_of Try.func39 (by kernel_rfl) rfl)
      (fun c _ w3 hx3 => (left_walk j w.heap.size c w3 ((hb.ext hx2).ext hx3)).mono fun e w4 h => ⟨by rw [h.1]; simp, h.2⟩)).mono ?_
    rintro e w3 ⟨rfl, hx3⟩
    go_wp2
    go_ret
    exact ⟨by rw [HF.out, hl2]; simp, (hx.trans hx2).trans hx3⟩
  · have hl' : ((ps.length : Int) == (cutsAll onep j N).1.length) = false := beq_eq_false_iff_ne.2 (by omega)
    have hl2 : (ps.length == (cutsAll onep j N).1.length) = false := beq_eq_false_iff_ne.2 hlen
    clear hlen
    go_enter Try.func14, Try.ntmps14
    go_wp2_with fail
    refine (C.out _).mono ?_
    rintro e w2 ⟨cv, rfl, hcv, hx2⟩
    obtain ⟨ca, cc, rfl⟩ := hcv.len
    go_wp2
    go_ret
    exact ⟨by rw [HF.out, hl2]; simp, hx.trans hx2⟩
end Go.Proofs.Yteelklpppfahcaa
