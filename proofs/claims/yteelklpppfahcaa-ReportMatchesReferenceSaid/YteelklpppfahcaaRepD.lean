/-
  Walks: slices.Backward over cuts; its callers in package report.
-/
import Derived.Test.YteelklpppfahcaaRepC
import Derived.Test.YteelklpppfahcaaRg
namespace Go.Proofs.Yteelklpppfahcaa
open Go.RowKit Go.Sx Go.Sx.Rep
attribute [local go_sem] Oper.semAt_some wide_fn wide_depth

def encCut (c : Nat × Nat × Nat) : List Value := [.int .i64 c.1, .int .i64 c.2.1, .int .i64 c.2.2]

/-- The elements from the last to the first, with their indices. -/
def backL {α : Type} (l : List α) : List (Nat × α) := (l.zipIdx.map fun p => (p.2, p.1)).reverse
theorem backL_len {α : Type} (l : List α) : (backL l).length = l.length := by simp [backL]
theorem backL_get {α : Type} (l : List α) (k : Nat) (h : k < (backL l).length) : (backL l)[k] = (l.length - 1 - k, l[l.length - 1 - k]'(by rw [backL_len] at h; omega)) := by
  simp [backL, List.getElem_reverse]

theorem backL_get' {α : Type} (l : List α) (k m : Nat) (hm : m = l.length - 1 - k) (hml : m < l.length) (h : k < (backL l).length) : (backL l)[k] = (m, l[m]) := by
  subst hm; exact backL_get l k h

def encBack (p : Nat × Nat × Nat × Nat) : Array Value := #[.int .i64 p.1, .agg #[.int .i64 p.2.1, .int .i64 p.2.2.1, .int .i64 p.2.2.2]]

set_option maxRecDepth 100000 in
set_option maxHeartbeats 1000000 in
theorem back_iter (Bs : Nat) (v : Value) (l : List (Nat × Nat × Nat)) :
    IterC Try.prog 50 #[.pointer (some ⟨Bs, 0, none⟩)] encBack (backL l) (fun W => W.cell? ⟨Bs, 0, none⟩ = some v ∧ Sl W 3 encCut v l) := by
  intro y J Jx W hJ hJx hN hY h0
  rw [backL_len] at *
  obtain ⟨hb0, hs0⟩ := hN _ _ h0
  obtain ⟨a?, cap, rfl, h1, h2, h3⟩ := hs0.len
  clear h1 h2 hs0
  refine callsIn_of_wp Try.func50 rfl trivial ?_ rfl
  simp only [Try.ntmps50, List.size_toArray, List.length_cons, List.length_nil, Nat.reduceAdd, Nat.reduceSub, Array.replicate_succ, Array.replicate_zero, List.push_toArray, List.append_toArray, List.nil_append, List.cons_append]
  gi_wp2
  gi_loopw [3] (fun i wr => ∃ k : Nat, k ≤ l.length ∧ i = .int .i64 ((l.length : Int) - 1 - (k : Int)) ∧ J k wr) (fun i _ => (intOf i + 1).toNat)
  case atStart => exact ⟨0, Nat.zero_le _, by simp, h0⟩
  case round =>
    obtain ⟨k, hk, rfl, hJk⟩ := hrel
    obtain ⟨hb, hs⟩ := hN _ _ hJk
    clear hb0
    by_cases hlt : k < l.length
    · obtain ⟨m, hm⟩ : ∃ m : Nat, m = l.length - 1 - k := ⟨_, rfl⟩
      have hmi : (l.length : Int) - 1 - (k : Int) = (m : Int) := by omega
      have hml : m < l.length := by omega
      obtain ⟨b0, o0, rfl, hc⟩ := hs.at (by omega) m hml
      have c0 := hc 0 (by omega)
      have c1 := hc 1 (by omega)
      have c2 := hc 2 (by omega)
      simp only [encCut, List.getD_cons_zero, List.getD_cons_succ, Nat.add_zero] at c0 c1 c2
      obtain ⟨fn, tmps, assign, body, hy, hR⟩ := hY k wr (by rw [backL_len]; exact hlt) hJk
      rw [backL_get' l k m hm hml] at hy
      simp only [encBack] at hy
      rw [hmi]
      have HM := Lib.hid hm
      clear hc hs hm hmi
      gi_wp2
      refine hR.mono ?_
      rintro e W3 (⟨rfl, hJ3⟩ | ⟨rfl, hJx3⟩)
      · gi_wp2
        go_roundw
        case rel => exact ⟨k + 1, by omega, congrArg (Value.int .i64) (by have := HM.out; omega), hJ3⟩
        case measure => have := HM.out; simp [intOf] <;> omega
      · gi_wp2
        refine bodyPost_ret (results_none rfl _ _ _) rfl ?_
        exact ⟨⟨_, rfl⟩, .inr hJx3⟩
    · obtain rfl : k = l.length := by omega
      clear hs
      gi_wp2
      refine bodyPost_end (results_none rfl _ _ _) rfl ?_
      exact ⟨⟨_, rfl⟩, .inl hJk⟩

theorem back_walk (a? : Option Addr) (n c : Nat) (v : Value) (hv : v = .slice a? n c) (w : World) :
    Calls Try.prog 41 #[v] w fun e w' => e = .returned (.func (.func 50) #[] #[.pointer (some ⟨w.heap.size, 0, none⟩)]) ∧ w.alloc (.cells #[v] 56) = w' := by
  subst hv
  go_enter Try.func41, Try.ntmps41
  go_wp2
  go_ret
  exact ⟨rfl, rfl⟩

def cutOk (n : Nat) (c : Nat × Nat × Nat) : Prop := c.1 < c.2.1 ∧ c.2.1 < c.2.2 ∧ c.2.2 ≤ n

set_option maxRecDepth 100000 in
set_option maxHeartbeats 1000000 in
theorem beside_walk (B : Nat) (ov lv cv : Value) (out xs : List Int) (i : Nat) (l : List (Nat × Nat × Nat)) (w : World) (hB : B ≤ w.heap.size) (ho : OwnR w B 24 1 encU ov out) (hl : SlB w B 1 encU lv xs) (hc : SlB w B 3 encCut cv l)
    (hok : ∀ c ∈ l, cutOk xs.length c) (hlen : (out.length + l.length) * 8 ≤ 140737488355328) :
    Calls Try.prog 36 #[ov, lv, .int .i64 i, cv] w fun e w' => ∃ v', e = .returned v' ∧ OwnR w' B 24 1 encU v' (out ++ besF xs i l) ∧ Below B w w' := by
  obtain ⟨oa, oc, hov⟩ := ho.len
  obtain ⟨la, lc, hlv, hl1, hl2, hl3⟩ := hl.1.len
  obtain ⟨ca, cc, hcv, hc1, hc2, hc3⟩ := hc.1.len
  refine (callsIn_wide (n := 0)).1 ?_
  refine callsIn_of_wp_marks Try.func36 rfl trivial ?_ rfl
  simp only [Try.ntmps36, List.size_toArray, List.length_cons, List.length_nil, Nat.reduceAdd, Nat.reduceSub, Array.replicate_succ, Array.replicate_zero, List.push_toArray, List.append_toArray, List.nil_append, List.cons_append]
  subst hov; subst hlv; subst hcv
  clear hl1 hl2 hc1 hc2
  gi_wp2_with (gi_at_call 41; go_must (refine (callsIn_wide.2 (back_walk ca l.length cc _ rfl _)).mono ?_; rintro e w' ⟨rfl, rfl⟩))
  obtain ⟨S, hS⟩ : ∃ S : Nat, S = w.heap.size := ⟨_, rfl⟩
  have b0 := (((Boxed.new w 27 (.slice oa out.length oc)).alloc (.cells #[.slice la xs.length lc] 27)).alloc (.cells #[.int .i64 i] 3)).alloc (.cells #[.slice ca l.length cc] 56)
  have c1 := (((Boxed.new (w.alloc (.cells #[.slice oa out.length oc] 27)) 27 (.slice la xs.length lc)).alloc (.cells #[.int .i64 i] 3)).alloc (.cells #[.slice ca l.length cc] 56))
  have c2 := ((Boxed.new ((w.alloc (.cells #[.slice oa out.length oc] 27)).alloc (.cells #[.slice la xs.length lc] 27)) 3 (.int .i64 i)).alloc (.cells #[.slice ca l.length cc] 56))
  have c3 := (Boxed.new (((w.alloc (.cells #[.slice oa out.length oc] 27)).alloc (.cells #[.slice la xs.length lc] 27)).alloc (.cells #[.int .i64 i] 3)) 56 (.slice ca l.length cc))
  have hx := ((((Ext.refl w).alloc (.cells #[.slice oa out.length oc] 27)).alloc (.cells #[.slice la xs.length lc] 27)).alloc (.cells #[.int .i64 i] 3)).alloc (.cells #[.slice ca l.length cc] 56)
  obtain ⟨W0, hW0⟩ : ∃ W0, (((w.alloc (.cells #[.slice oa out.length oc] 27)).alloc (.cells #[.slice la xs.length lc] 27)).alloc (.cells #[.int .i64 i] 3)).alloc (.cells #[.slice ca l.length cc] 56) = W0 := ⟨_, rfl⟩
  have hsz : W0.heap.size = S + 4 := by rw [← hW0, hS]; simp
  rw [hW0] at b0 c1 c2 c3 hx ⊢
  simp only [World.size_alloc, ← hS] at b0 c1 c2 c3 ⊢
  have hBS : B ≤ S := by omega
  clear hW0 hS
  refine wpIn_range (gf := 50) (lb := #[.pointer (some ⟨S + 3, 0, none⟩)]) rfl (enters_of Try.func50 (by kernel_rfl) rfl) (back_iter (S + 3) (.slice ca l.length cc) l) (fun _ => rfl)
    (fun k W => (∃ v, Boxed W S 27 v ∧ OwnR W B 24 1 encU v (out ++ (besF xs i l).take k)) ∧ Boxed W (S + 1) 27 (.slice la xs.length lc) ∧ Boxed W (S + 2) 3 (.int .i64 i) ∧ Boxed W (S + 3) 56 (.slice ca l.length cc) ∧ SlB W B 1 encU (.slice la xs.length lc) xs ∧ SlB W B 3 encCut (.slice ca l.length cc) l ∧ Below B w W)
    (fun _ _ => False)
    (fun k => .and (.exi fun v => .and .boxed .own) (.and .boxed (.and .boxed (.and .boxed (.and .slB (.and .slB (.below hB (by omega))))))))
    (fun c => .false) (fun k W h => ⟨h.2.2.2.1.cell, h.2.2.2.2.2.1.1⟩)
    ⟨⟨_, b0, by simpa using ho.ext hx⟩, c1, c2, c3, hl.below hx hB, hc.below hx hB, hx.below hB⟩ ?round ?done ?stop
  case stop => intro D c W _ h; exact h.elim
  case done =>
    rintro D W hD ⟨⟨v, hbx, hown⟩, _, _, _, _, _, hbw⟩ hdef
    rw [backL_len, List.take_of_length_le (by rw [besF_len]; exact Nat.le_refl _)] at hown
    have hcv := hbx.cell
    gi_wp2
    refine bodyPostM_ret rfl hdef (fun W' _ => results_tmp rfl _ _ _) (fun W' hs => ⟨v, rfl, hs.own hown, hbw.trans (hs.below (by omega))⟩)
  case round =>
    rintro lr k W hk ⟨⟨v, hbx, hown⟩, d1, d2, d3, sl, sc, hbw⟩ hle hlt
    rw [backL_len] at hk
    obtain ⟨m, hm⟩ : ∃ m : Nat, m = l.length - 1 - k := ⟨_, rfl⟩
    have hml : m < l.length := by omega
    rw [backL_get' l k m hm hml]
    simp only [encBack]
    obtain ⟨c, hc0⟩ : ∃ c, c = l[m] := ⟨_, rfl⟩
    have hco := hok c (by rw [hc0]; exact List.getElem_mem _)
    have hbt := besF_take xs i l k m hm hk hml
    rw [← hc0] at hbt ⊢
    obtain ⟨c0, c1, c2⟩ := c
    obtain ⟨ho1, ho2, ho3⟩ := hco
    simp only [] at ho1 ho2 ho3 hbt
    have HB := Lib.hid hbt
    clear hbt hm hc0
    gi_wp2
    refine ⟨KeepsOthers.alloc _ _, fun W2 hs2 => ?_⟩
    have hx1 := Ext.alloc' W (.cells #[.int .i64 c0, .int .i64 c1, .int .i64 c2] 64)
    have e0 := (hs2.cell _).trans (alloc_cell W #[.int .i64 c0, .int .i64 c1, .int .i64 c2] 64 0 (.int .i64 c0) rfl)
    have e1 := (hs2.cell _).trans (alloc_cell W #[.int .i64 c0, .int .i64 c1, .int .i64 c2] 64 1 (.int .i64 c1) rfl)
    have e2 := (hs2.cell _).trans (alloc_cell W #[.int .i64 c0, .int .i64 c1, .int .i64 c2] 64 2 (.int .i64 c2) rfl)
    have hbx2 := hs2.boxed (hbx.alloc (.cells #[.int .i64 c0, .int .i64 c1, .int .i64 c2] 64))
    have hown2 := hs2.own (hown.alloc (.cells #[.int .i64 c0, .int .i64 c1, .int .i64 c2] 64))
    have f1 := hs2.boxed (d1.ext hx1)
    have f2 := hs2.boxed (d2.ext hx1)
    have f3 := hs2.boxed (d3.ext hx1)
    have sl2 : SlB W2 B 1 encU _ xs := ⟨hs2.sl (sl.1.ext hx1), sl.2⟩
    have sc2 : SlB W2 B 3 encCut _ l := ⟨hs2.sl (sc.1.ext hx1), sc.2⟩
    have hbW : Below B w W2 := (hbw.trans (hx1.below (Nat.le_trans hB hbw.size))).trans (hs2.below (by omega))
    have hBW : B ≤ W2.heap.size := Nat.le_trans hB hbW.size
    have g0 := ext_cells hbx2.cell
    have g1 := ext_cells f1.cell
    have g2 := ext_cells f2.cell
    have f2c := f2.cell
    have g4 := ext_cells e0
    have g5 := ext_cells e1
    have g6 := ext_cells e2
    have hlen2 : (out ++ (besF xs i l).take k).length = out.length + k := by simp [besF_len]; omega
    have HL := Lib.hid hlen2
    clear hlen2 hx1 d1 d2 d3 sl sc hbw hbx hown
    by_cases hlt : i < c1
    · gi_wp2
      refine wpIn_region_ord [(0,true),(1,true),(2,true),(3,true),(4,true),(5,true),(6,true),(7,false)] 8 Ext (Ext W2) wide (by kernel_rfl) (by rintro ⟨_, _, h⟩; exact h) (stable_ext _) (Ext.drawn _ _) ?_
      iterate 6 (apply wpOrd_det rfl rfl; (intro w' hw'; unfold opR; go_simp; exact ⟨Ext.refl _, rfl⟩); (simp only [List.getElem_toArray, List.getElem_cons_succ, List.getElem_cons_zero, Act.put, List.setIfInBounds_toArray, List.set_cons_succ, List.set_cons_zero]; rfl))
      (apply wpOrd_det rfl rfl; (intro w' hw'; refine opR_call rfl (Go.Proofs.enters_of Try.func37 (by kernel_rfl) rfl) (by simp only [List.map_toArray, List.map_cons, List.map_nil, Act.eval, Array.getD_eq_getD_getElem?, List.getElem?_toArray, List.getElem?_cons_succ, List.getElem?_cons_zero, Option.getD_some]; rfl) ?_; refine (top_walk xs _ c1 c2 _ w' (Nat.le_refl _) ho2 ho3 (sl2.1.ext hw')).mono ?_; rintro e w4 ⟨rfl, hx⟩; exact ⟨_, rfl, hx, rfl⟩); (simp only [List.getElem_toArray, List.getElem_cons_succ, List.getElem_cons_zero, Act.put, List.setIfInBounds_toArray, List.set_cons_succ, List.set_cons_zero]; rfl))
      apply wpOrd_ex rfl rfl (Sl1 W2.heap.size 24 #[.int .u64 (root (seg xs c1 c2))]) (Sl1.stable _ _ _)
      · intro w' hw'; unfold opR; go_simp
        exact ⟨Ext.alloc' _ _, Sl1.new w' _ _ hw'.size⟩
      · intro v; (simp only [List.getElem_toArray, List.getElem_cons_succ, List.getElem_cons_zero, Act.put, List.setIfInBounds_toArray, List.set_cons_succ, List.set_cons_zero]; rfl)
      intro sv
      refine wpOrd_nil (l := [_, _]) rfl ?_
      rintro w3 ⟨hw3, b, rfl, hbb, hrow⟩
      have hown3 := hown2.ext hw3
      have hbx3 : Boxed w3 S 27 v := hbx2.ext hw3
      go_wp2_with (at_builtin; go_must (refine wpList_own_app et_u64 rfl _ _ rfl hown3 rfl [root (seg xs c1 c2)] _ 1 rfl (by simp [encU]) (fun j u hu => row_cells hrow j u (by simpa [encU] using hu)) (by simp [encU, Value.oneCell']) (by rw [HL.out]; simp; omega) (by have := hw3.size; omega) ?_; intro v' w5 hown5 hb5 happ _; obtain ⟨a', n', c', rfl⟩ := hown5.shape; obtain ⟨k1, k2, k3, k4⟩ := box_app hbx3 (by decide) hown3 hown5 happ; have hcl := k1.cell; have hfr := k1.frozen))
      refine ⟨(KeepsOthers.ext hw3).trans k4, ⟨_, k2, ?_⟩, ((f1.ext hw3).appd (by decide) hown3 happ).set' (by simp) _, ((f2.ext hw3).appd (by decide) hown3 happ).set' (by simp) _, ((f3.ext hw3).appd (by decide) hown3 happ).set' (by simp) _, ?_, ?_, ?_⟩
      · rw [HB.out, ← List.append_assoc, bes, if_pos hlt]; exact k3
      · exact ((sl2.below hw3 hBW).below hb5 (Nat.le_refl _)).below ((Below.refl B _).setCell hBS _) (Nat.le_refl _)
      · exact ((sc2.below hw3 hBW).below hb5 (Nat.le_refl _)).below ((Below.refl B _).setCell hBS _) (Nat.le_refl _)
      · exact ((hbW.trans (hw3.below hBW)).trans hb5).setCell hBS _
    · gi_wp2
      refine wpIn_region_ord [(0,true),(1,true),(2,true),(3,true),(4,true),(5,true),(6,true),(7,false)] 8 Ext (Ext W2) wide (by kernel_rfl) (by rintro ⟨_, _, h⟩; exact h) (stable_ext _) (Ext.drawn _ _) ?_
      iterate 6 (apply wpOrd_det rfl rfl; (intro w' hw'; unfold opR; go_simp; exact ⟨Ext.refl _, rfl⟩); (simp only [List.getElem_toArray, List.getElem_cons_succ, List.getElem_cons_zero, Act.put, List.setIfInBounds_toArray, List.set_cons_succ, List.set_cons_zero]; rfl))
      (apply wpOrd_det rfl rfl; (intro w' hw'; refine opR_call rfl (Go.Proofs.enters_of Try.func37 (by kernel_rfl) rfl) (by simp only [List.map_toArray, List.map_cons, List.map_nil, Act.eval, Array.getD_eq_getD_getElem?, List.getElem?_toArray, List.getElem?_cons_succ, List.getElem?_cons_zero, Option.getD_some]; rfl) ?_; refine (top_walk xs _ c0 c1 _ w' (Nat.le_refl _) ho1 (by omega) (sl2.1.ext hw')).mono ?_; rintro e w4 ⟨rfl, hx⟩; exact ⟨_, rfl, hx, rfl⟩); (simp only [List.getElem_toArray, List.getElem_cons_succ, List.getElem_cons_zero, Act.put, List.setIfInBounds_toArray, List.set_cons_succ, List.set_cons_zero]; rfl))
      apply wpOrd_ex rfl rfl (Sl1 W2.heap.size 24 #[.int .u64 (root (seg xs c0 c1))]) (Sl1.stable _ _ _)
      · intro w' hw'; unfold opR; go_simp
        exact ⟨Ext.alloc' _ _, Sl1.new w' _ _ hw'.size⟩
      · intro v; (simp only [List.getElem_toArray, List.getElem_cons_succ, List.getElem_cons_zero, Act.put, List.setIfInBounds_toArray, List.set_cons_succ, List.set_cons_zero]; rfl)
      intro sv
      refine wpOrd_nil (l := [_, _]) rfl ?_
      rintro w3 ⟨hw3, b, rfl, hbb, hrow⟩
      have hown3 := hown2.ext hw3
      have hbx3 : Boxed w3 S 27 v := hbx2.ext hw3
      go_wp2_with (at_builtin; go_must (refine wpList_own_app et_u64 rfl _ _ rfl hown3 rfl [root (seg xs c0 c1)] _ 1 rfl (by simp [encU]) (fun j u hu => row_cells hrow j u (by simpa [encU] using hu)) (by simp [encU, Value.oneCell']) (by rw [HL.out]; simp; omega) (by have := hw3.size; omega) ?_; intro v' w5 hown5 hb5 happ _; obtain ⟨a', n', c', rfl⟩ := hown5.shape; obtain ⟨k1, k2, k3, k4⟩ := box_app hbx3 (by decide) hown3 hown5 happ; have hcl := k1.cell; have hfr := k1.frozen))
      refine ⟨(KeepsOthers.ext hw3).trans k4, ⟨_, k2, ?_⟩, ((f1.ext hw3).appd (by decide) hown3 happ).set' (by simp) _, ((f2.ext hw3).appd (by decide) hown3 happ).set' (by simp) _, ((f3.ext hw3).appd (by decide) hown3 happ).set' (by simp) _, ?_, ?_, ?_⟩
      · rw [HB.out, ← List.append_assoc, bes, if_neg hlt]; exact k3
      · exact ((sl2.below hw3 hBW).below hb5 (Nat.le_refl _)).below ((Below.refl B _).setCell hBS _) (Nat.le_refl _)
      · exact ((sc2.below hw3 hBW).below hb5 (Nat.le_refl _)).below ((Below.refl B _).setCell hBS _) (Nat.le_refl _)
      · exact ((hbW.trans (hw3.below hBW)).trans hb5).setCell hBS _
end Go.Proofs.Yteelklpppfahcaa
