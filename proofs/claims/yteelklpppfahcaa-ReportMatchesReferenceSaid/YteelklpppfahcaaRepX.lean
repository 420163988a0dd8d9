/-
  Walk: the reference's Collide.
-/
import Derived.Test.YteelklpppfahcaaRepW
set_option linter.unusedVariables false
namespace Go.Proofs.Yteelklpppfahcaa
open Go.RowKit Go.Sx Go.Sx.Rep

def hitF (x : (Int × Int) × (Int × Int)) : Bool := x.1 != x.2 && node x.1.1 x.1.2 == node x.2.1 x.2.2
theorem hit_take {a b : List (Int × Int)} {k : Nat} (h1 : k < a.length) (h2 : k < b.length) : ((a.zip b).take (k + 1)).any hitF = (((a.zip b).take k).any hitF || hitF (a[k], b[k])) := by
  rw [List.take_succ_eq_append_getElem (by simp; omega), List.any_append]
  simp

theorem collide_end {a b : List (Int × Int)} {k : Nat} (h : a.length ≤ k ∨ b.length ≤ k) (hk : ((a.zip b).take k).any hitF = false) : collideF a b = false := by
  rw [List.take_of_length_le (by simp; omega)] at hk
  exact hk
theorem any_take {α : Type} (p : α → Bool) : ∀ (l : List α) (k : Nat), (l.take k).any p = true → l.any p = true
  | [], k, h => by simp at h
  | x :: l, 0, h => by simp at h
  | x :: l, k + 1, h => by
    simp only [List.take_succ_cons, List.any_cons, Bool.or_eq_true] at h ⊢
    exact h.imp id (any_take p l k)
theorem collide_hit {a b : List (Int × Int)} {k : Nat} (h : ((a.zip b).take k).any hitF = (false || true)) : collideF a b = true := any_take hitF _ k h

set_option maxHeartbeats 4000000 in
theorem collide_walk (u v : Value) (a b : List (Int × Int)) (w : World) (S : Sl w 2 encP u a) (T : Sl w 2 encP v b) :
    Calls Try.prog 17 #[u, v] w fun e w' => e = .returned (.bool (collideF a b)) ∧ Ext w w' := by
  obtain ⟨ua, uc, rfl, h1, h2, h3⟩ := S.len
  obtain ⟨va, vc, rfl, k1, k2, k3⟩ := T.len
  clear h1 h2 k1 k2
  go_enter Try.func17, Try.ntmps17
  go_wp2
  go_loopw [5] (fun i wr => ∃ k : Nat, k ≤ a.length ∧ i = .int .i64 k ∧ Hid (((a.zip b).take k).any hitF = false) ∧ Ext w wr) (fun i _ => a.length - (intOf i).toNat)
  case atStart => exact ⟨0, Nat.zero_le _, rfl, Lib.hid rfl, Ext.refl _⟩
  case round =>
    obtain ⟨k, hk, rfl, HT, hx⟩ := hrel
    by_cases hlt : k < a.length
    · by_cases hlt2 : k < b.length
      · obtain ⟨b0, o0, rfl, hc⟩ := (S.ext hx).at (by omega) k hlt
        obtain ⟨b1, o1, rfl, hd⟩ := (T.ext hx).at (by omega) k hlt2
        have hs := hit_take hlt hlt2
        obtain ⟨⟨x1, x2⟩, hxx⟩ : ∃ x, a[k] = x := ⟨_, rfl⟩
        obtain ⟨⟨y1, y2⟩, hyy⟩ : ∃ y, b[k] = y := ⟨_, rfl⟩
        have c0 := hc 0 (by omega); have c1 := hc 1 (by omega)
        have d0 := hd 0 (by omega); have d1 := hd 1 (by omega)
        rw [hxx] at c0 c1
        rw [hyy] at d0 d1
        rw [hxx, hyy] at hs
        simp only [encP, List.getD_cons_zero, List.getD_cons_succ, Nat.add_zero] at c0 c1 d0 d1
        have e0 := ext_cells c0; have e1 := ext_cells c1; have f0 := ext_cells d0; have f1 := ext_cells d1
        have HS := Lib.hid hs
        clear hc hd c0 c1 d0 d1 hs hxx hyy S T
        by_cases hxy : x1 = y1 ∧ x2 = y2
        · obtain ⟨rfl, rfl⟩ := hxy
          have z1 : (x1 == x1) = true := beq_self_eq_true _
          have z2 : (x2 == x2) = true := beq_self_eq_true _
          go_wp2
          refine wp_region_ord ([(0,true),(1,true),(2,true),(3,true),(4,true),(5,true),(6,true),(7,true),(8,true),(9,true)] ++ (List.range 23).map (fun i => (10 + i, true)) ++ [(33, true)]) 34 Ext (Ext wr) wide (by kernel_rfl) (stable_ext _) (Ext.drawn _ _) ?_
          simp only [List.range, List.range.loop, List.map_cons, List.map_nil, List.cons_append, List.nil_append, Nat.reduceAdd]
          iterate 10 (apply wpOrd_det rfl rfl; (intro w' hw'; unfold opR; go_simp; exact ⟨Ext.refl _, rfl⟩); (simp only [List.getElem_toArray, List.getElem_cons_succ, List.getElem_cons_zero, Act.put, List.setIfInBounds_toArray, List.set_cons_succ, List.set_cons_zero]; rfl))
          iterate 23 (apply wpOrd_no rfl (by rfl); (simp only [List.getElem_toArray, List.getElem_cons_succ, List.getElem_cons_zero, Act.put, List.setIfInBounds_toArray, List.set_cons_succ, List.set_cons_zero]; rfl))
          (apply wpOrd_det rfl rfl; (intro w' hw'; unfold opR; go_simp; exact ⟨Ext.refl _, rfl⟩); (simp only [List.getElem_toArray, List.getElem_cons_succ, List.getElem_cons_zero, Act.put, List.setIfInBounds_toArray, List.set_cons_succ, List.set_cons_zero]; rfl))
          refine wpOrd_nil (l := []) rfl ?_
          intro w4 hw4
          have hh := Lib.hid (show hitF ((x1, x2), (x1, x2)) = false by unfold hitF; simp)
          go_wp2
          go_roundw
          case rel => exact ⟨k + 1, by omega, by go_num, Lib.hid (by rw [HS.out, HT.out, hh.out]; rfl), hx.trans hw4⟩
          case measure => simp [intOf]; omega
        by_cases hx1 : x1 = y1
        · have HXY := Lib.hid hxy
          subst hx1
          have hx2 : x2 ≠ y2 := fun h => hxy ⟨rfl, h⟩
          have z1 : (x1 == x1) = true := beq_self_eq_true _
          have z2 : (x2 == y2) = false := beq_eq_false_iff_ne.2 hx2
          clear hxy hx2
          have hne : ((x1, x2) != (x1, y2)) = true := by rw [bne_iff_ne]; intro h; cases h; exact HXY.out ⟨rfl, rfl⟩
          cases hnn : (node x1 x2 == node x1 y2) with
          | true =>
            have hh := Lib.hid (show hitF ((x1, x2), (x1, y2)) = true by unfold hitF; rw [hne, hnn]; rfl)
            clear hne
            go_wp2
            refine wp_region_ord ([(0,true),(1,true),(2,true),(3,true),(4,true),(5,true),(6,true),(7,true),(8,true),(9,true)] ++ (List.range 23).map (fun i => (10 + i, true)) ++ [(33, true)]) 34 Ext (Ext wr) wide (by kernel_rfl) (stable_ext _) (Ext.drawn _ _) ?_
            simp only [List.range, List.range.loop, List.map_cons, List.map_nil, List.cons_append, List.nil_append, Nat.reduceAdd]
            iterate 10 (apply wpOrd_det rfl rfl; (intro w' hw'; unfold opR; go_simp; exact ⟨Ext.refl _, rfl⟩); (simp only [List.getElem_toArray, List.getElem_cons_succ, List.getElem_cons_zero, Act.put, List.setIfInBounds_toArray, List.set_cons_succ, List.set_cons_zero]; rfl))
            iterate 10 (apply wpOrd_yes rfl (by rfl); (intro w' hw'; unfold opR; go_simp; exact ⟨Ext.refl _, rfl⟩); (simp only [List.getElem_toArray, List.getElem_cons_succ, List.getElem_cons_zero, Act.put, List.setIfInBounds_toArray, List.set_cons_succ, List.set_cons_zero]; rfl))
            (apply wpOrd_yes rfl (by rfl); (intro w' hw'; refine opR_call rfl (Go.Proofs.enters_of Try.func28 (by kernel_rfl) rfl) (by simp only [List.map_toArray, List.map_cons, List.map_nil, Act.eval, Array.getD_eq_getD_getElem?, List.getElem?_toArray, List.getElem?_cons_succ, List.getElem?_cons_zero, Option.getD_some]; rfl) ?_; refine (rnode_walk _ _ w').mono ?_; rintro e w4 ⟨rfl, hx⟩; exact ⟨_, rfl, hx, rfl⟩); (simp only [List.getElem_toArray, List.getElem_cons_succ, List.getElem_cons_zero, Act.put, List.setIfInBounds_toArray, List.set_cons_succ, List.set_cons_zero]; rfl))
            iterate 10 (apply wpOrd_yes rfl (by rfl); (intro w' hw'; unfold opR; go_simp; exact ⟨Ext.refl _, rfl⟩); (simp only [List.getElem_toArray, List.getElem_cons_succ, List.getElem_cons_zero, Act.put, List.setIfInBounds_toArray, List.set_cons_succ, List.set_cons_zero]; rfl))
            (apply wpOrd_yes rfl (by rfl); (intro w' hw'; refine opR_call rfl (Go.Proofs.enters_of Try.func28 (by kernel_rfl) rfl) (by simp only [List.map_toArray, List.map_cons, List.map_nil, Act.eval, Array.getD_eq_getD_getElem?, List.getElem?_toArray, List.getElem?_cons_succ, List.getElem?_cons_zero, Option.getD_some]; rfl) ?_; refine (rnode_walk _ _ w').mono ?_; rintro e w4 ⟨rfl, hx⟩; exact ⟨_, rfl, hx, rfl⟩); (simp only [List.getElem_toArray, List.getElem_cons_succ, List.getElem_cons_zero, Act.put, List.setIfInBounds_toArray, List.set_cons_succ, List.set_cons_zero]; rfl))
            (apply wpOrd_yes rfl (by rfl); (intro w' hw'; unfold opR; go_simp; exact ⟨Ext.refl _, rfl⟩); (simp only [List.getElem_toArray, List.getElem_cons_succ, List.getElem_cons_zero, Act.put, List.setIfInBounds_toArray, List.set_cons_succ, List.set_cons_zero]; rfl))
            (apply wpOrd_det rfl rfl; (intro w' hw'; unfold opR; go_simp; exact ⟨Ext.refl _, rfl⟩); (simp only [List.getElem_toArray, List.getElem_cons_succ, List.getElem_cons_zero, Act.put, List.setIfInBounds_toArray, List.set_cons_succ, List.set_cons_zero]; rfl))
            refine wpOrd_nil (l := []) rfl ?_
            intro w4 hw4
            go_wp2
            go_ret
            refine ⟨?_, hx.trans hw4⟩
            have h := HS.out
            rw [HT.out, hh.out] at h
            rw [collide_hit h]; rfl
          | false =>
            have hh := Lib.hid (show hitF ((x1, x2), (x1, y2)) = false by unfold hitF; rw [hne, hnn]; rfl)
            clear hne
            go_wp2
            refine wp_region_ord ([(0,true),(1,true),(2,true),(3,true),(4,true),(5,true),(6,true),(7,true),(8,true),(9,true)] ++ (List.range 23).map (fun i => (10 + i, true)) ++ [(33, true)]) 34 Ext (Ext wr) wide (by kernel_rfl) (stable_ext _) (Ext.drawn _ _) ?_
            simp only [List.range, List.range.loop, List.map_cons, List.map_nil, List.cons_append, List.nil_append, Nat.reduceAdd]
            iterate 10 (apply wpOrd_det rfl rfl; (intro w' hw'; unfold opR; go_simp; exact ⟨Ext.refl _, rfl⟩); (simp only [List.getElem_toArray, List.getElem_cons_succ, List.getElem_cons_zero, Act.put, List.setIfInBounds_toArray, List.set_cons_succ, List.set_cons_zero]; rfl))
            iterate 10 (apply wpOrd_yes rfl (by rfl); (intro w' hw'; unfold opR; go_simp; exact ⟨Ext.refl _, rfl⟩); (simp only [List.getElem_toArray, List.getElem_cons_succ, List.getElem_cons_zero, Act.put, List.setIfInBounds_toArray, List.set_cons_succ, List.set_cons_zero]; rfl))
            (apply wpOrd_yes rfl (by rfl); (intro w' hw'; refine opR_call rfl (Go.Proofs.enters_of Try.func28 (by kernel_rfl) rfl) (by simp only [List.map_toArray, List.map_cons, List.map_nil, Act.eval, Array.getD_eq_getD_getElem?, List.getElem?_toArray, List.getElem?_cons_succ, List.getElem?_cons_zero, Option.getD_some]; rfl) ?_; refine (rnode_walk _ _ w').mono ?_; rintro e w4 ⟨rfl, hx⟩; exact ⟨_, rfl, hx, rfl⟩); (simp only [List.getElem_toArray, List.getElem_cons_succ, List.getElem_cons_zero, Act.put, List.setIfInBounds_toArray, List.set_cons_succ, List.set_cons_zero]; rfl))
            iterate 10 (apply wpOrd_yes rfl (by rfl); (intro w' hw'; unfold opR; go_simp; exact ⟨Ext.refl _, rfl⟩); (simp only [List.getElem_toArray, List.getElem_cons_succ, List.getElem_cons_zero, Act.put, List.setIfInBounds_toArray, List.set_cons_succ, List.set_cons_zero]; rfl))
            (apply wpOrd_yes rfl (by rfl); (intro w' hw'; refine opR_call rfl (Go.Proofs.enters_of Try.func28 (by kernel_rfl) rfl) (by simp only [List.map_toArray, List.map_cons, List.map_nil, Act.eval, Array.getD_eq_getD_getElem?, List.getElem?_toArray, List.getElem?_cons_succ, List.getElem?_cons_zero, Option.getD_some]; rfl) ?_; refine (rnode_walk _ _ w').mono ?_; rintro e w4 ⟨rfl, hx⟩; exact ⟨_, rfl, hx, rfl⟩); (simp only [List.getElem_toArray, List.getElem_cons_succ, List.getElem_cons_zero, Act.put, List.setIfInBounds_toArray, List.set_cons_succ, List.set_cons_zero]; rfl))
            (apply wpOrd_yes rfl (by rfl); (intro w' hw'; unfold opR; go_simp; exact ⟨Ext.refl _, rfl⟩); (simp only [List.getElem_toArray, List.getElem_cons_succ, List.getElem_cons_zero, Act.put, List.setIfInBounds_toArray, List.set_cons_succ, List.set_cons_zero]; rfl))
            (apply wpOrd_det rfl rfl; (intro w' hw'; unfold opR; go_simp; exact ⟨Ext.refl _, rfl⟩); (simp only [List.getElem_toArray, List.getElem_cons_succ, List.getElem_cons_zero, Act.put, List.setIfInBounds_toArray, List.set_cons_succ, List.set_cons_zero]; rfl))
            refine wpOrd_nil (l := []) rfl ?_
            intro w4 hw4
            go_wp2
            go_roundw
            case rel => exact ⟨k + 1, by omega, by go_num, Lib.hid (by rw [HS.out, HT.out, hh.out]; rfl), hx.trans hw4⟩
            case measure => simp [intOf]; omega
        · have HXY := Lib.hid hxy
          have z1 : (x1 == y1) = false := beq_eq_false_iff_ne.2 hx1
          clear hxy hx1
          have hne : ((x1, x2) != (y1, y2)) = true := by rw [bne_iff_ne]; intro h; cases h; exact HXY.out ⟨rfl, rfl⟩
          cases hnn : (node x1 x2 == node y1 y2) with
          | true =>
            have hh := Lib.hid (show hitF ((x1, x2), (y1, y2)) = true by unfold hitF; rw [hne, hnn]; rfl)
            clear hne
            go_wp2
            refine wp_region_ord ([(0,true),(1,true),(2,true),(3,true),(4,true),(5,true),(6,true),(7,true),(8,true),(9,true)] ++ (List.range 23).map (fun i => (10 + i, true)) ++ [(33, true)]) 34 Ext (Ext wr) wide (by kernel_rfl) (stable_ext _) (Ext.drawn _ _) ?_
            simp only [List.range, List.range.loop, List.map_cons, List.map_nil, List.cons_append, List.nil_append, Nat.reduceAdd]
            iterate 10 (apply wpOrd_det rfl rfl; (intro w' hw'; unfold opR; go_simp; exact ⟨Ext.refl _, rfl⟩); (simp only [List.getElem_toArray, List.getElem_cons_succ, List.getElem_cons_zero, Act.put, List.setIfInBounds_toArray, List.set_cons_succ, List.set_cons_zero]; rfl))
            iterate 10 (apply wpOrd_yes rfl (by rfl); (intro w' hw'; unfold opR; go_simp; exact ⟨Ext.refl _, rfl⟩); (simp only [List.getElem_toArray, List.getElem_cons_succ, List.getElem_cons_zero, Act.put, List.setIfInBounds_toArray, List.set_cons_succ, List.set_cons_zero]; rfl))
            (apply wpOrd_yes rfl (by rfl); (intro w' hw'; refine opR_call rfl (Go.Proofs.enters_of Try.func28 (by kernel_rfl) rfl) (by simp only [List.map_toArray, List.map_cons, List.map_nil, Act.eval, Array.getD_eq_getD_getElem?, List.getElem?_toArray, List.getElem?_cons_succ, List.getElem?_cons_zero, Option.getD_some]; rfl) ?_; refine (rnode_walk _ _ w').mono ?_; rintro e w4 ⟨rfl, hx⟩; exact ⟨_, rfl, hx, rfl⟩); (simp only [List.getElem_toArray, List.getElem_cons_succ, List.getElem_cons_zero, Act.put, List.setIfInBounds_toArray, List.set_cons_succ, List.set_cons_zero]; rfl))
            iterate 10 (apply wpOrd_yes rfl (by rfl); (intro w' hw'; unfold opR; go_simp; exact ⟨Ext.refl _, rfl⟩); (simp only [List.getElem_toArray, List.getElem_cons_succ, List.getElem_cons_zero, Act.put, List.setIfInBounds_toArray, List.set_cons_succ, List.set_cons_zero]; rfl))
            (apply wpOrd_yes rfl (by rfl); (intro w' hw'; refine opR_call rfl (Go.Proofs.enters_of Try.func28 (by kernel_rfl) rfl) (by simp only [List.map_toArray, List.map_cons, List.map_nil, Act.eval, Array.getD_eq_getD_getElem?, List.getElem?_toArray, List.getElem?_cons_succ, List.getElem?_cons_zero, Option.getD_some]; rfl) ?_; refine (rnode_walk _ _ w').mono ?_; rintro e w4 ⟨rfl, hx⟩; exact ⟨_, rfl, hx, rfl⟩); (simp only [List.getElem_toArray, List.getElem_cons_succ, List.getElem_cons_zero, Act.put, List.setIfInBounds_toArray, List.set_cons_succ, List.set_cons_zero]; rfl))
            (apply wpOrd_yes rfl (by rfl); (intro w' hw'; unfold opR; go_simp; exact ⟨Ext.refl _, rfl⟩); (simp only [List.getElem_toArray, List.getElem_cons_succ, List.getElem_cons_zero, Act.put, List.setIfInBounds_toArray, List.set_cons_succ, List.set_cons_zero]; rfl))
            (apply wpOrd_det rfl rfl; (intro w' hw'; unfold opR; go_simp; exact ⟨Ext.refl _, rfl⟩); (simp only [List.getElem_toArray, List.getElem_cons_succ, List.getElem_cons_zero, Act.put, List.setIfInBounds_toArray, List.set_cons_succ, List.set_cons_zero]; rfl))
            refine wpOrd_nil (l := []) rfl ?_
            intro w4 hw4
            go_wp2
            go_ret
            refine ⟨?_, hx.trans hw4⟩
            have h := HS.out
            rw [HT.out, hh.out] at h
            rw [collide_hit h]; rfl
          | false =>
            have hh := Lib.hid (show hitF ((x1, x2), (y1, y2)) = false by unfold hitF; rw [hne, hnn]; rfl)
            clear hne
            go_wp2
            refine wp_region_ord ([(0,true),(1,true),(2,true),(3,true),(4,true),(5,true),(6,true),(7,true),(8,true),(9,true)] ++ (List.range 23).map (fun i => (10 + i, true)) ++ [(33, true)]) 34 Ext (Ext wr) wide (by kernel_rfl) (stable_ext _) (Ext.drawn _ _) ?_
            simp only [List.range, List.range.loop, List.map_cons, List.map_nil, List.cons_append, List.nil_append, Nat.reduceAdd]
            iterate 10 (apply wpOrd_det rfl rfl; (intro w' hw'; unfold opR; go_simp; exact ⟨Ext.refl _, rfl⟩); (simp only [List.getElem_toArray, List.getElem_cons_succ, List.getElem_cons_zero, Act.put, List.setIfInBounds_toArray, List.set_cons_succ, List.set_cons_zero]; rfl))
            iterate 10 (apply wpOrd_yes rfl (by rfl); (intro w' hw'; unfold opR; go_simp; exact ⟨Ext.refl _, rfl⟩); (simp only [List.getElem_toArray, List.getElem_cons_succ, List.getElem_cons_zero, Act.put, List.setIfInBounds_toArray, List.set_cons_succ, List.set_cons_zero]; rfl))
            (apply wpOrd_yes rfl (by rfl); (intro w' hw'; refine opR_call rfl (Go.Proofs.enters_of Try.func28 (by kernel_rfl) rfl) (by simp only [List.map_toArray, List.map_cons, List.map_nil, Act.eval, Array.getD_eq_getD_getElem?, List.getElem?_toArray, List.getElem?_cons_succ, List.getElem?_cons_zero, Option.getD_some]; rfl) ?_; refine (rnode_walk _ _ w').mono ?_; rintro e w4 ⟨rfl, hx⟩; exact ⟨_, rfl, hx, rfl⟩); (simp only [List.getElem_toArray, List.getElem_cons_succ, List.getElem_cons_zero, Act.put, List.setIfInBounds_toArray, List.set_cons_succ, List.set_cons_zero]; rfl))
            iterate 10 (apply wpOrd_yes rfl (by rfl); (intro w' hw'; unfold opR; go_simp; exact ⟨Ext.refl _, rfl⟩); (simp only [List.getElem_toArray, List.getElem_cons_succ, List.getElem_cons_zero, Act.put, List.setIfInBounds_toArray, List.set_cons_succ, List.set_cons_zero]; rfl))
            (apply wpOrd_yes rfl (by rfl); (intro w' hw'; refine opR_call rfl (Go.Proofs.enters_of Try.func28 (by kernel_rfl) rfl) (by simp only [List.map_toArray, List.map_cons, List.map_nil, Act.eval, Array.getD_eq_getD_getElem?, List.getElem?_toArray, List.getElem?_cons_succ, List.getElem?_cons_zero, Option.getD_some]; rfl) ?_; refine (rnode_walk _ _ w').mono ?_; rintro e w4 ⟨rfl, hx⟩; exact ⟨_, rfl, hx, rfl⟩); (simp only [List.getElem_toArray, List.getElem_cons_succ, List.getElem_cons_zero, Act.put, List.setIfInBounds_toArray, List.set_cons_succ, List.set_cons_zero]; rfl))
            (apply wpOrd_yes rfl (by rfl); (intro w' hw'; unfold opR; go_simp; exact ⟨Ext.refl _, rfl⟩); (simp only [List.getElem_toArray, List.getElem_cons_succ, List.getElem_cons_zero, Act.put, List.setIfInBounds_toArray, List.set_cons_succ, List.set_cons_zero]; rfl))
            (apply wpOrd_det rfl rfl; (intro w' hw'; unfold opR; go_simp; exact ⟨Ext.refl _, rfl⟩); (simp only [List.getElem_toArray, List.getElem_cons_succ, List.getElem_cons_zero, Act.put, List.setIfInBounds_toArray, List.set_cons_succ, List.set_cons_zero]; rfl))
            refine wpOrd_nil (l := []) rfl ?_
            intro w4 hw4
            go_wp2
            go_roundw
            case rel => exact ⟨k + 1, by omega, by go_num, Lib.hid (by rw [HS.out, HT.out, hh.out]; rfl), hx.trans hw4⟩
            case measure => simp [intOf]; omega
      · have hfin := Lib.hid (collide_end (a := a) (b := b) (k := k) (Or.inr (by omega)) HT.out)
        clear S T
        go_wp2
        go_ret
        exact ⟨by rw [hfin.out]; rfl, hx⟩
    · obtain rfl : k = a.length := by omega
      clear S T
      have hfin := Lib.hid (collide_end (Or.inl (Nat.le_refl a.length)) HT.out)
      go_wp2
      go_ret
      exact ⟨by rw [hfin.out]; rfl, hx⟩
end Go.Proofs.Yteelklpppfahcaa
