/-
  Walks: the comparisons of notes and of pairs, score.rising at its three types, score.sizes.
-/
import Derived.Test.YtdpegkkbhanjkaaDoorScA
set_option linter.unusedVariables false
namespace Go.Proofs.YtdpegkkbhanjkaaDoor
open Go.RowKit Go.Sx Go.Sx.Sz Go.Sx.Sc

set_option maxRecDepth 100000 in
theorem Sl.lit2 (w : World) (a b : Int) : Sl (w.alloc (.cells #[.int .i64 a, .int .i64 b] 3)) 1 encZ (.slice (some ⟨w.heap.size, 0, none⟩) 2 2) [a, b] :=
  (Bk.mk (xs := [a, b]) (enc := encZ) w 3 #[.int .i64 a, .int .i64 b] rfl).sl (sz := 1) (fun _ _ => rfl) rfl (by simp)

set_option maxRecDepth 100000 in
set_option maxHeartbeats 1000000 in
theorem cmpnt_walk (a b : Nt) (w : World) : Calls Tryd.prog 71 #[.agg #[.int .i64 a.v, .int .i64 a.f, .int .i64 a.u, .int .i64 a.x.a, .int .i64 a.x.b, .int .i64 a.x.c, .int .i64 a.x.d, .int .i64 a.x.e, .int .i64 a.x.f, .bool a.tied],
    .agg #[.int .i64 b.v, .int .i64 b.f, .int .i64 b.u, .int .i64 b.x.a, .int .i64 b.x.b, .int .i64 b.x.c, .int .i64 b.x.d, .int .i64 b.x.e, .int .i64 b.x.f, .bool b.tied]] w fun e w' => e = .returned (.int .i64 (cmpNt a b)) ∧ Ext w w' := by
  go_enter Tryd.func71, Tryd.ntmps71
  go_wp2
  obtain ⟨W, hW⟩ : ∃ W, (w.alloc (.cells #[.int .i64 a.v, .int .i64 a.f, .int .i64 a.u, .int .i64 a.x.a, .int .i64 a.x.b, .int .i64 a.x.c, .int .i64 a.x.d, .int .i64 a.x.e, .int .i64 a.x.f, .bool a.tied] 44)).alloc (.cells #[.int .i64 b.v, .int .i64 b.f, .int .i64 b.u, .int .i64 b.x.a, .int .i64 b.x.b, .int .i64 b.x.c, .int .i64 b.x.d, .int .i64 b.x.e, .int .i64 b.x.f, .bool b.tied] 44) = W := ⟨_, rfl⟩
  have XW : Ext w W := by rw [← hW]; exact (by repeat (first | with_reducible exact Ext.refl _ | with_reducible assumption | with_reducible apply Ext.alloc | with_reducible apply Ext.drew | (with_reducible refine Ext.setCell ?_ (by (try simp) <;> omega) _)))
  have d0 : W.heap[w.heap.size]? = some (.cells #[.int .i64 a.v, .int .i64 a.f, .int .i64 a.u, .int .i64 a.x.a, .int .i64 a.x.b, .int .i64 a.x.c, .int .i64 a.x.d, .int .i64 a.x.e, .int .i64 a.x.f, .bool a.tied] 44 (0, 0)) := by rw [← hW]; exact block_alloc (block_new w _) _
  have d1 : W.heap[w.heap.size + 1]? = some (.cells #[.int .i64 b.v, .int .i64 b.f, .int .i64 b.u, .int .i64 b.x.a, .int .i64 b.x.b, .int .i64 b.x.c, .int .i64 b.x.d, .int .i64 b.x.e, .int .i64 b.x.f, .bool b.tied] 44 (0, 0)) := by rw [← hW]; exact block_at (by simp) _
  rw [hW]
  have f0 := ext_cells (block_cell d0 0 _ rfl); have f1 := ext_cells (block_cell d0 1 _ rfl)
  have g0 := ext_cells (block_cell d1 0 _ rfl); have g1 := ext_cells (block_cell d1 1 _ rfl)
  clear hW d0 d1
  refine wp_region_ord [(0,true), (1,true), (2,true), (3,true), (4,true), (5,true), (6,true), (7,true), (8,true), (9,true)] 10 Ext (Ext W) wide (by kernel_rfl) (stable_ext _) (Ext.drawn _ _) ?_
  iterate 4 (apply wpOrd_det rfl rfl; (intro w' hw'; unfold opR; go_simp; exact ⟨Ext.refl _, rfl⟩); (simp only [List.getElem_toArray, List.getElem_cons_succ, List.getElem_cons_zero, Act.put, List.setIfInBounds_toArray, List.set_cons_succ, List.set_cons_zero]; rfl))
  (apply wpOrd_det rfl rfl; (intro w' hw'; refine opR_call rfl (Go.Proofs.enters_of Tryd.func73 (by kernel_rfl) rfl) (by simp only [List.map_toArray, List.map_cons, List.map_nil, Act.eval, Array.getD_eq_getD_getElem?, List.getElem?_toArray, List.getElem?_cons_succ, List.getElem?_cons_zero, Option.getD_some]; rfl) ?_; refine (compare_walk _ _ w').mono ?_; rintro e w4 ⟨rfl, hx⟩; exact ⟨_, rfl, hx, rfl⟩); (simp only [List.getElem_toArray, List.getElem_cons_succ, List.getElem_cons_zero, Act.put, List.setIfInBounds_toArray, List.set_cons_succ, List.set_cons_zero]; rfl))
  iterate 4 (apply wpOrd_det rfl rfl; (intro w' hw'; unfold opR; go_simp; exact ⟨Ext.refl _, rfl⟩); (simp only [List.getElem_toArray, List.getElem_cons_succ, List.getElem_cons_zero, Act.put, List.setIfInBounds_toArray, List.set_cons_succ, List.set_cons_zero]; rfl))
  (apply wpOrd_det rfl rfl; (intro w' hw'; refine opR_call rfl (Go.Proofs.enters_of Tryd.func73 (by kernel_rfl) rfl) (by simp only [List.map_toArray, List.map_cons, List.map_nil, Act.eval, Array.getD_eq_getD_getElem?, List.getElem?_toArray, List.getElem?_cons_succ, List.getElem?_cons_zero, Option.getD_some]; rfl) ?_; refine (compare_walk _ _ w').mono ?_; rintro e w4 ⟨rfl, hx⟩; exact ⟨_, rfl, hx, rfl⟩); (simp only [List.getElem_toArray, List.getElem_cons_succ, List.getElem_cons_zero, Act.put, List.setIfInBounds_toArray, List.set_cons_succ, List.set_cons_zero]; rfl))
  refine wpOrd_nil rfl ?_
  intro W1 hW1
  clear f0 f1 g0 g1
  have s2 := Sl.lit2 W1 (cmpZ a.f b.f) (cmpZ a.v b.v)
  go_wp2_with fail
  refine (or_walk _ [cmpZ a.f b.f, cmpZ a.v b.v] _ s2).mono ?_
  rintro e w3 ⟨rfl, x3⟩
  have y3 : Ext w w3 := (XW.trans hW1).trans (Ext.trans (by repeat (first | with_reducible exact Ext.refl _ | with_reducible assumption | with_reducible apply Ext.alloc | with_reducible apply Ext.drew | (with_reducible refine Ext.setCell ?_ (by (try simp) <;> omega) _))) x3)
  go_wp2
  go_ret
  exact ⟨rfl, y3⟩
set_option maxRecDepth 100000 in
set_option maxHeartbeats 1000000 in
theorem cmppr_walk (a b : Pr) (w : World) : Calls Tryd.prog 75 #[.agg #[.int .i64 a.a, .int .i64 a.b, .int .i64 a.want.a, .int .i64 a.want.b, .int .i64 a.want.c, .int .i64 a.want.d, .int .i64 a.want.e, .int .i64 a.want.f, .int .i64 a.bound],
    .agg #[.int .i64 b.a, .int .i64 b.b, .int .i64 b.want.a, .int .i64 b.want.b, .int .i64 b.want.c, .int .i64 b.want.d, .int .i64 b.want.e, .int .i64 b.want.f, .int .i64 b.bound]] w fun e w' => e = .returned (.int .i64 (cmpPr a b)) ∧ Ext w w' := by
  go_enter Tryd.func75, Tryd.ntmps75
  go_wp2
  obtain ⟨W, hW⟩ : ∃ W, (w.alloc (.cells #[.int .i64 a.a, .int .i64 a.b, .int .i64 a.want.a, .int .i64 a.want.b, .int .i64 a.want.c, .int .i64 a.want.d, .int .i64 a.want.e, .int .i64 a.want.f, .int .i64 a.bound] 53)).alloc (.cells #[.int .i64 b.a, .int .i64 b.b, .int .i64 b.want.a, .int .i64 b.want.b, .int .i64 b.want.c, .int .i64 b.want.d, .int .i64 b.want.e, .int .i64 b.want.f, .int .i64 b.bound] 53) = W := ⟨_, rfl⟩
  have XW : Ext w W := by rw [← hW]; exact (by repeat (first | with_reducible exact Ext.refl _ | with_reducible assumption | with_reducible apply Ext.alloc | with_reducible apply Ext.drew | (with_reducible refine Ext.setCell ?_ (by (try simp) <;> omega) _)))
  have d0 : W.heap[w.heap.size]? = some (.cells #[.int .i64 a.a, .int .i64 a.b, .int .i64 a.want.a, .int .i64 a.want.b, .int .i64 a.want.c, .int .i64 a.want.d, .int .i64 a.want.e, .int .i64 a.want.f, .int .i64 a.bound] 53 (0, 0)) := by rw [← hW]; exact block_alloc (block_new w _) _
  have d1 : W.heap[w.heap.size + 1]? = some (.cells #[.int .i64 b.a, .int .i64 b.b, .int .i64 b.want.a, .int .i64 b.want.b, .int .i64 b.want.c, .int .i64 b.want.d, .int .i64 b.want.e, .int .i64 b.want.f, .int .i64 b.bound] 53 (0, 0)) := by rw [← hW]; exact block_at (by simp) _
  rw [hW]
  have f0 := ext_cells (block_cell d0 0 _ rfl); have f1 := ext_cells (block_cell d0 1 _ rfl)
  have g0 := ext_cells (block_cell d1 0 _ rfl); have g1 := ext_cells (block_cell d1 1 _ rfl)
  clear hW d0 d1
  refine wp_region_ord [(0,true), (1,true), (2,true), (3,true), (4,true), (5,true), (6,true), (7,true), (8,true), (9,true)] 10 Ext (Ext W) wide (by kernel_rfl) (stable_ext _) (Ext.drawn _ _) ?_
  iterate 4 (apply wpOrd_det rfl rfl; (intro w' hw'; unfold opR; go_simp; exact ⟨Ext.refl _, rfl⟩); (simp only [List.getElem_toArray, List.getElem_cons_succ, List.getElem_cons_zero, Act.put, List.setIfInBounds_toArray, List.set_cons_succ, List.set_cons_zero]; rfl))
  (apply wpOrd_det rfl rfl; (intro w' hw'; refine opR_call rfl (Go.Proofs.enters_of Tryd.func73 (by kernel_rfl) rfl) (by simp only [List.map_toArray, List.map_cons, List.map_nil, Act.eval, Array.getD_eq_getD_getElem?, List.getElem?_toArray, List.getElem?_cons_succ, List.getElem?_cons_zero, Option.getD_some]; rfl) ?_; refine (compare_walk _ _ w').mono ?_; rintro e w4 ⟨rfl, hx⟩; exact ⟨_, rfl, hx, rfl⟩); (simp only [List.getElem_toArray, List.getElem_cons_succ, List.getElem_cons_zero, Act.put, List.setIfInBounds_toArray, List.set_cons_succ, List.set_cons_zero]; rfl))
  iterate 4 (apply wpOrd_det rfl rfl; (intro w' hw'; unfold opR; go_simp; exact ⟨Ext.refl _, rfl⟩); (simp only [List.getElem_toArray, List.getElem_cons_succ, List.getElem_cons_zero, Act.put, List.setIfInBounds_toArray, List.set_cons_succ, List.set_cons_zero]; rfl))
  (apply wpOrd_det rfl rfl; (intro w' hw'; refine opR_call rfl (Go.Proofs.enters_of Tryd.func73 (by kernel_rfl) rfl) (by simp only [List.map_toArray, List.map_cons, List.map_nil, Act.eval, Array.getD_eq_getD_getElem?, List.getElem?_toArray, List.getElem?_cons_succ, List.getElem?_cons_zero, Option.getD_some]; rfl) ?_; refine (compare_walk _ _ w').mono ?_; rintro e w4 ⟨rfl, hx⟩; exact ⟨_, rfl, hx, rfl⟩); (simp only [List.getElem_toArray, List.getElem_cons_succ, List.getElem_cons_zero, Act.put, List.setIfInBounds_toArray, List.set_cons_succ, List.set_cons_zero]; rfl))
  refine wpOrd_nil rfl ?_
  intro W1 hW1
  clear f0 f1 g0 g1
  have s2 := Sl.lit2 W1 (cmpZ a.a b.a) (cmpZ a.b b.b)
  go_wp2_with fail
  refine (or_walk _ [cmpZ a.a b.a, cmpZ a.b b.b] _ s2).mono ?_
  rintro e w3 ⟨rfl, x3⟩
  have y3 : Ext w w3 := (XW.trans hW1).trans (Ext.trans (by repeat (first | with_reducible exact Ext.refl _ | with_reducible assumption | with_reducible apply Ext.alloc | with_reducible apply Ext.drew | (with_reducible refine Ext.setCell ?_ (by (try simp) <;> omega) _))) x3)
  go_wp2
  go_ret
  exact ⟨rfl, y3⟩
def lexAll {α : Type} [Inhabited α] (R : α → α → Prop) (l : List α) : Prop := ∀ i, i < l.length - 1 → R (l.getD i default) (l.getD (i + 1) default)
instance {α : Type} [Inhabited α] (R : α → α → Prop) [DecidableRel R] (l : List α) : Decidable (lexAll R l) := by unfold lexAll; infer_instance
set_option maxRecDepth 100000 in
theorem getD_eq' {α : Type} [Inhabited α] {l : List α} {i : Nat} (h : i < l.length) : l.getD i default = l[i] := by
  rw [List.getD_eq_getElem?_getD, List.getElem?_eq_getElem h]; rfl
instance : DecidableRel lexN := fun a b => inferInstanceAs (Decidable (lexN a b))
instance : DecidableRel lexP := fun a b => inferInstanceAs (Decidable (lexP a b))

set_option maxRecDepth 100000 in
set_option maxHeartbeats 2000000 in
theorem risnt_walk (v : Value) (l : List Nt) (w : World) (S : Sl w 10 encN v l) : Calls Tryd.prog 70 #[v, .func (.func 71) #[] #[]] w fun e w' => e = .returned (.bool (decide (lexAll lexN l))) ∧ Ext w w' := by
  obtain ⟨a?, cap, rfl, -, -, h3⟩ := S.len
  go_enter Tryd.func70, Tryd.ntmps70
  go_wp2
  go_loopw [5] (fun i wr => ∃ k : Nat, k ≤ l.length ∧ i = .int .i64 ((k : Int) + 1) ∧ (∀ i, i < k → i < l.length - 1 → lexN (l.getD i default) (l.getD (i + 1) default)) ∧ Ext w wr) (fun i _ => l.length + 1 - (intOf i).toNat)
  case atStart => exact ⟨0, by omega, rfl, fun i h => by omega, Ext.refl _⟩
  case round =>
    obtain ⟨k, hk, rfl, hall, X⟩ := hrel
    have HA := Lib.hid hall
    clear hall
    by_cases hlt : k + 1 < l.length
    · obtain ⟨b, o, rfl, A⟩ := Sl.nt (S.ext X) k (by omega)
      obtain ⟨b', o', e', B⟩ := Sl.nt (S.ext X) (k + 1) hlt
      cases e'
      have hx := getD_eq' (l := l) (i := k) (by omega)
      have hy := getD_eq' (l := l) (i := k + 1) hlt
      obtain ⟨x, hxx⟩ : ∃ x, l[k] = x := ⟨_, rfl⟩
      obtain ⟨y, hyy⟩ : ∃ y, l[k + 1] = y := ⟨_, rfl⟩
      rw [hxx] at A hx
      rw [hyy] at B hy
      have HX := Lib.hid hx; have HY := Lib.hid hy
      have i1 : (0 : Int) ≤ (k : Int) := by omega
      have i2 : (k : Int) < (l.length : Int) := by omega
      have i3 : (0 : Int) ≤ (k : Int) + 1 := by omega
      have i4 : (k : Int) + 1 < (l.length : Int) := by omega
      have e1 : IntKind.i64.wrap (k : Int) = (k : Int) := IntWalk.i64_in _ (by omega)
      have f0 := ext_cells A.c0; have f1 := ext_cells A.c1; have f2 := ext_cells A.c2; have f3 := ext_cells A.c3; have f4 := ext_cells A.c4; have f5 := ext_cells A.c5; have f6 := ext_cells A.c6; have f7 := ext_cells A.c7; have f8 := ext_cells A.c8; have f9 := ext_cells A.c9
      have g0 := ext_cells B.c0; have g1 := ext_cells B.c1; have g2 := ext_cells B.c2; have g3 := ext_cells B.c3; have g4 := ext_cells B.c4; have g5 := ext_cells B.c5; have g6 := ext_cells B.c6; have g7 := ext_cells B.c7; have g8 := ext_cells B.c8; have g9 := ext_cells B.c9
      have hc := @cmpNt_iff x y
      obtain ⟨c, hcc⟩ : ∃ c, cmpNt x y = c := ⟨_, rfl⟩
      rw [hcc] at hc
      have HC := Lib.hid hc; have HCC := Lib.hid hcc
      clear S A B hx hy hxx hyy hc hcc
      obtain ⟨wo, rfl⟩ : ∃ wo : World, wo = wr := ⟨_, rfl⟩
      by_cases hneg : 0 ≤ c
      all_goals
        go_wp2
        refine wp_region_ord [(0,true), (1,true), (2,true), (3,true), (4,true), (5,true), (6,true), (7,true), (8,true), (9,true), (10,true), (11,true)] 12 Ext (Ext wo) wide (by kernel_rfl) (stable_ext _) (Ext.drawn _ _) ?_
        iterate 10 (apply wpOrd_det rfl rfl; (intro w' hw'; unfold opR; go_simp; exact ⟨Ext.refl _, rfl⟩); (simp only [List.getElem_toArray, List.getElem_cons_succ, List.getElem_cons_zero, Act.put, List.setIfInBounds_toArray, List.set_cons_succ, List.set_cons_zero]; rfl))
        (apply wpOrd_det rfl rfl; (intro w' hw'; refine opR_callv rfl (by rfl) (Go.Proofs.enters_of Tryd.func71 (by kernel_rfl) rfl) (by simp only [List.map_toArray, List.map_cons, List.map_nil, Act.eval, Array.getD_eq_getD_getElem?, List.getElem?_toArray, List.getElem?_cons_succ, List.getElem?_cons_zero, Option.getD_some]; rfl) ?_; refine (cmpnt_walk x y w').mono ?_; rw [HCC.out]; rintro e w4 ⟨rfl, hx⟩; exact ⟨_, rfl, hx, rfl⟩); (simp only [List.getElem_toArray, List.getElem_cons_succ, List.getElem_cons_zero, Act.put, List.setIfInBounds_toArray, List.set_cons_succ, List.set_cons_zero]; rfl))
        (apply wpOrd_det rfl rfl; (intro w' hw'; unfold opR; go_simp; exact ⟨Ext.refl _, rfl⟩); (simp only [List.getElem_toArray, List.getElem_cons_succ, List.getElem_cons_zero, Act.put, List.setIfInBounds_toArray, List.set_cons_succ, List.set_cons_zero]; rfl))
        refine wpOrd_nil rfl ?_
        intro W1 hW1
        clear f0 f1 f2 f3 f4 f5 f6 f7 f8 f9 g0 g1 g2 g3 g4 g5 g6 g7 g8 g9 e1
        go_wp2
      · go_ret
        exact ⟨by rw [decide_eq_false (fun h => by
          have := h k (by omega)
          rw [HX.out, HY.out] at this
          exact absurd hneg (by have := HC.out.2 this; omega))] <;> rfl, X.trans hW1⟩
      · go_roundw
        case rel => exact ⟨k + 1, by omega, by go_num, fun i h1 h2 => by
          rcases Nat.lt_or_ge i k with h3 | h3
          · exact HA.out i h3 h2
          · obtain rfl : i = k := by omega
            rw [HX.out, HY.out]; exact HC.out.1 hneg, X.trans hW1⟩
        case measure => simp [intOf]; omega
    · have hd : lexAll lexN l := fun i hi => HA.out i (by omega) hi
      have HD := Lib.hid hd
      clear S hd
      go_wp2
      go_ret
      exact ⟨by rw [decide_eq_true HD.out] <;> rfl, X⟩
set_option maxRecDepth 100000 in
set_option maxHeartbeats 2000000 in
theorem rispr_walk (v : Value) (l : List Pr) (w : World) (S : Sl w 9 encP v l) : Calls Tryd.prog 74 #[v, .func (.func 75) #[] #[]] w fun e w' => e = .returned (.bool (decide (lexAll lexP l))) ∧ Ext w w' := by
  obtain ⟨a?, cap, rfl, -, -, h3⟩ := S.len
  go_enter Tryd.func74, Tryd.ntmps74
  go_wp2
  go_loopw [5] (fun i wr => ∃ k : Nat, k ≤ l.length ∧ i = .int .i64 ((k : Int) + 1) ∧ (∀ i, i < k → i < l.length - 1 → lexP (l.getD i default) (l.getD (i + 1) default)) ∧ Ext w wr) (fun i _ => l.length + 1 - (intOf i).toNat)
  case atStart => exact ⟨0, by omega, rfl, fun i h => by omega, Ext.refl _⟩
  case round =>
    obtain ⟨k, hk, rfl, hall, X⟩ := hrel
    have HA := Lib.hid hall
    clear hall
    by_cases hlt : k + 1 < l.length
    · obtain ⟨b, o, rfl, A⟩ := Sl.pr (S.ext X) k (by omega)
      obtain ⟨b', o', e', B⟩ := Sl.pr (S.ext X) (k + 1) hlt
      cases e'
      have hx := getD_eq' (l := l) (i := k) (by omega)
      have hy := getD_eq' (l := l) (i := k + 1) hlt
      obtain ⟨x, hxx⟩ : ∃ x, l[k] = x := ⟨_, rfl⟩
      obtain ⟨y, hyy⟩ : ∃ y, l[k + 1] = y := ⟨_, rfl⟩
      rw [hxx] at A hx
      rw [hyy] at B hy
      have HX := Lib.hid hx; have HY := Lib.hid hy
      have i1 : (0 : Int) ≤ (k : Int) := by omega
      have i2 : (k : Int) < (l.length : Int) := by omega
      have i3 : (0 : Int) ≤ (k : Int) + 1 := by omega
      have i4 : (k : Int) + 1 < (l.length : Int) := by omega
      have e1 : IntKind.i64.wrap (k : Int) = (k : Int) := IntWalk.i64_in _ (by omega)
      have f0 := ext_cells A.c0; have f1 := ext_cells A.c1; have f2 := ext_cells A.c2; have f3 := ext_cells A.c3; have f4 := ext_cells A.c4; have f5 := ext_cells A.c5; have f6 := ext_cells A.c6; have f7 := ext_cells A.c7; have f8 := ext_cells A.c8
      have g0 := ext_cells B.c0; have g1 := ext_cells B.c1; have g2 := ext_cells B.c2; have g3 := ext_cells B.c3; have g4 := ext_cells B.c4; have g5 := ext_cells B.c5; have g6 := ext_cells B.c6; have g7 := ext_cells B.c7; have g8 := ext_cells B.c8
      have hc := @cmpPr_iff x y
      obtain ⟨c, hcc⟩ : ∃ c, cmpPr x y = c := ⟨_, rfl⟩
      rw [hcc] at hc
      have HC := Lib.hid hc; have HCC := Lib.hid hcc
      clear S A B hx hy hxx hyy hc hcc
      obtain ⟨wo, rfl⟩ : ∃ wo : World, wo = wr := ⟨_, rfl⟩
      by_cases hneg : 0 ≤ c
      all_goals
        go_wp2
        refine wp_region_ord [(0,true), (1,true), (2,true), (3,true), (4,true), (5,true), (6,true), (7,true), (8,true), (9,true), (10,true), (11,true)] 12 Ext (Ext wo) wide (by kernel_rfl) (stable_ext _) (Ext.drawn _ _) ?_
        iterate 10 (apply wpOrd_det rfl rfl; (intro w' hw'; unfold opR; go_simp; exact ⟨Ext.refl _, rfl⟩); (simp only [List.getElem_toArray, List.getElem_cons_succ, List.getElem_cons_zero, Act.put, List.setIfInBounds_toArray, List.set_cons_succ, List.set_cons_zero]; rfl))
        (apply wpOrd_det rfl rfl; (intro w' hw'; refine opR_callv rfl (by rfl) (Go.Proofs.enters_of Tryd.func75 (by kernel_rfl) rfl) (by simp only [List.map_toArray, List.map_cons, List.map_nil, Act.eval, Array.getD_eq_getD_getElem?, List.getElem?_toArray, List.getElem?_cons_succ, List.getElem?_cons_zero, Option.getD_some]; rfl) ?_; refine (cmppr_walk x y w').mono ?_; rw [HCC.out]; rintro e w4 ⟨rfl, hx⟩; exact ⟨_, rfl, hx, rfl⟩); (simp only [List.getElem_toArray, List.getElem_cons_succ, List.getElem_cons_zero, Act.put, List.setIfInBounds_toArray, List.set_cons_succ, List.set_cons_zero]; rfl))
        (apply wpOrd_det rfl rfl; (intro w' hw'; unfold opR; go_simp; exact ⟨Ext.refl _, rfl⟩); (simp only [List.getElem_toArray, List.getElem_cons_succ, List.getElem_cons_zero, Act.put, List.setIfInBounds_toArray, List.set_cons_succ, List.set_cons_zero]; rfl))
        refine wpOrd_nil rfl ?_
        intro W1 hW1
        clear f0 f1 f2 f3 f4 f5 f6 f7 f8 g0 g1 g2 g3 g4 g5 g6 g7 g8 e1
        go_wp2
      · go_ret
        exact ⟨by rw [decide_eq_false (fun h => by
          have := h k (by omega)
          rw [HX.out, HY.out] at this
          exact absurd hneg (by have := HC.out.2 this; omega))] <;> rfl, X.trans hW1⟩
      · go_roundw
        case rel => exact ⟨k + 1, by omega, by go_num, fun i h1 h2 => by
          rcases Nat.lt_or_ge i k with h3 | h3
          · exact HA.out i h3 h2
          · obtain rfl : i = k := by omega
            rw [HX.out, HY.out]; exact HC.out.1 hneg, X.trans hW1⟩
        case measure => simp [intOf]; omega
    · have hd : lexAll lexP l := fun i hi => HA.out i (by omega) hi
      have HD := Lib.hid hd
      clear S hd
      go_wp2
      go_ret
      exact ⟨by rw [decide_eq_true HD.out] <;> rfl, X⟩
def ltZ (a b : Int) : Prop := a < b
instance : DecidableRel ltZ := fun a b => inferInstanceAs (Decidable (a < b))
set_option maxRecDepth 100000 in
set_option maxHeartbeats 2000000 in
theorem riscd_walk (v : Value) (l : List Int) (w : World) (S : Sl w 1 encZ v l) : Calls Tryd.prog 76 #[v, .func (.func 73) #[] #[]] w fun e w' => e = .returned (.bool (decide (lexAll ltZ l))) ∧ Ext w w' := by
  obtain ⟨a?, cap, rfl, -, -, h3⟩ := S.len
  go_enter Tryd.func76, Tryd.ntmps76
  go_wp2
  go_loopw [5] (fun i wr => ∃ k : Nat, k ≤ l.length ∧ i = .int .i64 ((k : Int) + 1) ∧ (∀ i, i < k → i < l.length - 1 → ltZ (l.getD i default) (l.getD (i + 1) default)) ∧ Ext w wr) (fun i _ => l.length + 1 - (intOf i).toNat)
  case atStart => exact ⟨0, by omega, rfl, fun i h => by omega, Ext.refl _⟩
  case round =>
    obtain ⟨k, hk, rfl, hall, X⟩ := hrel
    have HA := Lib.hid hall
    clear hall
    by_cases hlt : k + 1 < l.length
    · obtain ⟨b, o, rfl, A⟩ := Sl.num (S.ext X) k (by omega)
      obtain ⟨b', o', e', B⟩ := Sl.num (S.ext X) (k + 1) hlt
      cases e'
      have hx := getD_eq' (l := l) (i := k) (by omega)
      have hy := getD_eq' (l := l) (i := k + 1) hlt
      obtain ⟨x, hxx⟩ : ∃ x, l[k] = x := ⟨_, rfl⟩
      obtain ⟨y, hyy⟩ : ∃ y, l[k + 1] = y := ⟨_, rfl⟩
      rw [hxx] at A hx
      rw [hyy] at B hy
      have HX := Lib.hid hx; have HY := Lib.hid hy
      have i1 : (0 : Int) ≤ (k : Int) := by omega
      have i2 : (k : Int) < (l.length : Int) := by omega
      have i3 : (0 : Int) ≤ (k : Int) + 1 := by omega
      have i4 : (k : Int) + 1 < (l.length : Int) := by omega
      have e1 : IntKind.i64.wrap (k : Int) = (k : Int) := IntWalk.i64_in _ (by omega)
      have f0 := ext_cells A; have g0 := ext_cells B
      have hc : ¬ 0 ≤ cmpZ x y ↔ x < y := by unfold cmpZ; repeat' split
                                             all_goals omega
      obtain ⟨c, hcc⟩ : ∃ c, cmpZ x y = c := ⟨_, rfl⟩
      rw [hcc] at hc
      have HC := Lib.hid hc; have HCC := Lib.hid hcc
      clear S A B hx hy hxx hyy hc hcc
      obtain ⟨wo, rfl⟩ : ∃ wo : World, wo = wr := ⟨_, rfl⟩
      by_cases hneg : 0 ≤ c
      all_goals
        go_wp2
        refine wp_region_ord [(0,true), (1,true), (2,true), (3,true), (4,true), (5,true), (6,true), (7,true), (8,true), (9,true), (10,true), (11,true)] 12 Ext (Ext wo) wide (by kernel_rfl) (stable_ext _) (Ext.drawn _ _) ?_
        iterate 10 (apply wpOrd_det rfl rfl; (intro w' hw'; unfold opR; go_simp; exact ⟨Ext.refl _, rfl⟩); (simp only [List.getElem_toArray, List.getElem_cons_succ, List.getElem_cons_zero, Act.put, List.setIfInBounds_toArray, List.set_cons_succ, List.set_cons_zero]; rfl))
        (apply wpOrd_det rfl rfl; (intro w' hw'; refine opR_callv rfl (by rfl) (Go.Proofs.enters_of Tryd.func73 (by kernel_rfl) rfl) (by simp only [List.map_toArray, List.map_cons, List.map_nil, Act.eval, Array.getD_eq_getD_getElem?, List.getElem?_toArray, List.getElem?_cons_succ, List.getElem?_cons_zero, Option.getD_some]; rfl) ?_; refine (compare_walk x y w').mono ?_; rw [HCC.out]; rintro e w4 ⟨rfl, hx⟩; exact ⟨_, rfl, hx, rfl⟩); (simp only [List.getElem_toArray, List.getElem_cons_succ, List.getElem_cons_zero, Act.put, List.setIfInBounds_toArray, List.set_cons_succ, List.set_cons_zero]; rfl))
        (apply wpOrd_det rfl rfl; (intro w' hw'; unfold opR; go_simp; exact ⟨Ext.refl _, rfl⟩); (simp only [List.getElem_toArray, List.getElem_cons_succ, List.getElem_cons_zero, Act.put, List.setIfInBounds_toArray, List.set_cons_succ, List.set_cons_zero]; rfl))
        refine wpOrd_nil rfl ?_
        intro W1 hW1
        clear f0 g0 e1
        go_wp2
      · go_ret
        exact ⟨by rw [decide_eq_false (fun h => by
          have := h k (by omega)
          rw [HX.out, HY.out] at this
          exact absurd hneg (by have := HC.out.2 this; omega))] <;> rfl, X.trans hW1⟩
      · go_roundw
        case rel => exact ⟨k + 1, by omega, by go_num, fun i h1 h2 => by
          rcases Nat.lt_or_ge i k with h3 | h3
          · exact HA.out i h3 h2
          · obtain rfl : i = k := by omega
            rw [HX.out, HY.out]; exact HC.out.1 hneg, X.trans hW1⟩
        case measure => simp [intOf]; omega
    · have hd : lexAll ltZ l := fun i hi => HA.out i (by omega) hi
      have HD := Lib.hid hd
      clear S hd
      go_wp2
      go_ret
      exact ⟨by rw [decide_eq_true HD.out] <;> rfl, X⟩
end Go.Proofs.YtdpegkkbhanjkaaDoor
