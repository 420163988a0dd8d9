/-
  Walks: schismaref19.Section, Before.
-/
import Derived.Test.YtgfaiihekibcbaaGreatDoorLibR
import Derived.Test.YtgfaiihekibcbaaGreatDoorLibA
set_option maxRecDepth 100000
set_option linter.unusedVariables false
namespace Go.Proofs.YtgfaiihekibcbaaGreatDoor
open Go.RowKit Go.Sx Go.Sx.Sz Go.Sx.Sc

set_option maxHeartbeats 4000000 in
theorem rbefore19_walk (vn vp vc : Value) (s : Sc) (n : Int) (w : World) (S : ScR w vn vp vc s) : Calls Tryz.prog 20 #[.agg #[.int .i64 s.voices, vn, vp, vc], .int .i64 n] w fun e w' => e = .returned (.tuple #[.int .i64 (befR s n).1, .int .i64 (befR s n).2]) ∧ Ext w w' := by
  obtain ⟨an, cn, rfl, -, -, hln⟩ := S.nt.len
  obtain ⟨ap, cp, rfl, -, -, hlp⟩ := S.pr.len
  obtain ⟨ac, cc, rfl, -, -, hlc⟩ := S.cd.len
  by_cases hg : scB s = true ∧ 0 ≤ n ∧ n < s.notes.length
  · obtain ⟨hok, hn0, hn1⟩ := hg
    obtain ⟨k, rfl⟩ : ∃ k : Nat, n = k := ⟨n.toNat, by omega⟩
    have hk : k < s.notes.length := by omega
    have hR : befR s k = ((if (s.N k).tied = true then findL s.notes (endP (s.N k).v (s.N k).f) 0 else -1), 0) := by
      unfold befR; rw [if_pos ⟨hok, hn0, hn1⟩, Int.toNat_natCast]
    have HO := Lib.hid hok
    have HNE := Lib.hid (Sc.N_eq hk)
    obtain ⟨⟨nv, nf, nu, nx, nt⟩, hN⟩ : ∃ x, s.N k = x := ⟨_, rfl⟩
    rw [hN] at hR
    dsimp only at hR
    have hNE := HNE.out
    rw [hN] at hNE
    have HN := Lib.hid hNE; have HR := Lib.hid hR
    have hk2 : ¬ (k : Int) < 0 := by omega
    have hk3 : ¬ (s.notes.length : Int) ≤ (k : Int) := by omega
    clear hok hR hN hNE
    go_enter Tryz.func20, Tryz.ntmps20
    go_wp2_with fail
    refine (rvalid19_walk _ _ _ s _ (S.ext (by repeat (first | with_reducible exact Ext.refl _ | with_reducible assumption | with_reducible apply Ext.alloc | with_reducible apply Ext.drew | (with_reducible refine Ext.setCell ?_ (by (try simp) <;> omega) _))))).mono ?_
    rw [HO.out]
    rintro e w1 ⟨rfl, x1⟩
    have X1 : Ext w w1 := Ext.trans (by repeat (first | with_reducible exact Ext.refl _ | with_reducible assumption | with_reducible apply Ext.alloc | with_reducible apply Ext.drew | (with_reducible refine Ext.setCell ?_ (by (try simp) <;> omega) _))) x1
    have b1 := block_ext x1 (block_new w (.cells #[.int .i64 s.voices, .slice an s.notes.length cn, .slice ap s.pairs.length cp, .slice ac s.cads.length cc] 26))
    have l1 := block_lt b1
    have l2 : ¬ w.heap.size = w1.heap.size := by omega
    obtain ⟨b, o, rfl, A⟩ := Sl.nt (S.nt.ext X1) k hk
    rw [← HN.out] at A
    obtain ⟨q0, q1, q2, q3, q4, q5, q6, q7, q8, q9⟩ := A
    dsimp only at q0 q1 q2 q3 q4 q5 q6 q7 q8 q9
    have c0 := block_cell b1 0 (.int .i64 s.voices) rfl
    have c1 := block_cell b1 1 (.slice (some ⟨b, o, none⟩) s.notes.length cn) rfl
    have c2 := block_cell b1 2 (.slice ap s.pairs.length cp) rfl
    have c3 := block_cell b1 3 (.slice ac s.cads.length cc) rfl
    clear x1 b1
    cases nt with
    | false =>
      have HR2 : Hid (befR s k = (-1, 0)) := Lib.hid (by rw [HR.out]; rfl)
      clear HR
      go_wp2
      go_ret2
      exact ⟨by rw [HR2.out] <;> rfl, (by repeat (first | with_reducible exact Ext.refl _ | with_reducible assumption | with_reducible apply Ext.alloc | with_reducible apply Ext.drew | (with_reducible refine Ext.setCell ?_ (by (try simp) <;> omega) _)))⟩
    | true =>
      have HR2 : Hid (befR s k = (findL s.notes (endP nv nf) 0, 0)) := Lib.hid (by rw [HR.out]; rfl)
      clear HR
      have AW := Lib.hid fun w' (y : Ext w1 w') => ahead_walk (.slice (some ⟨b, o, none⟩) s.notes.length cn) (.slice ap s.pairs.length cp) (.slice ac s.cads.length cc) s nv nf w' ((S.ext X1).ext y)
      have g0 := ext_cells c0; have g1 := ext_cells c1; have g2 := ext_cells c2; have g3 := ext_cells c3; have g4 := ext_cells q0; have g5 := ext_cells q1
      clear q2 q3 q4 q5 q6 q7 q8
      obtain ⟨wo, rfl⟩ : ∃ wo : World, wo = w1 := ⟨_, rfl⟩
      go_wp2
      refine wp_region_ord [(0,true), (1,true), (2,true), (3,true), (4,true), (5,true), (6,true), (7,true), (8,true), (9,true), (10,true), (11,true), (12,true), (13,true), (14,true), (15,true)] 16 Ext (Ext wo) wide (by kernel_rfl) (stable_ext _) (Ext.drawn _ _) ?_
      iterate 13 (first | (apply wpOrd_no rfl; rfl; (simp only [List.getElem_toArray, List.getElem_cons_succ, List.getElem_cons_zero, Act.put, List.setIfInBounds_toArray, List.set_cons_succ, List.set_cons_zero]; rfl)) | (apply wpOrd_yes rfl; rfl; (intro w' hw'; unfold opR; go_simp; exact ⟨Ext.refl _, rfl⟩); (simp only [List.getElem_toArray, List.getElem_cons_succ, List.getElem_cons_zero, Act.put, List.setIfInBounds_toArray, List.set_cons_succ, List.set_cons_zero]; rfl)))
      (apply wpOrd_det rfl rfl; (intro w' hw'; refine opR_call rfl (Go.Proofs.enters_of Tryz.func27 (by kernel_rfl) rfl) (by simp only [List.map_toArray, List.map_cons, List.map_nil, Act.eval, Array.getD_eq_getD_getElem?, List.getElem?_toArray, List.getElem?_cons_succ, List.getElem?_cons_zero, Option.getD_some]; rfl) ?_; refine (AW.out _ hw').mono ?_; rintro e w'' ⟨rfl, hx⟩; exact ⟨_, rfl, hx, rfl⟩); (simp only [List.getElem_toArray, List.getElem_cons_succ, List.getElem_cons_zero, Act.put, List.setIfInBounds_toArray, List.set_cons_succ, List.set_cons_zero]; rfl))
      iterate 2 (first | (apply wpOrd_no rfl; rfl; (simp only [List.getElem_toArray, List.getElem_cons_succ, List.getElem_cons_zero, Act.put, List.setIfInBounds_toArray, List.set_cons_succ, List.set_cons_zero]; rfl)) | (apply wpOrd_yes rfl; rfl; (intro w' hw'; unfold opR; go_simp; exact ⟨Ext.refl _, rfl⟩); (simp only [List.getElem_toArray, List.getElem_cons_succ, List.getElem_cons_zero, Act.put, List.setIfInBounds_toArray, List.set_cons_succ, List.set_cons_zero]; rfl)))
      refine wpOrd_nil rfl ?_
      intro w9 x9
      clear q0 q1 q9 c0 c1 c2 c3 g0 g1 g2 g3 g4 g5
      go_wp2
      go_ret2
      exact ⟨by rw [HR2.out] <;> rfl, X1.trans x9⟩
  · have hR : befR s n = (0, 1) := by unfold befR; rw [if_neg hg]
    have HR := Lib.hid hR
    cases hok : scB s with
    | false =>
      have HO := Lib.hid hok
      clear hok hR hg
      go_enter Tryz.func20, Tryz.ntmps20
      go_wp2_with fail
      refine (rvalid19_walk _ _ _ s _ (S.ext (by repeat (first | with_reducible exact Ext.refl _ | with_reducible assumption | with_reducible apply Ext.alloc | with_reducible apply Ext.drew | (with_reducible refine Ext.setCell ?_ (by (try simp) <;> omega) _))))).mono ?_
      rw [HO.out]
      rintro e w1 ⟨rfl, x1⟩
      have X1 : Ext w w1 := Ext.trans (by repeat (first | with_reducible exact Ext.refl _ | with_reducible assumption | with_reducible apply Ext.alloc | with_reducible apply Ext.drew | (with_reducible refine Ext.setCell ?_ (by (try simp) <;> omega) _))) x1
      go_wp2
      go_ret2
      exact ⟨by rw [HR.out] <;> rfl, X1⟩
    | true =>
      have HO := Lib.hid hok
      have hg' : ¬ (0 ≤ n ∧ n < s.notes.length) := fun h => hg ⟨hok, h⟩
      clear hok hR hg
      by_cases h1 : n < 0
      · clear hg'
        go_enter Tryz.func20, Tryz.ntmps20
        go_wp2_with fail
        refine (rvalid19_walk _ _ _ s _ (S.ext (by repeat (first | with_reducible exact Ext.refl _ | with_reducible assumption | with_reducible apply Ext.alloc | with_reducible apply Ext.drew | (with_reducible refine Ext.setCell ?_ (by (try simp) <;> omega) _))))).mono ?_
        rw [HO.out]
        rintro e w1 ⟨rfl, x1⟩
        have X1 : Ext w w1 := Ext.trans (by repeat (first | with_reducible exact Ext.refl _ | with_reducible assumption | with_reducible apply Ext.alloc | with_reducible apply Ext.drew | (with_reducible refine Ext.setCell ?_ (by (try simp) <;> omega) _))) x1
        go_wp2
        go_ret2
        exact ⟨by rw [HR.out] <;> rfl, X1⟩
      · have h2 : (s.notes.length : Int) ≤ n := by omega
        clear hg'
        go_enter Tryz.func20, Tryz.ntmps20
        go_wp2_with fail
        refine (rvalid19_walk _ _ _ s _ (S.ext (by repeat (first | with_reducible exact Ext.refl _ | with_reducible assumption | with_reducible apply Ext.alloc | with_reducible apply Ext.drew | (with_reducible refine Ext.setCell ?_ (by (try simp) <;> omega) _))))).mono ?_
        rw [HO.out]
        rintro e w1 ⟨rfl, x1⟩
        have X1 : Ext w w1 := Ext.trans (by repeat (first | with_reducible exact Ext.refl _ | with_reducible assumption | with_reducible apply Ext.alloc | with_reducible apply Ext.drew | (with_reducible refine Ext.setCell ?_ (by (try simp) <;> omega) _))) x1
        have b1 := block_ext x1 (block_new w (.cells #[.int .i64 s.voices, .slice an s.notes.length cn, .slice ap s.pairs.length cp, .slice ac s.cads.length cc] 26))
        have c1 := block_cell b1 1 (.slice an s.notes.length cn) rfl
        clear x1 b1
        go_wp2
        go_ret2
        exact ⟨by rw [HR.out] <;> rfl, X1⟩

end Go.Proofs.YtgfaiihekibcbaaGreatDoor
