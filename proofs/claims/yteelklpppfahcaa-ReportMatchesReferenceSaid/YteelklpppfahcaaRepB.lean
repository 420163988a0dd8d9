/-
  Walks: report.top.
-/
import Derived.Test.YteelklpppfahcaaRepA
namespace Go.Proofs.Yteelklpppfahcaa
open Go.RowKit Go.Sx Go.Sx.Rep

theorem wide : Try.prog.follows .mixedOrders = true := by kernel_rfl

set_option maxHeartbeats 400000 in
theorem top_walk (xs : List Int) : ∀ (n lo hi : Nat) (v : Value) (w : World), hi - lo ≤ n → lo < hi → hi ≤ xs.length → Sl w 1 encU v xs →
    Calls Try.prog 37 #[v, .int .i64 lo, .int .i64 hi] w fun e w' => e = .returned (.int .u64 (root (seg xs lo hi))) ∧ Ext w w' := by
  intro n
  induction n with
  | zero => intro lo hi v w h1 h2; omega
  | succ n ih =>
    intro lo hi v w hn hlt hhi S
    obtain ⟨a?, cap, rfl, h1, h2, h3⟩ := S.len
    clear h1 h2
    by_cases h1 : hi = lo + 1
    · subst h1
      obtain ⟨b0, o0, rfl, hc⟩ := S.at1 lo (by omega)
      simp only [encU, List.getD_cons_zero] at hc
      have hl : lo < xs.length := by omega
      go_enter Try.func37, Try.ntmps37
      go_wp2
      go_ret
      exact ⟨by rw [seg_one _ hl]; rfl, Ext.refl _⟩
    · have hne : ((hi : Int) - lo == 1) = false := by simp; omega
      have IH := Lib.hid ih
      clear ih
      go_enter Try.func37, Try.ntmps37
      go_wp2_with (go_at_call 48; go_must (refine (divide_walk lo hi _ (by omega) (by omega)).mono ?_); rintro e w1 ⟨rfl, hx1⟩)
      have hk : lo + split (hi - lo) < hi := by have := split_lt (n := hi - lo) (by omega); omega
      have hk1 := split_pos (hi - lo)
      obtain ⟨m, hm⟩ : ∃ m : Nat, m = lo + split (hi - lo) := ⟨_, rfl⟩
      have hmi : (lo : Int) + (split (hi - lo) : Int) = (m : Int) := by rw [hm]; simp
      have hroot := root_seg xs (lo := lo) (hi := hi) (by omega) hhi
      rw [← hm] at hroot hk
      rw [hmi]
      obtain ⟨cs, hcs⟩ : ∃ cs : Array Value, cs = #[.int .i64 lo, .int .i64 m, .int .i64 hi] := ⟨_, rfl⟩
      have S2 := S.ext (hx1.alloc (.cells cs 64))
      have hx2 := hx1.alloc (.cells cs 64)
      have c0 := alloc_cell w1 cs 64 0 (.int .i64 lo) (by rw [hcs]; rfl)
      have c1 := alloc_cell w1 cs 64 1 (.int .i64 m) (by rw [hcs]; rfl)
      have c2 := alloc_cell w1 cs 64 2 (.int .i64 hi) (by rw [hcs]; rfl)
      rw [← hcs]
      obtain ⟨w2, hw2⟩ : ∃ w2, w1.alloc (.cells cs 64) = w2 := ⟨_, rfl⟩
      rw [hw2] at c0 c1 c2 S2 hx2 ⊢
      have d0 := ext_cells c0
      have d1 := ext_cells c1
      have d2 := ext_cells c2
      have HM := Lib.hid hm
      have HR := Lib.hid hroot
      have hlm : lo < m := by omega
      clear hw2 hcs c0 c1 c2 hm hmi hroot S hk1 hx1 h1 hne
      refine wp_region_ord [(0,true),(1,true),(2,true),(3,true),(4,true),(5,true),(6,true),(7,true),(8,true),(9,true),(10,true),(11,true),(12,true),(13,true)] 14 Ext (Ext w2) wide (by kernel_rfl) (stable_ext _) (Ext.drawn _ _) ?_
      iterate 5 (apply wpOrd_det rfl rfl; (intro w' hw'; unfold opR; go_simp; exact ⟨Ext.refl _, rfl⟩); (simp only [List.getElem_toArray, List.getElem_cons_succ, List.getElem_cons_zero, Act.put, List.setIfInBounds_toArray, List.set_cons_succ, List.set_cons_zero]; rfl))
      (apply wpOrd_det rfl rfl; (intro w' hw'; refine opR_call rfl (Go.Proofs.enters_of Try.func37 (by kernel_rfl) rfl) (by simp only [List.map_toArray, List.map_cons, List.map_nil, Act.eval, Array.getD_eq_getD_getElem?, List.getElem?_toArray, List.getElem?_cons_succ, List.getElem?_cons_zero, Option.getD_some]; rfl) ?_; refine (IH.out lo m _ w' (by omega) hlm (by omega) (S2.ext hw')).mono ?_; rintro e w4 ⟨rfl, hx⟩; exact ⟨_, rfl, hx, rfl⟩); (simp only [List.getElem_toArray, List.getElem_cons_succ, List.getElem_cons_zero, Act.put, List.setIfInBounds_toArray, List.set_cons_succ, List.set_cons_zero]; rfl))
      iterate 5 (apply wpOrd_det rfl rfl; (intro w' hw'; unfold opR; go_simp; exact ⟨Ext.refl _, rfl⟩); (simp only [List.getElem_toArray, List.getElem_cons_succ, List.getElem_cons_zero, Act.put, List.setIfInBounds_toArray, List.set_cons_succ, List.set_cons_zero]; rfl))
      (apply wpOrd_det rfl rfl; (intro w' hw'; refine opR_call rfl (Go.Proofs.enters_of Try.func37 (by kernel_rfl) rfl) (by simp only [List.map_toArray, List.map_cons, List.map_nil, Act.eval, Array.getD_eq_getD_getElem?, List.getElem?_toArray, List.getElem?_cons_succ, List.getElem?_cons_zero, Option.getD_some]; rfl) ?_; refine (IH.out m hi _ w' (by omega) (by omega) hhi (S2.ext hw')).mono ?_; rintro e w4 ⟨rfl, hx⟩; exact ⟨_, rfl, hx, rfl⟩); (simp only [List.getElem_toArray, List.getElem_cons_succ, List.getElem_cons_zero, Act.put, List.setIfInBounds_toArray, List.set_cons_succ, List.set_cons_zero]; rfl))
      (apply wpOrd_det rfl rfl; (intro w' hw'; refine opR_call rfl (Go.Proofs.enters_of Try.func22 (by kernel_rfl) rfl) (by simp only [List.map_toArray, List.map_cons, List.map_nil, Act.eval, Array.getD_eq_getD_getElem?, List.getElem?_toArray, List.getElem?_cons_succ, List.getElem?_cons_zero, Option.getD_some]; rfl) ?_; refine (node_walk _ _ w').mono ?_; rintro e w4 ⟨rfl, hx⟩; exact ⟨_, rfl, hx, rfl⟩); (simp only [List.getElem_toArray, List.getElem_cons_succ, List.getElem_cons_zero, Act.put, List.setIfInBounds_toArray, List.set_cons_succ, List.set_cons_zero]; rfl))
      (apply wpOrd_det rfl rfl; (intro w' hw'; unfold opR; go_simp; exact ⟨Ext.refl _, rfl⟩); (simp only [List.getElem_toArray, List.getElem_cons_succ, List.getElem_cons_zero, Act.put, List.setIfInBounds_toArray, List.set_cons_succ, List.set_cons_zero]; rfl))
      refine wpOrd_nil rfl ?_
      intro w3 hw3
      go_wp2
      go_ret
      exact ⟨by rw [HR.out]; rfl, (hx2.trans hw3)⟩
end Go.Proofs.Yteelklpppfahcaa
