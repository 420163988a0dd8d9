/-
  Walks: the reference's Same, Top, Root, way, Path.
-/
import Derived.Test.YteelklpppfahcaaRepI
namespace Go.Proofs.Yteelklpppfahcaa
open Go.RowKit Go.Sx Go.Sx.Rep

set_option maxHeartbeats 1000000 in
theorem same_walk (u v : Value) (xs ys : List Int) (w : World) (S : Sl w 1 encU u xs) (T : Sl w 1 encU v ys) :
    Calls Try.prog 16 #[u, v] w fun e w' => e = .returned (.bool (decide (xs = ys))) ∧ Ext w w' := by
  obtain ⟨ua, uc, rfl, h1, h2, h3⟩ := S.len
  obtain ⟨va, vc, rfl, k1, k2, k3⟩ := T.len
  clear h1 h2 k1 k2
  by_cases hl : xs.length = ys.length
  · have hl' : ((xs.length : Int) != ys.length) = false := by rw [bne_eq_false_iff_eq]; omega
    have HL := Lib.hid hl
    clear hl
    go_enter Try.func16, Try.ntmps16
    go_wp2
    go_loopw [5] (fun i wr => ∃ k : Nat, k ≤ xs.length ∧ i = .int .i64 k ∧ Hid (xs.take k = ys.take k) ∧ Ext w wr) (fun i _ => xs.length - (intOf i).toNat)
    case atStart => exact ⟨0, Nat.zero_le _, rfl, Lib.hid rfl, Ext.refl _⟩
    case round =>
      obtain ⟨k, hk, rfl, HT, hx⟩ := hrel
      by_cases hlt : k < xs.length
      · have hlt2 : k < ys.length := by rw [← HL.out]; exact hlt
        obtain ⟨b0, o0, rfl, hc⟩ := (S.ext hx).at1 k hlt
        obtain ⟨b1, o1, rfl, hd⟩ := (T.ext hx).at1 k hlt2
        simp only [encU, List.getD_cons_zero] at hc hd
        have gc := ext_cells hc
        have gd := ext_cells hd
        have t1 := Lib.hid (List.take_succ_eq_append_getElem hlt)
        have t2 := Lib.hid (List.take_succ_eq_append_getElem hlt2)
        clear hc hd S T
        by_cases hxy : xs[k] = ys[k]
        · have hne : (xs[k] != ys[k]) = false := by rw [bne_eq_false_iff_eq]; exact hxy
          have HXY := Lib.hid hxy
          clear hxy
          go_wp2
          refine wp_region_ord [(0,true),(1,true),(2,true),(3,true),(4,true),(5,true),(6,true),(7,true),(8,true)] 9 Ext (Ext wr) wide (by kernel_rfl) (stable_ext _) (Ext.drawn _ _) ?_
          iterate 9 (apply wpOrd_det rfl rfl; (intro w' hw'; unfold opR; go_simp; exact ⟨Ext.refl _, rfl⟩); (simp only [List.getElem_toArray, List.getElem_cons_succ, List.getElem_cons_zero, Act.put, List.setIfInBounds_toArray, List.set_cons_succ, List.set_cons_zero]; rfl))
          refine wpOrd_nil (l := []) rfl ?_
          intro w4 hw4
          go_wp2
          go_roundw
          case rel => exact ⟨k + 1, by omega, by go_num, Lib.hid (by rw [t1.out, t2.out, HT.out, HXY.out]), hx.trans hw4⟩
          case measure => simp [intOf] <;> omega
        · have hne : (xs[k] != ys[k]) = true := by rw [bne_iff_ne]; exact hxy
          have HXY := Lib.hid hxy
          clear hxy
          go_wp2
          refine wp_region_ord [(0,true),(1,true),(2,true),(3,true),(4,true),(5,true),(6,true),(7,true),(8,true)] 9 Ext (Ext wr) wide (by kernel_rfl) (stable_ext _) (Ext.drawn _ _) ?_
          iterate 9 (apply wpOrd_det rfl rfl; (intro w' hw'; unfold opR; go_simp; exact ⟨Ext.refl _, rfl⟩); (simp only [List.getElem_toArray, List.getElem_cons_succ, List.getElem_cons_zero, Act.put, List.setIfInBounds_toArray, List.set_cons_succ, List.set_cons_zero]; rfl))
          refine wpOrd_nil (l := []) rfl ?_
          intro w4 hw4
          go_wp2
          go_ret
          exact ⟨by rw [decide_eq_false (fun h => HXY.out (by subst h; rfl))]; rfl, hx.trans hw4⟩
      · obtain rfl : k = xs.length := by omega
        clear S T
        go_wp2
        go_ret
        refine ⟨?_, hx⟩
        have h := HT.out
        rw [List.take_length, HL.out, List.take_length] at h
        rw [decide_eq_true h]; rfl
  · have hl' : ((xs.length : Int) != ys.length) = true := by rw [bne_iff_ne]; omega
    have HL := Lib.hid hl
    clear hl S T
    go_enter Try.func16, Try.ntmps16
    go_wp2
    go_ret
    exact ⟨by rw [decide_eq_false (fun h => HL.out (by rw [h]))]; rfl, Ext.refl _⟩
end Go.Proofs.Yteelklpppfahcaa
