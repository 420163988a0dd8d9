/-
  Walks: cmp.Less and slices.IsSorted at integers.
-/
import Derived.Test.YthpfalbeieloaaaGreatDoorLibM
import Derived.Test.YthpfalbeieloaaaGreatDoorLibB
import Derived.Test.YthpfalbeieloaaaGreatDoorAlM
set_option maxRecDepth 100000
set_option linter.unusedVariables false
namespace Go.Proofs.YthpfalbeieloaaaGreatDoor
open Go.RowKit Go.Sx Go.Sx.Sz

set_option maxHeartbeats 1000000 in
theorem sorted_walk (v : Value) (l : List Int) (w : World) (S : Sl w 1 encZ v l) :
    Calls Tryz.prog 47 #[v] w fun e w' => e = .returned (.bool (Al.rise l)) ∧ Ext w w' := by
  obtain ⟨a?, cap, rfl, h1, h2, h3⟩ := S.len
  clear h1 h2
  go_enter Tryz.func47, Tryz.ntmps47
  go_wp2
  go_loopw [3] (fun i wr => ∃ k : Nat, k ≤ l.length ∧ i = .int .i64 ((k : Int) - 1) ∧ (∀ j, k ≤ j + 1 → (h : j + 1 < l.length) → l[j] ≤ l[j + 1]) ∧ Ext w wr) (fun i _ => (intOf i).toNat)
  case atStart => exact ⟨l.length, by omega, rfl, fun j h1 h2 => by omega, (by repeat (first | with_reducible exact Ext.refl _ | with_reducible assumption | with_reducible apply Ext.alloc | with_reducible apply Ext.drew | (with_reducible refine Ext.setCell ?_ (by (try simp) <;> omega) _)))⟩
  case round =>
    obtain ⟨k, hk, rfl, hno, X⟩ := hrel
    have HN := Lib.hid hno; clear hno
    by_cases hlt : 2 ≤ k
    · obtain ⟨m, rfl⟩ : ∃ m, k = m + 2 := ⟨k - 2, by omega⟩
      obtain ⟨b, o, rfl, q0⟩ := Sl.num (S.ext X) m (by omega)
      obtain ⟨b', o', e, q1⟩ := Sl.num (S.ext X) (m + 1) (by omega)
      obtain ⟨rfl, rfl⟩ : b = b' ∧ o = o' := by cases e; exact ⟨rfl, rfl⟩
      clear e S
      have f0 := ext_cells q0; have f1 := ext_cells q1
      have e1 : ((m + 2 : Nat) : Int) - 1 = (m : Int) + 1 := by omega
      rw [e1]
      have e2 : IntKind.i64.wrap (m : Int) = (m : Int) := IntWalk.i64_in _ (by omega)
      have i1 : (0 : Int) ≤ (m : Int) + 1 := by omega
      have i2 : (m : Int) + 1 < (l.length : Int) := by omega
      have i3 : (0 : Int) ≤ (m : Int) := by omega
      have i4 : (m : Int) < (l.length : Int) := by omega
      have n1 : ((m : Int) + 1).toNat = m + 1 := by omega
      clear e1 q0 q1
      go_wp2
      refine wp_region_ord [(0,true), (1,true), (2,true), (3,true), (4,true), (5,true), (6,true), (7,true), (8,true), (9,true)] 10 Ext (Ext wr) wide (by kernel_rfl) (stable_ext _) (Ext.drawn _ _) ?_
      iterate 9 (apply wpOrd_det rfl rfl; (intro w' hw'; unfold opR; go_simp; exact ⟨Ext.refl _, rfl⟩); (simp only [List.getElem_toArray, List.getElem_cons_succ, List.getElem_cons_zero, Act.put, List.setIfInBounds_toArray, List.set_cons_succ, List.set_cons_zero]; rfl))
      (apply wpOrd_det rfl rfl; (intro w' hw'; refine opR_call rfl (Go.Proofs.enters_of Tryz.func70 (by kernel_rfl) rfl) (by simp only [List.map_toArray, List.map_cons, List.map_nil, Act.eval, Array.getD_eq_getD_getElem?, List.getElem?_toArray, List.getElem?_cons_succ, List.getElem?_cons_zero, Option.getD_some]; rfl) ?_; refine (less_walk _ _ w').mono ?_; rintro e w4 ⟨rfl, hx⟩; exact ⟨_, rfl, hx, rfl⟩); (simp only [List.getElem_toArray, List.getElem_cons_succ, List.getElem_cons_zero, Act.put, List.setIfInBounds_toArray, List.set_cons_succ, List.set_cons_zero]; rfl))
      refine wpOrd_nil rfl ?_
      intro W1 hW1
      clear e2 n1 f0 f1 i1 i2 i3 i4
      by_cases hd : l[m + 1] < l[m]
      · go_wp2
        go_ret
        exact ⟨by rw [show Al.rise l = false from by rw [← Bool.not_eq_true, Al.rise_iff]; intro h; have := h m (by omega); omega]; rfl, X.trans hW1⟩
      · go_wp2
        go_roundw
        case rel => exact ⟨m + 1, by omega, by go_num, fun j h1 h2 => by
            rcases Nat.lt_or_ge (j + 1) (m + 2) with h | h
            · obtain rfl : j = m := by omega
              omega
            · exact HN.out j h h2, X.trans hW1⟩
        case measure => simp [intOf] <;> omega
    · have e1 : (k : Int) - 1 ≤ 0 := by omega
      clear S
      go_wp2
      go_ret
      exact ⟨by rw [show Al.rise l = true from Al.rise_iff.2 fun j h => HN.out j (by omega) h]; rfl, X⟩
end Go.Proofs.YthpfalbeieloaaaGreatDoor
