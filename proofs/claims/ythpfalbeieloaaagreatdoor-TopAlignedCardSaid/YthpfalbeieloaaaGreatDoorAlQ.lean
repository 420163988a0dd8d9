/-
  Plain: what Align returns proves itself, and what Check accepts costs the least.
-/
import Derived.Test.YthpfalbeieloaaaGreatDoorAlK
set_option maxRecDepth 100000
set_option linter.unusedVariables false
namespace Go.Proofs.YthpfalbeieloaaaGreatDoor
open Go.RowKit Go.Sx Go.Sx.Sz Go.Sx.Al Go.ChangeShapes Go.WideShapes Go.ChangeAt

theorem cellsOk_mk {ds : List Due} {hs : List Hrd} {p : Prc} {t : List (List Int)} {i j : Nat} : ∀ {n : Nat}, (∀ k, k < n → cellOk ds hs p t i j k = true) → cellsOk ds hs p t i j n = true
  | 0, _ => rfl
  | n + 1, h => by rw [cellsOk, cellsOk_mk (fun k hk => h k (by omega)), h n (by omega)]; rfl
theorem bndB_mk {ds : List Due} {hs : List Hrd} {p : Prc} {t : List (List Int)} : ∀ {L : Nat}, (∀ K, K < L → cellsOk ds hs p t (ds.length - K / (hs.length + 1)) (hs.length - K % (hs.length + 1)) 3 = true) → bndB ds hs p t L = true
  | 0, _ => rfl
  | L + 1, h => by rw [bndB, bndB_mk (fun K hK => h K (by omega)), h L (by omega)]; rfl
theorem tv_table {ds : List Due} {hs : List Hrd} {p : Prc} {i j : Nat} (hi : i ≤ ds.length) (hj : j ≤ hs.length) : tv (tableL ds hs p) i j = tab ds hs p i j := by
  unfold tv tableL
  rw [List.getD_eq_getElem?_getD, List.getD_eq_getElem?_getD, List.getElem?_map, List.getElem?_range (by omega)]
  simp only [Option.map_some, Option.getD_some]
  rw [List.getElem?_map, List.getElem?_range (by omega)]; rfl
theorem shape_table {ds : List Due} {hs : List Hrd} {p : Prc} (hv : AlOk ds hs p) : shapeB (tableL ds hs p) ds.length hs.length = true := by
  unfold shapeB
  rw [Bool.and_eq_true, decide_eq_true_eq, List.all_eq_true]
  refine ⟨fun r hr => ?_, by simp [tableL]⟩
  unfold tableL at hr
  obtain ⟨i, hi, rfl⟩ := List.mem_map.1 hr
  rw [List.mem_range] at hi
  unfold rowB
  rw [Bool.and_eq_true, decide_eq_true_eq, Bool.not_eq_true', List.any_eq_false]
  refine ⟨by simp, fun x hx => ?_⟩
  obtain ⟨j, hj, rfl⟩ := List.mem_map.1 hx
  rw [List.mem_range] at hj
  have := @tab_small ds hs p hv i j (by omega) (by omega)
  simp [inR]; omega
/-- The table that Align returns proves its alignment. -/
theorem check_align {ds : List Due} {hs : List Hrd} {p : Prc} (hok : alOk ds hs p = true) : checkB ds hs p (pathL ds hs p) (tableL ds hs p) = true := by
  have hv := alOk_iff.1 hok
  have hc := cost_path hok
  rw [checkB, headB, hc, shape_table hv, tv_table (Nat.le_refl _) (Nat.le_refl _), tv_table (Nat.zero_le _) (Nat.zero_le _), tab_nm]
  simp only [decide_true, Bool.true_and]
  refine bndB_mk fun K hK => cellsOk_mk fun k hk => ?_
  have here := here_of hK
  obtain ⟨l1, l2⟩ := here.le
  rw [cellOk]
  by_cases ho : stOk ds hs (ds.length - K / (hs.length + 1)) (hs.length - K % (hs.length + 1)) k
  · rw [decide_eq_true ho, tv_table l1 l2, tv_table ho.1 ho.2]
    simp only [Bool.not_true, Bool.false_or, decide_eq_true_eq]
    have B := @tab_bnd ds hs p
    generalize ds.length - K / (hs.length + 1) = i at *
    generalize hs.length - K % (hs.length + 1) = j at *
    obtain rfl | rfl | rfl : k = 0 ∨ k = 1 ∨ k = 2 := by omega
    · have h1 : i < ds.length := ho.1
      have h2 : j < hs.length := ho.2
      rw [show stC ds hs p i j 0 = mcT ds hs p i j from rfl, mcT_eq ds hs p h1 h2]
      exact B.both i j h1 h2
    · exact B.due i j ho.1 l2
    · exact B.tone i j l1 ho.2
  · rw [decide_eq_false ho]; rfl
end Go.Proofs.YthpfalbeieloaaaGreatDoor
