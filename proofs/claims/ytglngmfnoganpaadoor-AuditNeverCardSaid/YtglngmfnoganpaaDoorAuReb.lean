/-
  Plain: another bound of one pair.
-/
import Derived.Test.YtglngmfnoganpaaDoorAuL
set_option linter.unusedVariables false
namespace Go.Proofs.YtglngmfnoganpaaDoor
open Go.RowKit Go.Sx Go.Sx.Sz Go.Sx.Sc Go.Sx.Au

theorem reb_len (s : Sc) (k : Nat) (b : Int) : (rebS s k b).pairs.length = s.pairs.length := by simp [rebS]
theorem reb_P {s : Sc} {k : Nat} (b : Int) {i : Nat} (hi : i < s.pairs.length) : (rebS s k b).P i = if i = k then { s.P k with bound := b } else s.P i := by
  rw [Sc.P_eq (by rw [reb_len]; exact hi)]
  unfold rebS
  simp only [List.getElem_set]
  by_cases h : k = i
  · rw [if_pos h, if_pos h.symm]
  · rw [if_neg h, if_neg (fun e => h e.symm), Sc.P_eq hi]
theorem reb_ok {s : Sc} (h : ScOk s) {k : Nat} (hk : k < s.pairs.length) {b : Int} (hb : 0 ≤ b ∧ b ≤ 100000) : ScOk (rebS s k b) := by
  have hp := h.pr
  refine ⟨?_, h.nt, h.vc, ⟨fun i hi => ?_, fun i hi => ?_⟩, h.cd⟩
  · have := h.sz
    unfold szOk' at this ⊢
    rw [reb_len]
    exact this
  · rw [reb_len] at hi
    rw [reb_P b hi]
    split
    · obtain ⟨h1, h2, h3, h4, h5, h6⟩ := hp.1 k hk
      exact ⟨h1, h2, h3, hb, h5, h6⟩
    · exact hp.1 i hi
  · rw [reb_len] at hi
    have hl := hp.2 i hi
    rw [reb_P b (show i < s.pairs.length by omega), reb_P b (show i + 1 < s.pairs.length by omega)]
    by_cases h1 : i = k
    · subst h1
      rw [if_pos rfl, if_neg (by omega)]
      exact hl
    · rw [if_neg h1]
      by_cases h2 : i + 1 = k
      · subst h2; rw [if_pos rfl]; exact hl
      · rw [if_neg h2]; exact hl
theorem reb_tones {s : Sc} {l : List S2} (h : tonesOk s l) {k : Nat} (hk : k < s.pairs.length) {b : Int} (hb : 0 ≤ b ∧ b ≤ 100000) : tonesOk (rebS s k b) l := ⟨reb_ok h.1 hk hb, h.2.1, h.2.2⟩
theorem reb_fd {s : Sc} {l : List S2} {k : Nat} (hk : k < s.pairs.length) (b : Int) : fdOf (rebS s k b) l k = findZ k (pairD s l (s.P k)) b := by
  unfold fdOf
  rw [reb_P b hk, if_pos rfl]
  rfl
theorem reb_judge {s : Sc} {l : List S2} (h : tonesOk s l) {k : Nat} (hk : k < s.pairs.length) {b : Int} (hb : 0 ≤ b ∧ b ≤ 100000) : judgeR (rebS s k b) l (k : Int) = (findZ k (pairD s l (s.P k)) b, 0) := by
  rw [judgeR_at (tonesB_iff.2 (reb_tones h hk hb)) (by rw [reb_len]; exact hk), reb_fd hk]
/-- The number of a pair. -/
theorem pair_at {n : Nat} (hn : 0 < n) {u : Int} (hu : 0 ≤ u) : ∃ m : Nat, u % (n : Int) = (m : Int) ∧ m < n := by
  have h1 := Int.emod_nonneg u (show (n : Int) ≠ 0 by omega)
  have h2 := Int.emod_lt_of_pos u (show (0 : Int) < n by omega)
  exact ⟨(u % (n : Int)).toNat, by omega, by omega⟩
theorem findZ_same {i : Int} {d : S2} {b c : Int} (h : verdZ d b = verdZ d c) : findZ i d b = findZ i d c := by unfold findZ; rw [bnd_same h, h]
end Go.Proofs.YtglngmfnoganpaaDoor
