/-
  Plain: parts of a valid score.
-/
import Derived.Test.YtigigcbondhmmaaDoorLibB
set_option linter.unusedVariables false
namespace Go.Sx.Sc
open Go.Sx.Sz

theorem adj_pairs {l : List Pr} (h : l.Pairwise lexP) : ∀ i, i < l.length - 1 → lexP (l.getD i default) (l.getD (i + 1) default) := fun i hi => by
  rw [List.getD_eq_getElem?_getD, List.getD_eq_getElem?_getD, List.getElem?_eq_getElem (show i < l.length by omega), List.getElem?_eq_getElem (show i + 1 < l.length by omega)]
  exact List.pairwise_iff_getElem.1 h i (i + 1) (by omega) (by omega) (by omega)
section
variable {s : Sc}
theorem prs_pairwise (h : prsOk s) : s.pairs.Pairwise lexP := by
  rw [List.pairwise_iff_getElem]
  intro i j hi hj hij
  have := h.lex hij hj
  rwa [Sc.P_eq hi, Sc.P_eq hj] at this
/-- A score with the same notes and some of the pairs. -/
theorem prs_sub (h : prsOk s) {t : Sc} (hs : t.pairs.Sublist s.pairs) (hp : ∀ p ∈ t.pairs, pairOk s p → pairOk t p) : prsOk t := by
  refine ⟨fun i hi => ?_, adj_pairs ((prs_pairwise h).sublist hs)⟩
  rw [Sc.P_eq hi]
  have hm := List.getElem_mem hi
  obtain ⟨j, hj, e⟩ := List.getElem_of_mem (hs.subset hm)
  refine hp _ hm ?_
  rw [← e, ← Sc.P_eq hj]
  exact h.1 j hj
theorem erase_sub {α : Type} (l : List α) (k : Nat) : (l.take k ++ l.drop (k + 1)).Sublist l := by
  have h : (l.take k ++ l.drop (k + 1)).Sublist (l.take k ++ l.drop k) := List.Sublist.append (List.Sublist.refl _) (by rw [← List.drop_drop]; exact List.drop_sublist _ _)
  rwa [List.take_append_drop] at h
def noPair (s : Sc) (k : Nat) : Sc := ⟨s.voices, s.notes, s.pairs.take k ++ s.pairs.drop (k + 1), s.cads⟩
theorem noPair_ok (h : ScOk s) (k : Nat) : ScOk (noPair s k) := by
  have hs := erase_sub s.pairs k
  have hl := hs.length_le
  refine ⟨?_, h.nt, h.vc, prs_sub h.pr hs (fun p _ hp => hp), h.cd⟩
  have := h.sz
  unfold szOk' at *
  show _ ∧ _ ∧ (s.pairs.take k ++ s.pairs.drop (k + 1)).length ≤ 400 ∧ _
  refine ⟨this.1, this.2.1, by omega, this.2.2.2⟩
def noLast (s : Sc) : Sc := ⟨s.voices, s.notes.take (s.notes.length - 1), s.pairs.filter (fun p => p.b != ((s.notes.length - 1 : Nat) : Int)), s.cads⟩
theorem noLast_N {i : Nat} (h : i < s.notes.length - 1) : (noLast s).N i = s.N i := by
  unfold Sc.N
  show (s.notes.take _).getD i default = _
  rw [List.getD_eq_getElem?_getD, List.getElem?_take_of_lt h, ← List.getD_eq_getElem?_getD]
theorem noLast_ok (h : ScOk s) : ScOk (noLast s) := by
  have hn := fun (i : Nat) (hi : i < s.notes.length - 1) => noLast_N (s := s) hi
  have hl : (noLast s).notes.length = s.notes.length - 1 := by show (s.notes.take _).length = _; rw [List.length_take]; omega
  have hp : (noLast s).pairs.Sublist s.pairs := List.filter_sublist
  refine ⟨?_, ⟨fun i hi => ?_, fun i hi => ?_⟩, fun i hi => ⟨fun k hk hv => ?_, fun ht hno => ?_⟩, prs_sub h.pr hp (fun p hm hpk => ?_), h.cd⟩
  · have := h.sz
    have hpl := hp.length_le
    unfold szOk' at *
    rw [hl]
    refine ⟨this.1, by omega, by omega, this.2.2.2⟩
  · rw [hl] at hi; rw [hn i hi]; exact h.nt.note (by omega)
  · rw [hl] at hi; rw [hn i (by omega), hn (i + 1) (by omega)]; exact h.nt.2 i (by omega)
  · rw [hl] at hi; rw [hn i hi, hn k (by omega)] at *; exact h.apart hk (by omega) hv
  · rw [hl] at hi
    rw [hn i hi] at ht
    obtain ⟨k, hk, a, b, c⟩ := h.tie (show i < s.notes.length by omega) ht
    exact hno k hk ⟨by rw [hn i hi, hn k (by omega)]; exact a, by rw [hn i hi, hn k (by omega)]; exact b, by rw [hn i hi, hn k (by omega)]; exact c⟩
  · have hb : p.b ≠ ((s.notes.length - 1 : Nat) : Int) := by
      have := (List.mem_filter.1 hm).2
      simpa using this
    unfold pairOk at *
    rw [hl, hn _ (by omega), hn _ (by omega)]
    exact ⟨hpk.1, by omega, hpk.2.2⟩
def noCad (s : Sc) (k : Nat) : Sc := ⟨s.voices, s.notes, s.pairs, s.cads.take k⟩
theorem noCad_C {k i : Nat} (hk : k ≤ s.cads.length) (h : i < k) : (noCad s k).C i = s.C i := by
  unfold Sc.C
  show (s.cads.take _).getD i 0 = _
  rw [List.getD_eq_getElem?_getD, List.getElem?_take_of_lt h, ← List.getD_eq_getElem?_getD]
theorem noCad_ok (h : ScOk s) {k : Nat} (hk : k ≤ s.cads.length) : ScOk (noCad s k) := by
  have hl : (noCad s k).cads.length = k := by show (s.cads.take _).length = _; rw [List.length_take]; omega
  refine ⟨?_, h.nt, h.vc, h.pr, ⟨fun i hi => ?_, fun i hi => ?_⟩⟩
  · have := h.sz
    unfold szOk' at *
    rw [hl]
    exact ⟨this.1, this.2.1, this.2.2.1, by omega⟩
  · rw [hl] at hi; rw [noCad_C hk hi]; exact h.cd.1 i (by omega)
  · rw [hl] at hi; rw [noCad_C hk (by omega), noCad_C hk (by omega)]; exact h.cd.2 i (by omega)
theorem noCad_sec (h : ScOk s) (t : Int) {k : Nat} (hk : k + 1 = s.cads.length) : secF (noCad s k) t = min (secF s t) k := by
  unfold secF noCad
  have e : s.cads = s.cads.take k ++ [s.cads[k]] := by
    have : s.cads.take (k + 1) = s.cads := by rw [hk, List.take_length]
    rw [← List.take_succ_eq_append_getElem (by omega), this]
  have e2 : s.cads.countP (fun c => decide (c ≤ t)) = (s.cads.take k).countP (fun c => decide (c ≤ t)) + if s.cads[k] ≤ t then 1 else 0 := by
    conv => lhs; rw [e]
    rw [List.countP_append, List.countP_singleton]
    by_cases hc : s.cads[k] ≤ t <;> simp [hc]
  rw [e2]
  have hle : (s.cads.take k).countP (fun c => decide (c ≤ t)) ≤ k := Nat.le_trans List.countP_le_length (by rw [List.length_take]; omega)
  by_cases hc : s.cads[k] ≤ t
  · have hall : (s.cads.take k).countP (fun c => decide (c ≤ t)) = k := by
      have : (s.cads.take k).countP (fun c => decide (c ≤ t)) = (s.cads.take k).length := by
        rw [List.countP_eq_length]
        intro c hm
        obtain ⟨i, hi, rfl⟩ := List.getElem_of_mem hm
        rw [List.length_take] at hi
        rw [List.getElem_take, decide_eq_true_eq]
        have := h.cd.lt (show i < k by omega) (by omega)
        rw [Sc.C_eq (by omega), Sc.C_eq (by omega)] at this
        omega
      rw [this, List.length_take]; omega
    rw [if_pos hc, hall]; omega
  · rw [if_neg hc, Nat.add_zero, Nat.min_eq_left hle]
end
end Go.Sx.Sc
