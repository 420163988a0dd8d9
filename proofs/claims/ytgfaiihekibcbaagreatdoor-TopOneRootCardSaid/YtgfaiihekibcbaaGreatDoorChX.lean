/-
  The laws of TopOneRoot, plain: what Shortest yields, roots of groups, chains of bounded pairs.
-/
import Derived.Test.YtgfaiihekibcbaaGreatDoorGpR
import Derived.Test.YtgfaiihekibcbaaGreatDoorGpQ
import Derived.Test.YtgfaiihekibcbaaGreatDoorLibG
set_option maxRecDepth 100000
set_option linter.unusedVariables false
namespace Go.Sx.Ch
open Go.Sx.Sz Go.Sx.Sc Go.Sx.Po Go.Proofs.YtgfaiihekibcbaaGreatDoor
theorem res_cases {s : Sc} (hs : ScOk s) {rows : Nat → List Ed} (hr : RowsOf s rows) :
    (resR rows s.notes.length ((shortR rows s.notes.length).1.map Ed.st)).2 = 0 ∨ (resR rows s.notes.length ((shortR rows s.notes.length).1.map Ed.st)).2 = 4 ∧ ∀ a l, walk (edOf rows) a a l → wprod l = V6.zero := by
  unfold resR
  by_cases h : (shortR rows s.notes.length).1 = []
  · rw [if_pos (by rw [h]; rfl)]; exact .inr ⟨rfl, short_none hs hr h⟩
  · rw [if_neg (fun e => h (List.map_eq_nil_iff.1 e))]
    left
    obtain ⟨a, hw⟩ := best_walk (rows_f hr) (List.range s.notes.length) ([], s.notes.length) ⟨0, rfl⟩
    unfold prodP
    rw [last_walk _ a a h hw]
    obtain ⟨u, hu⟩ := prod_ok (rows_lt hs hr) (shortR rows s.notes.length).1 a a V6.zero hw
    rw [hu]; rfl
/-- The roots up to k: their groups are marked and different. -/
structure RootI (s : Sc) (R : List Bool) (k : Nat) : Prop where
  len : R.length = s.notes.length
  mark : ∀ a, a < k → (upF s a).k = 3 → R.getD (lab (labL s) a).toNat false = true
  one : ∀ a b, a < k → b < k → (upF s a).k = 3 → (upF s b).k = 3 → lab (labL s) a = lab (labL s) b → a = b
theorem RootI.zero (s : Sc) : RootI s (List.replicate s.notes.length false) 0 := ⟨by simp, fun a h => absurd h (by omega), fun a b h => absurd h (by omega)⟩
theorem RootI.skip {s : Sc} {R : List Bool} {k : Nat} (h : RootI s R k) (hk : (upF s k).k ≠ 3) : RootI s R (k + 1) := by
  refine ⟨h.len, fun a ha h3 => ?_, fun a b ha hb h3 h4 e => ?_⟩
  · have : a ≠ k := fun e => hk (e ▸ h3)
    exact h.mark a (by omega) h3
  · have : a ≠ k := fun e => hk (e ▸ h3)
    have : b ≠ k := fun e => hk (e ▸ h4)
    exact h.one a b (by omega) (by omega) h3 h4 e
theorem RootI.add {s : Sc} {R : List Bool} {k g : Nat} (h : RootI s R k) (hg : lab (labL s) k = g) (hlt : g < s.notes.length) (hf : R.getD g false = false) : RootI s (R.set g true) (k + 1) := by
  have hno : ∀ a, a < k → (upF s a).k = 3 → lab (labL s) a ≠ lab (labL s) k := fun a ha h3 e => by
    have := h.mark a ha h3
    rw [e, hg, Int.toNat_natCast, hf] at this
    cases this
  refine ⟨by rw [List.length_set]; exact h.len, fun a ha h3 => ?_, fun a b ha hb h3 h4 e => ?_⟩
  · rw [List.getD_eq_getElem?_getD, List.getElem?_set]
    by_cases ea : g = (lab (labL s) a).toNat
    · rw [if_pos ea, if_pos (by rw [h.len]; exact hlt)]; rfl
    · rw [if_neg ea, ← List.getD_eq_getElem?_getD]
      refine h.mark a ?_ h3
      have : a ≠ k := fun e => ea (by rw [e, hg, Int.toNat_natCast])
      omega
  · by_cases ha' : a = k
    · by_cases hb' : b = k
      · rw [ha', hb']
      · subst ha'; exact absurd e.symm (hno b (by omega) h4)
    · by_cases hb' : b = k
      · subst hb'; exact absurd e (hno a (by omega) h3)
      · exact h.one a b (by omega) (by omega) h3 h4 e
theorem lab_nat {s : Sc} (hs : ScOk s) {k : Nat} (hk : k < s.notes.length) : ∃ g : Nat, ∃ (h : k < (labL s).length), (labL s)[k] = (g : Int) ∧ lab (labL s) k = g ∧ g < s.notes.length := by
  have h : k < (labL s).length := by rw [labL_len]; exact hk
  have hr := labL_range hs (labL s)[k] (List.getElem_mem h)
  refine ⟨((labL s)[k]).toNat, h, by omega, ?_, by omega⟩
  unfold lab
  rw [List.getD_eq_getElem?_getD, List.getElem?_eq_getElem h]
  show (labL s)[k] = _
  omega
/-- No closed walk has a product, each group one root: what Broken shows is a pair with a bound. -/
theorem chain_pos {s : Sc} (hs : ScOk s) {rows : Nat → List Ed} (hr : RowsOf s rows) (hz : ∀ a l, walk (edOf rows) a a l → wprod l = V6.zero) {R : List Bool} (hR : RootI s R s.notes.length) {h : List V6} {c : Cn} (hc : c ∈ (brkR s h).1) :
    ∃ i : Nat, c.pair = i ∧ ∃ hi : i < s.pairs.length, 0 < (s.pairs[i]).bound := by
  unfold brkR at hc
  by_cases ht : (tuneR s h).2 = 0
  · rw [if_pos ht] at hc
    obtain ⟨-, hx, -⟩ := tune_ok ht
    simp only at hc
    rw [hx] at hc
    obtain ⟨i, hi, hb, rfl⟩ := mem_brkL.1 hc
    refine ⟨i, rfl, hi, ?_⟩
    obtain ⟨hlt, hbb⟩ := brkT_iff.1 hb
    rw [xsL_len] at hlt
    rw [Sc.P_eq hi] at hlt hbb
    have hp := List.getElem_mem hi
    have hq := pair_mem hs hp
    unfold pairOk at hq
    rcases Int.lt_or_eq_of_le hq.2.2.2.1.1 with h0 | h0
    · exact h0
    · have he := pure_whole hs hr hz (fun a b ha hb h3 h4 e => hR.one a b ha hb h3 h4 e) h (tun_le s h.length) hp h0.symm (by omega)
      unfold brkB at hbb
      rw [if_pos h0.symm, decide_eq_true_eq] at hbb
      exact absurd he hbb
  · rw [if_neg ht] at hc; simp at hc
theorem brk_err (s : Sc) (h : List V6) : (brkR s h).2 = 0 ∨ (brkR s h).2 = 3 ∨ (brkR s h).2 = 1 := by
  unfold brkR
  by_cases ht : (tuneR s h).2 = 0
  · rw [if_pos ht]; exact .inl rfl
  · rw [if_neg ht]
    unfold tuneR at ht ⊢
    split at ht
    · rename_i h1
      rw [if_pos h1]
      split at ht
      · exact absurd rfl ht
      · rename_i h2
        rw [if_neg h2]; exact .inr (.inl rfl)
    · rename_i h1
      rw [if_neg h1]; exact .inr (.inr rfl)
end Go.Sx.Ch
