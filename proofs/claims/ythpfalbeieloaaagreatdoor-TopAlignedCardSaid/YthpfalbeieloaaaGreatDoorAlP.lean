/-
  Plain: the table as it is filled, cell by cell, and the steps that are kept.
-/
import Derived.Test.YthpfalbeieloaaaGreatDoorAlN
namespace Go.Sx.Al
open Go.Sx.Sz

/-- Whether the cell i, j is among the first K ones. -/
def proc (n m K i j : Nat) : Bool := decide (n < i + K / (m + 1)) || (decide (n = i + K / (m + 1)) && decide (m < j + K % (m + 1)))
theorem proc_iff {n m K i j : Nat} : proc n m K i j = true ↔ n < i + K / (m + 1) ∨ (n = i + K / (m + 1) ∧ m < j + K % (m + 1)) := by simp [proc]
theorem proc_zero {n m i j : Nat} (hi : i ≤ n) (hj : j ≤ m) : proc n m 0 i j = false := by
  rw [← Bool.not_eq_true, proc_iff]; simp; omega
theorem proc_all {n m i j : Nat} : proc n m ((n + 1) * (m + 1)) i j = true := by
  rw [proc_iff, Nat.mul_div_cancel _ (by omega)]; omega

structure Here (n m K i0 j0 : Nat) : Prop where
  i : i0 + K / (m + 1) = n
  j : j0 + K % (m + 1) = m
theorem here_of {n m K : Nat} (h : K < (n + 1) * (m + 1)) : Here n m K (n - K / (m + 1)) (m - K % (m + 1)) := by
  have h1 : K / (m + 1) < n + 1 := Nat.div_lt_of_lt_mul (by rw [Nat.mul_comm]; exact h)
  have h2 : K % (m + 1) < m + 1 := Nat.mod_lt _ (by omega)
  exact ⟨by omega, by omega⟩

section
variable {n m K i0 j0 : Nat}
theorem Here.le (h : Here n m K i0 j0) : i0 ≤ n ∧ j0 ≤ m := ⟨Nat.le.intro h.i, Nat.le.intro h.j⟩
theorem Here.no (h : Here n m K i0 j0) : proc n m K i0 j0 = false := by
  have := h.i; have := h.j
  rw [← Bool.not_eq_true, proc_iff]; omega
theorem Here.below (h : Here n m K i0 j0) (j : Nat) : proc n m K (i0 + 1) j = true := by
  have := h.i
  rw [proc_iff]; omega
theorem Here.right (h : Here n m K i0 j0) : proc n m K i0 (j0 + 1) = true := by
  have := h.i; have := h.j
  rw [proc_iff]; omega
theorem Here.step (h : Here n m K i0 j0) {i j : Nat} (_ : i ≤ n) (hj : j ≤ m) : proc n m (K + 1) i j = (proc n m K i j || (decide (i = i0) && decide (j = j0))) := by
  have e1 := h.i; have e2 := h.j
  have hc : K % (m + 1) < m + 1 := Nat.mod_lt _ (by omega)
  have hK := Nat.div_add_mod K (m + 1)
  rw [Bool.eq_iff_iff, Bool.or_eq_true, Bool.and_eq_true, decide_eq_true_eq, decide_eq_true_eq, proc_iff, proc_iff]
  by_cases hm : K % (m + 1) = m
  · have e : K + 1 = (m + 1) * (K / (m + 1) + 1) := by rw [Nat.mul_add]; omega
    have d1 : (K + 1) / (m + 1) = K / (m + 1) + 1 := by
      conv => lhs; rw [e]
      exact Nat.mul_div_cancel_left _ (by omega)
    have d2 : (K + 1) % (m + 1) = 0 := by rw [e]; exact Nat.mul_mod_right _ _
    rw [d1, d2]
    clear d1 d2 e hK
    generalize K / (m + 1) = a at *
    generalize K % (m + 1) = c at *
    omega
  · have hlt : K % (m + 1) + 1 < m + 1 := by
      clear hK e1 e2
      revert hc hm
      generalize K % (m + 1) = c
      omega
    have e : K + 1 = (m + 1) * (K / (m + 1)) + (K % (m + 1) + 1) := by omega
    have d1 : (K + 1) / (m + 1) = K / (m + 1) := by
      conv => lhs; rw [e]
      rw [Nat.mul_add_div (Nat.succ_pos m), Nat.div_eq_of_lt hlt, Nat.add_zero]
    have d2 : (K + 1) % (m + 1) = K % (m + 1) + 1 := by
      conv => lhs; rw [e]
      rw [Nat.mul_add_mod, Nat.mod_eq_of_lt hlt]
    rw [d1, d2]
    clear d1 d2 e hK hlt
    generalize K / (m + 1) = a at *
    generalize K % (m + 1) = c at *
    omega
end

def mD : Nat → Nat | 0 => 1 | 1 => 1 | _ => 0
def mH : Nat → Nat | 0 => 1 | 1 => 0 | _ => 1

section
variable (ds : List Due) (hs : List Hrd) (p : Prc)

def mcT (i j : Nat) : Int := mc p (ds.getD i default) (hs.getD j default)
theorem mcT_eq {i j : Nat} (hi : i < ds.length) (hj : j < hs.length) : mcT ds hs p i j = mc p ds[i] hs[j] := by
  unfold mcT
  rw [List.getD_eq_getElem?_getD, List.getD_eq_getElem?_getD, List.getElem?_eq_getElem hi, List.getElem?_eq_getElem hj]; rfl
/-- What the step k costs, from the cell i, j. -/
def stC (i j k : Nat) : Int := if k = 0 then mcT ds hs p i j else p.skip
abbrev stOk (i j k : Nat) : Prop := i + mD k ≤ ds.length ∧ j + mH k ≤ hs.length
def stV (i j k : Nat) : Int := stC ds hs p i j k + tab ds hs p (i + mD k) (j + mH k)
/-- The best of the first k steps. -/
def cur (i j : Nat) : Nat → Option (Int × Nat)
  | 0 => none
  | k + 1 => if stOk ds hs i j k then (match cur i j k with | none => some (stV ds hs p i j k, k) | some (x, q) => if stV ds hs p i j k < x then some (stV ds hs p i j k, k) else some (x, q)) else cur i j k
def code (i j : Nat) : Nat :=
  if i < ds.length ∧ j < hs.length ∧ tab ds hs p i j = mcT ds hs p i j + tab ds hs p (i + 1) (j + 1) then 0
  else if i < ds.length ∧ tab ds hs p i j = p.skip + tab ds hs p (i + 1) j then 1 else 2
theorem code_lt (i j : Nat) : code ds hs p i j < 3 := by unfold code; split <;> (try split) <;> omega

theorem cur_end {i j : Nat} (hi : i ≤ ds.length) (hj : j ≤ hs.length) (h : i < ds.length ∨ j < hs.length) : cur ds hs p i j 3 = some (tab ds hs p i j, code ds hs p i j) := by
  unfold cur cur cur cur
  by_cases e1 : i < ds.length
  · by_cases e2 : j < hs.length
    · have hm := @tab_mid ds hs p i j e1 e2
      rw [if_pos (show stOk ds hs i j 0 from ⟨by simp [mD]; omega, by simp [mH]; omega⟩), if_pos (show stOk ds hs i j 1 from ⟨by simp [mD]; omega, by simp [mH]; omega⟩), if_pos (show stOk ds hs i j 2 from ⟨by simp [mD]; omega, by simp [mH]; omega⟩)]
      have v0 : stV ds hs p i j 0 = mcT ds hs p i j + tab ds hs p (i + 1) (j + 1) := rfl
      have v1 : stV ds hs p i j 1 = p.skip + tab ds hs p (i + 1) j := rfl
      have v2 : stV ds hs p i j 2 = p.skip + tab ds hs p i (j + 1) := rfl
      rw [← mcT_eq ds hs p e1 e2] at hm
      unfold code
      generalize tab ds hs p i j = t at *
      rw [← v0, ← v1, ← v2] at hm
      rw [← v0, ← v1]
      generalize stV ds hs p i j 0 = a at *
      generalize stV ds hs p i j 1 = b at *
      generalize stV ds hs p i j 2 = c at *
      simp only
      by_cases k1 : b < a
      · rw [if_pos k1]
        simp only
        by_cases k2 : c < b
        · rw [if_pos k2, if_neg (by omega), if_neg (by omega)]
          rw [show t = c by omega]
        · rw [if_neg k2, if_neg (by omega), if_pos (by omega)]
          rw [show t = b by omega]
      · rw [if_neg k1]
        simp only
        by_cases k2 : c < a
        · rw [if_pos k2, if_neg (by omega), if_neg (by omega)]
          rw [show t = c by omega]
        · rw [if_neg k2, if_pos (by omega)]
          rw [show t = a by omega]
    · obtain rfl : j = hs.length := by omega
      have hm := @tab_col ds hs p i e1
      rw [if_neg (show ¬ stOk ds hs i hs.length 0 from fun h => by have := h.2; simp only [mH] at this; omega), if_pos (show stOk ds hs i hs.length 1 from ⟨by simp [mD]; omega, by simp [mH]⟩), if_neg (show ¬ stOk ds hs i hs.length 2 from fun h => by have := h.2; simp only [mH] at this; omega)]
      have v1 : stV ds hs p i hs.length 1 = p.skip + tab ds hs p (i + 1) hs.length := rfl
      unfold code
      rw [if_neg (by omega), if_pos ⟨e1, hm⟩]
      rw [v1, hm]
  · obtain rfl : i = ds.length := by omega
    have e2 : j < hs.length := by omega
    have hm := @tab_row ds hs p j e2
    rw [if_neg (show ¬ stOk ds hs ds.length j 0 from fun h => by have := h.1; simp only [mD] at this; omega), if_neg (show ¬ stOk ds hs ds.length j 1 from fun h => by have := h.1; simp only [mD] at this; omega), if_pos (show stOk ds hs ds.length j 2 from ⟨by simp [mD], by simp [mH]; omega⟩)]
    have v2 : stV ds hs p ds.length j 2 = p.skip + tab ds hs p ds.length (j + 1) := rfl
    unfold code
    rw [if_neg (by omega), if_neg (by omega)]
    rw [v2, hm]
theorem cur_last : cur ds hs p ds.length hs.length 3 = none := by
  unfold cur cur cur cur
  rw [if_neg (show ¬ stOk ds hs ds.length hs.length 0 from fun h => by have := h.1; simp only [mD] at this; omega), if_neg (show ¬ stOk ds hs ds.length hs.length 1 from fun h => by have := h.1; simp only [mD] at this; omega), if_neg (show ¬ stOk ds hs ds.length hs.length 2 from fun h => by have := h.2; simp only [mH] at this; omega)]

theorem path_end : ∀ (f i j : Nat), ds.length ≤ i → hs.length ≤ j → path ds hs p f i j = []
  | 0, _, _, _, _ => rfl
  | f + 1, i, j, h1, h2 => by
    rw [path, if_neg (by omega), if_neg (by omega)]
    exact path_end f i (j + 1) h1 (by omega)
/-- The path by the kept steps. -/
theorem path_code (f i j : Nat) :
    path ds hs p (f + 1) i j = (if code ds hs p i j = 0 then [(⟨i, j⟩ : Mt)] else []) ++ path ds hs p f (i + mD (code ds hs p i j)) (j + mH (code ds hs p i j)) := by
  rw [path]
  unfold code mcT
  by_cases h1 : i < ds.length ∧ j < hs.length ∧ tab ds hs p i j = mc p (ds.getD i default) (hs.getD j default) + tab ds hs p (i + 1) (j + 1)
  · rw [if_pos h1, if_pos h1]; rfl
  · rw [if_neg h1, if_neg h1]
    by_cases h2 : i < ds.length ∧ tab ds hs p i j = p.skip + tab ds hs p (i + 1) j
    · rw [if_pos h2, if_pos h2]; rfl
    · rw [if_neg h2, if_neg h2]; rfl
theorem code_ok {i j : Nat} (hi : i ≤ ds.length) (hj : j ≤ hs.length) (h : i < ds.length ∨ j < hs.length) : i + mD (code ds hs p i j) ≤ ds.length ∧ j + mH (code ds hs p i j) ≤ hs.length := by
  unfold code
  split
  · rename_i h1; exact ⟨by simp [mD]; omega, by simp [mH]; omega⟩
  · split
    · rename_i h1 h2; exact ⟨by simp [mD]; omega, by simp [mH]; omega⟩
    · rename_i h1 h2
      refine ⟨by simp [mD]; omega, ?_⟩
      simp only [mH]
      by_cases e : j < hs.length
      · omega
      · exfalso
        obtain rfl : j = hs.length := by omega
        exact h2 ⟨by omega, tab_col (by omega)⟩

/-- The table behind the first K cells. -/
def tabK (K i j : Nat) : Int := if proc ds.length hs.length K i j then tab ds hs p i j else 0
/-- The steps behind the first K cells. -/
def stK (K i j : Nat) : Option Nat := if proc ds.length hs.length K i j && (decide (i < ds.length) || decide (j < hs.length)) && (decide (i ≤ ds.length) && decide (j ≤ hs.length)) then some (code ds hs p i j) else none
theorem tabK_zero {i j : Nat} (hi : i ≤ ds.length) (hj : j ≤ hs.length) : tabK ds hs p 0 i j = 0 := by unfold tabK; rw [proc_zero hi hj]; rfl
theorem tabK_all {i j : Nat} : tabK ds hs p ((ds.length + 1) * (hs.length + 1)) i j = tab ds hs p i j := by unfold tabK; rw [proc_all]; rfl
theorem stK_zero (i j k : Nat) : stK ds hs p 0 i j ≠ some k := by
  unfold stK
  by_cases h : i ≤ ds.length ∧ j ≤ hs.length
  · rw [proc_zero h.1 h.2]; simp
  · rw [if_neg (by simp; omega)]; simp
theorem stK_all {i j : Nat} (hi : i ≤ ds.length) (hj : j ≤ hs.length) (h : i < ds.length ∨ j < hs.length) : stK ds hs p ((ds.length + 1) * (hs.length + 1)) i j = some (code ds hs p i j) := by
  unfold stK
  rw [proc_all, if_pos (by simp; omega)]
section
variable {ds hs p} {K i0 j0 : Nat}
theorem here_tab (h : Here ds.length hs.length K i0 j0) {i j : Nat} (hi : i ≤ ds.length) (hj : j ≤ hs.length) : tabK ds hs p (K + 1) i j = if i = i0 ∧ j = j0 then tab ds hs p i0 j0 else tabK ds hs p K i j := by
  unfold tabK
  rw [h.step hi hj]
  by_cases e : i = i0 ∧ j = j0
  · obtain ⟨rfl, rfl⟩ := e
    simp
  · rw [if_neg e]
    have : (decide (i = i0) && decide (j = j0)) = false := by simpa using e
    rw [this, Bool.or_false]
theorem here_below (h : Here ds.length hs.length K i0 j0) (j : Nat) : tabK ds hs p K (i0 + 1) j = tab ds hs p (i0 + 1) j := by unfold tabK; rw [h.below]; rfl
theorem here_right (h : Here ds.length hs.length K i0 j0) : tabK ds hs p K i0 (j0 + 1) = tab ds hs p i0 (j0 + 1) := by unfold tabK; rw [h.right]; rfl
theorem here_read (h : Here ds.length hs.length K i0 j0) {k : Nat} (hk : k < 3) : tabK ds hs p K (i0 + mD k) (j0 + mH k) = tab ds hs p (i0 + mD k) (j0 + mH k) := by
  obtain rfl | rfl | rfl : k = 0 ∨ k = 1 ∨ k = 2 := by omega
  · exact here_below h _
  · exact here_below h _
  · exact here_right h
theorem here_st (h : Here ds.length hs.length K i0 j0) {i j k : Nat} (hs' : stK ds hs p (K + 1) i j = some k) : (i = i0 ∧ j = j0 ∧ (i0 < ds.length ∨ j0 < hs.length) ∧ k = code ds hs p i0 j0) ∨ (¬ (i = i0 ∧ j = j0) ∧ stK ds hs p K i j = some k) := by
  unfold stK at hs' ⊢
  split at hs'
  · rename_i hc
    simp only [Bool.and_eq_true, Bool.or_eq_true, decide_eq_true_eq] at hc
    obtain ⟨⟨c1, c2⟩, c3, c4⟩ := hc
    rw [h.step c3 c4, Bool.or_eq_true, Bool.and_eq_true, decide_eq_true_eq, decide_eq_true_eq] at c1
    by_cases e : i = i0 ∧ j = j0
    · obtain ⟨rfl, rfl⟩ := e
      cases hs'
      exact .inl ⟨rfl, rfl, c2, rfl⟩
    · refine .inr ⟨e, ?_⟩
      rw [c1.resolve_right e, if_pos (by simp; omega)]
      exact hs'
  · cases hs'
end
/-- The table and the kept steps while the cell i0, j0 is looked at. -/
def curT (K i0 j0 : Nat) (o : Option (Int × Nat)) (i j : Nat) : Int := match o with | none => tabK ds hs p K i j | some (x, _) => if i = i0 ∧ j = j0 then x else tabK ds hs p K i j
def curS (K i0 j0 : Nat) (o : Option (Int × Nat)) (i j : Nat) : Option Nat := match o with | none => stK ds hs p K i j | some (_, q) => if i = i0 ∧ j = j0 then some q else stK ds hs p K i j
section
variable {ds hs p} {K i0 j0 : Nat}
theorem curT_other {o : Option (Int × Nat)} {i j : Nat} (h : ¬ (i = i0 ∧ j = j0)) : curT ds hs p K i0 j0 o i j = tabK ds hs p K i j := by
  cases o with
  | none => rfl
  | some x => simp [curT, h]
theorem curT_here {x : Int} {q : Nat} : curT ds hs p K i0 j0 (some (x, q)) i0 j0 = x := by simp [curT]
theorem curT_up {o : Option (Int × Nat)} {x : Int} {q : Nat} {i j : Nat} : (if i = i0 ∧ j = j0 then x else curT ds hs p K i0 j0 o i j) = curT ds hs p K i0 j0 (some (x, q)) i j := by
  by_cases h : i = i0 ∧ j = j0
  · obtain ⟨rfl, rfl⟩ := h; simp [curT]
  · rw [if_neg h, curT_other h, curT_other h]
theorem curS_up {o : Option (Int × Nat)} {x : Int} {q : Nat} {i j k : Nat} (h : curS ds hs p K i0 j0 (some (x, q)) i j = some k) : (if i = i0 ∧ j = j0 then some q else curS ds hs p K i0 j0 o i j) = some k := by
  by_cases e : i = i0 ∧ j = j0
  · obtain ⟨rfl, rfl⟩ := e; simpa [curS] using h
  · rw [if_neg e]
    simp only [curS, if_neg e] at h
    cases o with
    | none => exact h
    | some y => simpa [curS, e] using h
theorem cur_no {k : Nat} (h : ¬ stOk ds hs i0 j0 k) : cur ds hs p i0 j0 (k + 1) = cur ds hs p i0 j0 k := by rw [cur, if_neg h]
theorem cur_new {k : Nat} (h : stOk ds hs i0 j0 k) (hn : cur ds hs p i0 j0 k = none) : cur ds hs p i0 j0 (k + 1) = some (stV ds hs p i0 j0 k, k) := by rw [cur, if_pos h, hn]
theorem cur_less {k q : Nat} {x : Int} (h : stOk ds hs i0 j0 k) (hn : cur ds hs p i0 j0 k = some (x, q)) (hx : stV ds hs p i0 j0 k < x) : cur ds hs p i0 j0 (k + 1) = some (stV ds hs p i0 j0 k, k) := by
  rw [cur, if_pos h, hn]; simp only; rw [if_pos hx]
theorem cur_keep {k q : Nat} {x : Int} (h : stOk ds hs i0 j0 k) (hn : cur ds hs p i0 j0 k = some (x, q)) (hx : ¬ stV ds hs p i0 j0 k < x) : cur ds hs p i0 j0 (k + 1) = some (x, q) := by
  rw [cur, if_pos h, hn]; simp only; rw [if_neg hx]
theorem curT_end (h : Here ds.length hs.length K i0 j0) {i j : Nat} (hi : i ≤ ds.length) (hj : j ≤ hs.length) : curT ds hs p K i0 j0 (cur ds hs p i0 j0 3) i j = tabK ds hs p (K + 1) i j := by
  obtain ⟨b1, b2⟩ := h.le
  rw [here_tab h hi hj]
  by_cases e : i0 < ds.length ∨ j0 < hs.length
  · rw [cur_end ds hs p (by omega) (by omega) e]; rfl
  · obtain rfl : i0 = ds.length := by omega
    obtain rfl : j0 = hs.length := by omega
    rw [cur_last]
    by_cases k : i = ds.length ∧ j = hs.length
    · obtain ⟨rfl, rfl⟩ := k
      simp only [and_self, if_true, curT, tabK]
      rw [h.no, tab_nm]; rfl
    · rw [if_neg k]; rfl
theorem curS_end (h : Here ds.length hs.length K i0 j0) {i j k : Nat} (hk : stK ds hs p (K + 1) i j = some k) : curS ds hs p K i0 j0 (cur ds hs p i0 j0 3) i j = some k := by
  obtain ⟨b1, b2⟩ := h.le
  rcases here_st h hk with ⟨rfl, rfl, e, rfl⟩ | ⟨e, e2⟩
  · rw [cur_end ds hs p (by omega) (by omega) e]; simp [curS]
  · cases cur ds hs p i0 j0 3 with
    | none => exact e2
    | some y => simpa [curS, e] using e2
theorem stV_bd (hv : AlOk ds hs p) {k : Nat} (h : stOk ds hs i0 j0 k) : 0 ≤ stC ds hs p i0 j0 k ∧ stC ds hs p i0 j0 k ≤ 1100000 ∧ 0 ≤ tab ds hs p (i0 + mD k) (j0 + mH k) ∧ tab ds hs p (i0 + mD k) (j0 + mH k) ≤ 200000000 := by
  have t := @tab_small ds hs p hv (i0 + mD k) (j0 + mH k) h.1 h.2
  refine ⟨?_, ?_, t.1, t.2⟩ <;> unfold stC <;> split
  · rename_i e; subst e
    have h1 := h.1; have h2 := h.2
    simp only [mD, mH] at h1 h2
    rw [mcT_eq ds hs p (by omega) (by omega)]
    exact (mc_bd (hv.dt _ (List.getElem_mem _)) (hv.ht _ (List.getElem_mem _)) hv.off).1
  · exact hv.skip.1
  · rename_i e; subst e
    have h1 := h.1; have h2 := h.2
    simp only [mD, mH] at h1 h2
    rw [mcT_eq ds hs p (by omega) (by omega)]
    exact (mc_bd (hv.dt _ (List.getElem_mem _)) (hv.ht _ (List.getElem_mem _)) hv.off).2
  · have := hv.skip.2; omega
end
end
end Go.Sx.Al
