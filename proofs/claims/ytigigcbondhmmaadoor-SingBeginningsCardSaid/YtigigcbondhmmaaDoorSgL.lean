/-
  Plain: the laws of entries: which they are, how a score cut short keeps them, and how a moved one does.
-/
import Derived.Test.YtigigcbondhmmaaDoorSgM
import Derived.Test.YtigigcbondhmmaaDoorScPtM
set_option linter.unusedVariables false
set_option linter.unusedSectionVars false
namespace Go.Sx.Sg
open Go.Sx.Sz Go.Sx.Sc Go.Sx.Au

/-! ### Which notes are entries -/
/-- Some note of the voice of note n sounds just before it begins. -/
def sameV (s : Sc) (n : Nat) : Prop := ∃ i, i < s.notes.length ∧ (s.N i).v = (s.N n).v ∧ (s.N i).f < (s.N n).f ∧ (s.N n).f ≤ (s.N i).u
theorem entry_iff {s : Sc} (h : ntOk s) {n : Nat} (hn : n < s.notes.length) : entryN s n = true ↔ (s.N n).tied = false ∧ ¬ sameV s n := by
  unfold entryN
  rw [Bool.and_eq_true, Bool.not_eq_true', List.all_eq_true]
  refine and_congr_right fun ht => ⟨fun ha => ?_, fun ha i hi => ?_⟩
  · rintro ⟨i, hi, hv, h1, h2⟩
    have hm : i ∈ sndL s n := mem_sndL.2 ⟨snd_lt h hi hn (by omega), by omega, by omega⟩
    have := ha i hm
    rw [decide_eq_true_eq] at this
    exact this hv
  · rw [decide_eq_true_eq]
    intro hv
    obtain ⟨a, b, c⟩ := mem_sndL.1 hi
    exact ha ⟨i, by omega, hv, by omega, by omega⟩
theorem entry_first {s : Sc} (h : ScOk s) {n : Nat} (hn : n < s.notes.length) (hf : ∀ i, i < s.notes.length → (s.N i).v = (s.N n).v → n ≤ i) : entryN s n = true := by
  refine (entry_iff h.nt hn).2 ⟨?_, ?_⟩
  · cases ht : (s.N n).tied with
    | false => rfl
    | true =>
      obtain ⟨k, hk, a, b, c⟩ := h.tie hn ht
      have := hf k (by omega) a
      omega
  · rintro ⟨i, hi, hv, h1, h2⟩
    have := snd_lt h.nt hi hn (by omega)
    have := hf i hi hv
    omega
theorem entry_ends {s : Sc} (h : ScOk s) {n : Nat} (hn : n < s.notes.length) (he : entryN s n = false) (ht : (s.N n).tied = false) : ∃ i, i < s.notes.length ∧ (s.N i).v = (s.N n).v ∧ (s.N i).u = (s.N n).f := by
  have hs : sameV s n := by
    apply Classical.byContradiction
    intro hc
    have := (entry_iff h.nt hn).2 ⟨ht, hc⟩
    rw [he] at this; cases this
  obtain ⟨i, hi, hv, h1, h2⟩ := hs
  have h3 := snd_lt h.nt hi hn (by omega)
  have h4 := h.apart h3 hn hv
  exact ⟨i, hi, hv, by omega⟩
/-! ### All notes, not only the earlier ones -/
theorem snd_all {s : Sc} (h : ntOk s) {n : Nat} (hn : n < s.notes.length) : sndL s n = (List.range s.notes.length).filter (sndB s n) := by
  unfold sndL
  obtain ⟨m, hm⟩ : ∃ m, s.notes.length = n + m := ⟨s.notes.length - n, by omega⟩
  have hg : ∀ k, n + k ≤ s.notes.length → (List.range (n + k)).filter (sndB s n) = (List.range n).filter (sndB s n) := by
    intro k
    induction k with
    | zero => intro _; rfl
    | succ k ih =>
      intro hk
      rw [← Nat.add_assoc, List.range_succ, List.filter_append, ih (by omega)]
      have hf : sndB s n (n + k) = false := by
        unfold sndB
        rw [Bool.and_eq_false_iff]
        left
        rw [decide_eq_false_iff_not]
        intro hle
        have := snd_lt h (i := n + k) (by omega) hn hle
        omega
      rw [List.filter_cons_of_neg (by simp [hf]), List.filter_nil, List.append_nil]
  rw [hm, hg m (by omega)]

/-! ### A score that ends with a note -/
def upto (s : Sc) (n : Nat) : Sc := ⟨s.voices, s.notes.take (n + 1), s.pairs.filter (fun p => decide (p.b ≤ (n : Int))), s.cads⟩
section
variable {s : Sc} {n : Nat} (hn : n < s.notes.length)
include hn
theorem upto_N {i : Nat} (h : i ≤ n) : (upto s n).N i = s.N i := by
  unfold Sc.N
  show (s.notes.take _).getD i default = _
  rw [List.getD_eq_getElem?_getD, List.getElem?_take_of_lt (by omega), ← List.getD_eq_getElem?_getD]
theorem upto_len : (upto s n).notes.length = n + 1 := by show (s.notes.take _).length = _; rw [List.length_take]; omega
theorem upto_ok (h : ScOk s) : ScOk (upto s n) := by
  have hl := upto_len hn
  have hN := fun (i : Nat) (hi : i ≤ n) => upto_N hn hi
  have hp : (upto s n).pairs.Sublist s.pairs := List.filter_sublist
  refine ⟨?_, ⟨fun i hi => ?_, fun i hi => ?_⟩, fun i hi => ⟨fun k hk hv => ?_, fun ht hno => ?_⟩, prs_sub h.pr hp (fun p hm hpk => ?_), h.cd⟩
  · have := h.sz
    have hpl := hp.length_le
    unfold szOk' at *
    rw [hl]
    refine ⟨this.1, by omega, by omega, this.2.2.2⟩
  · rw [hl] at hi; rw [hN i (by omega)]; exact h.nt.note (by omega)
  · rw [hl] at hi; rw [hN i (by omega), hN (i + 1) (by omega)]; exact h.nt.2 i (by omega)
  · rw [hl] at hi; rw [hN i (by omega), hN k (by omega)] at *; exact h.apart hk (by omega) hv
  · rw [hl] at hi
    rw [hN i (by omega)] at ht
    obtain ⟨k, hk, a, b, c⟩ := h.tie (show i < s.notes.length by omega) ht
    exact hno k hk ⟨by rw [hN i (by omega), hN k (by omega)]; exact a, by rw [hN i (by omega), hN k (by omega)]; exact b, by rw [hN i (by omega), hN k (by omega)]; exact c⟩
  · have hb : p.b ≤ (n : Int) := by
      have := (List.mem_filter.1 hm).2
      simpa using this
    unfold pairOk at *
    rw [hl, hN _ (by omega), hN _ (by omega)]
    exact ⟨hpk.1, by omega, hpk.2.2⟩
theorem upto_snd : sndL (upto s n) n = sndL s n := by
  unfold sndL
  refine List.filter_congr fun i hi => ?_
  have := List.mem_range.1 hi
  unfold sndB
  rw [upto_N hn (by omega : i ≤ n), upto_N hn (Nat.le_refl n)]
theorem upto_entry : entryN (upto s n) n = entryN s n := by
  unfold entryN
  rw [upto_snd hn, upto_N hn (Nat.le_refl n)]
  congr 1
  rw [Bool.eq_iff_iff, List.all_eq_true, List.all_eq_true]
  refine forall_congr' fun i => forall_congr' fun hi => ?_
  have := (mem_sndL.1 hi).1
  rw [upto_N hn (by omega : i ≤ n)]
theorem upto_oth : othL (upto s n) n = othL s n := by
  unfold othL
  rw [upto_snd hn]
  refine List.filter_congr fun i hi => ?_
  have := (mem_sndL.1 hi).1
  rw [upto_N hn (by omega : i ≤ n), upto_N hn (Nat.le_refl n)]
theorem upto_heard : heardL (upto s n) n = heardL s n := by unfold heardL; rw [upto_oth hn]
end
theorem take_X {xs : List V6} {n i : Nat} (h : i ≤ n) : X (xs.take (n + 1)) i = X xs i := by
  unfold X
  rw [List.getD_eq_getElem?_getD, List.getElem?_take_of_lt (by omega), ← List.getD_eq_getElem?_getD]
theorem heard_le {s : Sc} {n : Nat} {i : Int} (h : i ∈ heardL s n) : i = -1 ∨ ∃ k : Nat, i = (k : Int) ∧ k < n := by
  rcases heard_mem h with ⟨rfl, -⟩ | ⟨k, rfl, hk⟩
  · exact .inl rfl
  · exact .inr ⟨k, rfl, (mem_sndL.1 (mem_othL.1 hk).1).1⟩
theorem take_need {s : Sc} {xs : List V6} {n : Nat} {i : Int} (h : i ∈ heardL s n) : needF (xs.take (n + 1)) n i = needF xs n i := by
  unfold needF gapF
  rw [take_X (Nat.le_refl n)]
  have : atX (xs.take (n + 1)) i = atX xs i := by
    unfold atX
    rcases heard_le h with rfl | ⟨k, rfl, hk⟩
    · rfl
    · rw [if_neg (by omega), if_neg (by omega), take_X (by omega)]
  rw [this]

/-! ### What findR and leastN ask -/
theorem find_same : ∀ (l : List Int) (p q : Int → Bool), (∀ i ∈ l, p i = q i) → l.find? p = l.find? q
  | [], _, _, _ => rfl
  | a :: l, p, q, h => by
    rw [List.find?_cons, List.find?_cons, h a (by simp), find_same l p q fun i hi => h i (by simp [hi])]
theorem find_congr {s t : Sc} {xs ys : List V6} {n m : Nat} (h : heardL t m = heardL s n) (hn : ∀ i ∈ heardL s n, needF ys m i = needF xs n i) (step : Int) : findR t ys m step = findR s xs n step := by
  unfold findR
  rw [h]
  rw [find_same (heardL s n) _ _ fun i hi => by rw [hn i hi]]
theorem lst_congr {xs ys : List V6} {n m : Nat} : ∀ (l : List Int) (p : Int × Int), (∀ i ∈ l, needF ys m i = needF xs n i) → lstF ys m l p = lstF xs n l p
  | [], p, _ => rfl
  | a :: l, p, h => by
    rw [lstF, lstF, h a (by simp), lst_congr l _ fun i hi => h i (by simp [hi])]
theorem least_congr {s t : Sc} {xs ys : List V6} {n m : Nat} (h : heardL t m = heardL s n) (hn : ∀ i ∈ heardL s n, needF ys m i = needF xs n i) : leastN t ys m = leastN s xs n := by
  unfold leastN
  rw [h, lst_congr _ _ hn]
theorem hall_upto {s : Sc} {xs : List V6} {n : Nat} (hn : n < s.notes.length) (h : hallB s xs = true) : hallB (upto s n) (xs.take (n + 1)) = true := by
  obtain ⟨h1, h2, h3⟩ := hallB_iff.1 h
  refine hallB_iff.2 ⟨upto_ok hn h1, by rw [upto_len hn, List.length_take]; omega, fun x hx => h3 x (List.mem_of_mem_take hx)⟩
theorem entryB_upto {s : Sc} {n : Nat} (hn : n < s.notes.length) (h : entryB s n = true) : entryB (upto s n) n = true := by
  unfold entryB at *
  rw [Bool.and_eq_true] at h ⊢
  refine ⟨?_, ?_⟩
  · rw [decide_eq_true_eq, upto_len hn]; omega
  · rw [show ((n : Int)).toNat = n from Int.toNat_natCast n] at *
    rw [upto_entry hn]; exact h.2

/-! ### Moved pitches -/
def moveX (xs : List V6) (b : V6) : List V6 := xs.map fun x => x.add b 1
theorem moveX_at {xs : List V6} {b : V6} {k : Nat} (h : k < xs.length) : X (moveX xs b) k = (X xs k).add b 1 := by
  have h' : k < (moveX xs b).length := by unfold moveX; rw [List.length_map]; exact h
  rw [X_eq h', X_eq h]
  exact List.getElem_map _
theorem move_need {s : Sc} {xs : List V6} {b : V6} {n : Nat} (hn : n < xs.length) (ho : othL s n ≠ []) {i : Int} (hi : i ∈ heardL s n) : needF (moveX xs b) n i = needF xs n i := by
  rcases heard_mem hi with ⟨-, h⟩ | ⟨k, rfl, hk⟩
  · exact absurd h ho
  · have hkn := (mem_sndL.1 (mem_othL.1 hk).1).1
    unfold needF gapF atX
    rw [if_neg (by omega), if_neg (by omega), Int.toNat_natCast, moveX_at hn, moveX_at (show k < xs.length by omega)]
    have : (((X xs n).add b 1).times 12).sub (((X xs k).add b 1).times 12) = ((X xs n).times 12).sub ((X xs k).times 12) := by
      refine V6.ext' fun j hj => ?_
      unfold V6.sub V6.times V6.add
      simp only [V6.get_of _ hj]
      omega
    rw [this]
theorem oth_ne {s : Sc} (h : ntOk s) {n : Nat} (hn : n < s.notes.length) : othL s n ≠ [] ↔ ∃ i, i < s.notes.length ∧ (s.N i).v ≠ (s.N n).v ∧ (s.N i).f ≤ (s.N n).f - 1 ∧ (s.N n).f - 1 < (s.N i).u := by
  constructor
  · intro hne
    cases he : othL s n with
    | nil => exact absurd he hne
    | cons i l =>
      have hm : i ∈ othL s n := by rw [he]; simp
      obtain ⟨a, b⟩ := mem_othL.1 hm
      obtain ⟨c, d, e⟩ := mem_sndL.1 a
      exact ⟨i, by omega, b, d, e⟩
  · rintro ⟨i, hi, hv, h1, h2⟩ he
    have hm : i ∈ othL s n := mem_othL.2 ⟨mem_sndL.2 ⟨snd_lt h hi hn h1, h1, h2⟩, hv⟩
    rw [he] at hm; cases hm

/-! ### Heard -/
theorem heard_one {s : Sc} {n : Nat} {k : Nat} (h : (k : Int) ∈ heardL s n) : k ∈ othL s n := by
  rcases heard_mem h with ⟨e, -⟩ | ⟨j, e, hj⟩
  · omega
  · obtain rfl : k = j := by omega
    exact hj
theorem heard_of {s : Sc} {n k : Nat} (h : k ∈ othL s n) : (k : Int) ∈ heardL s n := by
  unfold heardL
  rw [if_neg (fun he => by rw [he] at h; cases h)]
  exact List.mem_map.2 ⟨k, h, rfl⟩
theorem heard_alone {s : Sc} {n : Nat} (h : othL s n = []) : heardL s n = [-1] := by unfold heardL; rw [if_pos h]

/-! ### Missing -/
theorem miss_from {s : Sc} {xs : List V6} {steps : List Int} (hh : hallB s xs = true) (hl : (steps.length : Int) = s.voices) (hs : stepsB steps = true) {i : Nat} (hi : i < s.notes.length) (he : entryN s i = true) : fromR s xs i (steps.getD (s.N i).v.toNat 0) = findR s xs i (steps.getD (s.N i).v.toNat 0) := by
  have hv := ((hallB_iff.1 hh).1.nt.note hi).1
  have hk : (s.N i).v.toNat < steps.length := by omega
  have hm : steps.getD (s.N i).v.toNat 0 ∈ steps := by
    rw [List.getD_eq_getElem?_getD, List.getElem?_eq_getElem hk]; exact List.getElem_mem hk
  unfold stepsB at hs
  rw [List.all_eq_true] at hs
  have h2 := hs _ hm
  rw [decide_eq_true_eq] at h2
  unfold fromR
  rw [if_pos ⟨hh, by unfold entryB; rw [Bool.and_eq_true, decide_eq_true_eq, Int.toNat_natCast]; exact ⟨by omega, he⟩, h2⟩, Int.toNat_natCast]

/-! ### The least step, by the index of the best -/
def bestF (xs : List V6) (n : Nat) (l : List Int) : Nat → Nat
  | 0 => 0
  | k + 1 => if needF xs n (l.getD k 0) < needF xs n (l.getD (bestF xs n l k) 0) then k else bestF xs n l k
theorem best_lt {xs : List V6} {n : Nat} {l : List Int} : ∀ {k : Nat}, bestF xs n l k < k ∨ bestF xs n l k = 0
  | 0 => .inr rfl
  | k + 1 => by
    rw [bestF]
    split
    · left; omega
    · rcases best_lt (xs := xs) (n := n) (l := l) (k := k) with h | h
      · left; omega
      · right; exact h
theorem best_min {xs : List V6} {n : Nat} {l : List Int} : ∀ {k j : Nat}, j < k → needF xs n (l.getD (bestF xs n l k) 0) ≤ needF xs n (l.getD j 0) ∧ (j < bestF xs n l k → needF xs n (l.getD (bestF xs n l k) 0) < needF xs n (l.getD j 0))
  | 0, j, h => absurd h (by omega)
  | k + 1, j, h => by
    rw [bestF]
    by_cases hc : needF xs n (l.getD k 0) < needF xs n (l.getD (bestF xs n l k) 0)
    · rw [if_pos hc]
      by_cases hj : j = k
      · subst hj; exact ⟨Int.le_refl _, fun h => by omega⟩
      · have := best_min (xs := xs) (n := n) (l := l) (k := k) (j := j) (by omega)
        exact ⟨by omega, fun _ => by omega⟩
    · rw [if_neg hc]
      by_cases hj : j = k
      · subst hj
        refine ⟨by omega, fun h2 => ?_⟩
        rcases best_lt (xs := xs) (n := n) (l := l) (k := j) with h | h <;> omega
      · exact best_min (by omega)
theorem least_best {s : Sc} {xs : List V6} {n : Nat} : leastN s xs n =
    if 2400000 < needF xs n ((heardL s n).getD (bestF xs n (heardL s n) (heardL s n).length) 0) then (0, 0, 3)
    else (needF xs n ((heardL s n).getD (bestF xs n (heardL s n) (heardL s n).length) 0), (heardL s n).getD (bestF xs n (heardL s n) (heardL s n).length) 0, 0) := by
  have hne : 0 < (heardL s n).length := by
    cases h : heardL s n with
    | nil => exact absurd h heard_ne
    | cons a l => simp
  have hs := heard_sorted s n
  have hl := lst_spec xs n (heardL s n) (2400001, 0) hs
  obtain ⟨l, hl'⟩ : ∃ l, heardL s n = l := ⟨_, rfl⟩
  unfold leastN
  rw [hl'] at hl hne hs ⊢
  obtain ⟨b, hb⟩ : ∃ b, bestF xs n l l.length = b := ⟨_, rfl⟩
  have hbl : b < l.length := by rcases best_lt (xs := xs) (n := n) (l := l) (k := l.length) with h | h <;> omega
  have hm := fun j (hj : j < l.length) => best_min (xs := xs) (n := n) (l := l) hj
  rw [hb] at hm ⊢
  have hget : ∀ j, j < l.length → l.getD j 0 ∈ l := fun j hj => by rw [List.getD_eq_getElem?_getD, List.getElem?_eq_getElem hj]; exact List.getElem_mem hj
  have hix : ∀ i ∈ l, ∃ j, j < l.length ∧ l.getD j 0 = i := fun i hi => by
    obtain ⟨j, hj, e⟩ := List.getElem_of_mem hi
    exact ⟨j, hj, by rw [List.getD_eq_getElem?_getD, List.getElem?_eq_getElem hj]; exact e⟩
  rcases hl with ⟨e, ha⟩ | ⟨k, hk, e, h1, ha, hbb⟩
  · rw [e]
    have := ha _ (hget b hbl)
    simp only at this ⊢
    rw [if_pos (by omega), if_pos (by omega)]
  · rw [e]
    simp only at h1 ⊢
    obtain ⟨j, hj, rfl⟩ := hix k hk
    have h2 := hm j hj
    have h3 := ha _ (hget b hbl)
    have hjb : l.getD b 0 = l.getD j 0 := by
      rcases Int.lt_trichotomy (l.getD b 0) (l.getD j 0) with h | h | h
      · have := hbb _ (hget b hbl) h; omega
      · exact h
      · have hjlt : j < b := by
          apply Classical.byContradiction
          intro hc
          have : l.getD b 0 ≤ l.getD j 0 := by
            by_cases e2 : b = j
            · subst e2; exact Int.le_refl _
            · have := List.pairwise_iff_getElem.1 hs b j hbl hj (by omega)
              rw [List.getD_eq_getElem?_getD, List.getD_eq_getElem?_getD, List.getElem?_eq_getElem hbl, List.getElem?_eq_getElem hj]
              exact Int.le_of_lt this
          omega
        have := h2.2 hjlt
        omega
    rw [hjb, if_neg (by omega)]

/-! ### The k-th of a list that a test accepts -/
theorem filt_succ {α : Type} {l : List α} {q : α → Bool} {k : Nat} (hk : k < l.length) : ((l.take (k + 1)).filter q).length = ((l.take k).filter q).length + (if q l[k] = true then 1 else 0) := by
  rw [List.take_succ_eq_append_getElem hk, List.filter_append, List.length_append]
  congr 1
  by_cases h : q l[k] = true
  · rw [List.filter_cons_of_pos h, if_pos h]; rfl
  · rw [List.filter_cons_of_neg h, if_neg h]; rfl
theorem filt_get {α : Type} {l : List α} {q : α → Bool} {k : Nat} (hk : k < l.length) (hq : q l[k] = true) : ∃ h : ((l.take k).filter q).length < (l.filter q).length, (l.filter q)[((l.take k).filter q).length] = l[k] := by
  have e : l.filter q = (l.take k).filter q ++ l[k] :: (l.drop (k + 1)).filter q := by
    conv => lhs; rw [← List.take_append_drop k l, List.drop_eq_getElem_cons hk]
    rw [List.filter_append, List.filter_cons_of_pos hq]
  have hl : ((l.take k).filter q).length < (l.filter q).length := by rw [e, List.length_append]; simp
  refine ⟨hl, ?_⟩
  have h2 : (l.filter q)[((l.take k).filter q).length]? = some l[k] := by
    rw [e, List.getElem?_append_right (Nat.le_refl _), Nat.sub_self]; rfl
  rw [List.getElem?_eq_getElem hl] at h2
  exact Option.some.inj h2
theorem take_range {n i : Nat} (h : i ≤ n) : (List.range n).take i = List.range i := by
  obtain ⟨m, rfl⟩ : ∃ m, n = i + m := ⟨n - i, by omega⟩
  rw [List.range_add, List.take_left' (by simp)]
/-- How many sound among the first i. -/
def sndC (s : Sc) (n i : Nat) : Nat := ((List.range i).filter (sndB s n)).length
theorem sndC_succ {s : Sc} {n i : Nat} (h : i < n) : sndC s n (i + 1) = sndC s n i + (if sndB s n i = true then 1 else 0) := by
  have := filt_succ (l := List.range n) (q := sndB s n) (k := i) (by rw [List.length_range]; exact h)
  rw [take_range (by omega), take_range (by omega), List.getElem_range] at this
  exact this
theorem sndC_get {s : Sc} {n i : Nat} (h : i < n) (hb : sndB s n i = true) : ∃ h : sndC s n i < (sndL s n).length, (sndL s n)[sndC s n i] = i := by
  obtain ⟨a, b⟩ := filt_get (l := List.range n) (q := sndB s n) (k := i) (by rw [List.length_range]; exact h) (by rw [List.getElem_range]; exact hb)
  rw [List.getElem_range] at b
  have e : ((List.range n).take i) = List.range i := take_range (by omega)
  unfold sndC sndL
  rw [← e]
  exact ⟨a, b⟩
theorem sndC_all {s : Sc} {n : Nat} : sndC s n n = (sndL s n).length := rfl
/-- How many are heard among the first k that sound. -/
def hrdC (s : Sc) (n k : Nat) : Nat := (((sndL s n).take k).filter fun i => decide ((s.N i).v ≠ (s.N n).v)).length
theorem hrdC_succ {s : Sc} {n k : Nat} (h : k < (sndL s n).length) : hrdC s n (k + 1) = hrdC s n k + (if (s.N (sndL s n)[k]).v ≠ (s.N n).v then 1 else 0) := by
  have := filt_succ (l := sndL s n) (q := fun i => decide ((s.N i).v ≠ (s.N n).v)) h
  simp only [decide_eq_true_eq] at this
  exact this
theorem hrdC_get {s : Sc} {n k : Nat} (h : k < (sndL s n).length) (hv : (s.N (sndL s n)[k]).v ≠ (s.N n).v) : ∃ h' : hrdC s n k < (heardL s n).length, (heardL s n)[hrdC s n k] = (((sndL s n)[k] : Nat) : Int) := by
  obtain ⟨a, b⟩ := filt_get (l := sndL s n) (q := fun i => decide ((s.N i).v ≠ (s.N n).v)) h (by simpa using hv)
  have hne : othL s n ≠ [] := fun e => by
    unfold othL at e
    rw [e] at a; simp at a
  have e : heardL s n = (othL s n).map fun i : Nat => (i : Int) := by unfold heardL; rw [if_neg hne]
  have a' : hrdC s n k < (heardL s n).length := by rw [e, List.length_map]; exact a
  refine ⟨a', ?_⟩
  have h2 : (heardL s n)[hrdC s n k]? = some (((sndL s n)[k] : Nat) : Int) := by
    rw [e, List.getElem?_map]
    have : (othL s n)[hrdC s n k]? = some (sndL s n)[k] := by
      rw [List.getElem?_eq_getElem (show hrdC s n k < (othL s n).length from a)]
      exact congrArg some b
    rw [this]; rfl
  rw [List.getElem?_eq_getElem a'] at h2
  exact Option.some.inj h2
theorem hrdC_all {s : Sc} {n : Nat} : hrdC s n (sndL s n).length = (othL s n).length := by unfold hrdC othL; rw [List.take_length]
end Go.Sx.Sg
