/-
  Walks: slices.BinarySearch at integers, score.section.
-/
import Derived.Test.YtdpegkkbhanjkaaDoorScB
set_option linter.unusedVariables false
namespace Go.Proofs.YtdpegkkbhanjkaaDoor
open Go.RowKit Go.Sx Go.Sx.Sz Go.Sx.Sc

set_option maxRecDepth 100000 in
theorem count_split {α : Type} {l : List α} {p : α → Bool} {i : Nat} (hi : i ≤ l.length) (h1 : ∀ q (h : q < l.length), q < i → p l[q] = true) (h2 : ∀ q (h : q < l.length), i ≤ q → p l[q] = false) : l.countP p = i := by
  rw [← List.take_append_drop i l, List.countP_append]
  have e1 : (l.take i).countP p = i := by
    rw [List.countP_eq_length.2, List.length_take, Nat.min_eq_left hi]
    intro x hx
    obtain ⟨q, hq, rfl⟩ := List.getElem_of_mem hx
    rw [List.length_take] at hq
    rw [List.getElem_take]
    exact h1 q (by omega) (by omega)
  have e2 : (l.drop i).countP p = 0 := by
    rw [List.countP_eq_zero]
    intro x hx
    obtain ⟨q, hq, rfl⟩ := List.getElem_of_mem hx
    rw [List.length_drop] at hq
    rw [List.getElem_drop, h2 (i + q) (by omega) (by omega)]
    simp
  rw [e1, e2]; rfl
def cntLt (l : List Int) (t : Int) : Nat := l.countP fun x => decide (x < t)
set_option maxRecDepth 100000 in
theorem rise_lt {l : List Int} (h : lexAll ltZ l) : ∀ {j i : Nat} (hj : j < l.length) (hij : i < j), l[i] < l[j]
  | 0, i, _, hij => by omega
  | j + 1, i, hj, hij => by
    have h1 := h j (by omega)
    rw [getD_eq' (by omega), getD_eq' hj] at h1
    by_cases e : i = j
    · subst e; exact h1
    · exact Int.lt_trans (rise_lt h (show j < l.length by omega) (by omega)) h1

set_option maxRecDepth 100000 in
theorem sisnan_walk (x : Int) (w : World) : Calls Tryd.prog 84 #[.int .i64 x] w fun e w' => e = .returned (.bool false) ∧ Ext w w' := by
  go_enter Tryd.func84, Tryd.ntmps84
  go_wp2
  go_ret
  exact ⟨by first | rfl | simp, Ext.refl _⟩

set_option maxRecDepth 100000 in
set_option maxHeartbeats 2000000 in
theorem bsearch_walk (v : Value) (l : List Int) (t : Int) (hr : lexAll ltZ l) (w : World) (S : Sl w 1 encZ v l) :
    Calls Tryd.prog 66 #[v, .int .i64 t] w fun e w' => e = .returned (.tuple #[.int .i64 (cntLt l t), .bool (decide (t ∈ l))]) ∧ Ext w w' := by
  obtain ⟨a?, cap, rfl, -, -, h3⟩ := S.len
  have HR := Lib.hid hr
  clear hr
  go_enter Tryd.func66, Tryd.ntmps66
  go_wp2
  go_loopw [7, 8] (fun a b wr => ∃ i j : Nat, a = .int .i64 i ∧ b = .int .i64 j ∧ i ≤ j ∧ j ≤ l.length ∧ (∀ q (h : q < l.length), q < i → l[q] < t) ∧ (∀ q (h : q < l.length), j ≤ q → ¬ l[q] < t) ∧ Ext w wr) (fun a b _ => (intOf b - intOf a).toNat)
  case atStart => exact ⟨0, l.length, rfl, rfl, by omega, by omega, fun q h1 h2 => by omega, fun q h1 h2 => by omega, Ext.refl _⟩
  case round =>
    obtain ⟨i, j, rfl, rfl, hij, hj, hlo, hhi, X⟩ := hrel
    have HLO := Lib.hid hlo; have HHI := Lib.hid hhi
    clear hlo hhi
    by_cases hlt : i < j
    · obtain ⟨m, hm⟩ : ∃ m, (i + j) / 2 = m := ⟨_, rfl⟩
      have m1 : i ≤ m := by omega
      have m2 : m < j := by omega
      obtain ⟨b, o, rfl, q0⟩ := Sl.num (S.ext X) m (by omega)
      obtain ⟨x, hx⟩ : ∃ x, l[m] = x := ⟨_, rfl⟩
      rw [hx] at q0
      have HX := Lib.hid hx
      clear hx S
      have em : ((i : Int) + (j : Int)) / 2 = (m : Int) := by omega
      obtain ⟨wo, rfl⟩ : ∃ wo : World, wo = wr := ⟨_, rfl⟩
      by_cases hxt : x < t
      · have HT := Lib.hid hxt
        go_wp2_with fail
        refine (less_walk x t _).mono ?_
        rw [decide_eq_true HT.out]
        rintro e w1 ⟨rfl, x1⟩
        clear q0
        go_wp2
        go_roundw
        case rel => exact ⟨m + 1, j, by go_num, rfl, by omega, hj, fun q h1 h2 => by
          rcases Nat.lt_or_ge q m with h | h
          · have h9 := rise_lt HR.out (show m < l.length by omega) h
            rw [HX.out] at h9
            have := HT.out; omega
          · obtain rfl : q = m := by omega
            rw [HX.out]; exact HT.out, fun q h1 h2 => Int.not_lt.2 (HHI.out q h1 h2), X.trans x1⟩
        case measure => simp [intOf]; omega
      · have HT := Lib.hid hxt
        go_wp2_with fail
        refine (less_walk x t _).mono ?_
        rw [decide_eq_false (Int.not_lt.2 HT.out)]
        rintro e w1 ⟨rfl, x1⟩
        clear q0
        go_wp2
        go_roundw
        case rel => exact ⟨i, m, rfl, by go_num, m1, by omega, HLO.out, fun q h1 h2 => by
          rcases Nat.lt_or_ge m q with h | h
          · have h9 := rise_lt HR.out h1 h
            rw [HX.out] at h9
            have := HT.out; omega
          · obtain rfl : q = m := by omega
            rw [HX.out]; exact Int.not_lt.2 HT.out, X.trans x1⟩
        case measure => simp [intOf]; omega
    · obtain rfl : i = j := by omega
      have hcnt : cntLt l t = i := count_split hj (fun q h1 h2 => decide_eq_true (HLO.out q h1 h2)) (fun q h1 h2 => decide_eq_false (HHI.out q h1 h2))
      have HC := Lib.hid hcnt
      clear hcnt
      by_cases hin : i < l.length
      · obtain ⟨b, o, rfl, q0⟩ := Sl.num (S.ext X) i hin
        have hge := HHI.out i hin (Nat.le_refl _)
        have hmem : t ∈ l ↔ l[i] = t := by
          constructor
          · intro h
            obtain ⟨q, hq, e⟩ := List.getElem_of_mem h
            rcases Nat.lt_trichotomy q i with k | k | k
            · have := HLO.out q hq k; omega
            · subst k; exact e
            · have := rise_lt HR.out hq k; omega
          · intro h; rw [← h]; exact List.getElem_mem hin
        obtain ⟨x, hx⟩ : ∃ x, l[i] = x := ⟨_, rfl⟩
        rw [hx] at q0 hmem
        have HM := Lib.hid hmem
        clear hx hmem hge S
        by_cases hxt : x = t
        · have e1 : (x == t) = true := by rw [beq_iff_eq]; exact hxt
          have HR2 := Lib.hid (decide_eq_true (HM.out.2 hxt))
          clear hxt
          go_wp2
          go_ret2
          exact ⟨by rw [HC.out, HR2.out] <;> rfl, X⟩
        · have e1 : (x == t) = false := by rw [beq_eq_false_iff_ne]; exact hxt
          have HR2 := Lib.hid (decide_eq_false (fun h => hxt (HM.out.1 h)))
          clear hxt
          go_wp2_with fail
          refine (sisnan_walk x _).mono ?_
          rintro e w1 ⟨rfl, x1⟩
          go_wp2
          go_ret2
          exact ⟨by rw [HC.out, HR2.out] <;> rfl, X.trans x1⟩
      · have hno : ¬ t ∈ l := fun h => by
          obtain ⟨q, hq, e⟩ := List.getElem_of_mem h
          have := HLO.out q hq (by omega); omega
        have HR2 := Lib.hid (decide_eq_false hno)
        clear hno S
        go_wp2
        go_ret2
        exact ⟨by rw [HC.out, HR2.out] <;> rfl, X⟩

set_option maxRecDepth 100000 in
theorem secF_eq {s : Sc} (h : cadOk s) (t : Int) : (secF s t : Int) = if t ∈ s.cads then (cntLt s.cads t : Int) + 1 else cntLt s.cads t := by
  have hr : lexAll ltZ s.cads := h.2
  have key : ∀ (l : List Int), lexAll ltZ l → l.countP (fun c => decide (c ≤ t)) = l.countP (fun c => decide (c < t)) + l.countP (fun c => decide (c = t)) := by
    intro l _
    induction l with
    | nil => rfl
    | cons x l ih =>
      have ih' := ih (by
        rename_i hh
        intro i hi
        have := hh (i + 1) (by simp; omega)
        simpa using this)
      rw [List.countP_cons, List.countP_cons, List.countP_cons, ih']
      by_cases h1 : x < t
      · simp [h1, show x ≤ t by omega, show ¬ x = t by omega]; omega
      · by_cases h2 : x = t
        · subst h2; simp; omega
        · simp [h1, h2, show ¬ x ≤ t by omega]
  have hone : s.cads.countP (fun c => decide (c = t)) = if t ∈ s.cads then 1 else 0 := by
    have nd : s.cads.Nodup := by
      rw [List.nodup_iff_pairwise_ne, List.pairwise_iff_getElem]
      intro i j hi hj hij
      have := rise_lt hr hj hij
      omega
    by_cases hm : t ∈ s.cads
    · rw [if_pos hm]
      have : s.cads.countP (fun c => decide (c = t)) = s.cads.count t := by
        rw [List.count]; apply List.countP_congr; intro x _; simp
      rw [this, List.Nodup.count nd, if_pos hm]
    · rw [if_neg hm, List.countP_eq_zero]
      intro x hx h
      simp only [decide_eq_true_eq] at h
      exact hm (h ▸ hx)
  unfold secF cntLt
  rw [key _ hr, hone]
  split <;> simp

end Go.Proofs.YtdpegkkbhanjkaaDoor
