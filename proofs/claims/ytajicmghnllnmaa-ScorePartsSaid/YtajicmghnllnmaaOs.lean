/-
  Stores into an owned row.
-/
import Derived.Test.YtajicmghnllnmaaMk
set_option linter.unusedVariables false
namespace Go.Sx
open Go.RowKit

section
variable {α : Type} {B : Nat} {e : TypeId} {sz : Nat} {enc : α → List Value} {v : Value} {xs : List α} {w : World}

theorem flatMap_set (hl : ∀ x ∈ xs, (enc x).length = sz) (k j : Nat) (hk : k < xs.length) (hj : j < sz) (y : α) (u : Value) (hy : enc y = (enc xs[k]).set j u) : (xs.flatMap enc).set (k * sz + j) u = (xs.set k y).flatMap enc := by
  have hly : (enc y).length = sz := by rw [hy, List.length_set]; exact hl _ (List.getElem_mem _)
  have hl' : ∀ x ∈ xs.set k y, (enc x).length = sz := fun x hx => by
    rcases List.mem_or_eq_of_mem_set hx with h | h
    · exact hl x h
    · rw [h]; exact hly
  have hlen := flatMap_len' hl
  have hlen' := flatMap_len' hl'
  rw [List.length_set] at hlen'
  apply List.ext_getElem?
  intro i
  by_cases hi : i < xs.length * sz
  · have hsz : 0 < sz := by omega
    have e1 : i = i / sz * sz + i % sz := by rw [Nat.mul_comm]; exact (Nat.div_add_mod i sz).symm
    have e2 : i / sz < xs.length := by rw [Nat.div_lt_iff_lt_mul hsz]; exact hi
    have e3 : i % sz < sz := Nat.mod_lt _ hsz
    have g1 := flatMap_get hl' (i / sz) (i % sz) (by simpa using e2) e3
    have g2 := flatMap_get hl (i / sz) (i % sz) e2 e3
    rw [← e1] at g1 g2
    rw [g1]
    by_cases hc : i = k * sz + j
    · have h1 : i / sz = k := by
        rw [hc, Nat.mul_comm, Nat.mul_add_div hsz, Nat.div_eq_of_lt hj]; omega
      have h2 : i % sz = j := by rw [hc, Nat.mul_comm, Nat.mul_add_mod, Nat.mod_eq_of_lt hj]
      rw [← hc, List.getElem?_set_self (by rw [hlen]; exact hi)]
      simp only [h1, h2, List.getElem_set_self]
      rw [hy]
      simp [List.getD, show j < (enc xs[k]).length by rw [hl _ (List.getElem_mem _)]; exact hj]
    · rw [List.getElem?_set_ne (by omega), g2]
      congr 1
      by_cases h1 : i / sz = k
      · have h2 : i % sz ≠ j := fun h => hc (by rw [e1, h1, h])
        simp only [h1, List.getElem_set_self]
        rw [hy]
        simp [List.getD, List.getElem?_set_ne (Ne.symm h2)]
      · rw [List.getElem_set_ne (by omega)]
  · rw [List.getElem?_eq_none (by rw [List.length_set, hlen]; omega), List.getElem?_eq_none (by rw [hlen']; omega)]

theorem OwnR.store {g n cap : Nat} (h : OwnR w B e sz enc (.slice (some ⟨g, 0, none⟩) n cap) xs) (hl : ∀ x ∈ xs, (enc x).length = sz) (k j : Nat) (hk : k < xs.length) (hj : j < sz) (y : α) (u : Value) (hy : enc y = (enc xs[k]).set j u) :
    OwnR (w.setCell ⟨g, k * sz + j, none⟩ u) B e sz enc (.slice (some ⟨g, 0, none⟩) n cap) (xs.set k y) := by
  have hn : n = xs.length := by
    obtain ⟨a, c, e'⟩ := h.len
    injection e'
  subst hn
  have := (World.ownsRow.stored h (k * sz + j) u).1
  unfold OwnR
  rw [List.length_set, ← flatMap_set hl k j hk hj y u hy]
  exact this
/-- A nonempty owned row: its block. -/
theorem OwnR.block (h : OwnR w B e sz enc v xs) (hx : xs ≠ []) : ∃ g cap, v = .slice (some ⟨g, 0, none⟩) xs.length cap ∧ B ≤ g ∧ g < w.heap.size ∧ ∀ j, w.frozen? ⟨g, j, none⟩ = false := by
  obtain ⟨h1, ⟨rfl, h0⟩ | ⟨g, cap, cur, rfl, hB, hg, hn, hm, hsz, ht⟩⟩ := h
  · exact absurd (List.eq_nil_of_length_eq_zero h0) hx
  · refine ⟨g, cap, rfl, hB, (Array.getElem?_eq_some_iff.1 hg).1, fun j => ?_⟩
    unfold World.frozen?
    simp [hg]
theorem OwnR.cell {g n cap : Nat} (h : OwnR w B e sz enc (.slice (some ⟨g, 0, none⟩) n cap) xs) (hl : ∀ x ∈ xs, (enc x).length = sz) (k j : Nat) (hk : k < xs.length) (hj : j < sz) : w.cell? ⟨g, k * sz + j, none⟩ = some ((enc xs[k]).getD j undef) := by
  have hc := World.ownsRow.cells h (g := g) rfl _ _ (flatMap_get hl k j hk hj)
  have hb : ((⟨g, 0, none⟩ : Addr).add (k * sz + j)) = ⟨g, k * sz + j, none⟩ := by unfold Addr.add; split <;> simp_all
  rwa [hb] at hc
end
end Go.Sx
