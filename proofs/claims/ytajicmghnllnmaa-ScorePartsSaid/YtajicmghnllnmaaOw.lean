/-
  Owned rows: a store into another block; the block's type.
-/
import Derived.Test.YtajicmghnllnmaaOs
import Derived.Test.YtajicmghnllnmaaSzL
set_option linter.unusedVariables false
namespace Go.Sx
open Go.RowKit
variable {α : Type} {w : World} {B : Nat} {e : TypeId} {sz : Nat} {enc : α → List Value} {v : Value} {xs : List α}
theorem OwnR.stay (h : OwnR w B e sz enc v xs) {g j : Nat} (hg : v.ownBlock ≠ some g) (u : Value) : OwnR (w.setCell ⟨g, j, none⟩ u) B e sz enc v xs := by
  obtain ⟨h1, h2⟩ := h
  refine ⟨h1, h2.imp id fun ⟨k, cap, cur, a, b, c, d⟩ => ⟨k, cap, cur, a, b, ?_, d⟩⟩
  exact Sz.block_ne c _ _ (fun e => hg (by rw [a, e]; rfl))
theorem OwnR.kind (h : OwnR w B e sz enc v xs) {g : Nat} (hg : v.ownBlock = some g) : ∃ cs, w.heap[g]? = some (.cells cs e) := by
  obtain ⟨h1, ⟨rfl, h0⟩ | ⟨k, cap, cur, rfl, b, c, d⟩⟩ := h
  · cases hg
  · cases hg; exact ⟨cur, c⟩
theorem OwnR.appd {w' : World} {u u' : Value} (h : OwnR w B e sz enc v xs) (a : Appd w w' u u') (hne : ∀ g, v.ownBlock = some g → u.ownBlock ≠ some g) : OwnR w' B e sz enc v xs := by
  obtain ⟨h1, h2⟩ := h
  refine ⟨h1, h2.imp id fun ⟨k, cap, cur, e1, b, c, d⟩ => ⟨k, cap, cur, e1, b, ?_, d⟩⟩
  rw [a.kept k (Array.getElem?_eq_some_iff.1 c).1 (fun e => hne k (by rw [e1]; rfl) e.symm)]; exact c
theorem Appd.block {w w' : World} {u u' : Value} (a : Appd w w' u u') {k : Nat} {o : Obj} (h : w.heap[k]? = some o) (hne : u.ownBlock ≠ some k) : w'.heap[k]? = some o := by
  rw [a.kept k (Array.getElem?_eq_some_iff.1 h).1 (fun e => hne e.symm)]; exact h
theorem Sl.front {a? : Option Addr} {n cap : Nat} (S : Sl w sz enc (.slice a? n cap) xs) (m : Nat) (hm : m ≤ xs.length) : Sl w sz enc (.slice a? m cap) (xs.take m) := by
  obtain ⟨a', c', e, h1, h2, h3, h4⟩ := S
  injection e with e1 e2 e3
  subst e1 e3
  have hl : (xs.take m).length = m := by rw [List.length_take]; omega
  refine ⟨a?, cap, by rw [hl], by omega, h2, by omega, fun i hi => ?_⟩
  obtain ⟨a, ha, hc⟩ := h4 i (by omega)
  exact ⟨a, ha, fun j hj => by rw [hc j hj, List.getElem_take]⟩
end Go.Sx
