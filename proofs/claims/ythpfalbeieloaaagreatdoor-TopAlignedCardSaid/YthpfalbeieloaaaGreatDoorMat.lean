/-
  A slice of slices of integers that the call has made; how a slice of slices reads.
-/
import Derived.Test.YthpfalbeieloaaaGreatDoorSrt
import Derived.Test.YthpfalbeieloaaaGreatDoorLibA
import Derived.Test.YthpfalbeieloaaaGreatDoorLibB
set_option maxRecDepth 100000
set_option linter.unusedVariables false
namespace Go.Proofs.YthpfalbeieloaaaGreatDoor
open Go.RowKit Go.Sx Go.Sx.Sz

def encRw (m : Nat) (r : Nat) : List Value := [.slice (some ⟨r, 0, none⟩) m m]
def rowL (m : Nat) (f : Nat → Int) : List Int := (List.range m).map f
theorem rowL_len (m : Nat) (f : Nat → Int) : (rowL m f).length = m := by simp [rowL]
theorem rowL_get (m : Nat) (f : Nat → Int) (j : Nat) (h : j < (rowL m f).length) : (rowL m f)[j] = f j := by simp [rowL]

/-- Block g holds the rows, each a block of its own, and row i reads as T i. -/
structure Mat (B g : Nat) (rows : List Nat) (m : Nat) (T : Nat → Nat → Int) (w : World) : Prop where
  blk : Bk w g 24 (encRw m) rows
  nd : rows.Nodup
  ge : ∀ r ∈ rows, B ≤ r ∧ r ≠ g
  row : ∀ i (h : i < rows.length), Bk w rows[i] 3 encZ (rowL m (T i))

section
variable {B g m : Nat} {rows : List Nat} {T : Nat → Nat → Int} {w w' : World}
theorem Mat.ext (M : Mat B g rows m T w) (x : Ext w w') : Mat B g rows m T w' := ⟨M.blk.ext x, M.nd, M.ge, fun i h => (M.row i h).ext x⟩
theorem _root_.Go.Sx.Bk.same {α : Type} {l g : Nat} {e : TypeId} {enc : α → List Value} {xs : List α} (h : Bk w g e enc xs) (s : Same l w w') : Bk w' g e enc xs := by
  obtain ⟨cs, h1, h2⟩ := h; exact ⟨cs, s.cells h1, h2⟩
theorem Mat.same {l : Nat} (M : Mat B g rows m T w) (s : Same l w w') : Mat B g rows m T w' := ⟨M.blk.same s, M.nd, M.ge, fun i h => (M.row i h).same s⟩
theorem Mat.head (M : Mat B g rows m T w) {i : Nat} (h : i < rows.length) : w.cell? ⟨g, i, none⟩ = some (.slice (some ⟨rows[i], 0, none⟩) m m) := by
  have := M.blk.cell (sz := 1) (fun _ _ => rfl) i 0 h (by omega)
  simpa [encRw] using this
theorem Mat.cell (M : Mat B g rows m T w) {i j : Nat} (h : i < rows.length) (hj : j < m) : w.cell? ⟨rows[i], j, none⟩ = some (.int .i64 (T i j)) := by
  have := (M.row i h).cell (sz := 1) (fun _ _ => rfl) j 0 (by rw [rowL_len]; exact hj) (by omega)
  rw [rowL_get _ _ _ (by rw [rowL_len]; exact hj)] at this
  simpa [encZ] using this
theorem Mat.free (M : Mat B g rows m T w) {i : Nat} (h : i < rows.length) (j : Nat) : w.frozen? ⟨rows[i], j, none⟩ = false := (M.row i h).free j
theorem Mat.lt (M : Mat B g rows m T w) {i : Nat} (h : i < rows.length) : rows[i] < w.heap.size := (M.row i h).lt

/-- The table with another value in one cell. -/
def upT (T : Nat → Nat → Int) (i j : Nat) (c : Int) : Nat → Nat → Int := fun a b => if a = i ∧ b = j then c else T a b
theorem Mat.store (M : Mat B g rows m T w) {i j : Nat} (h : i < rows.length) (hj : j < m) (c : Int) : Mat B g rows m (upT T i j c) (w.setCell ⟨rows[i], j, none⟩ (.int .i64 c)) where
  blk := M.blk.ne _ _ (fun e => (M.ge _ (List.getElem_mem h)).2 e.symm)
  nd := M.nd
  ge := M.ge
  row k hk := by
    by_cases e : k = i
    · subst e
      have := (M.row k h).put (sz := 1) (fun _ _ => rfl) c rfl j (by rw [rowL_len]; exact hj)
      rw [Nat.mul_one] at this
      have hs : (rowL m (T k)).set j c = rowL m (upT T k j c k) := by
        apply List.ext_getElem (by simp [rowL])
        intro a h1 h2
        have e2 : (rowL m (upT T k j c k))[a] = upT T k j c k a := rowL_get _ _ _ h2
        rw [List.getElem_set, e2]
        by_cases ea : j = a
        · subst ea; simp [upT]
        · have h3 : a < (rowL m (T k)).length := by simpa using h1
          rw [if_neg ea, rowL_get _ _ _ h3, upT, if_neg (fun h => ea h.2.symm)]
      rw [hs] at this
      exact this
    · have hne : rows[k] ≠ rows[i] := fun he => e ((List.getElem_inj M.nd).1 he)
      have hs : rowL m (upT T i j c k) = rowL m (T k) := by
        unfold rowL upT
        exact List.map_congr_left fun a _ => if_neg (fun h => e h.1)
      rw [hs]
      exact (M.row k hk).ne _ _ hne
theorem Mat.congr (M : Mat B g rows m T w) {T' : Nat → Nat → Int} (h : ∀ i j, i < rows.length → j < m → T i j = T' i j) : Mat B g rows m T' w :=
  ⟨M.blk, M.nd, M.ge, fun i hi => by
    have : rowL m (T' i) = rowL m (T i) := List.map_congr_left fun j hj => (h i j hi (by simpa using hj)).symm
    rw [this]; exact M.row i hi⟩
end

/-- How a slice of slices of integers reads. -/
def Tab (w : World) (v : Value) (t : List (List Int)) : Prop := ∃ vs : List Value, vs.length = t.length ∧ Sl w 1 (fun v => [v]) v vs ∧ ∀ i (h : i < vs.length) (h' : i < t.length), Sl w 1 encZ vs[i] t[i]
theorem Tab.ext {w w' : World} {v : Value} {t : List (List Int)} (h : Tab w v t) (x : Ext w w') : Tab w' v t := by
  obtain ⟨vs, a, b, c⟩ := h; exact ⟨vs, a, b.ext x, fun i h h' => (c i h h').ext x⟩
theorem Tab.same {l : Nat} {w w' : World} {v : Value} {t : List (List Int)} (h : Tab w v t) (s : Same l w w') : Tab w' v t := by
  obtain ⟨vs, a, b, c⟩ := h; exact ⟨vs, a, s.sl b, fun i h h' => s.sl (c i h h')⟩
theorem Tab.len {w : World} {v : Value} {t : List (List Int)} (h : Tab w v t) : ∃ a? cap, v = .slice a? t.length cap ∧ t.length ≤ 140737488351232 := by
  obtain ⟨vs, a, b, c⟩ := h
  obtain ⟨a?, cap, rfl, _, _, h3⟩ := b.len
  exact ⟨a?, cap, by rw [a], by omega⟩
theorem Tab.at {w : World} {a? : Option Addr} {n cap : Nat} {t : List (List Int)} (h : Tab w (.slice a? n cap) t) (k : Nat) (hk : k < t.length) :
    ∃ b o v, a? = some ⟨b, o, none⟩ ∧ w.cell? ⟨b, o + k, none⟩ = some v ∧ Sl w 1 encZ v t[k] := by
  obtain ⟨vs, a, b, c⟩ := h
  obtain ⟨b, o, e, hc⟩ := b.at1 k (by omega)
  exact ⟨b, o, vs[k], e, by simpa using hc, c k (by omega) hk⟩
theorem Tab.nil (w : World) : Tab w (.slice none 0 0) [] := ⟨[], rfl, Sl.nil _ _ _, fun i h => by simp at h⟩

theorem Mat.tab {B g m n : Nat} {rows : List Nat} {T : Nat → Nat → Int} {w : World} (M : Mat B g rows m T w) (hn : rows.length = n) (h1 : n ≤ 100000) (h2 : m ≤ 100000) :
    Tab w (.slice (some ⟨g, 0, none⟩) n n) ((List.range n).map fun i => rowL m (T i)) := by
  refine ⟨rows.map fun r => .slice (some ⟨r, 0, none⟩) m m, by simp [hn], ?_, ?_⟩
  · obtain ⟨cs, c1, c2⟩ := M.blk
    have : Bk w g 24 (fun v => [v]) (rows.map fun r => Value.slice (some ⟨r, 0, none⟩) m m) := ⟨cs, c1, by rw [c2, List.flatMap_map]; rfl⟩
    exact this.sl (sz := 1) (fun _ _ => rfl) (by simp [hn]) (by simp; omega)
  · intro i h h'
    have hi : i < rows.length := by simpa using h
    simp only [List.getElem_map, List.getElem_range]
    exact (M.row i hi).sl (sz := 1) (fun _ _ => rfl) (by rw [rowL_len]) (by rw [rowL_len]; omega)
end Go.Proofs.YthpfalbeieloaaaGreatDoor
