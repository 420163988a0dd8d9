/-
  Walk of the reference: schismaref38.Table.
-/
import Derived.Test.YthomegempfedaaaDoorRfB
set_option linter.unusedVariables false
namespace Go.Proofs.YthomegempfedaaaDoor
open Go.RowKit Go.Sx Go.Sx.Sz Go.Sx.Al

theorem swap_alloc (w : World) (o : Obj) (p : Addr) (v : Value) (h : p.block < w.heap.size) : (w.alloc o).setCell p v = (w.setCell p v).alloc o := by
  unfold World.setCell World.alloc
  congr 1
  apply Array.ext_getElem?
  intro i
  simp only [Array.getElem?_modify, Array.getElem?_push, Array.size_modify]
  by_cases h1 : p.block = i
  · subst h1
    rw [if_pos rfl, if_neg (by omega), if_neg (by omega), if_pos rfl]
  · rw [if_neg h1, if_neg h1]

/-- A slice of slices of which the rows from k on are made: row k + i reads as T (k + i). -/
structure Part (B g m k : Nat) (rows : List Nat) (T : Nat → Nat → Int) (w : World) : Prop where
  blk : Bk w g 62 (fun v => [v]) (List.replicate k (.slice none 0 0) ++ rows.map fun r => .slice (some ⟨r, 0, none⟩) m m)
  nd : rows.Nodup
  ge : ∀ r ∈ rows, B ≤ r ∧ r ≠ g
  row : ∀ i (h : i < rows.length), Bk w rows[i] 3 encZ (rowL m (T (k + i)))
section
variable {B g m k : Nat} {rows : List Nat} {T : Nat → Nat → Int} {w w' : World}
theorem Part.ext (M : Part B g m k rows T w) (x : Ext w w') : Part B g m k rows T w' := ⟨M.blk.ext x, M.nd, M.ge, fun i h => (M.row i h).ext x⟩
theorem Part.congr (M : Part B g m k rows T w) {T' : Nat → Nat → Int} (h : ∀ i j, k ≤ i → i < k + rows.length → j < m → T i j = T' i j) : Part B g m k rows T' w :=
  ⟨M.blk, M.nd, M.ge, fun i hi => by
    have : rowL m (T' (k + i)) = rowL m (T (k + i)) := List.map_congr_left fun j hj => (h (k + i) j (by omega) (by omega) (by simpa using hj)).symm
    rw [this]; exact M.row i hi⟩
theorem Part.head (M : Part B g m k rows T w) {i : Nat} (h : i < rows.length) : w.cell? ⟨g, k + i, none⟩ = some (.slice (some ⟨rows[i], 0, none⟩) m m) := by
  have := M.blk.cell (sz := 1) (fun _ _ => rfl) (k + i) 0 (by simp; omega) (by omega)
  rw [List.getElem_append_right (by simp)] at this
  simpa using this
theorem Part.nilAt (M : Part B g m k rows T w) {i : Nat} (h : i < k) : w.cell? ⟨g, i, none⟩ = some (.slice none 0 0) := by
  have := M.blk.cell (sz := 1) (fun _ _ => rfl) i 0 (by simp; omega) (by omega)
  rw [List.getElem_append_left (by simpa using h)] at this
  simpa using this
theorem Part.cell (M : Part B g m k rows T w) {i j : Nat} (h : i < rows.length) (hj : j < m) : w.cell? ⟨rows[i], j, none⟩ = some (.int .i64 (T (k + i) j)) := by
  have := (M.row i h).cell (sz := 1) (fun _ _ => rfl) j 0 (by rw [rowL_len]; exact hj) (by omega)
  rw [rowL_get _ _ _ (by rw [rowL_len]; exact hj)] at this
  simpa [encZ] using this
theorem Part.free (M : Part B g m k rows T w) {i : Nat} (h : i < rows.length) (j : Nat) : w.frozen? ⟨rows[i], j, none⟩ = false := (M.row i h).free j
/-- A further row, ahead of the others. -/
theorem Part.put (M : Part B g m (k + 1) rows T w) {r : Nat} {T' : Nat → Nat → Int} (h1 : r ∉ rows) (h2 : B ≤ r) (h3 : r ≠ g) (hr : Bk w r 3 encZ (rowL m (T' k))) (hT : ∀ i j, k < i → T' i j = T i j) :
    Part B g m k (r :: rows) T' (w.setCell ⟨g, k, none⟩ (.slice (some ⟨r, 0, none⟩) m m)) where
  blk := by
    have := M.blk.put (sz := 1) (fun _ _ => rfl) (.slice (some ⟨r, 0, none⟩) m m) rfl k (by simp; omega)
    rw [Nat.mul_one, List.set_append_left _ _ (by simp)] at this
    have e : (List.replicate (k + 1) (Value.slice none 0 0)).set k (.slice (some ⟨r, 0, none⟩) m m) = List.replicate k (.slice none 0 0) ++ [.slice (some ⟨r, 0, none⟩) m m] := by
      rw [List.replicate_succ', List.set_append_right _ _ (by simp)]; simp
    rw [e, List.append_assoc] at this
    exact this
  nd := List.nodup_cons.2 ⟨h1, M.nd⟩
  ge := fun q hq => by
    rcases List.mem_cons.1 hq with rfl | h
    · exact ⟨h2, h3⟩
    · exact M.ge q h
  row := fun i hi => by
    cases i with
    | zero => exact hr.ne _ _ h3
    | succ i =>
      have hi' : i < rows.length := by simpa using hi
      have e : rowL m (T' (k + (i + 1))) = rowL m (T (k + 1 + i)) := by
        rw [show k + (i + 1) = k + 1 + i by omega]
        exact List.map_congr_left fun j _ => hT _ _ (by omega)
      rw [List.getElem_cons_succ, e]
      exact (M.row i hi').ne _ _ (M.ge _ (List.getElem_mem hi')).2
theorem Part.store {r : Nat} (M : Part B g m k (r :: rows) T w) {j : Nat} (hj : j < m) (c : Int) : Part B g m k (r :: rows) (upT T k j c) (w.setCell ⟨r, j, none⟩ (.int .i64 c)) where
  blk := M.blk.ne _ _ (fun e => (M.ge r (by simp)).2 e.symm)
  nd := M.nd
  ge := M.ge
  row i hi := by
    cases i with
    | zero =>
      have := (M.row 0 (by simp)).put (sz := 1) (fun _ _ => rfl) c rfl j (by rw [rowL_len]; exact hj)
      rw [Nat.mul_one] at this
      have hs : (rowL m (T (k + 0))).set j c = rowL m (upT T k j c (k + 0)) := by
        apply List.ext_getElem (by simp [rowL])
        intro a h1 h2
        have e2 : (rowL m (upT T k j c (k + 0)))[a] = upT T k j c (k + 0) a := rowL_get _ _ _ h2
        rw [List.getElem_set, e2]
        by_cases ea : j = a
        · subst ea; simp [upT]
        · have h3 : a < (rowL m (T (k + 0))).length := by simpa using h1
          rw [if_neg ea, rowL_get _ _ _ h3, upT, if_neg (fun h => ea h.2.symm)]
      rw [hs] at this
      exact this
    | succ i =>
      have hi' : i < rows.length := by simpa using hi
      have hne : rows[i] ≠ r := fun e => (List.nodup_cons.1 M.nd).1 (by rw [← e]; exact List.getElem_mem _)
      have hs : rowL m (upT T k j c (k + (i + 1))) = rowL m (T (k + (i + 1))) := by
        unfold rowL upT
        exact List.map_congr_left fun a _ => if_neg (fun h => by omega)
      rw [hs]
      exact (M.row (i + 1) hi).ne _ _ hne
theorem Part.mat (M : Part B g m 0 rows T w) : Mat B g rows m T w where
  blk := by
    obtain ⟨cs, h1, h2⟩ := M.blk
    exact ⟨cs, h1, by rw [h2, List.replicate_zero, List.nil_append, List.flatMap_map]; rfl⟩
  nd := M.nd
  ge := M.ge
  row i h := by have := M.row i h; rwa [Nat.zero_add] at this
end

/-- The table while row k is filled, from its end down to c. -/
def tabC (ds : List Due) (hs : List Hrd) (p : Prc) (k c i j : Nat) : Int := if i = k ∧ j < c then 0 else tab ds hs p i j
theorem tabC_gt {ds : List Due} {hs : List Hrd} {p : Prc} {k c i j : Nat} (h : k < i) : tabC ds hs p k c i j = tab ds hs p i j := if_neg (by omega)
theorem tabC_ge {ds : List Due} {hs : List Hrd} {p : Prc} {k c i j : Nat} (h : c ≤ j) : tabC ds hs p k c i j = tab ds hs p i j := if_neg (by omega)
theorem tabC_zero {ds : List Due} {hs : List Hrd} {p : Prc} {k : Nat} : tabC ds hs p k 0 = tab ds hs p := by
  funext i j; exact if_neg (by omega)
theorem tabC_up {ds : List Due} {hs : List Hrd} {p : Prc} {k c : Nat} : ∀ i j, upT (tabC ds hs p k (c + 1)) k c (tab ds hs p k c) i j = tabC ds hs p k c i j := by
  intro i j
  unfold upT tabC
  by_cases h : i = k ∧ j = c
  · obtain ⟨rfl, rfl⟩ := h
    rw [if_pos ⟨rfl, rfl⟩, if_neg (by omega)]
  · rw [if_neg h]
    by_cases h2 : i = k ∧ j < c
    · rw [if_pos (by omega), if_pos h2]
    · rw [if_neg (by omega), if_neg h2]

/-- What the reference's minima yield. -/
structure Mins (ds : List Due) (hs : List Hrd) (p : Prc) (k c : Nat) (A : Int) : Prop where
  row : k = ds.length → c < hs.length → (if p.skip + tab ds hs p k (c + 1) < A then p.skip + tab ds hs p k (c + 1) else A) = tab ds hs p k c
  col : k < ds.length → c = hs.length → (if p.skip + tab ds hs p (k + 1) c < A then p.skip + tab ds hs p (k + 1) c else A) = tab ds hs p k c
  mid : ∀ (h1 : k < ds.length) (h2 : c < hs.length), ∃ X Y, (if p.skip + tab ds hs p (k + 1) c < A then p.skip + tab ds hs p (k + 1) c else A) = X ∧ (if p.skip + tab ds hs p k (c + 1) < X then p.skip + tab ds hs p k (c + 1) else X) = Y ∧
    (if mc p ds[k] hs[c] + tab ds hs p (k + 1) (c + 1) < Y then mc p ds[k] hs[c] + tab ds hs p (k + 1) (c + 1) else Y) = tab ds hs p k c
theorem mins_of {ds : List Due} {hs : List Hrd} {p : Prc} (hv : AlOk ds hs p) {k c : Nat} (hk : k ≤ ds.length) (hc : c ≤ hs.length) {A : Int} (hA : p.skip * ((ds.length - k + (hs.length - c) : Nat) : Int) = A) : Mins ds hs p k c A := by
  have step : ∀ f : Nat, ds.length - k + (hs.length - c) = f + 1 → A = p.skip + p.skip * f := fun f e => by
    rw [← hA, e, Int.natCast_add, Int.mul_add]; simp; omega
  refine ⟨fun h1 h2 => ?_, fun h1 h2 => ?_, fun h1 h2 => ?_⟩
  · subst h1
    have a := tab_bd hv (ds.length - ds.length + (hs.length - (c + 1))) ds.length (c + 1) (by omega) (by omega) rfl
    have b := step _ (show ds.length - ds.length + (hs.length - c) = (ds.length - ds.length + (hs.length - (c + 1))) + 1 by omega)
    rw [tab_row h2]
    split <;> omega
  · subst h2
    have a := tab_bd hv (ds.length - (k + 1) + (hs.length - hs.length)) (k + 1) hs.length (by omega) (by omega) rfl
    have b := step _ (show ds.length - k + (hs.length - hs.length) = (ds.length - (k + 1) + (hs.length - hs.length)) + 1 by omega)
    rw [tab_col h1]
    split <;> omega
  · refine ⟨_, _, rfl, rfl, ?_⟩
    have a := tab_bd hv (ds.length - (k + 1) + (hs.length - c)) (k + 1) c (by omega) (by omega) rfl
    have b := step _ (show ds.length - k + (hs.length - c) = (ds.length - (k + 1) + (hs.length - c)) + 1 by omega)
    rw [tab_mid h1 h2]
    generalize mc p ds[k] hs[c] + tab ds hs p (k + 1) (c + 1) = D
    generalize p.skip + tab ds hs p k (c + 1) = C
    have hB : p.skip + tab ds hs p (k + 1) c ≤ A := by omega
    revert hB
    generalize p.skip + tab ds hs p (k + 1) c = E
    intro hB
    have e1 : (if E < A then E else A) = E := by split <;> omega
    rw [e1]
    by_cases h : C < E
    · rw [if_pos h]; split <;> omega
    · rw [if_neg h]; split <;> omega
end Go.Proofs.YthomegempfedaaaDoor
