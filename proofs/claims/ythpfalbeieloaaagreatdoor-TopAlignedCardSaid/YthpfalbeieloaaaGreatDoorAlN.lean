/-
  Plain: what Cost, Align and Check return.
-/
import Derived.Test.YthpfalbeieloaaaGreatDoorAlM
namespace Go.Sx.Al
open Go.Sx.Sz

/-- An alignment, behind the last match a, b. -/
def aligB (n m : Nat) : Int → Int → List Mt → Bool
  | _, _, [] => true
  | a, b, x :: l => (decide (a < x.d) && decide (b < x.h)) && (decide (x.d < n) && decide (x.h < m)) && aligB n m x.d x.h l

theorem aligB_iff {n m : Nat} : ∀ {i j : Nat} {l : List Mt}, aligB n m ((i : Int) - 1) ((j : Int) - 1) l = true ↔ alig n m i j l
  | _, _, [] => by simp [aligB, alig]
  | i, j, x :: l => by
    simp only [aligB, alig, Bool.and_eq_true, decide_eq_true_eq]
    constructor
    · rintro ⟨⟨⟨a, b⟩, c, d⟩, e⟩
      refine ⟨by omega, by omega, c, d, ?_⟩
      rw [← aligB_iff]
      have e1 : ((x.d.toNat + 1 : Nat) : Int) - 1 = x.d := by omega
      have e2 : ((x.h.toNat + 1 : Nat) : Int) - 1 = x.h := by omega
      rw [e1, e2]; exact e
    · rintro ⟨a, b, c, d, e⟩
      rw [← aligB_iff] at e
      have e1 : ((x.d.toNat + 1 : Nat) : Int) - 1 = x.d := by omega
      have e2 : ((x.h.toNat + 1 : Nat) : Int) - 1 = x.h := by omega
      rw [e1, e2] at e
      exact ⟨⟨⟨by omega, by omega⟩, c, d⟩, e⟩

def lastM (a b : Int) : List Mt → Mt
  | [] => ⟨a, b⟩
  | x :: l => lastM x.d x.h l
theorem lastM_snoc : ∀ {a b : Int} {l : List Mt} {x : Mt}, lastM a b (l ++ [x]) = x
  | _, _, [], _ => rfl
  | _, _, _ :: l, _ => lastM_snoc (l := l)
theorem aligB_snoc {n m : Nat} : ∀ {a b : Int} {l : List Mt} {x : Mt},
    aligB n m a b (l ++ [x]) = (aligB n m a b l && ((decide ((lastM a b l).d < x.d) && decide ((lastM a b l).h < x.h)) && (decide (x.d < n) && decide (x.h < m))))
  | a, b, [], x => by rw [Bool.eq_iff_iff]; simp only [List.nil_append, aligB, lastM, Bool.and_eq_true, decide_eq_true_eq, and_true, true_and]; exact ⟨fun ⟨⟨a, b⟩, c⟩ => ⟨⟨decide_eq_true a, decide_eq_true b⟩, c⟩, fun ⟨⟨a, b⟩, c⟩ => ⟨⟨of_decide_eq_true a, of_decide_eq_true b⟩, c⟩⟩
  | a, b, y :: l, x => by rw [Bool.eq_iff_iff]; simp only [List.cons_append, aligB, lastM, aligB_snoc (l := l), Bool.and_eq_true, decide_eq_true_eq, and_assoc]; exact ⟨fun ⟨a, b, c, d, e, f, g, h⟩ => ⟨a, b, c, d, e, decide_eq_true f, decide_eq_true g, h⟩, fun ⟨a, b, c, d, e, f, g, h⟩ => ⟨a, b, c, d, e, of_decide_eq_true f, of_decide_eq_true g, h⟩⟩
theorem aligB_last {n m : Nat} : ∀ {a b : Int} {l : List Mt}, -1 ≤ a → -1 ≤ b → aligB n m a b l = true → -1 ≤ (lastM a b l).d ∧ -1 ≤ (lastM a b l).h
  | _, _, [], h1, h2, _ => ⟨h1, h2⟩
  | a, b, x :: l, h1, h2, h => by
    simp only [aligB, Bool.and_eq_true, decide_eq_true_eq] at h
    exact aligB_last (l := l) (by omega) (by omega) h.2
theorem aligB_len {n m : Nat} : ∀ {a b : Int} {l : List Mt}, a < n → aligB n m a b l = true → (l.length : Int) ≤ n - 1 - a
  | a, b, [], h1, _ => by simp; omega
  | a, b, x :: l, h1, h => by
    simp only [aligB, Bool.and_eq_true, decide_eq_true_eq] at h
    have := aligB_len (l := l) h.1.2.1 h.2
    simp only [List.length_cons]; omega
theorem aligB_take {n m : Nat} : ∀ {a b : Int} {l : List Mt} (k : Nat), aligB n m a b l = true → aligB n m a b (l.take k) = true
  | _, _, l, 0, _ => by simp [aligB]
  | _, _, [], _ + 1, _ => by simp [aligB]
  | a, b, x :: l, k + 1, h => by
    simp only [List.take_succ_cons, aligB, Bool.and_eq_true] at h ⊢
    exact ⟨h.1, aligB_take k h.2⟩

section
variable {ds : List Due} {hs : List Hrd} {p : Prc}
theorem sav_snoc : ∀ {l : List Mt} {x : Mt}, sav ds hs p (l ++ [x]) = sav ds hs p l + (mcAt ds hs p x - 2 * p.skip)
  | [], x => by simp [sav]
  | y :: l, x => by
    have := sav_snoc (l := l) (x := x)
    simp only [List.cons_append, sav, this]; omega
theorem mcAt_bd (hv : AlOk ds hs p) {x : Mt} (h1 : -1 < x.d) (h2 : -1 < x.h) (h3 : x.d < ds.length) (h4 : x.h < hs.length) : 0 ≤ mcAt ds hs p x ∧ mcAt ds hs p x ≤ 1100000 := by
  unfold mcAt
  rw [List.getD_eq_getElem?_getD, List.getD_eq_getElem?_getD, List.getElem?_eq_getElem (by omega), List.getElem?_eq_getElem (by omega)]
  exact mc_bd (hv.dt _ (List.getElem_mem _)) (hv.ht _ (List.getElem_mem _)) hv.off
theorem mcAt_eq {x : Mt} {i j : Nat} (h1 : x.d = i) (h2 : x.h = j) (hi : i < ds.length) (hj : j < hs.length) : mcAt ds hs p x = mc p ds[i] hs[j] := by
  unfold mcAt
  rw [h1, h2, Int.toNat_natCast, Int.toNat_natCast, List.getD_eq_getElem?_getD, List.getD_eq_getElem?_getD, List.getElem?_eq_getElem hi, List.getElem?_eq_getElem hj]; rfl
theorem sav_bd (hv : AlOk ds hs p) : ∀ {a b : Int} {l : List Mt}, -1 ≤ a → -1 ≤ b → aligB ds.length hs.length a b l = true → -(2000000 * (l.length : Int)) ≤ sav ds hs p l ∧ sav ds hs p l ≤ 1100000 * l.length
  | _, _, [], _, _, _ => by simp [sav]
  | a, b, x :: l, h1, h2, h => by
    simp only [aligB, Bool.and_eq_true, decide_eq_true_eq] at h
    have i := sav_bd hv (l := l) (by omega) (by omega) h.2
    have k := mcAt_bd hv (x := x) (by omega) (by omega) h.1.2.1 h.1.2.2
    have s := hv.skip
    simp only [sav, List.length_cons]; omega
end

/-- What Cost returns. -/
def costR (ds : List Due) (hs : List Hrd) (p : Prc) (l : List Mt) : Int × Int :=
  if alOk ds hs p = true ∧ aligB ds.length hs.length (-1) (-1) l = true then (p.skip * ((ds.length + hs.length : Nat) : Int) + sav ds hs p l, 0) else (0, 1)

/-- The whole table. -/
def tableL (ds : List Due) (hs : List Hrd) (p : Prc) : List (List Int) := (List.range (ds.length + 1)).map fun i => (List.range (hs.length + 1)).map fun j => tab ds hs p i j
def pathL (ds : List Due) (hs : List Hrd) (p : Prc) : List Mt := path ds hs p (ds.length + hs.length) 0 0

/-- The cost of the path is the table's first cell. -/
theorem cost_path {ds : List Due} {hs : List Hrd} {p : Prc} (hv : alOk ds hs p = true) : costR ds hs p (pathL ds hs p) = (tab ds hs p 0 0, 0) := by
  obtain ⟨a, b⟩ := path_ok (ds := ds) (hs := hs) (p := p) (ds.length + hs.length) 0 0 (Nat.zero_le _) (Nat.zero_le _) (by omega)
  have a' : aligB ds.length hs.length (-1) (-1) (pathL ds hs p) = true := by
    exact aligB_iff.2 a
  unfold costR
  rw [if_pos ⟨hv, a'⟩, b]
  rfl
end Go.Sx.Al
