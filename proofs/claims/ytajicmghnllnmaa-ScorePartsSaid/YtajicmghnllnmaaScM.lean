/-
  Plain: scores of chapter 19. When a score is valid, and what the functions of the chapter return.
-/
import Derived.Test.YtajicmghnllnmaaSzM
namespace Go.Sx.Sc
open Go.Sx.Sz

/-- A note: its voice, its ticks, its place, and whether it is tied. -/
structure Nt where
  v : Int
  f : Int
  u : Int
  x : V6
  tied : Bool
deriving Inhabited, DecidableEq
/-- A pair. -/
structure Pr where
  a : Int
  b : Int
  want : V6
  bound : Int
deriving Inhabited, DecidableEq
structure Sc where
  voices : Int
  notes : List Nt
  pairs : List Pr
  cads : List Int
deriving Inhabited, DecidableEq

def Sc.N (s : Sc) (i : Nat) : Nt := s.notes.getD i default
def Sc.P (s : Sc) (i : Nat) : Pr := s.pairs.getD i default
def Sc.C (s : Sc) (i : Nat) : Int := s.cads.getD i 0
theorem Sc.N_eq {s : Sc} {i : Nat} (h : i < s.notes.length) : s.N i = s.notes[i] := by
  unfold Sc.N; rw [List.getD_eq_getElem?_getD, List.getElem?_eq_getElem h]; rfl
theorem Sc.P_eq {s : Sc} {i : Nat} (h : i < s.pairs.length) : s.P i = s.pairs[i] := by
  unfold Sc.P; rw [List.getD_eq_getElem?_getD, List.getElem?_eq_getElem h]; rfl
theorem Sc.C_eq {s : Sc} {i : Nat} (h : i < s.cads.length) : s.C i = s.cads[i] := by
  unfold Sc.C; rw [List.getD_eq_getElem?_getD, List.getElem?_eq_getElem h]; rfl

def noteOk (vs : Int) (n : Nt) : Prop := (0 ≤ n.v ∧ n.v < vs) ∧ (0 ≤ n.f ∧ n.f < n.u) ∧ n.u ≤ 100000 ∧ within n.x 24 = true
instance (vs : Int) (n : Nt) : Decidable (noteOk vs n) := by unfold noteOk; infer_instance
def lexN (a b : Nt) : Prop := a.f < b.f ∨ (a.f = b.f ∧ a.v < b.v)
instance (a b : Nt) : Decidable (lexN a b) := by unfold lexN; infer_instance
def lexP (a b : Pr) : Prop := a.a < b.a ∨ (a.a = b.a ∧ a.b < b.b)
instance (a b : Pr) : Decidable (lexP a b) := by unfold lexP; infer_instance
theorem lexN_trans {a b c : Nt} (h : lexN a b) (k : lexN b c) : lexN a c := by unfold lexN at *; omega
theorem lexP_trans {a b c : Pr} (h : lexP a b) (k : lexP b c) : lexP a c := by unfold lexP at *; omega

/-- Not too much of anything. -/
def szOk' (s : Sc) : Prop := (1 ≤ s.voices ∧ s.voices ≤ 8) ∧ s.notes.length ≤ 200 ∧ s.pairs.length ≤ 400 ∧ s.cads.length < 16
instance (s : Sc) : Decidable (szOk' s) := by unfold szOk'; infer_instance
/-- All notes are well-formed and sorted. -/
def ntOk (s : Sc) : Prop := (∀ i, i < s.notes.length → noteOk s.voices (s.N i)) ∧ ∀ i, i < s.notes.length - 1 → lexN (s.N i) (s.N (i + 1))
instance (s : Sc) : Decidable (ntOk s) := by unfold ntOk; infer_instance
/-- What ties a note to an earlier one. -/
def tieOf (s : Sc) (i k : Nat) : Prop := (s.N k).v = (s.N i).v ∧ (s.N k).u = (s.N i).f ∧ (s.N k).x = (s.N i).x
instance (s : Sc) (i k : Nat) : Decidable (tieOf s i k) := by unfold tieOf; infer_instance
/-- No voice has two notes at once, and all ties have their notes. -/
def vcAt (s : Sc) (i : Nat) : Prop := (∀ k, k < i → (s.N k).v = (s.N i).v → (s.N k).u ≤ (s.N i).f) ∧ ((s.N i).tied = true → ¬ ∀ k, k < i → ¬ tieOf s i k)
instance (s : Sc) (i : Nat) : Decidable (vcAt s i) := by unfold vcAt; infer_instance
def vcOk (s : Sc) : Prop := ∀ i, i < s.notes.length → vcAt s i
instance (s : Sc) : Decidable (vcOk s) := by unfold vcOk; infer_instance
def pairOk (s : Sc) (p : Pr) : Prop := (0 ≤ p.a ∧ p.a < p.b) ∧ p.b < s.notes.length ∧ within p.want 16 = true ∧ (0 ≤ p.bound ∧ p.bound ≤ 100000) ∧ (s.N p.a.toNat).v ≠ (s.N p.b.toNat).v ∧ (s.N p.b.toNat).f < (s.N p.a.toNat).u
instance (s : Sc) (p : Pr) : Decidable (pairOk s p) := by unfold pairOk; infer_instance
def prsOk (s : Sc) : Prop := (∀ i, i < s.pairs.length → pairOk s (s.P i)) ∧ ∀ i, i < s.pairs.length - 1 → lexP (s.P i) (s.P (i + 1))
instance (s : Sc) : Decidable (prsOk s) := by unfold prsOk; infer_instance
def cadOk (s : Sc) : Prop := (∀ i, i < s.cads.length → 1 ≤ s.C i ∧ s.C i ≤ 99999) ∧ ∀ i, i < s.cads.length - 1 → s.C i < s.C (i + 1)
instance (s : Sc) : Decidable (cadOk s) := by unfold cadOk; infer_instance
/-- A valid score. -/
structure ScOk (s : Sc) : Prop where
  sz : szOk' s
  nt : ntOk s
  vc : vcOk s
  pr : prsOk s
  cd : cadOk s
theorem scOk_iff {s : Sc} : ScOk s ↔ szOk' s ∧ ntOk s ∧ vcOk s ∧ prsOk s ∧ cadOk s := ⟨fun h => ⟨h.sz, h.nt, h.vc, h.pr, h.cd⟩, fun ⟨a, b, c, d, e⟩ => ⟨a, b, c, d, e⟩⟩
def scB (s : Sc) : Bool := decide (szOk' s) && decide (ntOk s) && decide (vcOk s) && decide (prsOk s) && decide (cadOk s)
theorem scB_iff {s : Sc} : scB s = true ↔ ScOk s := by simp [scB, scOk_iff, and_assoc]
theorem scB_false {s : Sc} (h : ¬ ScOk s) : scB s = false := by
  cases hh : scB s with
  | false => rfl
  | true => exact absurd (scB_iff.1 hh) h

section
variable {s : Sc}
theorem ntOk.lex (h : ntOk s) : ∀ {j i : Nat}, i < j → j < s.notes.length → lexN (s.N i) (s.N j)
  | 0, i, hij, _ => by omega
  | j + 1, i, hij, hj => by
    have h1 := h.2 j (by omega)
    by_cases e : i = j
    · subst e; exact h1
    · exact lexN_trans (ntOk.lex h (by omega) (by omega)) h1
theorem ntOk.from_le (h : ntOk s) {i j : Nat} (hij : i ≤ j) (hj : j < s.notes.length) : (s.N i).f ≤ (s.N j).f := by
  by_cases e : i = j
  · subst e; omega
  · have := ntOk.lex h (show i < j by omega) hj
    unfold lexN at this; omega
theorem ntOk.note (h : ntOk s) {i : Nat} (hi : i < s.notes.length) : noteOk s.voices (s.N i) := h.1 i hi
/-- Two notes of the same voice: the later one begins where the earlier one ends, or later. -/
theorem ScOk.apart (h : ScOk s) {i k : Nat} (hk : k < i) (hi : i < s.notes.length) (hv : (s.N k).v = (s.N i).v) : (s.N k).u ≤ (s.N i).f := (h.vc i hi).1 k hk hv
/-- A voice has only one note that ends at a tick. -/
theorem ScOk.ends (h : ScOk s) {i k : Nat} (hi : i < s.notes.length) (hk : k < s.notes.length) (hv : (s.N k).v = (s.N i).v) (hu : (s.N k).u = (s.N i).u) : i = k := by
  have n1 := (h.nt.note hi).2.1
  have n2 := (h.nt.note hk).2.1
  rcases Nat.lt_trichotomy i k with e | e | e
  · have := h.apart e hk hv.symm; omega
  · exact e
  · have := h.apart e hi hv; omega
theorem ScOk.tie (h : ScOk s) {i : Nat} (hi : i < s.notes.length) (ht : (s.N i).tied = true) : ∃ k, k < i ∧ tieOf s i k := by
  have := (h.vc i hi).2 ht
  exact Classical.byContradiction fun hc => this fun k hk ht => hc ⟨k, hk, ht⟩
theorem cadOk.lt (h : cadOk s) : ∀ {j i : Nat}, i < j → j < s.cads.length → s.C i < s.C j
  | 0, i, hij, _ => by omega
  | j + 1, i, hij, hj => by
    have h1 := h.2 j (by omega)
    by_cases e : i = j
    · subst e; exact h1
    · have := cadOk.lt h (show i < j by omega) (show j < s.cads.length by omega)
      omega
theorem prsOk.lex (h : prsOk s) : ∀ {j i : Nat}, i < j → j < s.pairs.length → lexP (s.P i) (s.P j)
  | 0, i, hij, _ => by omega
  | j + 1, i, hij, hj => by
    have h1 := h.2 j (by omega)
    by_cases e : i = j
    · subst e; exact h1
    · exact lexP_trans (prsOk.lex h (by omega) (by omega)) h1
end

/-- The section of a tick: how many cadences are not later. -/
def secF (s : Sc) (t : Int) : Nat := s.cads.countP (fun c => decide (c ≤ t))
/-- The indices of the notes that a test accepts. -/
def chooseL (l : List Nt) (p : Nt → Bool) : List Int := ((List.range l.length).filter fun i => p (l.getD i default)).map fun (i : Nat) => (i : Int)
def sndP (t : Int) (n : Nt) : Bool := decide (n.f ≤ t) && decide (t < n.u)
def heldP (c : Int) (n : Nt) : Bool := (decide (n.f < c) && decide (c < n.u)) || (decide (n.f = c) && n.tied)
/-- The first index whose note a test accepts. -/
def findL : List Nt → (Nt → Bool) → Nat → Int
  | [], _, _ => -1
  | n :: l, p, k => if p n = true then k else findL l p (k + 1)
def endP (v t : Int) (n : Nt) : Bool := decide (n.v = v) && decide (n.u = t)
/-- How many notes begin before a tick. -/
def begF (s : Sc) (c : Int) : Nat := s.notes.countP (fun n => decide (n.f < c))

def secR (s : Sc) (t : Int) : Int × Int := if scB s = true ∧ 0 ≤ t ∧ t ≤ 100000 then (secF s t, 0) else (0, 1)
def befR (s : Sc) (n : Int) : Int × Int := if scB s = true ∧ 0 ≤ n ∧ n < s.notes.length then ((if (s.N n.toNat).tied = true then findL s.notes (endP (s.N n.toNat).v (s.N n.toNat).f) 0 else -1), 0) else (0, 1)
def sndR (s : Sc) (t : Int) : List Int × Int := if scB s = true ∧ 0 ≤ t ∧ t ≤ 100000 then (chooseL s.notes (sndP t), 0) else ([], 1)
def heldR (s : Sc) (k : Int) : List Int × Int := if scB s = true ∧ 1 ≤ k ∧ k ≤ s.cads.length then (chooseL s.notes (heldP (s.C (k - 1).toNat)), 0) else ([], 1)
def fstF (s : Sc) (k : Int) : Int := if k = 0 then 0 else if k = s.cads.length + 1 then s.notes.length else begF s (s.C (k - 1).toNat)
def fstR (s : Sc) (k : Int) : Int × Int := if scB s = true ∧ 0 ≤ k ∧ k ≤ s.cads.length + 1 then (fstF s k, 0) else (0, 1)

theorem chooseL_snoc {l : List Nt} {n : Nt} {p : Nt → Bool} : chooseL (l ++ [n]) p = chooseL l p ++ (if p n = true then [(l.length : Int)] else []) := by
  unfold chooseL
  rw [List.length_append, List.length_singleton, List.range_succ, List.filter_append, List.map_append]
  congr 1
  · congr 1
    apply List.filter_congr
    intro i hi
    rw [List.mem_range] at hi
    rw [List.getD_eq_getElem?_getD, List.getD_eq_getElem?_getD, List.getElem?_append_left hi]
  · have e : (l ++ [n]).getD l.length default = n := by simp [List.getD_eq_getElem?_getD]
    simp only [List.filter_cons, List.filter_nil, e]
    by_cases h : p n = true
    · simp [h]
    · simp [h]
theorem chooseL_mem {l : List Nt} {p : Nt → Bool} {i : Int} : i ∈ chooseL l p ↔ 0 ≤ i ∧ i < l.length ∧ p (l.getD i.toNat default) = true := by
  unfold chooseL
  simp only [List.mem_map, List.mem_filter, List.mem_range]
  constructor
  · rintro ⟨k, ⟨h1, h2⟩, rfl⟩
    exact ⟨by omega, by omega, by simpa using h2⟩
  · rintro ⟨h1, h2, h3⟩
    exact ⟨i.toNat, ⟨by omega, h3⟩, by omega⟩
theorem chooseL_sorted {l : List Nt} {p : Nt → Bool} : (chooseL l p).Pairwise (· < ·) := by
  unfold chooseL
  rw [List.pairwise_map]
  exact (List.Pairwise.filter _ List.pairwise_lt_range).imp (by intro a b h; exact Int.ofNat_lt.2 h)
theorem chooseL_len {l : List Nt} {p : Nt → Bool} : (chooseL l p).length ≤ l.length := by
  unfold chooseL
  rw [List.length_map]
  exact Nat.le_trans (List.length_filter_le _ _) (by simp)
theorem findL_spec {p : Nt → Bool} : ∀ {l : List Nt} {k : Nat}, (findL l p k = -1 ∧ ∀ n ∈ l, p n = false) ∨ ∃ i : Nat, i < l.length ∧ findL l p k = ((k + i : Nat) : Int) ∧ p (l.getD i default) = true ∧ ∀ j, j < i → p (l.getD j default) = false
  | [], k => .inl ⟨rfl, by simp⟩
  | n :: l, k => by
    unfold findL
    by_cases h : p n = true
    · exact .inr ⟨0, by simp, by rw [if_pos h]; simp, by simpa using h, fun j hj => by omega⟩
    · rw [if_neg h]
      rcases findL_spec (p := p) (l := l) (k := k + 1) with ⟨h1, h2⟩ | ⟨i, h1, h2, h3, h4⟩
      · refine .inl ⟨h1, fun m hm => ?_⟩
        rcases List.mem_cons.1 hm with rfl | hm
        · simpa using h
        · exact h2 m hm
      · refine .inr ⟨i + 1, by simpa using h1, by rw [h2]; omega, by simpa using h3, fun j hj => ?_⟩
        cases j with
        | zero => simpa using h
        | succ j => simpa using h4 j (by omega)
theorem findL_at {p : Nt → Bool} {l : List Nt} {i : Nat} (hi : i < l.length) (h : p (l.getD i default) = true) (hu : ∀ j, j < l.length → p (l.getD j default) = true → j = i) : findL l p 0 = i := by
  rcases findL_spec (p := p) (l := l) (k := 0) with ⟨h1, h2⟩ | ⟨k, h1, h2, h3, h4⟩
  · have := h2 (l.getD i default) (by rw [List.getD_eq_getElem?_getD, List.getElem?_eq_getElem hi]; exact List.getElem_mem hi)
    rw [h] at this; cases this
  · rw [h2, hu k h1 h3]; simp
end Go.Sx.Sc
