/-
  Libraries of these proofs, laid as one text: AuM, ScPtM, SgM, SgL, PoM, PoN, PoL, BlM, BlL.
-/
import Derived.Test.YtgfaiihekibcbaaGreatDoorLibB
/-
  Plain: what measured tones say of the pairs of a score.
-/
set_option linter.unusedVariables false
namespace Go.Sx.Au
open Go.Sx.Sz Go.Sx.Sc

/-- A finding. -/
structure Fnd where
  i : Int
  verdict : Int
  bound : Int
deriving Inhabited, DecidableEq
def farZ (d : S2) : Int := if -d.lo ≤ d.hi then d.hi else -d.lo
def wantS (v : V6) : S2 := expo (v.times 12)
def T (l : List S2) (k : Nat) : S2 := l.getD k ⟨0, 0⟩
section
variable {d : S2} {b : Int}
/-! ### The laws -/
end
end Go.Sx.Au

/-
  Plain: parts of a valid score.
-/
set_option linter.unusedVariables false
namespace Go.Sx.Sc
open Go.Sx.Sz

section
variable {s : Sc}
end
end Go.Sx.Sc

/-
  Plain: entries of a score, and from which heard note they are found.
-/
set_option linter.unusedVariables false
namespace Go.Sx.Sg
open Go.Sx.Sz Go.Sx.Sc Go.Sx.Au

def X (xs : List V6) (n : Nat) : V6 := xs.getD n V6.zero
/-- Note i sounds just before note n begins. -/
def sndB (s : Sc) (n i : Nat) : Bool := decide ((s.N i).f ≤ (s.N n).f - 1) && decide ((s.N n).f - 1 < (s.N i).u)
def sndL (s : Sc) (n : Nat) : List Nat := (List.range n).filter (sndB s n)
def othL (s : Sc) (n : Nat) : List Nat := (sndL s n).filter fun i => decide ((s.N i).v ≠ (s.N n).v)
def heardL (s : Sc) (n : Nat) : List Int := if othL s n = [] then [-1] else (othL s n).map fun i : Nat => (i : Int)
def atX (xs : List V6) (i : Int) : V6 := if i = -1 then V6.zero else X xs i.toNat
def gapF (xs : List V6) (n : Nat) (i : Int) : S2 := expo (((X xs n).times 12).sub ((atX xs i).times 12))
def needF (xs : List V6) (n : Nat) (i : Int) : Int := (farZ (gapF xs n i) + 9999) / 10000
def findR (s : Sc) (xs : List V6) (n : Nat) (step : Int) : Int × Int :=
  match (heardL s n).find? (fun i => decide (needF xs n i ≤ step)) with
  | some i => (i, 0)
  | none => (0, 4)
/-- The least step so far, and from where. -/
def lstF (xs : List V6) (n : Nat) : List Int → Int × Int → Int × Int
  | [], p => p
  | i :: l, p => lstF xs n l (if needF xs n i < p.1 then (needF xs n i, i) else p)
def leastN (s : Sc) (xs : List V6) (n : Nat) : Int × Int × Int :=
  let p := lstF xs n (heardL s n) (2400001, 0)
  if 2400000 < p.1 then (0, 0, 3) else (p.1, p.2, 0)
/-! ### From -/
/-! ### Least -/
end Go.Sx.Sg

/-
  Plain: the laws of entries: which they are, how a score cut short keeps them, and how a moved one does.
-/
set_option linter.unusedVariables false
set_option linter.unusedSectionVars false
namespace Go.Sx.Sg
open Go.Sx.Sz Go.Sx.Sc Go.Sx.Au

/-! ### Which notes are entries -/
/-! ### All notes, not only the earlier ones -/
/-! ### A score that ends with a note -/
section
variable {s : Sc} {n : Nat} (hn : n < s.notes.length)
include hn
end
/-! ### What findR and leastN ask -/
/-! ### Moved pitches -/
/-! ### Heard -/
/-! ### Missing -/
/-! ### The least step, by the index of the best -/
/-! ### The k-th of a list that a test accepts -/
end Go.Sx.Sg

/-
  Plain: parent steps, pitches of tuned notes, ways and broken pairs (chapter 23).
-/
set_option linter.unusedVariables false
set_option linter.unusedSectionVars false
namespace Go.Sx.Po
open Go.Sx.Sz Go.Sx.Sc

/-- A step. -/
structure St where
  a : Int
  b : Int
  k : Int
deriving DecidableEq, Inhabited
def St.flip (p : St) : St := ⟨p.b, p.a, p.k⟩
def purP (n : Nat) (p : Pr) : Bool := decide (p.b = n) && decide (p.bound = 0)
def purF (s : Sc) (n : Nat) : Option Pr := s.pairs.find? (purP n)
def aheadF (s : Sc) (n : Nat) : Int := findL s.notes (endP (s.N n).v (s.N n).f) 0
/-- The parent step of a note. -/
def upF (s : Sc) (n : Nat) : St :=
  if (s.N n).tied = true then ⟨aheadF s n, n, 1⟩ else match purF s n with
    | some p => ⟨p.a, n, 2⟩
    | none => ⟨-1, n, 3⟩
def wantF (s : Sc) (n : Nat) : V6 :=
  if (s.N n).tied = true then V6.zero else match purF s n with
    | some p => p.want
    | none => V6.zero
def hF (h : List V6) (k : Nat) : V6 := h.getD k V6.zero
def prodF (s : Sc) (h : List V6) (n : Nat) : V6 := if (upF s n).k = 3 then (s.N n).x.add (hF h (secF s (s.N n).f)) 1 else wantF s n
/-- The pitch of a tuned note, or of the anchor. -/
def pAt (xs : List V6) (i : Int) : V6 := if i < 0 then V6.zero else xs.getD i.toNat V6.zero
def xsL (s : Sc) (h : List V6) : Nat → List V6
  | 0 => []
  | n + 1 => xsL s h n ++ [(pAt (xsL s h n) (upF s n).a).add (prodF s h n) 1]
/-- How many notes begin in the sections of m shifts. -/
def tunN (s : Sc) (m : Nat) : Nat := s.notes.countP (fun n => decide (secF s n.f < m))
def tunB (s : Sc) (h : List V6) : Bool := scB s && decide (h.length ≤ s.cads.length + 1) && h.all (fun x => within x 48)
def allB (xs : List V6) : Bool := xs.all (fun x => within x 32)
def tuneR (s : Sc) (h : List V6) : List V6 × Int :=
  if tunB s h = true then (if allB (xsL s h (tunN s h.length)) = true then (xsL s h (tunN s h.length), 0) else ([], 3)) else ([], 1)
def parR (s : Sc) (n : Int) : St × Int := if scB s = true ∧ 0 ≤ n ∧ n < s.notes.length then (upF s n.toNat, 0) else (⟨0, 0, 0⟩, 1)

/-! ### Where parent steps come from -/
section
variable {s : Sc}
theorem upF_b (n : Nat) : (upF s n).b = n := by
  unfold upF; split
  · rfl
  · split <;> rfl
/-- The note to which a tied one is tied. -/
theorem ahead_at (h : ScOk s) {n k : Nat} (hn : n < s.notes.length) (hk : k < s.notes.length) (hv : (s.N k).v = (s.N n).v) (hu : (s.N k).u = (s.N n).f) : aheadF s n = k := by
  unfold aheadF
  refine findL_at hk ?_ fun j hj hp => ?_
  · unfold endP
    rw [Bool.and_eq_true, decide_eq_true_eq, decide_eq_true_eq]; exact ⟨hv, hu⟩
  · unfold endP at hp
    rw [Bool.and_eq_true, decide_eq_true_eq, decide_eq_true_eq] at hp
    exact h.ends hj hk (by show _ = _; exact hv.trans hp.1.symm) (by exact hu.trans hp.2.symm)
theorem ahead_tie (h : ScOk s) {n : Nat} (hn : n < s.notes.length) (ht : (s.N n).tied = true) : ∃ k : Nat, aheadF s n = k ∧ k < n ∧ tieOf s n k := by
  obtain ⟨k, hk, a, b, c⟩ := h.tie hn ht
  exact ⟨k, ahead_at h hn (by omega) a b, hk, a, b, c⟩
theorem pur_some {n : Nat} {p : Pr} (h : purF s n = some p) : p ∈ s.pairs ∧ p.b = n ∧ p.bound = 0 := by
  unfold purF at h
  have h1 := List.mem_of_find?_eq_some h
  have h2 := List.find?_some h
  unfold purP at h2
  rw [Bool.and_eq_true, decide_eq_true_eq, decide_eq_true_eq] at h2
  exact ⟨h1, h2⟩
theorem pair_mem (h : ScOk s) {p : Pr} (hp : p ∈ s.pairs) : pairOk s p := by
  obtain ⟨j, hj, e⟩ := List.getElem_of_mem hp
  have := h.pr.1 j hj
  rwa [Sc.P_eq hj, e] at this
/-- A parent step comes from an earlier note, or the anchor. -/
theorem up_lt (h : ScOk s) {n : Nat} (hn : n < s.notes.length) : -1 ≤ (upF s n).a ∧ (upF s n).a < n ∧ ((upF s n).k = 3 ↔ (upF s n).a = -1) := by
  unfold upF
  by_cases ht : (s.N n).tied = true
  · rw [if_pos ht]
    obtain ⟨k, e, hk, -⟩ := ahead_tie h hn ht
    simp only [e]
    omega
  · rw [if_neg ht]
    split
    · next p hp =>
      obtain ⟨hm, hb, -⟩ := pur_some hp
      have := pair_mem h hm
      unfold pairOk at this
      simp only
      omega
    · exact ⟨Int.le_refl _, by show (-1 : Int) < n; omega, by simp⟩

/-! ### The list of the pitches -/
theorem xsL_len (hh : List V6) : ∀ n, (xsL s hh n).length = n
  | 0 => rfl
  | n + 1 => by rw [xsL, List.length_append, xsL_len hh n]; rfl
theorem xsL_at (hh : List V6) {k : Nat} : ∀ {n : Nat}, k < n → (xsL s hh n).getD k V6.zero = (pAt (xsL s hh k) (upF s k).a).add (prodF s hh k) 1
  | 0, h => absurd h (by omega)
  | n + 1, h => by
    rw [xsL, List.getD_eq_getElem?_getD]
    by_cases e : k = n
    · subst e
      rw [List.getElem?_append_right (by rw [xsL_len]; omega), xsL_len, Nat.sub_self]; rfl
    · rw [List.getElem?_append_left (by rw [xsL_len]; omega), ← List.getD_eq_getElem?_getD]
      exact xsL_at hh (by omega)
theorem xsL_pre (hh : List V6) {k n : Nat} (h : k ≤ n) : xsL s hh n = xsL s hh k ++ (xsL s hh n).drop k := by
  induction n with
  | zero => obtain rfl : k = 0 := by omega
            rfl
  | succ n ih =>
    by_cases e : k = n + 1
    · subst e; rw [List.drop_eq_nil_of_le (by rw [xsL_len]; omega), List.append_nil]
    · rw [xsL]
      rw [List.drop_append_of_le_length (by rw [xsL_len]; omega), ← List.append_assoc, ← ih (by omega)]
theorem pAt_pre (hh : List V6) {k n : Nat} (h : k ≤ n) {i : Int} (hi : i < k) : pAt (xsL s hh n) i = pAt (xsL s hh k) i := by
  unfold pAt
  split
  · rfl
  · rw [xsL_pre hh h, List.getD_eq_getElem?_getD, List.getElem?_append_left (by rw [xsL_len]; omega), ← List.getD_eq_getElem?_getD]
/-- The pitch of a note is that from which its parent step leads, and its product. -/
theorem x_step (h : ScOk s) (hh : List V6) {k n : Nat} (hk : k < n) (hn : n ≤ s.notes.length) : pAt (xsL s hh n) k = (pAt (xsL s hh n) (upF s k).a).add (prodF s hh k) 1 := by
  have h1 := up_lt h (show k < s.notes.length by omega)
  rw [pAt_pre hh (Nat.le_of_lt hk) h1.2.1]
  unfold pAt
  rw [if_neg (by omega), Int.toNat_natCast, xsL_at hh hk]
  rfl
end

/-! ### Which notes are tuned -/
theorem countP_le_mono {l : List Int} {t u : Int} (h : t ≤ u) : l.countP (fun c => decide (c ≤ t)) ≤ l.countP (fun c => decide (c ≤ u)) :=
  List.countP_mono_left fun c _ hc => by rw [decide_eq_true_eq] at *; omega
theorem sec_mono (s : Sc) {t u : Int} (h : t ≤ u) : secF s t ≤ secF s u := countP_le_mono h
theorem count_pre {l : List Nt} {p : Nt → Bool} (hp : ∀ i j, i ≤ j → j < l.length → p (l.getD j default) = true → p (l.getD i default) = true) {n : Nat} (hn : n < l.length) : n < l.countP p ↔ p (l.getD n default) = true := by
  induction l generalizing n with
  | nil => simp at hn
  | cons a l ih =>
    have hl : ∀ i j, i ≤ j → j < l.length → p (l.getD j default) = true → p (l.getD i default) = true := fun i j hij hj h => by
      have := hp (i + 1) (j + 1) (by omega) (by simp; omega) (by simpa using h)
      simpa using this
    rw [List.countP_cons]
    by_cases ha : p a = true
    · rw [if_pos ha]
      cases n with
      | zero => simp [ha]
      | succ n =>
        have := ih hl (n := n) (by simp at hn; omega)
        rw [show (a :: l).getD (n + 1) default = l.getD n default by simp, ← this]
        omega
    · rw [if_neg ha]
      have hno : ∀ j, j < (a :: l).length → ¬ p ((a :: l).getD j default) = true := fun j hj h => ha (by simpa using hp 0 j (by omega) hj h)
      have h0 : l.countP p = 0 := by
        rw [List.countP_eq_zero]
        intro x hx
        obtain ⟨j, hj, e⟩ := List.getElem_of_mem hx
        have := hno (j + 1) (by simp; omega)
        rw [show (a :: l).getD (j + 1) default = l.getD j default by simp, List.getD_eq_getElem?_getD, List.getElem?_eq_getElem hj] at this
        simpa [e] using this
      rw [h0]
      constructor
      · intro h; omega
      · intro h; exact absurd h (hno n hn)
theorem tun_iff {s : Sc} (h : ntOk s) (m : Nat) {n : Nat} (hn : n < s.notes.length) : n < tunN s m ↔ secF s (s.N n).f < m := by
  unfold tunN
  rw [count_pre (fun i j hij hj hp => ?_) hn, decide_eq_true_eq]
  · rfl
  · rw [decide_eq_true_eq] at hp ⊢
    exact Nat.lt_of_le_of_lt (sec_mono s (h.from_le hij hj)) hp
theorem tun_le (s : Sc) (m : Nat) : tunN s m ≤ s.notes.length := List.countP_le_length
/-! ### Earlier shifts -/
theorem all_pre {xs ys : List V6} (h : allB (xs ++ ys) = true) : allB xs = true := by
  unfold allB at *; rw [List.all_append, Bool.and_eq_true] at h; exact h.1
theorem tunB_iff {s : Sc} {h : List V6} : tunB s h = true ↔ ScOk s ∧ h.length ≤ s.cads.length + 1 ∧ ∀ x ∈ h, within x 48 = true := by
  unfold tunB
  rw [Bool.and_eq_true, Bool.and_eq_true, scB_iff, decide_eq_true_eq, List.all_eq_true, and_assoc]
theorem tune_cases (s : Sc) (h : List V6) : (tuneR s h).2 = 0 ∧ tunB s h = true ∧ allB (xsL s h (tunN s h.length)) = true ∧ (tuneR s h).1 = xsL s h (tunN s h.length) ∨ (tuneR s h).2 ≠ 0 ∧ (tuneR s h).1 = [] := by
  unfold tuneR
  by_cases h1 : tunB s h = true
  · rw [if_pos h1]
    by_cases h2 : allB (xsL s h (tunN s h.length)) = true
    · rw [if_pos h2]; exact .inl ⟨rfl, h1, h2, rfl⟩
    · rw [if_neg h2]; exact .inr ⟨by simp, rfl⟩
  · rw [if_neg h1]; exact .inr ⟨by simp, rfl⟩
end Go.Sx.Po

/-
  Plain: ways, broken pairs, and what chains show (chapter 23).
-/
set_option linter.unusedVariables false
set_option linter.unusedSectionVars false
namespace Go.Sx.Po
open Go.Sx.Sz Go.Sx.Sc

/-! ### From a note up to the anchor -/
def chnL (s : Sc) : Nat → Int → List St
  | 0, _ => []
  | f + 1, n => if n < 0 then [] else upF s n.toNat :: chnL s f (upF s n.toNat).a
def chn (s : Sc) (n : Int) : List St := chnL s (n.toNat + 1) n
/-- A way up that starts at x, below m. -/
def isCh (s : Sc) (m : Nat) : List St → Int → Prop
  | [], _ => True
  | p :: l, x => (0 ≤ x ∧ x < m) ∧ p = upF s x.toNat ∧ isCh s m l p.a
def endOf : List St → Int → Int
  | [], x => x
  | p :: l, _ => endOf l p.a
section
variable {s : Sc} (h : ScOk s)
include h
theorem chnL_ok {m : Nat} (hm : m ≤ s.notes.length) : ∀ (f : Nat) (n : Int), -1 ≤ n → n < f → n < m → isCh s m (chnL s f n) n ∧ endOf (chnL s f n) n = -1
  | 0, n, h0, h1, h2 => by
    obtain rfl : n = -1 := by omega
    exact ⟨trivial, rfl⟩
  | f + 1, n, h0, h1, h2 => by
    rw [chnL]
    by_cases hn : n < 0
    · rw [if_pos hn]
      obtain rfl : n = -1 := by omega
      exact ⟨trivial, rfl⟩
    · rw [if_neg hn]
      have hu := up_lt h (n := n.toNat) (by omega)
      obtain ⟨a, b⟩ := chnL_ok hm f (upF s n.toNat).a (by omega) (by omega) (by omega)
      exact ⟨⟨⟨by omega, h2⟩, rfl, a⟩, b⟩
theorem chn_ok {m : Nat} (hm : m ≤ s.notes.length) {n : Int} (h0 : -1 ≤ n) (h1 : n < m) : isCh s m (chn s n) n ∧ endOf (chn s n) n = -1 := chnL_ok h hm _ _ h0 (by omega) h1
theorem ch_len {m : Nat} (hm : m ≤ s.notes.length) : ∀ (l : List St) (x : Int), isCh s m l x → -1 ≤ x → (l.length : Int) ≤ x + 1
  | [], x, _, hx => by simp; omega
  | p :: l, x, ⟨h1, h2, h3⟩, hx => by
    have hu := up_lt h (n := x.toNat) (by omega)
    rw [← h2] at hu
    have := ch_len hm l p.a h3 (by omega)
    rw [List.length_cons]
    omega
end
theorem ch_tw {s : Sc} {m : Nat} (q : Int → Bool) : ∀ (l : List St) (x : Int), isCh s m l x → isCh s m (l.takeWhile fun p => q p.b) x
  | [], x, _ => trivial
  | p :: l, x, ⟨h1, h2, h3⟩ => by
    rw [List.takeWhile_cons]
    split
    · exact ⟨h1, h2, ch_tw q l _ h3⟩
    · trivial
/-! ### The way from a note to another one -/
def aboveB (s : Sc) (b : Int) (x : Int) : Bool := decide (x = b) || (chn s b).any fun p => decide (p.a = x)
def outL (s : Sc) (a b : Int) : List St := (chn s a).takeWhile fun p => !aboveB s b p.b
def meetF (s : Sc) (a b : Int) : Int := endOf (outL s a b) a
def downL (s : Sc) (a b : Int) : List St := (chn s b).takeWhile fun p => decide (p.b ≠ meetF s a b)
def wayF (s : Sc) (a b : Int) : List St := (outL s a b).map St.flip ++ (downL s a b).reverse

/-! ### What a chain shows -/
theorem V6.add_get (u v : V6) (n : Int) {j : Nat} (hj : j < 6) : (u.add v n).get j = u.get j + n * v.get j := by
  unfold V6.add; rw [V6.get_of _ hj]
section
variable {s : Sc} (hs : ScOk s) (h : List V6) {m : Nat} (hm : m ≤ s.notes.length)
include hs hm
end
section
variable {s : Sc} (hs : ScOk s) {m : Nat} (hm : m ≤ s.notes.length) {a b : Int} (ha : 0 ≤ a ∧ a < m) (hb : 0 ≤ b ∧ b < m)
include hs hm ha hb
theorem way_len : (wayF s a b).length ≤ 2 * s.notes.length := by
  obtain ⟨c1, c2⟩ := chn_ok hs hm (n := a) (by omega) ha.2
  obtain ⟨d1, d2⟩ := chn_ok hs hm (n := b) (by omega) hb.2
  have h1 := ch_len hs hm _ _ (ch_tw (fun x => !aboveB s b x) _ _ c1) (by omega)
  have h2 := ch_len hs hm _ _ (ch_tw (fun x => decide (x ≠ meetF s a b)) _ _ d1) (by omega)
  unfold wayF
  rw [List.length_append, List.length_map, List.length_reverse]
  unfold outL downL
  omega
end

/-! ### Broken pairs -/
structure Cn where
  pair : Int
  steps : List St
  comma : V6
deriving DecidableEq, Inhabited
def excF (xs : List V6) (p : Pr) : V6 := ((pAt xs p.b).add (pAt xs p.a) (-1)).add p.want (-1)
def gapP (xs : List V6) (p : Pr) : S2 := expo (((pAt xs p.b).times 12).sub (((pAt xs p.a).add p.want 1).times 12))
def brkB (xs : List V6) (p : Pr) : Bool :=
  if p.bound = 0 then decide (excF xs p ≠ V6.zero) else !(decide (-10000 * p.bound ≤ (gapP xs p).lo ∧ (gapP xs p).hi ≤ 10000 * p.bound))
def brkT (s : Sc) (xs : List V6) (i : Nat) : Bool := decide ((s.P i).b < xs.length) && brkB xs (s.P i)
def cnF (s : Sc) (xs : List V6) (i : Nat) : Cn := ⟨i, wayF s (s.P i).a (s.P i).b, excF xs (s.P i)⟩
def brkL (s : Sc) (xs : List V6) : List Cn := ((List.range s.pairs.length).filter (brkT s xs)).map (cnF s xs)
def brkR (s : Sc) (h : List V6) : List Cn × Int := if (tuneR s h).2 = 0 then (brkL s (tuneR s h).1, 0) else ([], (tuneR s h).2)
theorem brkT_iff {s : Sc} {xs : List V6} {i : Nat} : brkT s xs i = true ↔ (s.P i).b < xs.length ∧ brkB xs (s.P i) = true := by
  unfold brkT; rw [Bool.and_eq_true, decide_eq_true_eq]
theorem mem_brkL {s : Sc} {xs : List V6} {c : Cn} : c ∈ brkL s xs ↔ ∃ i : Nat, i < s.pairs.length ∧ brkT s xs i = true ∧ c = cnF s xs i := by
  unfold brkL
  rw [List.mem_map]
  constructor
  · rintro ⟨i, hi, rfl⟩
    obtain ⟨h1, h2⟩ := List.mem_filter.1 hi
    exact ⟨i, List.mem_range.1 h1, h2, rfl⟩
  · rintro ⟨i, h1, h2, rfl⟩
    exact ⟨i, List.mem_filter.2 ⟨List.mem_range.2 h1, h2⟩, rfl⟩
section
variable {s : Sc} {h : List V6} (hk : (tuneR s h).2 = 0)
include hk
theorem tune_ok : ScOk s ∧ (tuneR s h).1 = xsL s h (tunN s h.length) ∧ allB (xsL s h (tunN s h.length)) = true := by
  rcases tune_cases s h with ⟨-, h1, h2, h3⟩ | ⟨h1, -⟩
  · exact ⟨(tunB_iff.1 h1).1, h3, h2⟩
  · exact absurd hk h1
end
end Go.Sx.Po

/-
  Plain: the laws of tuned scores: moved shifts, agreeing places, earlier shifts (chapter 23).
-/
set_option linter.unusedVariables false
set_option linter.unusedSectionVars false
namespace Go.Sx.Po
open Go.Sx.Sz Go.Sx.Sc

theorem zero_get {j : Nat} (hj : j < 6) : V6.zero.get j = 0 := by rcases lt6 hj with rfl | rfl | rfl | rfl | rfl | rfl <;> rfl
/-! ### Moved shifts -/
/-! ### Agreeing places -/
/-! ### Earlier shifts -/
/-! ### Where a pair's chain stands -/
end Go.Sx.Po

/-
  Plain: deviants, charges and voices (chapter 40).
-/
set_option linter.unusedVariables false
set_option linter.unusedSectionVars false
namespace Go.Sx.Bl
open Go.Sx.Sz Go.Sx.Sc Go.Sx.Au Go.Sx.Po

/-! ### A number within a size -/
/-! ### Deviants, charges, voices -/
def devB (z : S2) (x : V6) : Bool := decide ((wantS x).hi < z.lo ∨ z.hi < (wantS x).lo)
def xAt (xs : List V6) (i : Nat) : V6 := xs.getD i V6.zero
def devT (xs : List V6) (l : List S2) (i : Nat) : Bool := devB (T l i) (xAt xs i)
structure Chg where
  pair : Int
  kind : Int
  note : Int
deriving DecidableEq, Inhabited
/-! ### A charge that names nothing: the bound is the pair's own -/
/-! ### Tones that contain the sizes -/
/-! ### Narrower tones -/
/-! ### Octaves -/
end Go.Sx.Bl

/-
  Plain: the laws of deviants and charges: first shifts, octaves, narrower tones, voices (chapter 40).
-/
set_option linter.unusedVariables false
set_option linter.unusedSectionVars false
namespace Go.Sx.Bl
open Go.Sx.Sz Go.Sx.Sc Go.Sx.Au Go.Sx.Po

/-! ### First shifts -/
/-! ### Octaves -/
/-! ### Voices -/
end Go.Sx.Bl
