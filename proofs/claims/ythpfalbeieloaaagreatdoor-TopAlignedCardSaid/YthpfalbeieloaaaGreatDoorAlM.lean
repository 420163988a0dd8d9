/-
  Plain: alignments of chapter 38. What a match costs, the table of the least costs, the path through it, and what an alignment costs.
-/
import Derived.Test.YthpfalbeieloaaaGreatDoorLibB
namespace Go.Sx.Al
open Go.Sx.Sz

structure Due where
  t : Int
  x : V6
deriving Inhabited
structure Hrd where
  t : Int
  s : S2
deriving Inhabited
structure Prc where
  skip : Int
  off : Int
structure Mt where
  d : Int
  h : Int
deriving DecidableEq, Inhabited

/-- Ticks in range that do not fall. -/
def rise : List Int → Bool
  | [] => true
  | [_] => true
  | a :: b :: l => decide (a ≤ b) && rise (b :: l)
def tickB (t : Int) : Bool := decide (0 ≤ t) && decide (t ≤ 100000)
def prOk (p : Prc) : Bool := (decide (0 ≤ p.skip) && decide (p.skip ≤ 1000000)) && (decide (0 ≤ p.off) && decide (p.off ≤ 1000000))
def alOk (ds : List Due) (hs : List Hrd) (p : Prc) : Bool :=
  (ds.all fun d => within d.x 48) && (hs.all fun h => szOk h.s) && (decide (ds.length ≤ 100) && decide (hs.length ≤ 100)) &&
  ((rise (ds.map (·.t)) && (ds.map (·.t)).all tickB) && (rise (hs.map (·.t)) && (hs.map (·.t)).all tickB)) && prOk p

theorem tickB_iff {t : Int} : tickB t = true ↔ 0 ≤ t ∧ t ≤ 100000 := by simp [tickB]
theorem prOk_iff {p : Prc} : prOk p = true ↔ (0 ≤ p.skip ∧ p.skip ≤ 1000000) ∧ 0 ≤ p.off ∧ p.off ≤ 1000000 := by simp [prOk]

theorem rise_pair : ∀ {l : List Int}, rise l = true ↔ l.Pairwise (· ≤ ·)
  | [] => by simp [rise]
  | [_] => by simp [rise]
  | a :: b :: l => by
    have ih := @rise_pair (b :: l)
    rw [rise, Bool.and_eq_true, decide_eq_true_eq, ih, List.pairwise_cons (a := a)]
    constructor
    · rintro ⟨h1, h2⟩
      refine ⟨fun c hc => ?_, h2⟩
      rcases List.mem_cons.1 hc with rfl | hc
      · exact h1
      · exact Int.le_trans h1 ((List.pairwise_cons.1 h2).1 c hc)
    · rintro ⟨h1, h2⟩
      exact ⟨h1 b (by simp), h2⟩
theorem rise_iff {l : List Int} : rise l = true ↔ ∀ i, (h : i + 1 < l.length) → l[i] ≤ l[i + 1] := by
  rw [rise_pair]
  constructor
  · intro h i hi
    exact List.pairwise_iff_getElem.1 h i (i + 1) (by omega) hi (by omega)
  · intro h
    rw [List.pairwise_iff_getElem]
    intro i j hi hj hij
    obtain ⟨d, rfl⟩ : ∃ d, j = i + d := ⟨j - i, by omega⟩
    induction d with
    | zero => exact Int.le_refl _
    | succ d ih =>
      rcases Nat.eq_zero_or_pos d with h0 | h0
      · subst h0; exact h i hj
      · exact Int.le_trans (ih (by omega) (by omega)) (h (i + d) hj)
/-- The first and the last element bound the others. -/
theorem rise_ticks {l : List Int} (h : rise l = true) (hl : 0 < l.length) : l.all tickB = (decide (0 ≤ l[0]) && decide (l[l.length - 1] ≤ 100000)) := by
  rw [rise_pair] at h
  have hp := List.pairwise_iff_getElem.1 h
  rw [Bool.eq_iff_iff, List.all_eq_true, Bool.and_eq_true, decide_eq_true_eq, decide_eq_true_eq]
  constructor
  · intro k
    exact ⟨(tickB_iff.1 (k _ (List.getElem_mem _))).1, (tickB_iff.1 (k _ (List.getElem_mem _))).2⟩
  · rintro ⟨k1, k2⟩ x hx
    obtain ⟨i, hi, rfl⟩ := List.getElem_of_mem hx
    rw [tickB_iff]
    constructor
    · rcases Nat.eq_zero_or_pos i with h0 | h0
      · subst h0; exact k1
      · exact Int.le_trans k1 (hp 0 i _ _ h0)
    · by_cases e : i = l.length - 1
      · subst e; exact k2
      · exact Int.le_trans (hp i (l.length - 1) _ (by omega) (by omega)) k2

structure AlOk (ds : List Due) (hs : List Hrd) (p : Prc) : Prop where
  dx : ∀ d ∈ ds, within d.x 48 = true
  hx : ∀ h ∈ hs, szOk h.s = true
  dn : ds.length ≤ 100
  hn : hs.length ≤ 100
  dr : rise (ds.map (·.t)) = true
  dt : ∀ d ∈ ds, 0 ≤ d.t ∧ d.t ≤ 100000
  hr : rise (hs.map (·.t)) = true
  ht : ∀ h ∈ hs, 0 ≤ h.t ∧ h.t ≤ 100000
  skip : 0 ≤ p.skip ∧ p.skip ≤ 1000000
  off : 0 ≤ p.off ∧ p.off ≤ 1000000
theorem alOk_iff {ds : List Due} {hs : List Hrd} {p : Prc} : alOk ds hs p = true ↔ AlOk ds hs p := by
  simp only [alOk, Bool.and_eq_true, List.all_eq_true, List.mem_map, forall_exists_index, and_imp, forall_apply_eq_imp_iff₂, tickB_iff, decide_eq_true_eq, prOk_iff]
  exact ⟨fun ⟨⟨⟨⟨a, b⟩, c, d⟩, ⟨e, f⟩, g, h⟩, i, j⟩ => ⟨a, b, c, d, e, f, g, h, i, j⟩, fun ⟨a, b, c, d, e, f, g, h, i, j⟩ => ⟨⟨⟨⟨a, b⟩, c, d⟩, ⟨e, f⟩, g, h⟩, i, j⟩⟩

/-- The size of a due's interval. -/
def dsz (d : Due) : S2 := (sizeR (ofR d.x).1).1
def absd (a b : Int) : Int := if a - b < 0 then -(a - b) else a - b
def mc (p : Prc) (d : Due) (h : Hrd) : Int := if (cmpR (dsz d) h.s).1 = 0 then absd d.t h.t else absd d.t h.t + p.off

theorem absd_bd {a b : Int} (h1 : 0 ≤ a ∧ a ≤ 100000) (h2 : 0 ≤ b ∧ b ≤ 100000) : 0 ≤ absd a b ∧ absd a b ≤ 100000 := by unfold absd; split <;> omega
theorem mc_bd {p : Prc} {d : Due} {h : Hrd} (h1 : 0 ≤ d.t ∧ d.t ≤ 100000) (h2 : 0 ≤ h.t ∧ h.t ≤ 100000) (h3 : 0 ≤ p.off ∧ p.off ≤ 1000000) : 0 ≤ mc p d h ∧ mc p d h ≤ 1100000 := by
  have := absd_bd h1 h2
  unfold mc; split <;> omega

/-- One row of the table, out of the next row: the least costs of a due and those behind it. -/
def bestRow (p : Prc) (d : Due) (next : List Hrd → Int) : List Hrd → Int
  | [] => p.skip + next []
  | h :: hs => min (mc p d h + next hs) (min (p.skip + next (h :: hs)) (p.skip + bestRow p d next hs))
def best (p : Prc) : List Due → List Hrd → Int
  | [], hs => p.skip * hs.length
  | d :: ds, hs => bestRow p d (best p ds) hs

theorem best_nn (p : Prc) : best p [] [] = 0 := by simp [best]
theorem best_nc (p : Prc) (h : Hrd) (hs : List Hrd) : best p [] (h :: hs) = p.skip + best p [] hs := by
  simp only [best, List.length_cons, Int.natCast_add, Int.mul_add]; omega
theorem best_cn (p : Prc) (d : Due) (ds : List Due) : best p (d :: ds) [] = p.skip + best p ds [] := rfl
theorem best_cc (p : Prc) (d : Due) (ds : List Due) (h : Hrd) (hs : List Hrd) :
    best p (d :: ds) (h :: hs) = min (mc p d h + best p ds hs) (min (p.skip + best p ds (h :: hs)) (p.skip + best p (d :: ds) hs)) := rfl

/-- The table of the least costs. -/
def tab (ds : List Due) (hs : List Hrd) (p : Prc) (i j : Nat) : Int := best p (ds.drop i) (hs.drop j)

section
variable {ds : List Due} {hs : List Hrd} {p : Prc}

theorem tab_nm : tab ds hs p ds.length hs.length = 0 := by unfold tab; rw [List.drop_length, List.drop_length, best_nn]
theorem tab_row {j : Nat} (hj : j < hs.length) : tab ds hs p ds.length j = p.skip + tab ds hs p ds.length (j + 1) := by
  unfold tab; rw [List.drop_length, List.drop_eq_getElem_cons hj, best_nc]
theorem tab_col {i : Nat} (hi : i < ds.length) : tab ds hs p i hs.length = p.skip + tab ds hs p (i + 1) hs.length := by
  unfold tab; rw [List.drop_length, List.drop_eq_getElem_cons hi, best_cn]
theorem tab_mid {i j : Nat} (hi : i < ds.length) (hj : j < hs.length) :
    tab ds hs p i j = min (mc p ds[i] hs[j] + tab ds hs p (i + 1) (j + 1)) (min (p.skip + tab ds hs p (i + 1) j) (p.skip + tab ds hs p i (j + 1))) := by
  unfold tab; rw [List.drop_eq_getElem_cons hi, List.drop_eq_getElem_cons hj, best_cc]

/-- A table that bounds the costs. -/
structure Bnd (ds : List Due) (hs : List Hrd) (p : Prc) (T : Nat → Nat → Int) : Prop where
  last : T ds.length hs.length ≤ 0
  due : ∀ i j, i < ds.length → j ≤ hs.length → T i j ≤ p.skip + T (i + 1) j
  tone : ∀ i j, i ≤ ds.length → j < hs.length → T i j ≤ p.skip + T i (j + 1)
  both : ∀ i j (hi : i < ds.length) (hj : j < hs.length), T i j ≤ mc p ds[i] hs[j] + T (i + 1) (j + 1)

theorem tab_bnd : Bnd ds hs p (tab ds hs p) where
  last := by rw [tab_nm]; omega
  due i j hi hj := by
    by_cases e : j = hs.length
    · subst e; rw [tab_col hi]; omega
    · rw [tab_mid hi (by omega)]; omega
  tone i j hi hj := by
    by_cases e : i = ds.length
    · subst e; rw [tab_row hj]; omega
    · rw [tab_mid (by omega) hj]; omega
  both i j hi hj := by rw [tab_mid hi hj]; omega

/-- What the least costs are bounded by. -/
theorem tab_bd (hv : AlOk ds hs p) : ∀ (f i j : Nat), i ≤ ds.length → j ≤ hs.length → (ds.length - i) + (hs.length - j) = f → 0 ≤ tab ds hs p i j ∧ tab ds hs p i j ≤ p.skip * f := by
  intro f
  induction f using Nat.strongRecOn with
  | _ f ih =>
    intro i j hi hj hf
    have hsk := hv.skip
    by_cases e1 : i = ds.length
    · subst e1
      by_cases e2 : j = hs.length
      · subst e2; rw [tab_nm]
        obtain rfl : f = 0 := by omega
        simp
      · rw [tab_row (by omega)]
        obtain ⟨g, rfl⟩ : ∃ g, f = g + 1 := ⟨f - 1, by omega⟩
        have := ih g (by omega) ds.length (j + 1) (by omega) (by omega) (by omega)
        have e : p.skip * ((g + 1 : Nat) : Int) = p.skip * g + p.skip := by rw [Int.natCast_add, Int.mul_add]; simp
        omega
    · obtain ⟨g, rfl⟩ : ∃ g, f = g + 1 := ⟨f - 1, by omega⟩
      have e : p.skip * ((g + 1 : Nat) : Int) = p.skip * g + p.skip := by rw [Int.natCast_add, Int.mul_add]; simp
      have a := ih g (by omega) (i + 1) j (by omega) (by omega) (by omega)
      by_cases e2 : j = hs.length
      · subst e2; rw [tab_col (by omega)]; omega
      · rw [tab_mid (by omega) (by omega)]
        obtain ⟨k, rfl⟩ : ∃ k, g = k + 1 := ⟨g - 1, by omega⟩
        have b := ih (k + 1) (by omega) i (j + 1) (by omega) (by omega) (by omega)
        have c := ih k (by omega) (i + 1) (j + 1) (by omega) (by omega) (by omega)
        have m := @mc_bd p ds[i] hs[j] (hv.dt _ (List.getElem_mem _)) (hv.ht _ (List.getElem_mem _)) hv.off
        omega

theorem tab_small (hv : AlOk ds hs p) {i j : Nat} (hi : i ≤ ds.length) (hj : j ≤ hs.length) : 0 ≤ tab ds hs p i j ∧ tab ds hs p i j ≤ 200000000 := by
  obtain ⟨a, b⟩ := tab_bd hv _ i j hi hj rfl
  refine ⟨a, Int.le_trans b ?_⟩
  have h1 := hv.dn; have h2 := hv.hn; have h3 := hv.skip
  have : p.skip * ((ds.length - i + (hs.length - j) : Nat) : Int) ≤ 1000000 * ((ds.length - i + (hs.length - j) : Nat) : Int) := Int.mul_le_mul_of_nonneg_right h3.2 (by omega)
  omega

/-- The path through the table, from the cell i, j on. -/
def path (ds : List Due) (hs : List Hrd) (p : Prc) : Nat → Nat → Nat → List Mt
  | 0, _, _ => []
  | f + 1, i, j =>
    if i < ds.length ∧ j < hs.length ∧ tab ds hs p i j = mc p (ds.getD i default) (hs.getD j default) + tab ds hs p (i + 1) (j + 1) then ⟨i, j⟩ :: path ds hs p f (i + 1) (j + 1)
    else if i < ds.length ∧ tab ds hs p i j = p.skip + tab ds hs p (i + 1) j then path ds hs p f (i + 1) j
    else path ds hs p f i (j + 1)

/-- An alignment from the cell i, j on. -/
def alig (n m : Nat) : Nat → Nat → List Mt → Prop
  | _, _, [] => True
  | i, j, x :: l => (i : Int) ≤ x.d ∧ (j : Int) ≤ x.h ∧ x.d < n ∧ x.h < m ∧ alig n m (x.d.toNat + 1) (x.h.toNat + 1) l

def mcAt (ds : List Due) (hs : List Hrd) (p : Prc) (x : Mt) : Int := mc p (ds.getD x.d.toNat default) (hs.getD x.h.toNat default)
/-- What the matches of a list cost, less what they save. -/
def sav (ds : List Due) (hs : List Hrd) (p : Prc) : List Mt → Int
  | [] => 0
  | x :: l => mcAt ds hs p x - 2 * p.skip + sav ds hs p l

theorem alig_le {n m : Nat} : ∀ {i j i' j' : Nat} {l : List Mt}, i' ≤ i → j' ≤ j → alig n m i j l → alig n m i' j' l
  | _, _, _, _, [], _, _, _ => trivial
  | _, _, _, _, _ :: _, h1, h2, ⟨a1, a2, a3, a4, a5⟩ => ⟨by omega, by omega, a3, a4, a5⟩

/-- The path is an alignment that costs what the table says. -/
theorem path_ok : ∀ (f i j : Nat), i ≤ ds.length → j ≤ hs.length → (ds.length - i) + (hs.length - j) ≤ f →
    alig ds.length hs.length i j (path ds hs p f i j) ∧ tab ds hs p i j = p.skip * ((ds.length - i + (hs.length - j) : Nat) : Int) + sav ds hs p (path ds hs p f i j)
  | 0, i, j, hi, hj, hf => by
    obtain rfl : i = ds.length := by omega
    obtain rfl : j = hs.length := by omega
    rw [path, tab_nm]
    exact ⟨trivial, by simp [sav]⟩
  | f + 1, i, j, hi, hj, hf => by
    rw [path]
    by_cases h1 : i < ds.length ∧ j < hs.length ∧ tab ds hs p i j = mc p (ds.getD i default) (hs.getD j default) + tab ds hs p (i + 1) (j + 1)
    · rw [if_pos h1]
      obtain ⟨a, b, c⟩ := h1
      obtain ⟨k1, k2⟩ := path_ok f (i + 1) (j + 1) (by omega) (by omega) (by omega)
      refine ⟨⟨by simp, by simp, by simp; omega, by simp; omega, by simpa using k1⟩, ?_⟩
      rw [c, k2, sav]
      have e1 : mcAt ds hs p ⟨i, j⟩ = mc p (ds.getD i default) (hs.getD j default) := by simp [mcAt]
      rw [e1]
      obtain ⟨g, hg⟩ : ∃ g, ds.length - i + (hs.length - j) = g + 2 := ⟨ds.length - i + (hs.length - j) - 2, by omega⟩
      have e2 : ds.length - (i + 1) + (hs.length - (j + 1)) = g := by omega
      rw [hg, e2]
      have e : p.skip * ((g + 2 : Nat) : Int) = p.skip * g + 2 * p.skip := by rw [Int.natCast_add, Int.mul_add]; simp; omega
      omega
    · rw [if_neg h1]
      by_cases h2 : i < ds.length ∧ tab ds hs p i j = p.skip + tab ds hs p (i + 1) j
      · rw [if_pos h2]
        obtain ⟨a, c⟩ := h2
        obtain ⟨k1, k2⟩ := path_ok f (i + 1) j (by omega) (by omega) (by omega)
        refine ⟨alig_le (by omega) (by omega) k1, ?_⟩
        rw [c, k2]
        obtain ⟨g, hg⟩ : ∃ g, ds.length - i + (hs.length - j) = g + 1 := ⟨ds.length - i + (hs.length - j) - 1, by omega⟩
        have e2 : ds.length - (i + 1) + (hs.length - j) = g := by omega
        rw [hg, e2]
        have e : p.skip * ((g + 1 : Nat) : Int) = p.skip * g + p.skip := by rw [Int.natCast_add, Int.mul_add]; simp
        omega
      · rw [if_neg h2]
        by_cases e1 : j < hs.length
        · obtain ⟨k1, k2⟩ := path_ok f i (j + 1) (by omega) (by omega) (by omega)
          refine ⟨alig_le (by omega) (by omega) k1, ?_⟩
          have c : tab ds hs p i j = p.skip + tab ds hs p i (j + 1) := by
            by_cases e : i = ds.length
            · subst e; exact tab_row e1
            · have hm := @tab_mid ds hs p i j (by omega) e1
              have g1 : mc p (ds.getD i default) (hs.getD j default) = mc p ds[i] hs[j] := by
                rw [List.getD_eq_getElem?_getD, List.getD_eq_getElem?_getD, List.getElem?_eq_getElem (by omega), List.getElem?_eq_getElem (by omega)]; rfl
              rw [g1] at h1
              have h1' : ¬ tab ds hs p i j = mc p ds[i] hs[j] + tab ds hs p (i + 1) (j + 1) := fun k => h1 ⟨by omega, e1, k⟩
              have h2' : ¬ tab ds hs p i j = p.skip + tab ds hs p (i + 1) j := fun k => h2 ⟨by omega, k⟩
              omega
          rw [c, k2]
          obtain ⟨g, hg⟩ : ∃ g, ds.length - i + (hs.length - j) = g + 1 := ⟨ds.length - i + (hs.length - j) - 1, by omega⟩
          have e2 : ds.length - i + (hs.length - (j + 1)) = g := by omega
          rw [hg, e2]
          have e : p.skip * ((g + 1 : Nat) : Int) = p.skip * g + p.skip := by rw [Int.natCast_add, Int.mul_add]; simp
          omega
        · obtain rfl : j = hs.length := by omega
          by_cases e : i = ds.length
          · subst e
            have := path_done f ds.length hs.length (Nat.le_refl _) (Nat.le_succ _)
            rw [this, tab_nm]
            exact ⟨trivial, by simp [sav]⟩
          · exact absurd ⟨by omega, tab_col (by omega)⟩ h2
where
  path_done : ∀ (f i j : Nat), ds.length ≤ i → hs.length ≤ j + 1 → path ds hs p f i (j + 1) = []
  | 0, _, _, _, _ => rfl
  | f + 1, i, j, h1, h2 => by
    rw [path, if_neg (by omega), if_neg (by omega)]
    exact path_done f i (j + 1) h1 (by omega)
end
end Go.Sx.Al
