/-
  Plain: honest rows, and tones that are heard too late (TopHonest, TopAligned).
-/
import Derived.Test.YthpfalbeieloaaaGreatDoorLibP
import Derived.Test.YthpfalbeieloaaaGreatDoorPaM
import Derived.Test.YthpfalbeieloaaaGreatDoorAlN
set_option linter.unusedVariables false
set_option linter.unusedSectionVars false
namespace Go.Sx.Tp
open Go.Sx.Sz Go.Sx.Sc Go.Sx.Au Go.Sx.Po Go.Sx.Bl Go.Sx.Al

/-! ### Honest rows -/
/-- The row has all that this partial of the pitch can be. -/
def honest (r : Row) (x : V6) : Prop := r.lo ≤ (wantS x).lo + (harmS r.h).lo ∧ (wantS x).hi + (harmS r.h).hi ≤ r.hi
theorem harm_le (n : Int) : (harmS n).lo ≤ (harmS n).hi := by
  unfold harmS
  have := lin_in ((harmV n).times 12) 6
  simp only [expo]; omega
theorem root_has {r : Row} {x : V6} (h : honest r x) : (rootS r).lo ≤ (wantS x).lo ∧ (wantS x).hi ≤ (rootS r).hi := by
  have := harm_le r.h
  unfold honest at h
  simp only [rootS, subS]
  omega
theorem tone_has {l : List Row} {x : V6} (hx : within x 48 = true) (hl : rowsOk l = true) (h : ∀ r ∈ l, honest r x) : ∃ z, toneR l = (z, 0) ∧ z.lo ≤ (wantS x).lo ∧ (wantS x).hi ≤ z.hi := by
  have hs := expo_ok (within_mono (B := 4000) (by omega) (within_times (n := 12) (by omega) hx))
  rw [szOk_iff] at hs
  have hle := lin_in (x.times 12) 6
  have h1 : (common (l.map rootS)).lo ≤ (wantS x).lo := common_lo.2 ⟨hs.1, fun s hm => by
    obtain ⟨r, hr, rfl⟩ := List.mem_map.1 hm
    exact (root_has (h r hr)).1⟩
  have h2 : (wantS x).hi ≤ (common (l.map rootS)).hi := common_hi.2 ⟨hs.2.2, fun s hm => by
    obtain ⟨r, hr, rfl⟩ := List.mem_map.1 hm
    exact (root_has (h r hr)).2⟩
  refine ⟨common (l.map rootS), ?_, h1, h2⟩
  unfold toneR commonR
  rw [if_pos hl, if_pos]
  simp only [wantS, expo] at h1 h2
  omega

/-! ### Heard too late -/
theorem cmp_has {x : V6} {z : S2} (hx : within x 48 = true) (hz : szOk z = true) (h1 : z.lo ≤ (wantS x).lo) (h2 : (wantS x).hi ≤ z.hi) : (cmpR (wantS x) z).1 = 0 := by
  have hs := expo_ok (within_mono (B := 4000) (by omega) (within_times (n := 12) (by omega) hx))
  have hle := lin_in (x.times 12) 6
  unfold cmpR
  rw [if_pos ⟨hs, hz⟩, if_neg, if_neg] <;> (simp only [wantS, expo] at h1 h2 ⊢; omega)
theorem best_late {p : Prc} {late : Int} : ∀ (ds : List Due) (hs : List Hrd), ds.length = hs.length → (∀ i (h1 : i < ds.length) (h2 : i < hs.length), mc p ds[i] hs[i] ≤ late) → best p ds hs ≤ late * ds.length
  | [], [], _, _ => by rw [best_nn]; simp
  | [], _ :: _, h, _ => by simp at h
  | _ :: _, [], h, _ => by simp at h
  | d :: ds, h :: hs, hl, hm => by
    have h0 := hm 0 (by simp) (by simp)
    have ih := best_late (p := p) ds hs (by simpa using hl) fun i h1 h2 => by
      have := hm (i + 1) (by simpa using h1) (by simpa using h2)
      simpa using this
    rw [best_cc, List.length_cons, show ((ds.length + 1 : Nat) : Int) = (ds.length : Int) + 1 by omega, Int.mul_add]
    simp only [List.getElem_cons_zero] at h0
    omega
/-- Without a delay the path matches each due with its own tone. -/
theorem path_own {ds : List Due} {hs : List Hrd} {p : Prc} (hv : AlOk ds hs p) (hl : ds.length = hs.length) (hm : ∀ i (h1 : i < ds.length) (h2 : i < hs.length), mc p ds[i] hs[i] = 0) :
    ∀ (f i : Nat), i ≤ ds.length → ds.length - i ≤ f → path ds hs p f i i = (List.range (ds.length - i)).map fun k : Nat => (⟨(i + k : Nat), (i + k : Nat)⟩ : Mt) := by
  have ht : ∀ i, i ≤ ds.length → tab ds hs p i i = 0 := fun i hi => by
    have h1 := (tab_small hv hi (show i ≤ hs.length by omega)).1
    have h2 := best_late (p := p) (late := 0) (ds.drop i) (hs.drop i) (by rw [List.length_drop, List.length_drop]; omega) fun k k1 k2 => by
      rw [List.length_drop] at k1 k2
      rw [List.getElem_drop, List.getElem_drop, hm (i + k) (by omega) (by omega)]
      omega
    unfold tab at h1 ⊢
    omega
  intro f
  induction f with
  | zero =>
    intro i hi hf
    obtain rfl : i = ds.length := by omega
    rw [path, Nat.sub_self]; rfl
  | succ f ih =>
    intro i hi hf
    rw [path]
    by_cases h : i < ds.length
    · have hd : ds.getD i default = ds[i] := by rw [List.getD_eq_getElem?_getD, List.getElem?_eq_getElem h]; rfl
      have hh : hs.getD i default = hs[i] := by rw [List.getD_eq_getElem?_getD, List.getElem?_eq_getElem (by omega)]; rfl
      rw [if_pos ⟨h, by omega, by rw [ht i hi, ht (i + 1) (by omega), hd, hh, hm i h (by omega)]; rfl⟩, ih (i + 1) (by omega) (by omega)]
      obtain ⟨k, hk⟩ : ∃ k, ds.length - i = k + 1 := ⟨ds.length - i - 1, by omega⟩
      rw [hk, show ds.length - (i + 1) = k by omega, List.range_succ_eq_map, List.map_cons, List.map_map]
      congr 1
      refine List.map_congr_left fun j _ => ?_
      simp only [Function.comp]
      rw [show i + 1 + j = i + (j + 1) by omega]
    · obtain rfl : i = ds.length := by omega
      rw [if_neg (by omega), if_neg (by omega), Nat.sub_self]
      have : ∀ f j, ds.length ≤ j → path ds hs p f ds.length j = [] := by
        intro f
        induction f with
        | zero => intro j _; rfl
        | succ f ihf => intro j hj; rw [path, if_neg (by omega), if_neg (by omega)]; exact ihf _ (by omega)
      exact this f _ (by omega)
end Go.Sx.Tp
