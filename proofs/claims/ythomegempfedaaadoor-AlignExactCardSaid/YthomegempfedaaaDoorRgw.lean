/-
  Regions that draw their order, in a function that holds a range over a function (outside of its rounds).
-/
import Derived.Test.YthomegempfedaaaDoorRgf
namespace Go.Sx
open Go.RowKit

variable {P : Program}

theorem wpOpInW_of {ops : Array Oper} {Q : Exit → Act → World → Prop} (hq : ¬ LetsOut Q) (hdf : noDefer ops = true) {i : Nat} {K K' : Act → World → Prop} {a : Act} {w : World}
    (hK : ∀ a w, K a w → K' a w) (h : wpOp P ops Q i K a w) : wpOpIn (Fence.wide) 0 P ops Q i K' a w := by
  unfold wpOp at h
  unfold wpOpIn
  split
  · rename_i ho; simp only [ho] at h; exact hK _ _ h
  · rename_i o ho
    simp only [ho] at h
    have hnd : ∀ c, o.op ≠ .defer c := fun c e => by
      have := Array.all_eq_true_iff_forall_mem.1 hdf o (Array.mem_of_getElem? ho)
      simp [e] at this
    split
    · rename_i hw
      rw [if_pos hw] at h
      rcases h with h | ⟨_, h⟩
      case inr => exact absurd h hq
      refine ⟨fun _ _ => trivial, ?_⟩
      rw [Oper.semAt_eq _ _ _ hnd]
      unfold Oper.wp at h
      generalize (execOp a.eval o).run P w = r at *
      cases r with
      | ok x w' =>
        cases x <;> simp only [Oper.upon] at h <;> simp only [Oper.uponIn]
        · exact hK _ _ h
        · exact hK _ _ h
        · refine ⟨fun h => absurd h (by simp [Fence.wide]), callsIn_wide.2 (h.mono fun e w'' he => ?_)⟩
          cases e with
          | returned v => exact hK _ _ he
          | panicked c => exact he
          | outgrown => exact he
        · exact hK _ _ h
        · refine ⟨fun h => absurd h (by simp [Fence.wide]), fun c cs _ => ?_⟩
          obtain ⟨v, w'', r, s⟩ := h c cs
          exact ⟨v, w'', hK _ _ r, stepsIn_wide.2 s⟩
      | halt x w' => cases x <;> simp only [Oper.upon] at h <;> simp only [Oper.uponIn] <;> exact h
    · rename_i hw
      rw [if_neg hw] at h
      exact ⟨fun _ _ => trivial, hK _ _ h⟩

theorem wpAnyInW_of {md : Region.Mode} {ops : Array Oper} {Q : Exit → Act → World → Prop} (hq : ¬ LetsOut Q) (hdf : noDefer ops = true) : ∀ (fuel : Nat) (listed : Array Bool) (a : Act) (w : World),
    wpAny P md ops Q fuel listed a w → wpAnyIn (Fence.wide) 0 P md ops Q fuel listed a w
  | 0, _, _, _, h => h
  | fuel + 1, _, _, _, h => ⟨h.1, fun i hi => wpOpInW_of hq hdf (fun a w h => wpAnyInW_of hq hdf fuel _ a w h) (h.2 i hi)⟩

theorem wpInW_region_ord {id : Nat} {ops : Array Oper} {Q : Exit → Act → World → Prop} {a : Act} {w : World} (ord : List (Nat × Bool)) (pre : Nat) (R : World → World → Prop) (C : World → Prop) (hm : P.follows .mixedOrders = true)
    (hB : (noDefer ops && okB .any ops pre ord (befB ops)) = true) (hq : ¬ LetsOut Q)
    (hs : Stable R C) (hC : C { w with drawn := w.drawn + 1 }) (h : wpOrd P ops R Q pre ord a C) : (Code.region id ops true).wpIn (Fence.wide) 0 P Q a w := by
  simp only [okB, Bool.and_eq_true, decide_eq_true_eq] at hB
  obtain ⟨hdf, ⟨⟨⟨⟨h1, h2⟩, h3⟩, h4⟩, h5⟩, h6⟩ := hB
  refine wpIn_region_any hm (wpAnyInW_of hq hdf _ _ _ _ (wpAny_of_wpK (R := R) (pre := pre) _ _ _ C _ ?_ hs hC))
  refine wpK_of_ord h1 h2 h3 h4 ord _ _ a C (by simp) (fun j i hj hi hl _ => ?_) h5 h6 h
  simp [hj] at hl

theorem wpInW_region_ordX {ops : Array Oper} {Q : Exit → Act → World → Prop} {id : Nat} {a : Act} {w : World} (l : List (Nat × Kd)) (pre : Nat) (R1 R2 : World → World → Prop) (Cd C : World → Prop) (hm : P.follows .mixedOrders = true) (ix : List (Nat × Bool)) (hB : (noDefer ops && okB .any ops pre ix (befB ops)) = true) (hq : ¬ LetsOut Q)
    (hix : l.map (fun x => (x.1, !x.2.alone)) = ix) (hnd : (ix.map (·.1)).Nodup) (sub : ∀ w w', R1 w w' → R2 w w') (hcd : Stable R2 Cd) (hs : Stable R1 C)
    (h1 : Cd { w with drawn := w.drawn + 1 }) (h2 : C { w with drawn := w.drawn + 1 }) (h : ordX P ops R1 R2 Cd Q pre l a C (fun _ => True)) : (Code.region id ops true).wpIn (Fence.wide) 0 P Q a w := by
  subst hix
  simp only [okB, Bool.and_eq_true, decide_eq_true_eq] at hB
  obtain ⟨hdf, ⟨⟨⟨⟨b1, b2⟩, b3⟩, b4⟩, b5⟩, b6⟩ := hB
  have hkd := ordX_stab _ _ _ _ h
  refine wpIn_region_any hm (wpAnyInW_of hq hdf _ _ _ _ (wpAny_of_wpX (R1 := R1) (R2 := R2) (Cd := Cd) (kd := kdOf l) (pre := pre) ⟨sub, hcd, fun i => (kdOf_all (p := fun k => (k.alone = true → ∀ v, Stable R1 (k.T v)) ∧ (k.alone = false → ∀ v, Stable R2 (k.T v))) ⟨(fun h => by cases h), fun _ _ _ _ _ _ => trivial⟩ hkd i).1,
    fun i => (kdOf_all (p := fun k => (k.alone = true → ∀ v, Stable R1 (k.T v)) ∧ (k.alone = false → ∀ v, Stable R2 (k.T v))) ⟨(fun h => by cases h), fun _ _ _ _ _ _ => trivial⟩ hkd i).2⟩ _ _ _ C (fun _ => True) _ ?_ hs (fun _ _ _ _ => trivial) h1 h2 trivial))
  refine wpX_of_ord b1 b2 b3 b4 l _ _ a C _ (kdOf_mem (by rw [List.map_map] at hnd; exact hnd)) (by simp) (fun j i hj hi hl _ => ?_) (by rw [List.length_map] at b5; exact b5) b6 h
  simp [hj] at hl
end Go.Sx
