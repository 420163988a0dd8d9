/-
  Walk of the reference: schismaref38.Shape; plain: what Bounds tells.
-/
import Derived.Test.YthomegempfedaaaDoorRfE
set_option linter.unusedVariables false
namespace Go.Proofs.YthomegempfedaaaDoor
open Go.RowKit Go.Sx Go.Sx.Sz Go.Sx.Al

theorem shape_bad {t : List (List Int)} {n m i : Nat} (hi : i < t.length) (h : rowB m t[i] = false) : shapeB t n m = false := by
  unfold shapeB
  rw [Bool.and_eq_false_iff]; left
  rw [List.all_eq_false]
  exact ⟨_, List.getElem_mem hi, by rw [h]; simp⟩
theorem row_bad {r : List Int} {m j : Nat} (hj : j < r.length) (h : inR r[j] = false) : rowB m r = false := by
  unfold rowB
  rw [Bool.and_eq_false_iff]; right
  rw [Bool.not_eq_false', List.any_eq_true]
  exact ⟨_, List.getElem_mem hj, by rw [h]; rfl⟩

set_option maxRecDepth 100000 in
set_option maxHeartbeats 4000000 in
theorem rshape_walk (n m : Nat) (hn : n ≤ 100) (hm : m ≤ 100) (v : Value) (t : List (List Int)) (w : World) (T : Tab w v t) :
    Calls Tryd.prog 50 #[v, .int .i64 n, .int .i64 m] w fun e w' => e = .returned (.bool (shapeB t n m)) ∧ Ext w w' := by
  obtain ⟨a?, ca, rfl, h3⟩ := T.len
  have e1 : IntKind.i64.wrap ((n : Int) + 1) = (n : Int) + 1 := IntWalk.i64_in _ (by omega)
  have e2 : IntKind.i64.wrap ((m : Int) + 1) = (m : Int) + 1 := IntWalk.i64_in _ (by omega)
  by_cases hl : t.length = n + 1
  · have hl' : ((t.length : Int) != (n : Int) + 1) = false := by rw [bne_eq_false_iff_eq]; omega
    have HL := Lib.hid hl
    clear hl
    go_enter Tryd.func50, Tryd.ntmps50
    go_wp2
    go_loopw [7] (fun i wr => ∃ k : Nat, k ≤ n + 1 ∧ i = .int .i64 k ∧ (∀ i (h : i < t.length), i < k → rowB m t[i] = true) ∧ Ext w wr) (fun i _ => n + 1 - (intOf i).toNat)
    case atStart => exact ⟨0, by omega, rfl, fun i h hi => by omega, Ext.refl _⟩
    case round =>
      obtain ⟨k, hk, rfl, hall, hx⟩ := hrel
      have HA := Lib.hid hall
      obtain ⟨wo, rfl⟩ : ∃ wo : World, wo = wr := ⟨_, rfl⟩
      clear hl' hall
      by_cases hlt : k < n + 1
      · have hlt2 : k < t.length := by rw [HL.out]; exact hlt
        obtain ⟨b0, o0, v0, rfl, c0, R0⟩ := Tab.at (T.ext hx) k hlt2
        obtain ⟨x, hxx⟩ : ∃ x, t[k] = x := ⟨_, rfl⟩
        rw [hxx] at R0
        obtain ⟨ra0, rc0, rfl, -, -, r3⟩ := R0.len
        have HX := Lib.hid hxx
        have i1 : (0 : Int) ≤ (k : Int) := by omega
        have i2 : (k : Int) < (t.length : Int) := by omega
        have hbad : rowB m x = false → shapeB t n m = false := fun h => shape_bad hlt2 (by rw [HX.out]; exact h)
        have HB := Lib.hid hbad
        clear T hxx hbad
        by_cases hxy : x.length = m + 1
        · have hne : ((x.length : Int) != (m : Int) + 1) = false := by rw [bne_eq_false_iff_eq]; omega
          have HXY := Lib.hid hxy
          have C0 := Lib.hid c0
          clear hxy
          go_wp2
          go_loopw [8] (fun i w5 => ∃ j : Nat, j ≤ m + 1 ∧ i = .int .i64 j ∧ (∀ q (h : q < x.length), q < j → inR x[q] = true) ∧ Ext wo w5) (fun i _ => m + 1 - (intOf i).toNat)
          case atStart => exact ⟨0, by omega, rfl, fun i h hi => by omega, Ext.refl _⟩
          case round =>
            obtain ⟨j, hj, rfl, hall, hx5⟩ := hrel
            have HJ := Lib.hid hall
            clear hne hall c0
            by_cases hlj : j < m + 1
            · have hlj2 : j < x.length := by rw [HXY.out]; exact hlj
              obtain ⟨b2, o2, rfl, d0⟩ := Sl.num (R0.ext hx5) j hlj2
              obtain ⟨y, hp⟩ : ∃ p, x[j] = p := ⟨_, rfl⟩
              rw [hp] at d0
              have e0 := hx5.cell C0.out
              have HP := Lib.hid hp
              have j1 : (0 : Int) ≤ (j : Int) := by omega
              have j2 : (j : Int) < (x.length : Int) := by omega
              have hbb : inR y = false → rowB m x = false := fun h => row_bad hlj2 (by rw [HP.out]; exact h)
              have HBB := Lib.hid hbb
              clear R0 hp hbb
              by_cases q1 : y < -1000000000
              · go_wp2
                go_ret
                exact ⟨by rw [HB.out (HBB.out (by simp [inR]; omega))] <;> rfl, hx.trans hx5⟩
              · by_cases q2 : 1000000000 < y
                · go_wp2
                  go_ret
                  exact ⟨by rw [HB.out (HBB.out (by simp [inR]; omega))] <;> rfl, hx.trans hx5⟩
                · go_wp2
                  go_roundw
                  case rel => exact ⟨j + 1, by omega, by go_num, fun q h hq => by
                    rcases Nat.lt_or_ge q j with h1 | h1
                    · exact HJ.out q h h1
                    · obtain rfl : q = j := by omega
                      rw [HP.out]; simp [inR]; omega, hx5⟩
                  case measure => simp [intOf] <;> omega
            · obtain rfl : j = m + 1 := by omega
              have hrow : rowB m x = true := by
                unfold rowB
                rw [Bool.and_eq_true, decide_eq_true_eq]
                refine ⟨HXY.out, ?_⟩
                rw [Bool.not_eq_true', List.any_eq_false]
                intro z hz
                obtain ⟨q, hq, rfl⟩ := List.getElem_of_mem hz
                rw [HJ.out q hq (by rw [← HXY.out]; exact hq)]; simp
              have HROW := Lib.hid hrow
              clear R0 hrow
              go_wp2
              go_roundw
              case rel => exact ⟨k + 1, by omega, by go_num, fun q h hq => by
                rcases Nat.lt_or_ge q k with h1 | h1
                · exact HA.out q h h1
                · obtain rfl : q = k := by omega
                  rw [HX.out]; exact HROW.out, hx.trans hx5⟩
              case measure => simp [intOf] <;> omega
        · have hne : ((x.length : Int) != (m : Int) + 1) = true := by rw [bne_iff_ne]; omega
          have HXY := Lib.hid hxy
          clear hxy
          go_wp2
          go_ret
          exact ⟨by rw [HB.out (by rw [rowB, decide_eq_false HXY.out]; rfl)] <;> rfl, hx⟩
      · obtain rfl : k = n + 1 := by omega
        have hs : shapeB t n m = true := by
          unfold shapeB
          rw [Bool.and_eq_true, decide_eq_true_eq]
          refine ⟨?_, HL.out⟩
          rw [List.all_eq_true]
          intro z hz
          obtain ⟨q, hq, rfl⟩ := List.getElem_of_mem hz
          exact HA.out q hq (by rw [← HL.out]; exact hq)
        have HS := Lib.hid hs
        clear T hs
        go_wp2
        go_ret
        exact ⟨by rw [HS.out] <;> rfl, hx⟩
  · have hl' : ((t.length : Int) != (n : Int) + 1) = true := by rw [bne_iff_ne]; omega
    have HL := Lib.hid hl
    clear hl T
    go_enter Tryd.func50, Tryd.ntmps50
    go_wp2
    go_ret
    exact ⟨by rw [shapeB, decide_eq_false HL.out, Bool.and_false] <;> rfl, Ext.refl _⟩

structure CellG (ds : List Due) (hs : List Hrd) (p : Prc) (t : List (List Int)) (i j : Nat) : Prop where
  due : i < ds.length → tv t i j ≤ p.skip + tv t (i + 1) j
  tone : j < hs.length → tv t i j ≤ p.skip + tv t i (j + 1)
  both : ∀ (h1 : i < ds.length) (h2 : j < hs.length), tv t i j ≤ mc p ds[i] hs[j] + tv t (i + 1) (j + 1)
def bndsB (ds : List Due) (hs : List Hrd) (p : Prc) (t : List (List Int)) : Bool := shapeB t ds.length hs.length && (decide (tv t ds.length hs.length ≤ 0) && bndB ds hs p t ((ds.length + 1) * (hs.length + 1)))
theorem bndB_iff {ds : List Due} {hs : List Hrd} {p : Prc} {t : List (List Int)} : bndB ds hs p t ((ds.length + 1) * (hs.length + 1)) = true ↔ ∀ i j, i ≤ ds.length → j ≤ hs.length → CellG ds hs p t i j := by
  constructor
  · intro h i j hi hj
    refine ⟨fun h1 => ?_, fun h1 => ?_, fun h1 h2 => ?_⟩
    · exact bndB_cell h hi hj (show 1 < 3 by omega) ⟨by simp only [mD]; omega, by simp only [mH]; omega⟩
    · exact bndB_cell h hi hj (show 2 < 3 by omega) ⟨by simp only [mD]; omega, by simp only [mH]; omega⟩
    · have := bndB_cell h hi hj (show 0 < 3 by omega) ⟨by simp only [mD]; omega, by simp only [mH]; omega⟩
      rw [show stC ds hs p i j 0 = mcT ds hs p i j from rfl, mcT_eq ds hs p h1 h2] at this
      exact this
  · intro h
    refine bndB_mk fun K hK => cellsOk_mk fun k hk => ?_
    obtain ⟨l1, l2⟩ := (here_of hK).le
    have g := h _ _ l1 l2
    rw [cellOk]
    by_cases ho : stOk ds hs (ds.length - K / (hs.length + 1)) (hs.length - K % (hs.length + 1)) k
    · rw [decide_eq_true ho, Bool.not_true, Bool.false_or, decide_eq_true_eq]
      obtain ⟨o1, o2⟩ := ho
      obtain rfl | rfl | rfl : k = 0 ∨ k = 1 ∨ k = 2 := by omega
      · simp only [mD, mH] at o1 o2
        have := g.both (by omega) (by omega)
        rw [show stC ds hs p (ds.length - K / (hs.length + 1)) (hs.length - K % (hs.length + 1)) 0 = mcT ds hs p (ds.length - K / (hs.length + 1)) (hs.length - K % (hs.length + 1)) from rfl, mcT_eq ds hs p (by omega) (by omega)]
        exact this
      · simp only [mD, mH] at o1 o2
        exact g.due (by omega)
      · simp only [mD, mH] at o1 o2
        exact g.tone (by omega)
    · rw [decide_eq_false ho]; rfl
theorem bnds_bad {ds : List Due} {hs : List Hrd} {p : Prc} {t : List (List Int)} {i j : Nat} (hi : i ≤ ds.length) (hj : j ≤ hs.length) (h : ¬ CellG ds hs p t i j) : bndsB ds hs p t = false := by
  cases hh : bndsB ds hs p t with
  | false => rfl
  | true =>
    unfold bndsB at hh
    rw [Bool.and_eq_true, Bool.and_eq_true] at hh
    exact absurd (bndB_iff.1 hh.2.2 i j hi hj) h
theorem bnds_good {ds : List Due} {hs : List Hrd} {p : Prc} {t : List (List Int)} (h1 : shapeB t ds.length hs.length = true) (h2 : tv t ds.length hs.length ≤ 0) (h : ∀ i j, i ≤ ds.length → j ≤ hs.length → CellG ds hs p t i j) : bndsB ds hs p t = true := by
  unfold bndsB; rw [h1, decide_eq_true h2, bndB_iff.2 h]; rfl
theorem checkB_bnds {ds : List Due} {hs : List Hrd} {p : Prc} {l : List Mt} {t : List (List Int)} : checkB ds hs p l t = (decide ((costR ds hs p l).2 = 0) && bndsB ds hs p t && decide (tv t 0 0 = (costR ds hs p l).1)) := by
  unfold checkB headB bndsB
  cases decide ((costR ds hs p l).2 = 0) <;> cases shapeB t ds.length hs.length <;> cases decide (tv t ds.length hs.length ≤ 0) <;> cases decide (tv t 0 0 = (costR ds hs p l).1) <;> simp

end Go.Proofs.YthomegempfedaaaDoor
