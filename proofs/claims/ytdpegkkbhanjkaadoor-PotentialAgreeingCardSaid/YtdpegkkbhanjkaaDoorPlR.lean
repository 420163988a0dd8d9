/-
  Walk: slices.Reverse at steps.
-/
import Derived.Test.YtdpegkkbhanjkaaDoorPlA
set_option linter.unusedVariables false
namespace Go.Sx.Po
open Go.Sx.Sz Go.Sx.Sc
/-- k exchanges from the ends inward. -/
def revK (l : List St) (k : Nat) : List St := rgL (fun t => if t < k ∨ l.length ≤ t + k then l.getD (l.length - 1 - t) default else l.getD t default) l.length
theorem revK_len (l : List St) (k : Nat) : (revK l k).length = l.length := rgL_len _ _
theorem revK_at {l : List St} {k t : Nat} (ht : t < l.length) : (revK l k)[t]'(by rw [revK_len]; exact ht) = if t < k ∨ l.length ≤ t + k then l.getD (l.length - 1 - t) default else l.getD t default := by
  unfold revK; rw [rgL_get]
theorem revK_zero (l : List St) : revK l 0 = l := by
  refine List.ext_getElem (revK_len l 0) fun i h1 h2 => ?_
  rw [revK_at h2, if_neg (by omega), List.getD_eq_getElem?_getD, List.getElem?_eq_getElem h2]; rfl
theorem revK_step {l : List St} {k : Nat} (h : 2 * k + 1 < l.length) : ((revK l k).set k (l.getD (l.length - 1 - k) default)).set (l.length - 1 - k) (l.getD k default) = revK l (k + 1) := by
  unfold revK
  rw [rgL_set, rgL_set]
  refine rgL_congr fun i hi => ?_
  by_cases e1 : i = l.length - 1 - k
  · rw [if_pos e1, if_pos (by omega)]
    congr 1; omega
  · rw [if_neg e1]
    by_cases e2 : i = k
    · subst e2
      rw [if_pos rfl, if_pos (by omega)]
    · rw [if_neg e2]
      by_cases e3 : i < k ∨ l.length ≤ i + k
      · rw [if_pos e3, if_pos (by omega)]
      · rw [if_neg e3, if_neg (by omega)]
theorem revK_end {l : List St} {k : Nat} (h : l.length ≤ 2 * k + 1) : revK l k = l.reverse := by
  refine List.ext_getElem (by rw [revK_len, List.length_reverse]) fun i h1 h2 => ?_
  have hi : i < l.length := by rwa [List.length_reverse] at h2
  rw [revK_at hi, List.getElem_reverse]
  by_cases e : i < k ∨ l.length ≤ i + k
  · rw [if_pos e, List.getD_eq_getElem?_getD, List.getElem?_eq_getElem (by omega)]; rfl
  · rw [if_neg e, List.getD_eq_getElem?_getD, List.getElem?_eq_getElem hi]
    have : l.length - 1 - i = i := by omega
    simp [this]
theorem getD_at {l : List St} {k : Nat} (h : k < l.length) : l.getD k default = l[k] := by rw [List.getD_eq_getElem?_getD, List.getElem?_eq_getElem h]; rfl
end Go.Sx.Po
namespace Go.Proofs.YtdpegkkbhanjkaaDoor
open Go.RowKit Go.Sx Go.Sx.Sz Go.Sx.Sc Go.Sx.Po

theorem OwnR.putSt {w : World} {B : Nat} {e : TypeId} {g n cap : Nat} {xs : List St} (h : OwnR w B e 3 encSt (.slice (some ⟨g, 0, none⟩) n cap) xs) (k : Nat) (hk : k < xs.length) (p : St) :
    OwnR (w.setCells g (k * 3) (encSt p)) B e 3 encSt (.slice (some ⟨g, 0, none⟩) n cap) (xs.set k p) := by
  have h1 := OwnR.store h (fun _ _ => rfl) k 0 hk (by omega) ⟨p.a, xs[k].b, xs[k].k⟩ (.int .i64 p.a) rfl
  have h2 := OwnR.store h1 (fun _ _ => rfl) k 1 (by rw [List.length_set]; exact hk) (by omega) ⟨p.a, p.b, xs[k].k⟩ (.int .i64 p.b) (by rw [List.getElem_set_self]; rfl)
  have h3 := OwnR.store h2 (fun _ _ => rfl) k 2 (by rw [List.length_set, List.length_set]; exact hk) (by omega) p (.int .i64 p.k) (by rw [List.getElem_set_self]; rfl)
  rw [List.set_set, List.set_set] at h3
  exact h3

set_option maxRecDepth 100000 in
set_option maxHeartbeats 8000000 in
theorem rev_walk (B : Nat) (v : Value) (l : List St) (hl : l.length ≤ 1000) (w : World) (O : OwnR w B 35 3 encSt v l) :
    Calls Tryd.prog 59 #[v] w fun e w' => e = .returned (.tuple #[]) ∧ OwnR w' B 35 3 encSt v l.reverse ∧ Kb v.ownBlock w w' := by
  obtain ⟨a?, ca, rfl, -, -, hla⟩ := (O.sl (fun _ _ => rfl) (by omega)).len
  have O0 : OwnR w B 35 3 encSt (.slice a? l.length ca) (revK l 0) := by rw [revK_zero]; exact O
  have E1 : IntKind.i64.wrap ((l.length : Int) - 1) = (l.length : Int) - 1 := IntWalk.i64_in _ (by omega)
  obtain ⟨gg, hgg⟩ : ∃ z, (Value.slice a? l.length ca).ownBlock = z := ⟨_, rfl⟩
  go_enter Tryd.func59, Tryd.ntmps59
  go_wp2
  go_loopw [2, 3] (fun i j wr => ∃ k : Nat, 2 * k ≤ l.length ∧ i = .int .i64 k ∧ j = .int .i64 ((l.length : Int) - 1 - (k : Int)) ∧ OwnR wr B 35 3 encSt (.slice a? l.length ca) (revK l k) ∧ Kb gg w wr) (fun i j _ => l.length - (intOf i).toNat)
  case atStart => exact ⟨0, by omega, rfl, by simp, O0, Kb.refl _ _⟩
  case round =>
    obtain ⟨k, hk, rfl, rfl, Ok, K⟩ := hrel
    clear O O0 E1
    by_cases hlt : 2 * k + 1 < l.length
    · obtain ⟨m, hm⟩ : ∃ m : Nat, m = l.length - 1 - k := ⟨_, rfl⟩
      have hmi : (l.length : Int) - 1 - (k : Int) = (m : Int) := by omega
      have hml : m < l.length := by omega
      have hkl : k < l.length := by omega
      have hkm : k < m := by omega
      have hne : revK l k ≠ [] := fun e => by have := revK_len l k; rw [e] at this; simp at this; omega
      obtain ⟨g, cap, e1, hBg, hgl, hfr⟩ := OwnR.block Ok hne
      rw [revK_len] at e1
      obtain ⟨rfl, -, rfl⟩ : a? = some ⟨g, 0, none⟩ ∧ l.length = l.length ∧ ca = cap := by simpa using e1
      obtain ⟨x, hx⟩ : ∃ x, l.getD k default = x := ⟨_, rfl⟩
      obtain ⟨y, hy⟩ : ∃ y, l.getD m default = y := ⟨_, rfl⟩
      have hxe : (revK l k)[k]'(by rw [revK_len]; exact hkl) = x := by rw [revK_at hkl, if_neg (by omega)]; exact hx
      have hye : (revK l k)[m]'(by rw [revK_len]; exact hml) = y := by rw [revK_at hml, if_neg (by omega)]; exact hy
      have c0 := OwnR.cell Ok (fun _ _ => rfl) k 0 (by rw [revK_len]; exact hkl) (by omega)
      have c1 := OwnR.cell Ok (fun _ _ => rfl) k 1 (by rw [revK_len]; exact hkl) (by omega)
      have c2 := OwnR.cell Ok (fun _ _ => rfl) k 2 (by rw [revK_len]; exact hkl) (by omega)
      have d0 := OwnR.cell Ok (fun _ _ => rfl) m 0 (by rw [revK_len]; exact hml) (by omega)
      have d1 := OwnR.cell Ok (fun _ _ => rfl) m 1 (by rw [revK_len]; exact hml) (by omega)
      have d2 := OwnR.cell Ok (fun _ _ => rfl) m 2 (by rw [revK_len]; exact hml) (by omega)
      rw [hxe] at c0 c1 c2
      rw [hye] at d0 d1 d2
      simp only [encSt, List.getD_cons_zero, List.getD_cons_succ, Nat.add_zero] at c0 c1 c2 d0 d1 d2
      have f0 := hfr (k * 3); have f1 := hfr (k * 3 + 1); have f2 := hfr (k * 3 + 2)
      have g0 := hfr (m * 3); have g1 := hfr (m * 3 + 1); have g2 := hfr (m * 3 + 2)
      have P1 := OwnR.putSt Ok k (by rw [revK_len]; exact hkl) y
      have P2 := OwnR.putSt P1 m (by rw [List.length_set, revK_len]; exact hml) x
      rw [← hx, ← hy, hm, revK_step hlt, ← hm, hx, hy] at P2
      have HP2 := Lib.hid P2
      rw [hmi]
      have t1 : decide (k < m) = true := decide_eq_true (by omega)
      have i1 : (0 : Int) ≤ (k : Int) := by omega
      have i2 : (k : Int) < (l.length : Int) := by omega
      have i3 : (0 : Int) ≤ (m : Int) := by omega
      have i4 : (m : Int) < (l.length : Int) := by omega
      have HM := Lib.hid hm
      have HKM := Lib.hid hkm
      have n00 : ¬ m * 3 = k * 3 := by omega
      have o00 : ¬ k * 3 = m * 3 := by omega
      have n01 : ¬ m * 3 = k * 3 + 1 := by omega
      have o01 : ¬ k * 3 + 1 = m * 3 := by omega
      have n02 : ¬ m * 3 = k * 3 + 2 := by omega
      have o02 : ¬ k * 3 + 2 = m * 3 := by omega
      have n10 : ¬ m * 3 + 1 = k * 3 := by omega
      have o10 : ¬ k * 3 = m * 3 + 1 := by omega
      have n11 : ¬ m * 3 + 1 = k * 3 + 1 := by omega
      have o11 : ¬ k * 3 + 1 = m * 3 + 1 := by omega
      have n12 : ¬ m * 3 + 1 = k * 3 + 2 := by omega
      have o12 : ¬ k * 3 + 2 = m * 3 + 1 := by omega
      have n20 : ¬ m * 3 + 2 = k * 3 := by omega
      have o20 : ¬ k * 3 = m * 3 + 2 := by omega
      have n21 : ¬ m * 3 + 2 = k * 3 + 1 := by omega
      have o21 : ¬ k * 3 + 1 = m * 3 + 2 := by omega
      have n22 : ¬ m * 3 + 2 = k * 3 + 2 := by omega
      have o22 : ¬ k * 3 + 2 = m * 3 + 2 := by omega
      clear Ok P1 P2 hfr hx hy hxe hye hm hmi hne e1 hkm
      go_wp2_with fail
      go_region
      have HGG : Hid (gg = some g) := Lib.hid (hgg.symm.trans rfl)
      have KK := K.trans (by rw [HGG.out]; exact (kb_sets g (encSt y) wr (k * 3)).trans (kb_sets g (encSt x) _ (m * 3)))
      have FIN := Lib.hid (And.intro HP2.out KK)
      have E3 : IntKind.i64.wrap ((m : Int) - 1) = (m : Int) - 1 := IntWalk.i64_in _ (by have := HKM.out; omega)
      clear KK c0 c1 c2 d0 d1 d2 f0 f1 f2 g0 g1 g2 n00 n01 n02 n10 n11 n12 n20 n21 n22 o00 o01 o02 o10 o11 o12 o20 o21 o22
      go_wp2
      go_roundw
      case rel => exact ⟨k + 1, by have := HM.out; have := HKM.out; omega, by go_num, congrArg (Value.int .i64) (by have := HM.out; have := HKM.out; omega), FIN.out.1.ext (Ext.drawn _ _), FIN.out.2.trans (Kb.drawn _ _ _)⟩
      case measure => have := HM.out; have := HKM.out; simp [intOf] <;> omega
    · obtain ⟨jn, hj⟩ : ∃ jn : Int, (l.length : Int) - 1 - (k : Int) = jn := ⟨_, rfl⟩
      have t1 : decide ((k : Int) < jn) = false := decide_eq_false (by omega)
      rw [revK_end (by omega)] at Ok
      rw [hj]
      clear hj
      go_wp2
      refine bodyPost_end (results_none rfl _ _ _) rfl ?_
      exact ⟨rfl, Ok, hgg ▸ K⟩
end Go.Proofs.YtdpegkkbhanjkaaDoor
