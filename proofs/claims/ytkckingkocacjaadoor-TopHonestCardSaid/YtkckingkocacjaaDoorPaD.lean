/-
  Walks: partial.Tone; the closures of Refute and Fits; slices.IndexFunc and ContainsFunc with them.
-/
import Derived.Test.YtkckingkocacjaaDoorPaC
set_option linter.unusedVariables false
namespace Go.Proofs.YtkckingkocacjaaDoor
open Go.RowKit Go.Sx Go.Sx.Sz

theorem roots_ok {l : List Row} (h : rowsOk l = true) : ∀ s ∈ l.map rootS, szOk s = true := fun s hs => by
  obtain ⟨r, hr, rfl⟩ := List.mem_map.1 hs
  exact rootS_ok ((rowsOk_iff.1 h).2 r hr)
theorem rootsL_szOk (l : List Row) : ∀ s ∈ rootsL l, szOk s = true := fun s hs => by
  unfold rootsL at hs
  split at hs
  · exact roots_ok ‹_› s hs
  · cases hs

set_option maxHeartbeats 1000000 in
theorem tone_walk (v : Value) (l : List Row) (w : World) (G : Gv 0 1 w) (S : Sl w 3 encR v l) :
    Calls Tryd.prog 25 #[v] w fun e w' => e = .returned (.tuple #[.agg #[.int .i64 (toneR l).1.lo, .int .i64 (toneR l).1.hi], .int .i64 (toneR l).2]) ∧ Ext w w' := by
  cases hr : rowsOk l with
  | true =>
    have HE : Hid (rootsE l = 0) := Lib.hid (rootsE_ok hr)
    have HL : Hid (rootsL l = l.map rootS) := Lib.hid (rootsL_ok hr)
    have HT : Hid (toneR l = commonR (l.map rootS)) := Lib.hid (by rw [toneR, if_pos hr])
    have hall := Lib.hid (roots_ok hr)
    clear hr
    go_enter Tryd.func25, Tryd.ntmps25
    go_wp2_with fail
    refine (roots_walk v l _ (G.ext (by repeat (first | with_reducible exact Ext.refl _ | with_reducible assumption | with_reducible apply Ext.alloc | with_reducible apply Ext.drew | (with_reducible refine Ext.setCell ?_ (by (try simp) <;> omega) _)))) (S.ext (by repeat (first | with_reducible exact Ext.refl _ | with_reducible assumption | with_reducible apply Ext.alloc | with_reducible apply Ext.drew | (with_reducible refine Ext.setCell ?_ (by (try simp) <;> omega) _))))).mono ?_
    rw [HE.out, HL.out]
    rintro e w1 ⟨v1, rfl, S1, x1⟩
    obtain ⟨hc1, hf1⟩ := x1.rules
    have hz1_0 : w.heap.size < w1.heap.size := by have := x1.size; (try simp at this); omega
    have X1 : Ext w w1 := Ext.trans (by repeat (first | with_reducible exact Ext.refl _ | with_reducible assumption | with_reducible apply Ext.alloc | with_reducible apply Ext.drew | (with_reducible refine Ext.setCell ?_ (by (try simp) <;> omega) _))) x1
    go_wp2_with fail
    obtain ⟨a?, cap, rfl, h1, h2, h3⟩ := S1.len
    refine (common_walk _ _ hall.out _ (S1.ext (by repeat (first | with_reducible exact Ext.refl _ | with_reducible assumption | with_reducible apply Ext.alloc | with_reducible apply Ext.drew | (with_reducible refine Ext.setCell ?_ (by (try simp) <;> omega) _))))).mono ?_
    obtain ⟨r, hR⟩ : ∃ r, commonR (l.map rootS) = r := ⟨_, rfl⟩
    have HR := Lib.hid hR
    rw [hR]
    clear hR h1 h2 h3
    rintro e w2 ⟨rfl, x2⟩
    obtain ⟨hc2, hf2⟩ := x2.rules
    have hz2_0 : w.heap.size < w2.heap.size := by have := x2.size; (try simp at this); omega
    have X2 : Ext w w2 := Ext.trans X1 x2
    go_wp2
    refine bodyPost_ret (v := .tuple #[.agg #[.int .i64 r.1.lo, .int .i64 r.1.hi], .int .i64 r.2]) (by simp [results, Tryd.results25, go_sem, *]) rfl ⟨?_, (by repeat (first | with_reducible exact Ext.refl _ | with_reducible assumption | with_reducible apply Ext.alloc | with_reducible apply Ext.drew | (with_reducible refine Ext.setCell ?_ (by (try simp) <;> omega) _)))⟩
    rw [HT.out, HR.out] <;> rfl
  | false =>
    have HE : Hid (rootsE l = 1) := Lib.hid (by rw [rootsE, hr]; rfl)
    have HT : Hid (toneR l = (zeroS, 1)) := Lib.hid (by rw [toneR, hr]; rfl)
    clear hr
    go_enter Tryd.func25, Tryd.ntmps25
    go_wp2_with fail
    refine (roots_walk v l _ (G.ext (by repeat (first | with_reducible exact Ext.refl _ | with_reducible assumption | with_reducible apply Ext.alloc | with_reducible apply Ext.drew | (with_reducible refine Ext.setCell ?_ (by (try simp) <;> omega) _)))) (S.ext (by repeat (first | with_reducible exact Ext.refl _ | with_reducible assumption | with_reducible apply Ext.alloc | with_reducible apply Ext.drew | (with_reducible refine Ext.setCell ?_ (by (try simp) <;> omega) _))))).mono ?_
    rw [HE.out]
    rintro e w1 ⟨v1, rfl, S1, x1⟩
    obtain ⟨hc1, hf1⟩ := x1.rules
    have hz1_0 : w.heap.size < w1.heap.size := by have := x1.size; (try simp at this); omega
    have X1 : Ext w w1 := Ext.trans (by repeat (first | with_reducible exact Ext.refl _ | with_reducible assumption | with_reducible apply Ext.alloc | with_reducible apply Ext.drew | (with_reducible refine Ext.setCell ?_ (by (try simp) <;> omega) _))) x1
    go_wp2
    refine bodyPost_ret (v := .tuple #[.agg #[.int .i64 0, .int .i64 0], .int .i64 1]) (by simp [results, Tryd.results25, go_sem, *]) rfl ⟨?_, (by repeat (first | with_reducible exact Ext.refl _ | with_reducible assumption | with_reducible apply Ext.alloc | with_reducible apply Ext.drew | (with_reducible refine Ext.setCell ?_ (by (try simp) <;> omega) _)))⟩
    rw [HT.out] <;> rfl

theorem cmp_disj {a b : S2} (ha : szOk a = true) (hb : szOk b = true) : ((cmpR a b).1 != 0) = disj a b := by
  rw [cmpR, if_pos ⟨ha, hb⟩]
  unfold disj
  by_cases h1 : a.hi < b.lo
  · simp [h1]
  · by_cases h2 : b.hi < a.lo
    · simp [h1, h2]
    · simp [h1, h2]

set_option maxHeartbeats 1000000 in
theorem off_walk (a b : S2) (ha : szOk a = true) (hb : szOk b = true) (g : Nat) (w : World) (c0 : w.cell? ⟨g, 0, none⟩ = some (.int .i64 a.lo)) (c1 : w.cell? ⟨g, 1, none⟩ = some (.int .i64 a.hi)) :
    Calls Tryd.prog 23 #[.agg #[.int .i64 b.lo, .int .i64 b.hi], .pointer (some ⟨g, 0, none⟩)] w fun e w' => e = .returned (.bool (disj b a)) ∧ Ext w w' := by
  have h2 := cmp_disj hb ha
  have hg := lt_of_cell c0
  have hgn : ¬ g = w.heap.size := by simp only at hg; omega
  obtain ⟨r, hr⟩ : ∃ r, cmpR b a = r := ⟨_, rfl⟩
  rw [hr] at h2
  have HR := Lib.hid hr; have H2 := Lib.hid h2
  clear ha hb h2 hr
  go_enter Tryd.func23, Tryd.ntmps23
  go_wp2_with fail
  refine (cmp_walk b a _).mono ?_
  rw [HR.out]
  rintro e w1 ⟨rfl, x1⟩
  have X1 : Ext w w1 := Ext.trans (by repeat (first | with_reducible exact Ext.refl _ | with_reducible assumption | with_reducible apply Ext.alloc | with_reducible apply Ext.drew | (with_reducible refine Ext.setCell ?_ (by (try simp) <;> omega) _))) x1
  go_wp2
  go_ret
  exact ⟨by rw [← H2.out] <;> rfl, (by repeat (first | with_reducible exact Ext.refl _ | with_reducible assumption | with_reducible apply Ext.alloc | with_reducible apply Ext.drew | (with_reducible refine Ext.setCell ?_ (by (try simp) <;> omega) _)))⟩

set_option maxHeartbeats 1000000 in
theorem idx_fit_walk (v : Value) (l : List S2) (p : S2 → Bool) (q : Value) (w : World) (S : Sl w 2 encS v l)
    (hcall : ∀ x ∈ l, ∀ w', Ext w w' → Calls Tryd.prog 23 #[.agg #[.int .i64 x.lo, .int .i64 x.hi], q] w' fun e w'' => e = .returned (.bool (p x)) ∧ Ext w' w'') :
    Calls Tryd.prog 48 #[v, .func (.func 23) #[] #[q]] w fun e w' => e = .returned (.int .i64 (idxV (l.findIdx? p))) ∧ Ext w w' := by
  obtain ⟨a?, cap, rfl, h1, h2, h3⟩ := S.len
  clear h1 h2
  have HC := Lib.hid hcall; clear hcall
  go_enter Tryd.func48, Tryd.ntmps48
  go_wp2
  go_loopw [8] (fun i wr => ∃ k : Nat, k ≤ l.length ∧ i = .int .i64 k ∧ (∀ x ∈ l.take k, p x = false) ∧ Ext w wr) (fun i _ => l.length - (intOf i).toNat)
  case atStart => exact ⟨0, by omega, rfl, fun x hx => by simp at hx, (by repeat (first | with_reducible exact Ext.refl _ | with_reducible assumption | with_reducible apply Ext.alloc | with_reducible apply Ext.drew | (with_reducible refine Ext.setCell ?_ (by (try simp) <;> omega) _)))⟩
  case round =>
    obtain ⟨k, hk, rfl, hno, X⟩ := hrel
    have HN := Lib.hid hno; clear hno
    by_cases hlt : k < l.length
    · obtain ⟨b, o, rfl, q0, q1⟩ := Sl.size (S.ext X) k hlt
      cases hp : p l[k] with
      | true =>
        have HP := Lib.hid hp; clear hp
        go_wp2_with fail
        refine (HC.out l[k] (List.getElem_mem _) _ X).mono ?_
        rw [HP.out]
        rintro e w1 ⟨rfl, x1⟩
        have X1 := X.trans x1
        go_wp2
        go_ret
        have hf : l.findIdx? p = some k := by
          rw [List.findIdx?_eq_some_iff_getElem]
          refine ⟨hlt, HP.out, fun j hj => ?_⟩
          have := HN.out l[j] (List.mem_take_iff_getElem.2 ⟨j, by omega, rfl⟩)
          simpa using this
        exact ⟨by rw [hf]; rfl, X1⟩
      | false =>
        have HP := Lib.hid hp; clear hp
        go_wp2_with fail
        refine (HC.out l[k] (List.getElem_mem _) _ X).mono ?_
        rw [HP.out]
        rintro e w1 ⟨rfl, x1⟩
        have X1 := X.trans x1
        go_wp2
        go_roundw
        case rel =>
          refine ⟨k + 1, by omega, by go_num, fun x hx => ?_, X1⟩
          rw [List.take_succ_eq_append_getElem hlt, List.mem_append, List.mem_singleton] at hx
          rcases hx with hx | rfl
          · exact HN.out x hx
          · exact HP.out
        case measure => simp [intOf]; omega
    · obtain rfl : k = l.length := by omega
      go_wp2
      go_ret
      have hf : l.findIdx? p = none := by
        rw [List.findIdx?_eq_none_iff]
        have := HN.out
        rw [List.take_length] at this
        exact this
      exact ⟨by rw [hf]; rfl, X⟩

set_option maxHeartbeats 1000000 in
theorem has_fit_walk (v : Value) (l : List S2) (p : S2 → Bool) (q : Value) (w : World) (S : Sl w 2 encS v l)
    (hcall : ∀ x ∈ l, ∀ w', Ext w w' → Calls Tryd.prog 23 #[.agg #[.int .i64 x.lo, .int .i64 x.hi], q] w' fun e w'' => e = .returned (.bool (p x)) ∧ Ext w' w'') :
    Calls Tryd.prog 22 #[v, .func (.func 23) #[] #[q]] w fun e w' => e = .returned (.bool (l.any p)) ∧ Ext w w' := by
  have HC := Lib.hid hcall; clear hcall
  cases hf : l.findIdx? p with
  | none =>
    have ha : l.any p = false := by
      rw [List.any_eq_false]
      intro x hx
      have := (List.findIdx?_eq_none_iff.1 hf) x hx
      simp [this]
    have HF := Lib.hid hf; have HA := Lib.hid ha
    clear hf ha
    go_enter Tryd.func22, Tryd.ntmps22
    go_wp2_with fail
    refine (idx_fit_walk v l p q _ S HC.out).mono ?_
    rw [HF.out]
    rintro e w1 ⟨rfl, x1⟩
    go_wp2
    go_ret
    exact ⟨by rw [HA.out] <;> rfl, x1⟩
  | some j =>
    have ha : l.any p = true := by
      obtain ⟨hj, hp, _⟩ := List.findIdx?_eq_some_iff_getElem.1 hf
      exact List.any_eq_true.2 ⟨_, List.getElem_mem hj, hp⟩
    have HF := Lib.hid hf; have HA := Lib.hid ha
    clear hf ha
    go_enter Tryd.func22, Tryd.ntmps22
    go_wp2_with fail
    refine (idx_fit_walk v l p q _ S HC.out).mono ?_
    rw [HF.out]
    rintro e w1 ⟨rfl, x1⟩
    go_wp2
    go_ret
    exact ⟨by rw [HA.out] <;> rfl, x1⟩
end Go.Proofs.YtkckingkocacjaaDoor
