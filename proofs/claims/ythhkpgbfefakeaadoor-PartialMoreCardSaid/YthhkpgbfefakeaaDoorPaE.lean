/-
  Walks: partial.Refute.
-/
import Derived.Test.YthhkpgbfefakeaaDoorPaD
set_option linter.unusedVariables false
namespace Go.Proofs.YthhkpgbfefakeaaDoor
open Go.RowKit Go.Sx Go.Sx.Sz

theorem refF_drop (l : List S2) (k : Nat) (hk : k < l.length) : refF (l.drop k) k = match (l.drop k).findIdx? (disj l[k]) with
    | some j => some (k, k + j)
    | none => refF (l.drop (k + 1)) (k + 1) := by
  rw [List.drop_eq_getElem_cons hk]
  rfl
theorem disj_self {a : S2} (h : szOk a = true) : disj a a = false := by
  rw [szOk_iff] at h
  simp [disj]; omega

set_option maxHeartbeats 2000000 in
theorem refute_walk (v : Value) (l : List Row) (w : World) (G : Gv 0 1 w) (S : Sl w 3 encR v l) :
    Calls Tryd.prog 20 #[v] w fun e w' => e = .returned (.tuple #[.int .i64 (refuteR l).1, .int .i64 (refuteR l).2.1, .int .i64 (refuteR l).2.2]) ∧ Ext w w' := by
  cases hr : rowsOk l with
  | true =>
    have HE : Hid (rootsE l = 0) := Lib.hid (rootsE_ok hr)
    have HL : Hid (rootsL l = l.map rootS) := Lib.hid (rootsL_ok hr)
    have HT : Hid (refuteR l = refR (refF (l.map rootS) 0)) := Lib.hid (by rw [refuteR, if_pos hr])
    have hall := Lib.hid (roots_ok hr)
    obtain ⟨rs, hrs⟩ : ∃ rs, l.map rootS = rs := ⟨_, rfl⟩
    rw [hrs] at HL HT hall
    clear hr hrs
    go_enter Tryd.func20, Tryd.ntmps20
    go_wp2_with fail
    refine (roots_walk v l _ (G.ext (by repeat (first | with_reducible exact Ext.refl _ | with_reducible assumption | with_reducible apply Ext.alloc | with_reducible apply Ext.drew | (with_reducible refine Ext.setCell ?_ (by (try simp) <;> omega) _)))) (S.ext (by repeat (first | with_reducible exact Ext.refl _ | with_reducible assumption | with_reducible apply Ext.alloc | with_reducible apply Ext.drew | (with_reducible refine Ext.setCell ?_ (by (try simp) <;> omega) _))))).mono ?_
    rw [HE.out, HL.out]
    rintro e w1 ⟨v1, rfl, S1, X1⟩
    obtain ⟨a?, cap, rfl, h1, h2, h3⟩ := S1.len
    clear h2
    go_wp2
    go_loopw [20] (fun i wr => ∃ k : Nat, k ≤ rs.length ∧ i = .int .i64 k ∧ refF rs 0 = refF (rs.drop k) k ∧ Ext w1 wr) (fun i _ => rs.length - (intOf i).toNat)
    case atStart => exact ⟨0, by omega, rfl, by simp, (by repeat (first | with_reducible exact Ext.refl _ | with_reducible assumption | with_reducible apply Ext.alloc | with_reducible apply Ext.drew | (with_reducible refine Ext.setCell ?_ (by (try simp) <;> omega) _)))⟩
    case round =>
      obtain ⟨k, hk, rfl, hrf, X⟩ := hrel
      by_cases hlt : k < rs.length
      · have hne : ¬ cap = k := by omega
        rw [refF_drop rs k hlt] at hrf
        obtain ⟨b, o, rfl, q0, q1⟩ := Sl.size (S1.ext X) k hlt
        have ST := (S1.ext X).tail k (by omega)
        obtain ⟨a, ha⟩ : ∃ a, rs[k] = a := ⟨_, rfl⟩
        have hao : szOk a = true := by rw [← ha]; exact hall.out _ (List.getElem_mem _)
        have hself := disj_self hao
        rw [ha] at q0 q1 hrf
        have HA := Lib.hid ha
        have HAO := Lib.hid hao
        cases hf : (rs.drop k).findIdx? (disj a) with
        | none =>
          rw [hf] at hrf
          have HF := Lib.hid hf; have HR := Lib.hid hrf
          clear hf hrf ha hself hao
          go_wp2_with fail
          refine (idx_ref_walk _ (rs.drop k) (disj a) _ _ (ST.ext (by repeat (first | with_reducible exact Ext.refl _ | with_reducible assumption | with_reducible apply Ext.alloc | with_reducible apply Ext.drew | (with_reducible refine Ext.setCell ?_ (by (try simp) <;> omega) _)))) (fun x hx w' hw' => apart_walk a x HAO.out (hall.out x (List.mem_of_mem_drop hx)) wr.heap.size w' (hw'.cell (alloc_cell wr _ 26 0 _ rfl)) (hw'.cell (alloc_cell wr _ 26 1 _ rfl)))).mono ?_
          rw [HF.out]
          rintro e w2 ⟨rfl, x2⟩
          have X2 : Ext wr w2 := Ext.trans (by repeat (first | with_reducible exact Ext.refl _ | with_reducible assumption | with_reducible apply Ext.alloc | with_reducible apply Ext.drew | (with_reducible refine Ext.setCell ?_ (by (try simp) <;> omega) _))) x2
          have XX := X.trans X2
          go_wp2
          go_roundw
          case rel => exact ⟨k + 1, by omega, by go_num, HR.out, XX⟩
          case measure => simp [intOf]; omega
        | some j =>
          rw [hf] at hrf
          have hj : 0 < j := by
            obtain ⟨hj, hp, _⟩ := List.findIdx?_eq_some_iff_getElem.1 hf
            rcases Nat.eq_zero_or_pos j with h | h
            · subst h
              simp only [List.getElem_drop, Nat.add_zero] at hp
              rw [ha, hself] at hp; cases hp
            · exact h
          have hjl : j ≤ rs.length := by
            obtain ⟨hj, _⟩ := List.findIdx?_eq_some_iff_getElem.1 hf
            simp at hj; omega
          have HF := Lib.hid hf; have HR := Lib.hid hrf
          clear hf hrf ha hself hao
          go_wp2_with fail
          refine (idx_ref_walk _ (rs.drop k) (disj a) _ _ (ST.ext (by repeat (first | with_reducible exact Ext.refl _ | with_reducible assumption | with_reducible apply Ext.alloc | with_reducible apply Ext.drew | (with_reducible refine Ext.setCell ?_ (by (try simp) <;> omega) _)))) (fun x hx w' hw' => apart_walk a x HAO.out (hall.out x (List.mem_of_mem_drop hx)) wr.heap.size w' (hw'.cell (alloc_cell wr _ 26 0 _ rfl)) (hw'.cell (alloc_cell wr _ 26 1 _ rfl)))).mono ?_
          rw [HF.out]
          rintro e w2 ⟨rfl, x2⟩
          have X2 : Ext wr w2 := Ext.trans (by repeat (first | with_reducible exact Ext.refl _ | with_reducible assumption | with_reducible apply Ext.alloc | with_reducible apply Ext.drew | (with_reducible refine Ext.setCell ?_ (by (try simp) <;> omega) _))) x2
          have XX := X.trans X2
          rw [show idxV (some j) = (j : Int) from rfl]
          go_wp2
          go_ret3
          have XF := (X1.trans XX)
          exact ⟨by rw [HT.out, HR.out]; simp [refR], XF⟩
      · obtain rfl : k = rs.length := by omega
        rw [List.drop_length] at hrf
        have HR := Lib.hid hrf
        clear hrf
        go_wp2
        go_ret3
        exact ⟨by rw [HT.out, HR.out]; rfl, X1.trans X⟩
  | false =>
    have HE : Hid (rootsE l = 1) := Lib.hid (by rw [rootsE, hr]; rfl)
    have HT : Hid (refuteR l = (0, 0, 1)) := Lib.hid (by rw [refuteR, hr]; rfl)
    clear hr
    go_enter Tryd.func20, Tryd.ntmps20
    go_wp2_with fail
    refine (roots_walk v l _ (G.ext (by repeat (first | with_reducible exact Ext.refl _ | with_reducible assumption | with_reducible apply Ext.alloc | with_reducible apply Ext.drew | (with_reducible refine Ext.setCell ?_ (by (try simp) <;> omega) _)))) (S.ext (by repeat (first | with_reducible exact Ext.refl _ | with_reducible assumption | with_reducible apply Ext.alloc | with_reducible apply Ext.drew | (with_reducible refine Ext.setCell ?_ (by (try simp) <;> omega) _))))).mono ?_
    rw [HE.out]
    rintro e w1 ⟨v1, rfl, S1, X1⟩
    go_wp2
    go_ret3
    exact ⟨by rw [HT.out] <;> rfl, X1⟩
end Go.Proofs.YthhkpgbfefakeaaDoor
