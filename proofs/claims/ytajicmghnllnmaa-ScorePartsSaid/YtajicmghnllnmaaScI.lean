/-
  Walks: score.Section, Before, Sounding, Held, First.
-/
import Derived.Test.YtajicmghnllnmaaScF
import Derived.Test.YtajicmghnllnmaaScH
set_option linter.unusedVariables false
namespace Go.Proofs.Ytajicmghnllnmaa
open Go.RowKit Go.Sx Go.Sx.Sz Go.Sx.Sc

set_option maxHeartbeats 2000000 in
theorem section_walk (vn vp vc : Value) (s : Sc) (t : Int) (w : World) (S : ScR w vn vp vc s) : Calls Try.prog 14 #[.agg #[.int .i64 s.voices, vn, vp, vc], .int .i64 t] w fun e w' => e = .returned (.tuple #[.int .i64 (secR s t).1, .int .i64 (secR s t).2]) ∧ Ext w w' := by
  obtain ⟨an, cn, rfl, -, -, hln⟩ := S.nt.len
  obtain ⟨ap, cp, rfl, -, -, hlp⟩ := S.pr.len
  obtain ⟨ac, cc, rfl, -, -, hlc⟩ := S.cd.len
  cases hok : scB s with
  | false =>
    have hR : secR s t = (0, 1) := by unfold secR; rw [hok, if_neg (by simp)]
    have HO := Lib.hid hok; have HR := Lib.hid hR
    clear hok hR
    go_enter Try.func14, Try.ntmps14
    go_wp2_with fail
    refine (scvalid_walk _ _ _ s _ (S.ext (by repeat (first | with_reducible exact Ext.refl _ | with_reducible assumption | with_reducible apply Ext.alloc | with_reducible apply Ext.drew | (with_reducible refine Ext.setCell ?_ (by (try simp) <;> omega) _))))).mono ?_
    rw [HO.out]
    rintro e w1 ⟨rfl, x1⟩
    have X1 : Ext w w1 := Ext.trans (by repeat (first | with_reducible exact Ext.refl _ | with_reducible assumption | with_reducible apply Ext.alloc | with_reducible apply Ext.drew | (with_reducible refine Ext.setCell ?_ (by (try simp) <;> omega) _))) x1
    go_wp2
    go_ret2
    exact ⟨by rw [HR.out] <;> rfl, X1⟩
  | true =>
    have HO := Lib.hid hok
    have HV := Lib.hid (scB_iff.1 hok)
    clear hok
    by_cases h1 : t < 0
    · have HR : Hid (secR s t = (0, 1)) := Lib.hid (by unfold secR; rw [if_neg (by omega)])
      go_enter Try.func14, Try.ntmps14
      go_wp2_with fail
      refine (scvalid_walk _ _ _ s _ (S.ext (by repeat (first | with_reducible exact Ext.refl _ | with_reducible assumption | with_reducible apply Ext.alloc | with_reducible apply Ext.drew | (with_reducible refine Ext.setCell ?_ (by (try simp) <;> omega) _))))).mono ?_
      rw [HO.out]
      rintro e w1 ⟨rfl, x1⟩
      have X1 : Ext w w1 := Ext.trans (by repeat (first | with_reducible exact Ext.refl _ | with_reducible assumption | with_reducible apply Ext.alloc | with_reducible apply Ext.drew | (with_reducible refine Ext.setCell ?_ (by (try simp) <;> omega) _))) x1
      go_wp2
      go_ret2
      exact ⟨by rw [HR.out] <;> rfl, X1⟩
    by_cases h2 : 100000 < t
    · have HR : Hid (secR s t = (0, 1)) := Lib.hid (by unfold secR; rw [if_neg (by omega)])
      go_enter Try.func14, Try.ntmps14
      go_wp2_with fail
      refine (scvalid_walk _ _ _ s _ (S.ext (by repeat (first | with_reducible exact Ext.refl _ | with_reducible assumption | with_reducible apply Ext.alloc | with_reducible apply Ext.drew | (with_reducible refine Ext.setCell ?_ (by (try simp) <;> omega) _))))).mono ?_
      rw [HO.out]
      rintro e w1 ⟨rfl, x1⟩
      have X1 : Ext w w1 := Ext.trans (by repeat (first | with_reducible exact Ext.refl _ | with_reducible assumption | with_reducible apply Ext.alloc | with_reducible apply Ext.drew | (with_reducible refine Ext.setCell ?_ (by (try simp) <;> omega) _))) x1
      go_wp2
      go_ret2
      exact ⟨by rw [HR.out] <;> rfl, X1⟩
    have HR : Hid (secR s t = ((secF s t : Int), 0)) := Lib.hid (by unfold secR; rw [if_pos ⟨HO.out, by omega, by omega⟩])
    go_enter Try.func14, Try.ntmps14
    go_wp2_with fail
    refine (scvalid_walk _ _ _ s _ (S.ext (by repeat (first | with_reducible exact Ext.refl _ | with_reducible assumption | with_reducible apply Ext.alloc | with_reducible apply Ext.drew | (with_reducible refine Ext.setCell ?_ (by (try simp) <;> omega) _))))).mono ?_
    rw [HO.out]
    rintro e w1 ⟨rfl, x1⟩
    have X1 : Ext w w1 := Ext.trans (by repeat (first | with_reducible exact Ext.refl _ | with_reducible assumption | with_reducible apply Ext.alloc | with_reducible apply Ext.drew | (with_reducible refine Ext.setCell ?_ (by (try simp) <;> omega) _))) x1
    have b1 := block_ext x1 (block_new w (.cells #[.int .i64 s.voices, .slice an s.notes.length cn, .slice ap s.pairs.length cp, .slice ac s.cads.length cc] 26))
    have c0 := block_cell b1 0 (.int .i64 s.voices) rfl
    have c1 := block_cell b1 1 (.slice an s.notes.length cn) rfl
    have c2 := block_cell b1 2 (.slice ap s.pairs.length cp) rfl
    have c3 := block_cell b1 3 (.slice ac s.cads.length cc) rfl
    clear x1
    go_wp2_with fail
    refine (sect_walk _ _ _ s t HV.out.cd _ (S.ext X1)).mono ?_
    rintro e w2 ⟨rfl, x2⟩
    go_wp2
    go_ret2
    exact ⟨by rw [HR.out] <;> rfl, X1.trans x2⟩

set_option maxHeartbeats 4000000 in
theorem before_walk (vn vp vc : Value) (s : Sc) (n : Int) (w : World) (S : ScR w vn vp vc s) : Calls Try.prog 16 #[.agg #[.int .i64 s.voices, vn, vp, vc], .int .i64 n] w fun e w' => e = .returned (.tuple #[.int .i64 (befR s n).1, .int .i64 (befR s n).2]) ∧ Ext w w' := by
  obtain ⟨an, cn, rfl, -, -, hln⟩ := S.nt.len
  obtain ⟨ap, cp, rfl, -, -, hlp⟩ := S.pr.len
  obtain ⟨ac, cc, rfl, -, -, hlc⟩ := S.cd.len
  by_cases hg : scB s = true ∧ 0 ≤ n ∧ n < s.notes.length
  · obtain ⟨hok, hn0, hn1⟩ := hg
    obtain ⟨k, rfl⟩ : ∃ k : Nat, n = k := ⟨n.toNat, by omega⟩
    have hk : k < s.notes.length := by omega
    have hR : befR s k = ((if (s.N k).tied = true then findL s.notes (endP (s.N k).v (s.N k).f) 0 else -1), 0) := by
      unfold befR; rw [if_pos ⟨hok, hn0, hn1⟩, Int.toNat_natCast]
    have HO := Lib.hid hok
    have HNE := Lib.hid (Sc.N_eq hk)
    obtain ⟨⟨nv, nf, nu, nx, nt⟩, hN⟩ : ∃ x, s.N k = x := ⟨_, rfl⟩
    rw [hN] at hR
    dsimp only at hR
    have hNE := HNE.out
    rw [hN] at hNE
    have HN := Lib.hid hNE; have HR := Lib.hid hR
    have hk2 : ¬ (k : Int) < 0 := by omega
    have hk3 : ¬ (s.notes.length : Int) ≤ (k : Int) := by omega
    clear hok hR hN hNE
    go_enter Try.func16, Try.ntmps16
    go_wp2_with fail
    refine (scvalid_walk _ _ _ s _ (S.ext (by repeat (first | with_reducible exact Ext.refl _ | with_reducible assumption | with_reducible apply Ext.alloc | with_reducible apply Ext.drew | (with_reducible refine Ext.setCell ?_ (by (try simp) <;> omega) _))))).mono ?_
    rw [HO.out]
    rintro e w1 ⟨rfl, x1⟩
    have X1 : Ext w w1 := Ext.trans (by repeat (first | with_reducible exact Ext.refl _ | with_reducible assumption | with_reducible apply Ext.alloc | with_reducible apply Ext.drew | (with_reducible refine Ext.setCell ?_ (by (try simp) <;> omega) _))) x1
    have b1 := block_ext x1 (block_new w (.cells #[.int .i64 s.voices, .slice an s.notes.length cn, .slice ap s.pairs.length cp, .slice ac s.cads.length cc] 26))
    have l1 := block_lt b1
    have l2 : ¬ w.heap.size = w1.heap.size := by omega
    obtain ⟨b, o, rfl, A⟩ := Sl.nt (S.nt.ext X1) k hk
    rw [← HN.out] at A
    obtain ⟨q0, q1, q2, q3, q4, q5, q6, q7, q8, q9⟩ := A
    dsimp only at q0 q1 q2 q3 q4 q5 q6 q7 q8 q9
    have c1 := block_cell b1 1 (.slice (some ⟨b, o, none⟩) s.notes.length cn) rfl
    clear x1 b1
    cases nt with
    | false =>
      have HR2 : Hid (befR s k = (-1, 0)) := Lib.hid (by rw [HR.out]; rfl)
      clear HR
      go_wp2
      go_ret2
      exact ⟨by rw [HR2.out] <;> rfl, (by repeat (first | with_reducible exact Ext.refl _ | with_reducible assumption | with_reducible apply Ext.alloc | with_reducible apply Ext.drew | (with_reducible refine Ext.setCell ?_ (by (try simp) <;> omega) _)))⟩
    | true =>
      have HR2 : Hid (befR s k = (findL s.notes (endP nv nf) 0, 0)) := Lib.hid (by rw [HR.out]; rfl)
      have IX := Lib.hid fun w' (y : Ext w1 w') => idxf_walk (.slice (some ⟨b, o, none⟩) s.notes.length cn) s.notes w1.heap.size nv nf w' ((S.nt.ext X1).ext y)
      clear HR
      go_wp2_with fail
      refine (IX.out _ (by repeat (first | with_reducible exact Ext.refl _ | with_reducible assumption | with_reducible apply Ext.alloc | with_reducible apply Ext.drew | (with_reducible refine Ext.setCell ?_ (by (try simp) <;> omega) _))) (alloc_cell w1 _ _ 0 _ rfl) (alloc_cell w1 _ _ 1 _ rfl)).mono ?_
      rintro e w2 ⟨rfl, x2⟩
      have X2 : Ext w w2 := X1.trans (Ext.trans (by repeat (first | with_reducible exact Ext.refl _ | with_reducible assumption | with_reducible apply Ext.alloc | with_reducible apply Ext.drew | (with_reducible refine Ext.setCell ?_ (by (try simp) <;> omega) _))) x2)
      clear q0 q1 q2 q3 q4 q5 q6 q7 q8 q9 c1
      go_wp2
      go_ret2
      exact ⟨by rw [HR2.out] <;> rfl, X2⟩
  · have hR : befR s n = (0, 1) := by unfold befR; rw [if_neg hg]
    have HR := Lib.hid hR
    cases hok : scB s with
    | false =>
      have HO := Lib.hid hok
      clear hok hR hg
      go_enter Try.func16, Try.ntmps16
      go_wp2_with fail
      refine (scvalid_walk _ _ _ s _ (S.ext (by repeat (first | with_reducible exact Ext.refl _ | with_reducible assumption | with_reducible apply Ext.alloc | with_reducible apply Ext.drew | (with_reducible refine Ext.setCell ?_ (by (try simp) <;> omega) _))))).mono ?_
      rw [HO.out]
      rintro e w1 ⟨rfl, x1⟩
      have X1 : Ext w w1 := Ext.trans (by repeat (first | with_reducible exact Ext.refl _ | with_reducible assumption | with_reducible apply Ext.alloc | with_reducible apply Ext.drew | (with_reducible refine Ext.setCell ?_ (by (try simp) <;> omega) _))) x1
      go_wp2
      go_ret2
      exact ⟨by rw [HR.out] <;> rfl, X1⟩
    | true =>
      have HO := Lib.hid hok
      have hg' : ¬ (0 ≤ n ∧ n < s.notes.length) := fun h => hg ⟨hok, h⟩
      clear hok hR hg
      by_cases h1 : n < 0
      · clear hg'
        go_enter Try.func16, Try.ntmps16
        go_wp2_with fail
        refine (scvalid_walk _ _ _ s _ (S.ext (by repeat (first | with_reducible exact Ext.refl _ | with_reducible assumption | with_reducible apply Ext.alloc | with_reducible apply Ext.drew | (with_reducible refine Ext.setCell ?_ (by (try simp) <;> omega) _))))).mono ?_
        rw [HO.out]
        rintro e w1 ⟨rfl, x1⟩
        have X1 : Ext w w1 := Ext.trans (by repeat (first | with_reducible exact Ext.refl _ | with_reducible assumption | with_reducible apply Ext.alloc | with_reducible apply Ext.drew | (with_reducible refine Ext.setCell ?_ (by (try simp) <;> omega) _))) x1
        go_wp2
        go_ret2
        exact ⟨by rw [HR.out] <;> rfl, X1⟩
      · have h2 : (s.notes.length : Int) ≤ n := by omega
        clear hg'
        go_enter Try.func16, Try.ntmps16
        go_wp2_with fail
        refine (scvalid_walk _ _ _ s _ (S.ext (by repeat (first | with_reducible exact Ext.refl _ | with_reducible assumption | with_reducible apply Ext.alloc | with_reducible apply Ext.drew | (with_reducible refine Ext.setCell ?_ (by (try simp) <;> omega) _))))).mono ?_
        rw [HO.out]
        rintro e w1 ⟨rfl, x1⟩
        have X1 : Ext w w1 := Ext.trans (by repeat (first | with_reducible exact Ext.refl _ | with_reducible assumption | with_reducible apply Ext.alloc | with_reducible apply Ext.drew | (with_reducible refine Ext.setCell ?_ (by (try simp) <;> omega) _))) x1
        have b1 := block_ext x1 (block_new w (.cells #[.int .i64 s.voices, .slice an s.notes.length cn, .slice ap s.pairs.length cp, .slice ac s.cads.length cc] 26))
        have c1 := block_cell b1 1 (.slice an s.notes.length cn) rfl
        clear x1 b1
        go_wp2
        go_ret2
        exact ⟨by rw [HR.out] <;> rfl, X1⟩

set_option maxHeartbeats 4000000 in
theorem sound_walk (vn vp vc : Value) (s : Sc) (t : Int) (w : World) (S : ScR w vn vp vc s) : Calls Try.prog 20 #[.agg #[.int .i64 s.voices, vn, vp, vc], .int .i64 t] w fun e w' => ∃ v, e = .returned (.tuple #[v, .int .i64 (sndR s t).2]) ∧ Sl w' 1 encZ v (sndR s t).1 ∧ Ext w w' := by
  obtain ⟨an, cn, rfl, -, -, hln⟩ := S.nt.len
  obtain ⟨ap, cp, rfl, -, -, hlp⟩ := S.pr.len
  obtain ⟨ac, cc, rfl, -, -, hlc⟩ := S.cd.len
  by_cases hg : scB s = true ∧ 0 ≤ t ∧ t ≤ 100000
  · have hR : sndR s t = (chooseL s.notes (sndP t), 0) := by unfold sndR; rw [if_pos hg]
    rw [hR]
    obtain ⟨hok, h1, h2⟩ := hg
    have h1' : ¬ t < 0 := by omega
    have h2' : ¬ 100000 < t := by omega
    have HO := Lib.hid hok
    have HV := Lib.hid (scB_iff.1 hok)
    clear hok hR
    go_enter Try.func20, Try.ntmps20
    go_wp2_with fail
    refine (scvalid_walk _ _ _ s _ (S.ext (by repeat (first | with_reducible exact Ext.refl _ | with_reducible assumption | with_reducible apply Ext.alloc | with_reducible apply Ext.drew | (with_reducible refine Ext.setCell ?_ (by (try simp) <;> omega) _))))).mono ?_
    rw [HO.out]
    rintro e w1 ⟨rfl, x1⟩
    have X1 : Ext w w1 := Ext.trans (by repeat (first | with_reducible exact Ext.refl _ | with_reducible assumption | with_reducible apply Ext.alloc | with_reducible apply Ext.drew | (with_reducible refine Ext.setCell ?_ (by (try simp) <;> omega) _))) x1
    have b1 := block_ext x1 (block_alloc (block_new w (.cells #[.int .i64 s.voices, .slice an s.notes.length cn, .slice ap s.pairs.length cp, .slice ac s.cads.length cc] 26)) _)
    have b2 := block_ext x1 (block_at (w := w.alloc (.cells #[.int .i64 s.voices, .slice an s.notes.length cn, .slice ap s.pairs.length cp, .slice ac s.cads.length cc] 26)) (n := w.heap.size + 1) (by simp) (.cells #[.int .i64 t] 3))
    have c0 := block_cell b1 0 (.int .i64 s.voices) rfl
    have c1 := block_cell b1 1 (.slice an s.notes.length cn) rfl
    have c2 := block_cell b1 2 (.slice ap s.pairs.length cp) rfl
    have c3 := block_cell b1 3 (.slice ac s.cads.length cc) rfl
    have d0 := block_cell b2 0 (.int .i64 t) rfl
    clear x1
    go_wp2_with fail
    refine (chsnd_walk _ _ _ s _ t HV.out.sz.2.1 _ (S.ext X1) d0).mono ?_
    rintro e w2 ⟨v, rfl, SV, x2⟩
    go_wp2
    refine bodyPost_ret (v := .tuple #[v, .int .i64 0]) (by simp [results, Try.results20, go_sem]) rfl ⟨v, rfl, SV, X1.trans x2⟩
  · have hR : sndR s t = ([], 1) := by unfold sndR; rw [if_neg hg]
    rw [hR]
    cases hok : scB s with
    | false =>
      have HO := Lib.hid hok
      clear hok hR hg
      go_enter Try.func20, Try.ntmps20
      go_wp2_with fail
      refine (scvalid_walk _ _ _ s _ (S.ext (by repeat (first | with_reducible exact Ext.refl _ | with_reducible assumption | with_reducible apply Ext.alloc | with_reducible apply Ext.drew | (with_reducible refine Ext.setCell ?_ (by (try simp) <;> omega) _))))).mono ?_
      rw [HO.out]
      rintro e w1 ⟨rfl, x1⟩
      have X1 : Ext w w1 := Ext.trans (by repeat (first | with_reducible exact Ext.refl _ | with_reducible assumption | with_reducible apply Ext.alloc | with_reducible apply Ext.drew | (with_reducible refine Ext.setCell ?_ (by (try simp) <;> omega) _))) x1
      go_wp2
      refine bodyPost_ret (v := .tuple #[.slice none 0 0, .int .i64 1]) (by simp [results, Try.results20, go_sem]) rfl ⟨_, rfl, Sl.nil _ _ _, X1⟩
    | true =>
      have HO := Lib.hid hok
      have hg' : ¬ (0 ≤ t ∧ t ≤ 100000) := fun h => hg ⟨hok, h⟩
      clear hok hR hg
      by_cases h1 : t < 0
      all_goals
        (try (have h2 : 100000 < t := by omega))
        clear hg'
        go_enter Try.func20, Try.ntmps20
        go_wp2_with fail
        refine (scvalid_walk _ _ _ s _ (S.ext (by repeat (first | with_reducible exact Ext.refl _ | with_reducible assumption | with_reducible apply Ext.alloc | with_reducible apply Ext.drew | (with_reducible refine Ext.setCell ?_ (by (try simp) <;> omega) _))))).mono ?_
        rw [HO.out]
        rintro e w1 ⟨rfl, x1⟩
        have X1 : Ext w w1 := Ext.trans (by repeat (first | with_reducible exact Ext.refl _ | with_reducible assumption | with_reducible apply Ext.alloc | with_reducible apply Ext.drew | (with_reducible refine Ext.setCell ?_ (by (try simp) <;> omega) _))) x1
        have b2 := block_ext x1 (block_at (w := w.alloc (.cells #[.int .i64 s.voices, .slice an s.notes.length cn, .slice ap s.pairs.length cp, .slice ac s.cads.length cc] 26)) (n := w.heap.size + 1) (by simp) (.cells #[.int .i64 t] 3))
        have d0 := block_cell b2 0 (.int .i64 t) rfl
        clear x1 b2
        go_wp2
        refine bodyPost_ret (v := .tuple #[.slice none 0 0, .int .i64 1]) (by simp [results, Try.results20, go_sem]) rfl ⟨_, rfl, Sl.nil _ _ _, X1⟩

set_option maxHeartbeats 4000000 in
theorem held_walk (vn vp vc : Value) (s : Sc) (k : Int) (w : World) (S : ScR w vn vp vc s) : Calls Try.prog 23 #[.agg #[.int .i64 s.voices, vn, vp, vc], .int .i64 k] w fun e w' => ∃ v, e = .returned (.tuple #[v, .int .i64 (heldR s k).2]) ∧ Sl w' 1 encZ v (heldR s k).1 ∧ Ext w w' := by
  obtain ⟨an, cn, rfl, -, -, hln⟩ := S.nt.len
  obtain ⟨ap, cp, rfl, -, -, hlp⟩ := S.pr.len
  obtain ⟨ac, cc, rfl, -, -, hlc⟩ := S.cd.len
  by_cases hg : scB s = true ∧ 1 ≤ k ∧ k ≤ s.cads.length
  · have hR : heldR s k = (chooseL s.notes (heldP (s.C (k - 1).toNat)), 0) := by unfold heldR; rw [if_pos hg]
    rw [hR]
    obtain ⟨hok, h1, h2⟩ := hg
    obtain ⟨m, rfl⟩ : ∃ m : Nat, k = (m : Int) + 1 := ⟨(k - 1).toNat, by omega⟩
    have em : ((m : Int) + 1 - 1).toNat = m := by omega
    have hm : m < s.cads.length := by omega
    have hC := Sc.C_eq hm
    rw [em]
    obtain ⟨t, ht⟩ : ∃ t, s.C m = t := ⟨_, rfl⟩
    rw [ht] at hC ⊢
    have h1' : ¬ (m : Int) + 1 < 1 := by omega
    have h2' : ¬ (s.cads.length : Int) < (m : Int) + 1 := by omega
    have i1 : (0 : Int) ≤ (m : Int) := by omega
    have i2 : (m : Int) < (s.cads.length : Int) := by omega
    have HO := Lib.hid hok
    have HV := Lib.hid (scB_iff.1 hok)
    have HC := Lib.hid hC
    clear hok hR ht em hC h1 h2
    go_enter Try.func23, Try.ntmps23
    go_wp2_with fail
    refine (scvalid_walk _ _ _ s _ (S.ext (by repeat (first | with_reducible exact Ext.refl _ | with_reducible assumption | with_reducible apply Ext.alloc | with_reducible apply Ext.drew | (with_reducible refine Ext.setCell ?_ (by (try simp) <;> omega) _))))).mono ?_
    rw [HO.out]
    rintro e w1 ⟨rfl, x1⟩
    have X1 : Ext w w1 := Ext.trans (by repeat (first | with_reducible exact Ext.refl _ | with_reducible assumption | with_reducible apply Ext.alloc | with_reducible apply Ext.drew | (with_reducible refine Ext.setCell ?_ (by (try simp) <;> omega) _))) x1
    have b1 := block_ext x1 (block_new w (.cells #[.int .i64 s.voices, .slice an s.notes.length cn, .slice ap s.pairs.length cp, .slice ac s.cads.length cc] 26))
    have l1 := block_lt b1
    have l2 : ¬ w.heap.size = w1.heap.size := by omega
    obtain ⟨b, o, rfl, q0⟩ := Sl.num (S.cd.ext X1) m hm
    rw [← HC.out] at q0
    have c0 := block_cell b1 0 (.int .i64 s.voices) rfl
    have c1 := block_cell b1 1 (.slice an s.notes.length cn) rfl
    have c2 := block_cell b1 2 (.slice ap s.pairs.length cp) rfl
    have c3 := block_cell b1 3 (.slice (some ⟨b, o, none⟩) s.cads.length cc) rfl
    have CH := Lib.hid fun w' (y : Ext w1 w') => chheld_walk (.slice an s.notes.length cn) (.slice ap s.pairs.length cp) (.slice (some ⟨b, o, none⟩) s.cads.length cc) s w1.heap.size t HV.out.sz.2.1 w' ((S.ext X1).ext y)
    clear x1
    go_wp2_with fail
    refine (CH.out _ (by repeat (first | with_reducible exact Ext.refl _ | with_reducible assumption | with_reducible apply Ext.alloc | with_reducible apply Ext.drew | (with_reducible refine Ext.setCell ?_ (by (try simp) <;> omega) _))) (alloc_cell w1 _ _ 0 _ rfl)).mono ?_
    rintro e w2 ⟨v, rfl, SV, x2⟩
    have X2 : Ext w w2 := X1.trans (Ext.trans (by repeat (first | with_reducible exact Ext.refl _ | with_reducible assumption | with_reducible apply Ext.alloc | with_reducible apply Ext.drew | (with_reducible refine Ext.setCell ?_ (by (try simp) <;> omega) _))) x2)
    clear c0 c1 c2 c3 q0 x2
    go_wp2
    refine bodyPost_ret (v := .tuple #[v, .int .i64 0]) (by simp [results, Try.results23, go_sem]) rfl ⟨v, rfl, SV, X2⟩
  · have hR : heldR s k = ([], 1) := by unfold heldR; rw [if_neg hg]
    rw [hR]
    cases hok : scB s with
    | false =>
      have HO := Lib.hid hok
      clear hok hR hg
      go_enter Try.func23, Try.ntmps23
      go_wp2_with fail
      refine (scvalid_walk _ _ _ s _ (S.ext (by repeat (first | with_reducible exact Ext.refl _ | with_reducible assumption | with_reducible apply Ext.alloc | with_reducible apply Ext.drew | (with_reducible refine Ext.setCell ?_ (by (try simp) <;> omega) _))))).mono ?_
      rw [HO.out]
      rintro e w1 ⟨rfl, x1⟩
      have X1 : Ext w w1 := Ext.trans (by repeat (first | with_reducible exact Ext.refl _ | with_reducible assumption | with_reducible apply Ext.alloc | with_reducible apply Ext.drew | (with_reducible refine Ext.setCell ?_ (by (try simp) <;> omega) _))) x1
      go_wp2
      refine bodyPost_ret (v := .tuple #[.slice none 0 0, .int .i64 1]) (by simp [results, Try.results23, go_sem]) rfl ⟨_, rfl, Sl.nil _ _ _, X1⟩
    | true =>
      have HO := Lib.hid hok
      have hg' : ¬ (1 ≤ k ∧ k ≤ s.cads.length) := fun h => hg ⟨hok, h⟩
      clear hok hR hg
      by_cases h1 : k < 1
      all_goals
        (try (have h2 : (s.cads.length : Int) < k := by omega))
        clear hg'
        go_enter Try.func23, Try.ntmps23
        go_wp2_with fail
        refine (scvalid_walk _ _ _ s _ (S.ext (by repeat (first | with_reducible exact Ext.refl _ | with_reducible assumption | with_reducible apply Ext.alloc | with_reducible apply Ext.drew | (with_reducible refine Ext.setCell ?_ (by (try simp) <;> omega) _))))).mono ?_
        rw [HO.out]
        rintro e w1 ⟨rfl, x1⟩
        have X1 : Ext w w1 := Ext.trans (by repeat (first | with_reducible exact Ext.refl _ | with_reducible assumption | with_reducible apply Ext.alloc | with_reducible apply Ext.drew | (with_reducible refine Ext.setCell ?_ (by (try simp) <;> omega) _))) x1
        have b1 := block_ext x1 (block_new w (.cells #[.int .i64 s.voices, .slice an s.notes.length cn, .slice ap s.pairs.length cp, .slice ac s.cads.length cc] 26))
        have c3 := block_cell b1 3 (.slice ac s.cads.length cc) rfl
        clear x1 b1
        go_wp2
        refine bodyPost_ret (v := .tuple #[.slice none 0 0, .int .i64 1]) (by simp [results, Try.results23, go_sem]) rfl ⟨_, rfl, Sl.nil _ _ _, X1⟩
end Go.Proofs.Ytajicmghnllnmaa
