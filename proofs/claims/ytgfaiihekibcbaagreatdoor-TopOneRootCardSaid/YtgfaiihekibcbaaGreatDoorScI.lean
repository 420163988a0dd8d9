/-
  Walks: score.Section, Before, Sounding, Held, First.
-/
import Derived.Test.YtgfaiihekibcbaaGreatDoorLibC
import Derived.Test.YtgfaiihekibcbaaGreatDoorScH
set_option linter.unusedVariables false
namespace Go.Proofs.YtgfaiihekibcbaaGreatDoor
open Go.RowKit Go.Sx Go.Sx.Sz Go.Sx.Sc

set_option maxHeartbeats 4000000 in
theorem before_walk (vn vp vc : Value) (s : Sc) (n : Int) (w : World) (S : ScR w vn vp vc s) : Calls Tryz.prog 35 #[.agg #[.int .i64 s.voices, vn, vp, vc], .int .i64 n] w fun e w' => e = .returned (.tuple #[.int .i64 (befR s n).1, .int .i64 (befR s n).2]) ∧ Ext w w' := by
  obtain ⟨an, cn, rfl, -, -, hln⟩ := S.nt.len
  obtain ⟨ap, cp, rfl, -, -, hlp⟩ := S.pr.len
  obtain ⟨ac, cc, rfl, -, -, hlc⟩ := S.cd.len
  by_cases hg : scB s = true ∧ 0 ≤ n ∧ n < s.notes.length
  · obtain ⟨hok, hn0, hn1⟩ := hg
    obtain ⟨k, rfl⟩ : ∃ k : Nat, n = k := ⟨n.toNat, by omega⟩
    have hk : k < s.notes.length := by omega
    have hR : befR s k = ((if (s.N k).tied = true then findL s.notes (endP (s.N k).v (s.N k).f) 0 else -1), 0) := by
      unfold befR; rw [if_pos ⟨hok, hn0, hn1⟩, Int.toNat_natCast]
    have HO := Lib.hid hok
    have HNE := Lib.hid (Sc.N_eq hk)
    obtain ⟨⟨nv, nf, nu, nx, nt⟩, hN⟩ : ∃ x, s.N k = x := ⟨_, rfl⟩
    rw [hN] at hR
    dsimp only at hR
    have hNE := HNE.out
    rw [hN] at hNE
    have HN := Lib.hid hNE; have HR := Lib.hid hR
    have hk2 : ¬ (k : Int) < 0 := by omega
    have hk3 : ¬ (s.notes.length : Int) ≤ (k : Int) := by omega
    clear hok hR hN hNE
    go_enter Tryz.func35, Tryz.ntmps35
    go_wp2_with fail
    refine (scvalid_walk _ _ _ s _ (S.ext (by repeat (first | with_reducible exact Ext.refl _ | with_reducible assumption | with_reducible apply Ext.alloc | with_reducible apply Ext.drew | (with_reducible refine Ext.setCell ?_ (by (try simp) <;> omega) _))))).mono ?_
    rw [HO.out]
    rintro e w1 ⟨rfl, x1⟩
    have X1 : Ext w w1 := Ext.trans (by repeat (first | with_reducible exact Ext.refl _ | with_reducible assumption | with_reducible apply Ext.alloc | with_reducible apply Ext.drew | (with_reducible refine Ext.setCell ?_ (by (try simp) <;> omega) _))) x1
    have b1 := block_ext x1 (block_new w (.cells #[.int .i64 s.voices, .slice an s.notes.length cn, .slice ap s.pairs.length cp, .slice ac s.cads.length cc] 26))
    have l1 := block_lt b1
    have l2 : ¬ w.heap.size = w1.heap.size := by omega
    obtain ⟨b, o, rfl, A⟩ := Sl.nt (S.nt.ext X1) k hk
    rw [← HN.out] at A
    obtain ⟨q0, q1, q2, q3, q4, q5, q6, q7, q8, q9⟩ := A
    dsimp only at q0 q1 q2 q3 q4 q5 q6 q7 q8 q9
    have c1 := block_cell b1 1 (.slice (some ⟨b, o, none⟩) s.notes.length cn) rfl
    clear x1 b1
    cases nt with
    | false =>
      have HR2 : Hid (befR s k = (-1, 0)) := Lib.hid (by rw [HR.out]; rfl)
      clear HR
      go_wp2
      go_ret2
      exact ⟨by rw [HR2.out] <;> rfl, (by repeat (first | with_reducible exact Ext.refl _ | with_reducible assumption | with_reducible apply Ext.alloc | with_reducible apply Ext.drew | (with_reducible refine Ext.setCell ?_ (by (try simp) <;> omega) _)))⟩
    | true =>
      have HR2 : Hid (befR s k = (findL s.notes (endP nv nf) 0, 0)) := Lib.hid (by rw [HR.out]; rfl)
      have IX := Lib.hid fun w' (y : Ext w1 w') => idxf_walk (.slice (some ⟨b, o, none⟩) s.notes.length cn) s.notes w1.heap.size nv nf w' ((S.nt.ext X1).ext y)
      clear HR
      go_wp2_with fail
      refine (IX.out _ (by repeat (first | with_reducible exact Ext.refl _ | with_reducible assumption | with_reducible apply Ext.alloc | with_reducible apply Ext.drew | (with_reducible refine Ext.setCell ?_ (by (try simp) <;> omega) _))) (alloc_cell w1 _ _ 0 _ rfl) (alloc_cell w1 _ _ 1 _ rfl)).mono ?_
      rintro e w2 ⟨rfl, x2⟩
      have X2 : Ext w w2 := X1.trans (Ext.trans (by repeat (first | with_reducible exact Ext.refl _ | with_reducible assumption | with_reducible apply Ext.alloc | with_reducible apply Ext.drew | (with_reducible refine Ext.setCell ?_ (by (try simp) <;> omega) _))) x2)
      clear q0 q1 q2 q3 q4 q5 q6 q7 q8 q9 c1
      go_wp2
      go_ret2
      exact ⟨by rw [HR2.out] <;> rfl, X2⟩
  · have hR : befR s n = (0, 1) := by unfold befR; rw [if_neg hg]
    have HR := Lib.hid hR
    cases hok : scB s with
    | false =>
      have HO := Lib.hid hok
      clear hok hR hg
      go_enter Tryz.func35, Tryz.ntmps35
      go_wp2_with fail
      refine (scvalid_walk _ _ _ s _ (S.ext (by repeat (first | with_reducible exact Ext.refl _ | with_reducible assumption | with_reducible apply Ext.alloc | with_reducible apply Ext.drew | (with_reducible refine Ext.setCell ?_ (by (try simp) <;> omega) _))))).mono ?_
      rw [HO.out]
      rintro e w1 ⟨rfl, x1⟩
      have X1 : Ext w w1 := Ext.trans (by repeat (first | with_reducible exact Ext.refl _ | with_reducible assumption | with_reducible apply Ext.alloc | with_reducible apply Ext.drew | (with_reducible refine Ext.setCell ?_ (by (try simp) <;> omega) _))) x1
      go_wp2
      go_ret2
      exact ⟨by rw [HR.out] <;> rfl, X1⟩
    | true =>
      have HO := Lib.hid hok
      have hg' : ¬ (0 ≤ n ∧ n < s.notes.length) := fun h => hg ⟨hok, h⟩
      clear hok hR hg
      by_cases h1 : n < 0
      · clear hg'
        go_enter Tryz.func35, Tryz.ntmps35
        go_wp2_with fail
        refine (scvalid_walk _ _ _ s _ (S.ext (by repeat (first | with_reducible exact Ext.refl _ | with_reducible assumption | with_reducible apply Ext.alloc | with_reducible apply Ext.drew | (with_reducible refine Ext.setCell ?_ (by (try simp) <;> omega) _))))).mono ?_
        rw [HO.out]
        rintro e w1 ⟨rfl, x1⟩
        have X1 : Ext w w1 := Ext.trans (by repeat (first | with_reducible exact Ext.refl _ | with_reducible assumption | with_reducible apply Ext.alloc | with_reducible apply Ext.drew | (with_reducible refine Ext.setCell ?_ (by (try simp) <;> omega) _))) x1
        go_wp2
        go_ret2
        exact ⟨by rw [HR.out] <;> rfl, X1⟩
      · have h2 : (s.notes.length : Int) ≤ n := by omega
        clear hg'
        go_enter Tryz.func35, Tryz.ntmps35
        go_wp2_with fail
        refine (scvalid_walk _ _ _ s _ (S.ext (by repeat (first | with_reducible exact Ext.refl _ | with_reducible assumption | with_reducible apply Ext.alloc | with_reducible apply Ext.drew | (with_reducible refine Ext.setCell ?_ (by (try simp) <;> omega) _))))).mono ?_
        rw [HO.out]
        rintro e w1 ⟨rfl, x1⟩
        have X1 : Ext w w1 := Ext.trans (by repeat (first | with_reducible exact Ext.refl _ | with_reducible assumption | with_reducible apply Ext.alloc | with_reducible apply Ext.drew | (with_reducible refine Ext.setCell ?_ (by (try simp) <;> omega) _))) x1
        have b1 := block_ext x1 (block_new w (.cells #[.int .i64 s.voices, .slice an s.notes.length cn, .slice ap s.pairs.length cp, .slice ac s.cads.length cc] 26))
        have c1 := block_cell b1 1 (.slice an s.notes.length cn) rfl
        clear x1 b1
        go_wp2
        go_ret2
        exact ⟨by rw [HR.out] <;> rfl, X1⟩

end Go.Proofs.YtgfaiihekibcbaaGreatDoor
