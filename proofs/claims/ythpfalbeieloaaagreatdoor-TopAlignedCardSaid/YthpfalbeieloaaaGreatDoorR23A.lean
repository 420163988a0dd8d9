/-
  Walks of the reference: Few, Plus, Minus.
-/
import Derived.Test.YthpfalbeieloaaaGreatDoorLibV
set_option linter.unusedVariables false
namespace Go.Proofs.YthpfalbeieloaaaGreatDoor
open Go.RowKit Go.Sx Go.Sx.Sz Go.Sx.Sc Go.Sx.Po

set_option maxRecDepth 100000 in
set_option maxHeartbeats 1000000 in
theorem rfew_walk (vn vp vc : Value) (s : Sc) (w : World) (S : ScR w vn vp vc s) : Calls Tryz.prog 5 #[.agg #[.int .i64 s.voices, vn, vp, vc]] w fun e w' => e = .returned (.bool (decide (s.notes.length ≤ 40) && decide (s.pairs.length ≤ 60))) ∧ Ext w w' := by
  obtain ⟨an, cn, rfl, -, -, hln⟩ := S.nt.len
  obtain ⟨ap, cp, rfl, -, -, hlp⟩ := S.pr.len
  obtain ⟨ac, cc, rfl, -, -, hlc⟩ := S.cd.len
  have X0 : Ext w (w.alloc (.cells #[.int .i64 s.voices, .slice an s.notes.length cn, .slice ap s.pairs.length cp, .slice ac s.cads.length cc] 26)) := (by repeat (first | with_reducible exact Ext.refl _ | with_reducible assumption | with_reducible apply Ext.alloc | with_reducible apply Ext.drew | (with_reducible refine Ext.setCell ?_ (by (try simp) <;> omega) _)))
  have b0_0 := block_new w (.cells #[.int .i64 s.voices, .slice an s.notes.length cn, .slice ap s.pairs.length cp, .slice ac s.cads.length cc] 26)
  obtain ⟨W0, hW0⟩ : ∃ W, (w.alloc (.cells #[.int .i64 s.voices, .slice an s.notes.length cn, .slice ap s.pairs.length cp, .slice ac s.cads.length cc] 26)) = W := ⟨_, rfl⟩
  obtain ⟨B0, hB0⟩ : ∃ B, w.heap.size = B := ⟨_, rfl⟩
  rw [hW0] at X0 b0_0
  rw [hB0] at b0_0
  have HZ0 : Hid (w.heap.size ≤ B0) := Lib.hid (by omega)
  have HW0 := Lib.hid hW0; have HB0 := Lib.hid hB0
  clear hW0 hB0
  have c1 := block_cell b0_0 1 _ rfl
  have c2 := block_cell b0_0 2 _ rfl
  clear b0_0 S
  obtain ⟨r, hr⟩ : ∃ r, (decide (s.notes.length ≤ 40) && decide (s.pairs.length ≤ 60)) = r := ⟨_, rfl⟩
  rw [hr]
  have HR := Lib.hid hr
  clear hr
  by_cases h1 : s.notes.length ≤ 40
  · by_cases h2 : s.pairs.length ≤ 60
    · have t1 : decide (s.notes.length ≤ 40) = true := decide_eq_true h1
      have t2 : decide (s.pairs.length ≤ 60) = true := decide_eq_true h2
      have HQ : Hid (r = true) := Lib.hid (by rw [← HR.out, t1, t2]; rfl)
      have u1 : decide ((s.notes.length : Int) ≤ 40) = true := decide_eq_true (by omega)
      have u2 : decide ((s.pairs.length : Int) ≤ 60) = true := decide_eq_true (by omega)
      clear h1 h2
      go_enter Tryz.func5, Tryz.ntmps5
      go_wp2
      go_ret
      exact ⟨by rw [HQ.out] <;> rfl, by rw [HW0.out]; exact X0⟩
    · have t1 : decide (s.notes.length ≤ 40) = true := decide_eq_true h1
      have t2 : decide (s.pairs.length ≤ 60) = false := decide_eq_false h2
      have HQ : Hid (r = false) := Lib.hid (by rw [← HR.out, t1, t2]; rfl)
      have u1 : decide ((s.notes.length : Int) ≤ 40) = true := decide_eq_true (by omega)
      have u2 : decide ((s.pairs.length : Int) ≤ 60) = false := decide_eq_false (by omega)
      clear h1 h2
      go_enter Tryz.func5, Tryz.ntmps5
      go_wp2
      go_ret
      exact ⟨by rw [HQ.out] <;> rfl, by rw [HW0.out]; exact X0⟩
  · have t1 : decide (s.notes.length ≤ 40) = false := decide_eq_false h1
    have HQ : Hid (r = false) := Lib.hid (by rw [← HR.out, t1]; rfl)
    have u1 : decide ((s.notes.length : Int) ≤ 40) = false := decide_eq_false (by omega)
    clear h1
    go_enter Tryz.func5, Tryz.ntmps5
    go_wp2
    go_ret
    exact ⟨by rw [HQ.out] <;> rfl, by rw [HW0.out]; exact X0⟩

end Go.Proofs.YthpfalbeieloaaaGreatDoor
