/-
  Walks of potential: Parent.
-/
import Derived.Test.YtgfaiihekibcbaaGreatDoorPlB
import Derived.Test.YtgfaiihekibcbaaGreatDoorLibC
set_option linter.unusedVariables false
namespace Go.Proofs.YtgfaiihekibcbaaGreatDoor
open Go.RowKit Go.Sx Go.Sx.Sz Go.Sx.Sc Go.Sx.Po

set_option maxRecDepth 100000 in
set_option maxHeartbeats 4000000 in
theorem parent_walk (vn vp vc : Value) (s : Sc) (n : Int) (w : World) (S : ScR w vn vp vc s) :
    Calls Tryz.prog 9 #[.agg #[.int .i64 s.voices, vn, vp, vc], .int .i64 n] w fun e w' => e = .returned (.tuple #[.agg #[.int .i64 (parR s n).1.a, .int .i64 (parR s n).1.b, .int .i64 (parR s n).1.k], .int .i64 (parR s n).2]) ∧ Ext w w' := by
  obtain ⟨an, cn, rfl, -, -, hln⟩ := S.nt.len
  obtain ⟨ap, cp, rfl, -, -, hlp⟩ := S.pr.len
  obtain ⟨ac, cc, rfl, -, -, hlc⟩ := S.cd.len
  have X0 : Ext w ((w.alloc (.cells #[.int .i64 s.voices, .slice an s.notes.length cn, .slice ap s.pairs.length cp, .slice ac s.cads.length cc] 26)).alloc (.cells #[.int .i64 0, .int .i64 0, .int .i64 0] 39)) := (by repeat (first | with_reducible exact Ext.refl _ | with_reducible assumption | with_reducible apply Ext.alloc | with_reducible apply Ext.drew | (with_reducible refine Ext.setCell ?_ (by (try simp) <;> omega) _)))
  have b0_0 := block_alloc (block_new w (.cells #[.int .i64 s.voices, .slice an s.notes.length cn, .slice ap s.pairs.length cp, .slice ac s.cads.length cc] 26)) (.cells #[.int .i64 0, .int .i64 0, .int .i64 0] 39)
  have b0_1 := block_at (w := (w.alloc (.cells #[.int .i64 s.voices, .slice an s.notes.length cn, .slice ap s.pairs.length cp, .slice ac s.cads.length cc] 26))) (n := w.heap.size + 1) (by simp) (.cells #[.int .i64 0, .int .i64 0, .int .i64 0] 39)
  obtain ⟨W0, hW0⟩ : ∃ W, ((w.alloc (.cells #[.int .i64 s.voices, .slice an s.notes.length cn, .slice ap s.pairs.length cp, .slice ac s.cads.length cc] 26)).alloc (.cells #[.int .i64 0, .int .i64 0, .int .i64 0] 39)) = W := ⟨_, rfl⟩
  obtain ⟨B0, hB0⟩ : ∃ B, w.heap.size = B := ⟨_, rfl⟩
  rw [hW0] at X0 b0_0 b0_1
  rw [hB0] at b0_0 b0_1
  have HZ0 : Hid (w.heap.size ≤ B0) := Lib.hid (by omega)
  have HW0 := Lib.hid hW0; have HB0 := Lib.hid hB0
  clear hW0 hB0
  have CB := Lib.hid (boxS b0_0)
  have HR := Lib.hid b0_1
  have S1 := S.ext X0
  clear S b0_0 b0_1
  go_enter Tryz.func9, Tryz.ntmps9
  obtain ⟨c0, c1, c2, c3⟩ := CB.out _ (Ext.refl _)
  go_wp2_with fail
  rw [HW0.out, HB0.out]
  clear HW0 HB0
  refine (scvalid_walk _ _ _ s _ S1).mono ?_
  rintro e w1 ⟨rfl, x1⟩
  clear c0 c1 c2 c3
  obtain ⟨c0, c1, c2, c3⟩ := CB.out _ x1
  have hRR := block_ext x1 HR.out
  by_cases hv : scB s = true ∧ 0 ≤ n ∧ n < s.notes.length
  case neg =>
    have HP : Hid (parR s n = (⟨0, 0, 0⟩, 1)) := Lib.hid (if_neg hv)
    have n2 := setRow_at hRR #[.int .i64 0, .int .i64 0, .int .i64 0]
    have XX := (X0.trans x1).setRow (g := B0 + 1) (by have := HZ0.out; omega) #[.int .i64 0, .int .i64 0, .int .i64 0]
    have e0 := block_cell n2 0 _ rfl; have e1 := block_cell n2 1 _ rfl; have e2 := block_cell n2 2 _ rfl
    have HRR := Lib.hid hRR
    have CASES : Hid (scB s = false ∨ (scB s = true ∧ n < 0) ∨ (scB s = true ∧ ¬ n < 0 ∧ (s.notes.length : Int) ≤ n)) := Lib.hid (by
      cases h : scB s with
      | false => exact .inl rfl
      | true =>
        by_cases h1 : n < 0
        · exact .inr (.inl ⟨rfl, h1⟩)
        · exact .inr (.inr ⟨rfl, h1, Int.not_lt.1 (fun h2 => hv ⟨h, Int.not_lt.1 h1, h2⟩)⟩))
    clear hv n2 hRR
    rcases CASES.out with h | ⟨h, h1⟩ | ⟨h, h1, h2⟩
    all_goals
      rw [h]
      clear h
      go_wp2_with (first | (refine wpList_store_row rfl _ _ _ rfl (B0 + 1) _ rfl rfl _ _ HRR.out (by kernel_rfl) rfl (by simp [Value.oneCell']) ?_) | fail)
      refine bodyPost_ret (v := .tuple #[.agg #[.int .i64 0, .int .i64 0, .int .i64 0], .int .i64 1]) (by simp [results, Tryz.results9, go_sem, e0, e1, e2]) rfl ⟨by rw [HP.out], XX⟩
  case pos =>
  obtain ⟨h, h1, h2⟩ := hv
  obtain ⟨k, rfl⟩ : ∃ k : Nat, n = (k : Int) := ⟨n.toNat, by omega⟩
  have HP : Hid (parR s k = (upF s k, 0)) := Lib.hid (by unfold parR; rw [if_pos ⟨h, h1, h2⟩, Int.toNat_natCast])
  have HOK := Lib.hid (scB_iff.1 h)
  have hk : k < s.notes.length := by omega
  have t1 : decide ((k : Int) < 0) = false := decide_eq_false (by omega)
  have t2 : decide (s.notes.length ≤ k) = false := decide_eq_false (by omega)
  rw [h]
  clear h h2 hRR
  go_wp2_with fail
  refine (plant_walk _ _ _ s HOK.out _ (S1.ext x1)).mono ?_
  rintro e w2 ⟨g, u, q, rfl, -, -, -, T, y2⟩
  have x2 := x1.trans y2
  clear c0 c1 c2 c3
  obtain ⟨u0, u1, u2⟩ := T.upC k hk
  have ct := T.c4
  obtain ⟨p, hp⟩ : ∃ p, upF s k = p := ⟨_, rfl⟩
  rw [hp] at u0 u1 u2 HP
  have hRR := block_ext x2 HR.out
  have n2 := setRow_at hRR #[.int .i64 p.a, .int .i64 p.b, .int .i64 p.k]
  have XX := (X0.trans x2).setRow (g := B0 + 1) (by have := HZ0.out; omega) #[.int .i64 p.a, .int .i64 p.b, .int .i64 p.k]
  have e0 := block_cell n2 0 _ rfl; have e1 := block_cell n2 1 _ rfl; have e2 := block_cell n2 2 _ rfl
  have HRR := Lib.hid hRR
  have i2 : (k : Int) < (s.notes.length : Int) := by omega
  clear hRR n2 T hp
  go_wp2_with (first | (refine wpList_store_row rfl _ _ _ rfl (B0 + 1) _ rfl rfl _ _ HRR.out (by kernel_rfl) rfl (by simp [Value.oneCell']) ?_) | fail)
  refine bodyPost_ret (v := .tuple #[.agg #[.int .i64 p.a, .int .i64 p.b, .int .i64 p.k], .int .i64 0]) (by simp [results, Tryz.results9, go_sem, e0, e1, e2]) rfl ⟨by rw [HP.out], XX⟩
end Go.Proofs.YtgfaiihekibcbaaGreatDoor
