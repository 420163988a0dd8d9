/-
  Walks: schismalaw39.rebound, within.
-/
import Derived.Test.YtglngmfnoganpaaDoorAuG
import Derived.Test.YtglngmfnoganpaaDoorLibB
set_option linter.unusedVariables false
namespace Go.Proofs.YtglngmfnoganpaaDoor
open Go.RowKit Go.Sx Go.Sx.Sz Go.Sx.Sc Go.Sx.Au

theorem et_pr39 : ET Tryd.prog 23 51 9 72 := .mk' (z := .agg #[.int .i64 0, .int .i64 0, .int .i64 0, .int .i64 0, .int .i64 0, .int .i64 0, .int .i64 0, .int .i64 0, .int .i64 0]) Tryd.underlying23 (by kernel_rfl) rfl (by decide) (by decide)

def rebS (s : Sc) (k : Nat) (b : Int) : Sc := { s with pairs := s.pairs.set k { s.P k with bound := b } }

set_option maxRecDepth 100000 in
set_option maxHeartbeats 4000000 in
theorem rebound_walk (vn vp vc : Value) (s : Sc) (hsz : s.pairs.length ≤ 400) (k : Nat) (hk : k < s.pairs.length) (b : Int) (w : World) (S : ScR w vn vp vc s) : Calls Tryd.prog 27 #[.agg #[.int .i64 s.voices, vn, vp, vc], .int .i64 k, .int .i64 b] w fun e w' =>
    ∃ up, e = .returned (.agg #[.int .i64 s.voices, vn, up, vc]) ∧ ScR w' vn up vc (rebS s k b) ∧ Ext w w' := by
  obtain ⟨an, cn, rfl, -, -, hln⟩ := S.nt.len
  obtain ⟨ap, cp, rfl, -, -, hlp⟩ := S.pr.len
  obtain ⟨ac, cc, rfl, -, -, hlc⟩ := S.cd.len
  have X0 : Ext w ((w.alloc (.cells #[.int .i64 s.voices, .slice an s.notes.length cn, .slice ap s.pairs.length cp, .slice ac s.cads.length cc] 26)).alloc (.cells #[.int .i64 0, .slice none 0 0, .slice none 0 0, .slice none 0 0] 26)) := (by repeat (first | with_reducible exact Ext.refl _ | with_reducible assumption | with_reducible apply Ext.alloc | with_reducible apply Ext.drew | (with_reducible refine Ext.setCell ?_ (by (try simp) <;> omega) _)))
  have b0_0 := block_alloc (block_new w (.cells #[.int .i64 s.voices, .slice an s.notes.length cn, .slice ap s.pairs.length cp, .slice ac s.cads.length cc] 26)) (.cells #[.int .i64 0, .slice none 0 0, .slice none 0 0, .slice none 0 0] 26)
  have b0_1 := block_at (w := (w.alloc (.cells #[.int .i64 s.voices, .slice an s.notes.length cn, .slice ap s.pairs.length cp, .slice ac s.cads.length cc] 26))) (n := w.heap.size + 1) (by simp) (.cells #[.int .i64 0, .slice none 0 0, .slice none 0 0, .slice none 0 0] 26)
  obtain ⟨W0, hW0⟩ : ∃ W, ((w.alloc (.cells #[.int .i64 s.voices, .slice an s.notes.length cn, .slice ap s.pairs.length cp, .slice ac s.cads.length cc] 26)).alloc (.cells #[.int .i64 0, .slice none 0 0, .slice none 0 0, .slice none 0 0] 26)) = W := ⟨_, rfl⟩
  obtain ⟨B0, hB0⟩ : ∃ B, w.heap.size = B := ⟨_, rfl⟩
  rw [hW0] at X0 b0_0 b0_1
  rw [hB0] at b0_0 b0_1
  have HZ0 : Hid (w.heap.size ≤ B0) := Lib.hid (by omega)
  have HW0 := Lib.hid hW0; have HB0 := Lib.hid hB0
  clear hW0 hB0
  have S1 := S.ext X0
  have o0 : OwnR (W0.alloc (.cells #[] 51)) W0.heap.size 51 9 encP (.slice (some ⟨W0.heap.size, 0, none⟩) 0 0) [] := OwnR.lit W0 #[] [] 0 rfl (Nat.le_refl _) rfl rfl (by simp [maxLen])
  have e1 := Ext.alloc' W0 (.cells #[] 51)
  have S2 := S1.pr.ext e1
  have q0 := block_ext e1 b0_0
  have c2 := block_cell q0 2 _ rfl
  have HBB : Hid (w.heap.size = B0) := Lib.hid HB0.out
  have HZZ : Hid (w.heap.size + 2 = W0.heap.size) := Lib.hid (by rw [← HW0.out]; simp)
  have hz1 := e1.size
  go_enter Tryd.func27, Tryd.ntmps27
  go_upto_region 1 with fail
  rw [HW0.out, HB0.out]
  clear HW0 HB0
  have hz0 := HZZ.out
  have i1 : (0 : Int) ≤ (k : Int) := by omega
  have i2 : (k : Int) < (s.pairs.length : Int) := by omega
  have hPk : s.P k = s.pairs[k] := Sc.P_eq hk
  have HPK := Lib.hid hPk
  clear hPk
  go_wp2_with (first | (at_builtin; go_must (refine wpList_app0 et_pr39 rfl (.tmp 7) (.tmp 9) rfl o0 rfl s.pairs _ S2 rfl (fun _ _ => rfl) (by omega) hz1 ?_; intro v' w3 hown3 x3 _); (
    obtain ⟨g, cap, rfl, hg1, hg2, hg3⟩ := hown3.block (by rintro h9; rw [h9] at hk; exact absurd hk (Nat.not_lt_zero _))
    have hne : ¬ g = B0 := by have := HBB.out; omega
    have hne' : ¬ B0 = g := by have := HBB.out; omega
    have d0 := block_ext x3 q0
    have dc := block_cell d0 2 _ rfl
    have df := block_free d0 2
    have m0 := block_set d0 2 (.slice (some ⟨g, 0, none⟩) s.pairs.length cap)
    have l2 := block_cell m0 2 _ rfl
    have n0 := (hown3.setCell (p := ⟨B0, 2, none⟩) (by simp [Value.ownBlock]; exact hne) (.slice (some ⟨g, 0, none⟩) s.pairs.length cap))
    have hcc := n0.cell (fun _ _ => rfl) k 8 hk (by omega)
    have hfr := hg3 (k * 9 + 8)
    have m1 := block_ne m0 (g := g) (k * 9 + 8) (.int .i64 b) hne'
    have n1 := n0.store (fun _ _ => rfl) k 8 hk (by omega) { s.P k with bound := b } (.int .i64 b) (by rw [HPK.out]; rfl)
    have y1 := block_cell m1 0 _ rfl
    have y2 := block_cell m1 1 _ rfl
    have y3 := block_cell m1 2 _ rfl
    have y4 := block_cell m1 3 _ rfl
    have HM1 := Lib.hid m1; have HN1 := Lib.hid n1; have HX3 := Lib.hid x3
    have br := block_ne (block_ne (block_ext (e1.trans x3) b0_1) (g := B0) 2 (.slice (some ⟨g, 0, none⟩) s.pairs.length cap) (by omega)) (g := g) (k * 9 + 8) (.int .i64 b) (by have := HBB.out; omega)
    have HBR := Lib.hid br
    clear m0 m1 n0 n1 hg3 d0 c2 q0 br)) | (refine wpList_store_row rfl _ _ _ rfl (B0 + 1) _ rfl rfl _ _ (HBR.out) (by kernel_rfl) rfl (by simp [Value.oneCell']) ?_) | fail)
  have b9 := setRow_at HBR.out #[.int .i64 s.voices, .slice an s.notes.length cn, .slice (some ⟨g, 0, none⟩) s.pairs.length cap, .slice ac s.cads.length cc]
  have t0 := block_cell b9 0 _ rfl; have t1 := block_cell b9 1 _ rfl; have t2 := block_cell b9 2 _ rfl; have t3 := block_cell b9 3 _ rfl
  have XX : Ext w (((w3.setCell ⟨B0, 2, none⟩ (.slice (some ⟨g, 0, none⟩) s.pairs.length cap)).setCell ⟨g, k * 9 + 8, none⟩ (.int .i64 b)).setRow (B0 + 1) #[.int .i64 s.voices, .slice an s.notes.length cn, .slice (some ⟨g, 0, none⟩) s.pairs.length cap, .slice ac s.cads.length cc]) :=
    (((X0.trans (e1.trans HX3.out)).setCell (p := ⟨B0, 2, none⟩) (by have := HBB.out; show w.heap.size ≤ B0; omega) _).setCell (p := ⟨g, k * 9 + 8, none⟩) (by show w.heap.size ≤ g; omega) _).setRow (by have := HBB.out; omega) _
  have NP := (HN1.out.setRow (g := B0 + 1) (by simp [Value.ownBlock]; have := HBB.out; omega) #[.int .i64 s.voices, .slice an s.notes.length cn, .slice (some ⟨g, 0, none⟩) s.pairs.length cap, .slice ac s.cads.length cc]).sl (fun _ _ => rfl) (by rw [List.length_set]; omega)
  clear b9 y1 y2 y3 y4 hcc l2
  exact bodyPost_ret (v := .agg #[.int .i64 s.voices, .slice an s.notes.length cn, .slice (some ⟨g, 0, none⟩) s.pairs.length cap, .slice ac s.cads.length cc]) (by simp [results, Tryd.results27, go_sem, t0, t1, t2, t3]) rfl ⟨_, rfl, ⟨S.nt.ext XX, NP, S.cd.ext XX⟩, XX⟩

set_option maxRecDepth 100000 in
set_option maxHeartbeats 4000000 in
theorem lwithin_walk (a : S2) (ha : szOk a = true) (by' u : Int) (hb : -128 ≤ by' ∧ by' ≤ 127) (hu : 0 ≤ u ∧ u ≤ 4294967295) (w : World) : Calls Tryd.prog 26 #[.agg #[.int .i64 a.lo, .int .i64 a.hi], .int .i8 by', .int .u32 u] w fun e w' =>
    ∃ z, e = .returned (.int .i64 z) ∧ (a.lo ≤ z ∧ z ≤ a.hi) ∧ Ext w w' := by
  obtain ⟨l, t⟩ := a
  rw [szOk_iff] at ha
  dsimp only at ha
  obtain ⟨a1, a2, a3⟩ := ha
  obtain ⟨u1, u2⟩ := hu
  obtain ⟨r, hr⟩ : ∃ r, by'.tmod 3 = r := ⟨_, rfl⟩
  have hr2 : -2 ≤ r ∧ r ≤ 2 := by have h1 := Int.tmod_lt_of_pos by' (show (0 : Int) < 3 by omega); have h2 := Int.lt_tmod_of_pos by' (show (0 : Int) < 3 by omega); omega
  by_cases h0 : r = 0
  · subst h0
    have hm1 : 0 ≤ u % (t - l + 1) := Int.emod_nonneg _ (by omega)
    have hm2 : u % (t - l + 1) < t - l + 1 := Int.emod_lt_of_pos _ (by omega)
    have hne : ¬ (t - l + 1 = 0) := by omega
    have hpos : 0 < t - l + 1 := by omega
    have X0 : Ext w (w.alloc (.cells #[.int .i64 l, .int .i64 t] 56)) := (by repeat (first | with_reducible exact Ext.refl _ | with_reducible assumption | with_reducible apply Ext.alloc | with_reducible apply Ext.drew | (with_reducible refine Ext.setCell ?_ (by (try simp) <;> omega) _)))
    have b0_0 := block_new w (.cells #[.int .i64 l, .int .i64 t] 56)
    obtain ⟨W0, hW0⟩ : ∃ W, (w.alloc (.cells #[.int .i64 l, .int .i64 t] 56)) = W := ⟨_, rfl⟩
    obtain ⟨B0, hB0⟩ : ∃ B, w.heap.size = B := ⟨_, rfl⟩
    rw [hW0] at X0 b0_0
    rw [hB0] at b0_0
    have HZ0 : Hid (w.heap.size ≤ B0) := Lib.hid (by omega)
    have HW0 := Lib.hid hW0; have HB0 := Lib.hid hB0
    clear hW0 hB0
    have c0 := block_cell b0_0 0 _ rfl; have c1 := block_cell b0_0 1 _ rfl
    go_enter Tryd.func26, Tryd.ntmps26
    go_wp2_with fail
    rw [HW0.out, HB0.out]
    clear HW0 HB0
    go_quiet (fail)
    go_wp2
    go_ret
    exact ⟨l + u % (t - l + 1), by first | rfl | (rw [IntWalk.i64_in _ (by omega)]; rfl) | simp [IntKind.wrap] , by omega, X0.drewN _⟩
  · rcases (show r = -2 ∨ r = -1 ∨ r = 1 ∨ r = 2 by omega) with rfl | rfl | rfl | rfl
    all_goals
      go_enter Tryd.func26, Tryd.ntmps26
      go_wp2
      go_ret
      exact ⟨_, rfl, by omega, (by repeat (first | with_reducible exact Ext.refl _ | with_reducible assumption | with_reducible apply Ext.alloc | with_reducible apply Ext.drew | (with_reducible refine Ext.setCell ?_ (by (try simp) <;> omega) _)))⟩
end Go.Proofs.YtglngmfnoganpaaDoor
