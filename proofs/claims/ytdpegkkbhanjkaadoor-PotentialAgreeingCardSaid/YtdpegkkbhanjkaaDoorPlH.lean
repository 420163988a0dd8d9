/-
  Walks of potential: exceeds.
-/
import Derived.Test.YtdpegkkbhanjkaaDoorPlD
set_option linter.unusedVariables false
namespace Go.Proofs.YtdpegkkbhanjkaaDoor
open Go.RowKit Go.Sx Go.Sx.Sz Go.Sx.Sc Go.Sx.Po

set_option maxRecDepth 100000 in
set_option maxHeartbeats 4000000 in
theorem exc_walk (g u q : Nat) (vs : Int) (vn vp vc vx : Value) (len : Nat) (F : Nat → St) (G : Nat → V6) (xs : List V6) (p : Pr) (a b : Nat) (hpa : p.a = a) (hpb : p.b = b) (ha : a < xs.length) (hb : b < xs.length) (h1 : Sml 32 xs[a]) (h2 : Sml 32 xs[b]) (h3 : Sml 16 p.want) (w : World) (T : TreeR w g u q vs vn vp vc len F G vx) (S : Sl w 6 V6.list vx xs) :
    Calls Tryd.prog 34 #[.pointer (some ⟨g, 0, none⟩), .agg #[.int .i64 p.a, .int .i64 p.b, .int .i64 p.want.a, .int .i64 p.want.b, .int .i64 p.want.c, .int .i64 p.want.d, .int .i64 p.want.e, .int .i64 p.want.f, .int .i64 p.bound]] w fun e w' => e = .returned (.agg #[.int .i64 ((xs[b].add xs[a] (-1)).add p.want (-1)).a, .int .i64 ((xs[b].add xs[a] (-1)).add p.want (-1)).b, .int .i64 ((xs[b].add xs[a] (-1)).add p.want (-1)).c, .int .i64 ((xs[b].add xs[a] (-1)).add p.want (-1)).d, .int .i64 ((xs[b].add xs[a] (-1)).add p.want (-1)).e, .int .i64 ((xs[b].add xs[a] (-1)).add p.want (-1)).f]) ∧ Ext w w' := by
  obtain ⟨ax, cx, rfl, -, -, hlx⟩ := S.len
  obtain ⟨x, hx⟩ : ∃ x, xs[a] = x := ⟨_, rfl⟩
  obtain ⟨y, hy⟩ : ∃ y, xs[b] = y := ⟨_, rfl⟩
  obtain ⟨d, hd⟩ : ∃ d, y.add x (-1) = d := ⟨_, rfl⟩
  obtain ⟨r, hr⟩ : ∃ r, d.add p.want (-1) = r := ⟨_, rfl⟩
  rw [hx] at h1; rw [hy] at h2
  have h4 : Sml 64 d := by rw [← hd]; exact Sml.add (M := 32) (N := 32) h2 h1 (.inr rfl)
  have AW := Lib.hid fun w' => padd_walk y x (-1) (.inr rfl) (h2.mono (by omega)) (h1.mono (by omega)) w'
  have DW := Lib.hid fun w' => padd_walk d p.want (-1) (.inr rfl) (h4.mono (by omega)) (h3.mono (by omega)) w'
  rw [hd] at AW; rw [hr] at DW
  rw [hx, hy, hd, hr]
  have X0 : Ext w ((w.alloc (.cells #[.int .i64 p.a, .int .i64 p.b, .int .i64 p.want.a, .int .i64 p.want.b, .int .i64 p.want.c, .int .i64 p.want.d, .int .i64 p.want.e, .int .i64 p.want.f, .int .i64 p.bound] 53)).alloc (.cells #[.int .i64 0, .int .i64 0, .int .i64 0, .int .i64 0, .int .i64 0, .int .i64 0] 41)) := (by repeat (first | with_reducible exact Ext.refl _ | with_reducible assumption | with_reducible apply Ext.alloc | with_reducible apply Ext.drew | (with_reducible refine Ext.setCell ?_ (by (try simp) <;> omega) _)))
  have b0_0 := block_alloc (block_new w (.cells #[.int .i64 p.a, .int .i64 p.b, .int .i64 p.want.a, .int .i64 p.want.b, .int .i64 p.want.c, .int .i64 p.want.d, .int .i64 p.want.e, .int .i64 p.want.f, .int .i64 p.bound] 53)) (.cells #[.int .i64 0, .int .i64 0, .int .i64 0, .int .i64 0, .int .i64 0, .int .i64 0] 41)
  have b0_1 := block_at (w := (w.alloc (.cells #[.int .i64 p.a, .int .i64 p.b, .int .i64 p.want.a, .int .i64 p.want.b, .int .i64 p.want.c, .int .i64 p.want.d, .int .i64 p.want.e, .int .i64 p.want.f, .int .i64 p.bound] 53))) (n := w.heap.size + 1) (by simp) (.cells #[.int .i64 0, .int .i64 0, .int .i64 0, .int .i64 0, .int .i64 0, .int .i64 0] 41)
  obtain ⟨W0, hW0⟩ : ∃ W, ((w.alloc (.cells #[.int .i64 p.a, .int .i64 p.b, .int .i64 p.want.a, .int .i64 p.want.b, .int .i64 p.want.c, .int .i64 p.want.d, .int .i64 p.want.e, .int .i64 p.want.f, .int .i64 p.bound] 53)).alloc (.cells #[.int .i64 0, .int .i64 0, .int .i64 0, .int .i64 0, .int .i64 0, .int .i64 0] 41)) = W := ⟨_, rfl⟩
  obtain ⟨B0, hB0⟩ : ∃ B, w.heap.size = B := ⟨_, rfl⟩
  rw [hW0] at X0 b0_0 b0_1
  rw [hB0] at b0_0 b0_1
  have HZ0 : Hid (w.heap.size ≤ B0) := Lib.hid (by omega)
  have HW0 := Lib.hid hW0; have HB0 := Lib.hid hB0
  clear hW0 hB0
  have T1 := T.ext X0; have S1 := S.ext X0
  obtain ⟨bx, ox, e1, a0, a1, a2, a3, a4, a5⟩ := Sl.vec S1 a ha
  subst e1
  obtain ⟨bx', ox', e1, b0, b1, b2, b3, b4, b5⟩ := Sl.vec S1 b hb
  obtain ⟨rfl, rfl⟩ : bx = bx' ∧ ox = ox' := by simpa using e1
  rw [hx] at a0 a1 a2 a3 a4 a5
  rw [hy] at b0 b1 b2 b3 b4 b5
  have f6 := ext_cells T1.c6
  have m0 := ext_cells a0; have m1 := ext_cells a1; have m2 := ext_cells a2; have m3 := ext_cells a3; have m4 := ext_cells a4; have m5 := ext_cells a5
  have k0 := ext_cells b0; have k1 := ext_cells b1; have k2 := ext_cells b2; have k3 := ext_cells b3; have k4 := ext_cells b4; have k5 := ext_cells b5
  have p0 := ext_cells (block_cell b0_0 0 (.int .i64 a) (by rw [← hpa]; rfl)); have p1 := ext_cells (block_cell b0_0 1 (.int .i64 b) (by rw [← hpb]; rfl))
  have p2 := ext_cells (block_cell b0_0 2 _ rfl); have p3 := ext_cells (block_cell b0_0 3 _ rfl); have p4 := ext_cells (block_cell b0_0 4 _ rfl); have p5 := ext_cells (block_cell b0_0 5 _ rfl); have p6 := ext_cells (block_cell b0_0 6 _ rfl); have p7 := ext_cells (block_cell b0_0 7 _ rfl)
  have HRR := Lib.hid b0_1
  have i1 : (0 : Int) ≤ (a : Int) := by omega
  have i2 : (a : Int) < (xs.length : Int) := by omega
  have i3 : (0 : Int) ≤ (b : Int) := by omega
  have i4 : (b : Int) < (xs.length : Int) := by omega
  clear b0_0 b0_1 T T1 S S1 a0 a1 a2 a3 a4 a5 b0 b1 b2 b3 b4 b5 e1 h1 h2 h3 h4 hx hy hd hr hpa hpb
  go_enter Tryd.func34, Tryd.ntmps34
  go_upto_region 1 with fail
  rw [HW0.out, HB0.out]
  clear HW0 HB0
  refine wp_region_ord [(0,true), (1,true), (2,true), (3,true), (4,true), (5,true), (6,true), (7,true), (8,true), (9,true), (10,true), (11,true), (12,true), (13,true), (14,true), (15,true), (16,true), (17,true), (18,true), (19,true)] 20 Ext (Ext W0) wide (by kernel_rfl) (stable_ext _) (Ext.drawn _ _) ?_
  iterate 16 (first | (apply wpOrd_no rfl; rfl; (simp only [List.getElem_toArray, List.getElem_cons_succ, List.getElem_cons_zero, Act.put, List.setIfInBounds_toArray, List.set_cons_succ, List.set_cons_zero]; rfl)) | (apply wpOrd_yes rfl; rfl; (intro w' hw'; unfold opR; go_simp; exact ⟨Ext.refl _, rfl⟩); (simp only [List.getElem_toArray, List.getElem_cons_succ, List.getElem_cons_zero, Act.put, List.setIfInBounds_toArray, List.set_cons_succ, List.set_cons_zero]; rfl)))
  (apply wpOrd_det rfl rfl; (intro w' hw'; refine opR_call rfl (Go.Proofs.enters_of Tryd.func39 (by kernel_rfl) rfl) (by simp only [List.map_toArray, List.map_cons, List.map_nil, Act.eval, Array.getD_eq_getD_getElem?, List.getElem?_toArray, List.getElem?_cons_succ, List.getElem?_cons_zero, Option.getD_some]; rfl) ?_; refine (AW.out _).mono ?_; rintro e w'' ⟨rfl, hx⟩; exact ⟨_, rfl, hx, rfl⟩); (simp only [List.getElem_toArray, List.getElem_cons_succ, List.getElem_cons_zero, Act.put, List.setIfInBounds_toArray, List.set_cons_succ, List.set_cons_zero]; rfl))
  iterate 2 (first | (apply wpOrd_no rfl; rfl; (simp only [List.getElem_toArray, List.getElem_cons_succ, List.getElem_cons_zero, Act.put, List.setIfInBounds_toArray, List.set_cons_succ, List.set_cons_zero]; rfl)) | (apply wpOrd_yes rfl; rfl; (intro w' hw'; unfold opR; go_simp; exact ⟨Ext.refl _, rfl⟩); (simp only [List.getElem_toArray, List.getElem_cons_succ, List.getElem_cons_zero, Act.put, List.setIfInBounds_toArray, List.set_cons_succ, List.set_cons_zero]; rfl)))
  (apply wpOrd_det rfl rfl; (intro w' hw'; refine opR_call rfl (Go.Proofs.enters_of Tryd.func39 (by kernel_rfl) rfl) (by simp only [List.map_toArray, List.map_cons, List.map_nil, Act.eval, Array.getD_eq_getD_getElem?, List.getElem?_toArray, List.getElem?_cons_succ, List.getElem?_cons_zero, Option.getD_some]; rfl) ?_; refine (DW.out _).mono ?_; rintro e w'' ⟨rfl, hx⟩; exact ⟨_, rfl, hx, rfl⟩); (simp only [List.getElem_toArray, List.getElem_cons_succ, List.getElem_cons_zero, Act.put, List.setIfInBounds_toArray, List.set_cons_succ, List.set_cons_zero]; rfl))
  refine wpOrd_nil rfl ?_
  intro w1 x1
  have hRR := block_ext x1 HRR.out
  have n2 := setRow_at hRR (#[.int .i64 r.a, .int .i64 r.b, .int .i64 r.c, .int .i64 r.d, .int .i64 r.e, .int .i64 r.f] : Array Value)
  have XX := (X0.trans x1).setRow (g := B0 + 1) (by have := HZ0.out; omega) (#[.int .i64 r.a, .int .i64 r.b, .int .i64 r.c, .int .i64 r.d, .int .i64 r.e, .int .i64 r.f] : Array Value)
  have e0 := block_cell n2 0 _ rfl; have e1 := block_cell n2 1 _ rfl; have e2 := block_cell n2 2 _ rfl; have e3 := block_cell n2 3 _ rfl; have e4 := block_cell n2 4 _ rfl; have e5 := block_cell n2 5 _ rfl
  have HR2 := Lib.hid hRR
  clear hRR n2 f6 m0 m1 m2 m3 m4 m5 k0 k1 k2 k3 k4 k5 p0 p1 p2 p3 p4 p5 p6 p7
  refine wpList_store_row rfl _ _ _ rfl (B0 + 1) _ rfl rfl _ _ HR2.out (by kernel_rfl) rfl (by simp [Value.oneCell']) ?_
  go_wp2
  refine bodyPost_ret (v := .agg #[.int .i64 r.a, .int .i64 r.b, .int .i64 r.c, .int .i64 r.d, .int .i64 r.e, .int .i64 r.f]) (by simp [results, Tryd.results34, go_sem, e0, e1, e2, e3, e4, e5]) rfl ⟨rfl, XX⟩
end Go.Proofs.YtdpegkkbhanjkaaDoor
