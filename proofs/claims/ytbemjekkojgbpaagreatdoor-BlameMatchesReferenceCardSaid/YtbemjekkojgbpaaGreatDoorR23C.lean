/-
  Walks of the reference: Exceeds, Breaks.
-/
import Derived.Test.YtbemjekkojgbpaaGreatDoorR23A
import Derived.Test.YtbemjekkojgbpaaGreatDoorR4G
import Derived.Test.YtbemjekkojgbpaaGreatDoorPlJ
set_option linter.unusedVariables false
namespace Go.Proofs.YtbemjekkojgbpaaGreatDoor
open Go.RowKit Go.Sx Go.Sx.Sz Go.Sx.Sc Go.Sx.Po

set_option maxRecDepth 100000 in
set_option maxHeartbeats 4000000 in
theorem rexc_walk (vx : Value) (xs : List V6) (p : Pr) (a b : Nat) (hpa : p.a = a) (hpb : p.b = b) (ha : a < xs.length) (hb : b < xs.length) (h1 : Sml 32 xs[a]) (h2 : Sml 32 xs[b]) (h3 : Sml 16 p.want) (w : World) (S : Sl w 6 V6.list vx xs) :
    Calls Tryz.prog 40 #[.agg #[.int .i64 p.a, .int .i64 p.b, .int .i64 p.want.a, .int .i64 p.want.b, .int .i64 p.want.c, .int .i64 p.want.d, .int .i64 p.want.e, .int .i64 p.want.f, .int .i64 p.bound], vx] w fun e w' => e = .returned (.agg #[.int .i64 ((xs[b].add xs[a] (-1)).add p.want (-1)).a, .int .i64 ((xs[b].add xs[a] (-1)).add p.want (-1)).b, .int .i64 ((xs[b].add xs[a] (-1)).add p.want (-1)).c, .int .i64 ((xs[b].add xs[a] (-1)).add p.want (-1)).d, .int .i64 ((xs[b].add xs[a] (-1)).add p.want (-1)).e, .int .i64 ((xs[b].add xs[a] (-1)).add p.want (-1)).f]) ∧ Ext w w' := by
  obtain ⟨ax, cx, rfl, -, -, hlx⟩ := S.len
  obtain ⟨x, hx⟩ : ∃ x, xs[a] = x := ⟨_, rfl⟩
  obtain ⟨y, hy⟩ : ∃ y, xs[b] = y := ⟨_, rfl⟩
  obtain ⟨d, hd⟩ : ∃ d, y.add x (-1) = d := ⟨_, rfl⟩
  obtain ⟨r, hr⟩ : ∃ r, d.add p.want (-1) = r := ⟨_, rfl⟩
  rw [hx] at h1; rw [hy] at h2
  have h4 : Sml 64 d := by rw [← hd]; exact Sml.add (M := 32) (N := 32) h2 h1 (.inr rfl)
  have AW := Lib.hid fun w' => rminus_walk y x (h2.mono (by omega)) (h1.mono (by omega)) w'
  have DW := Lib.hid fun w' => rminus_walk d p.want (h4.mono (by omega)) (h3.mono (by omega)) w'
  rw [hd] at AW; rw [hr] at DW
  rw [hx, hy, hd, hr]
  have X0 : Ext w ((w.alloc (.cells #[.int .i64 p.a, .int .i64 p.b, .int .i64 p.want.a, .int .i64 p.want.b, .int .i64 p.want.c, .int .i64 p.want.d, .int .i64 p.want.e, .int .i64 p.want.f, .int .i64 p.bound] 69)).alloc (.cells #[.int .i64 0, .int .i64 0, .int .i64 0, .int .i64 0, .int .i64 0, .int .i64 0] 45)) := (by repeat (first | with_reducible exact Ext.refl _ | with_reducible assumption | with_reducible apply Ext.alloc | with_reducible apply Ext.drew | (with_reducible refine Ext.setCell ?_ (by (try simp) <;> omega) _)))
  have b0_0 := block_alloc (block_new w (.cells #[.int .i64 p.a, .int .i64 p.b, .int .i64 p.want.a, .int .i64 p.want.b, .int .i64 p.want.c, .int .i64 p.want.d, .int .i64 p.want.e, .int .i64 p.want.f, .int .i64 p.bound] 69)) (.cells #[.int .i64 0, .int .i64 0, .int .i64 0, .int .i64 0, .int .i64 0, .int .i64 0] 45)
  have b0_1 := block_at (w := (w.alloc (.cells #[.int .i64 p.a, .int .i64 p.b, .int .i64 p.want.a, .int .i64 p.want.b, .int .i64 p.want.c, .int .i64 p.want.d, .int .i64 p.want.e, .int .i64 p.want.f, .int .i64 p.bound] 69))) (n := w.heap.size + 1) (by simp) (.cells #[.int .i64 0, .int .i64 0, .int .i64 0, .int .i64 0, .int .i64 0, .int .i64 0] 45)
  obtain ⟨W0, hW0⟩ : ∃ W, ((w.alloc (.cells #[.int .i64 p.a, .int .i64 p.b, .int .i64 p.want.a, .int .i64 p.want.b, .int .i64 p.want.c, .int .i64 p.want.d, .int .i64 p.want.e, .int .i64 p.want.f, .int .i64 p.bound] 69)).alloc (.cells #[.int .i64 0, .int .i64 0, .int .i64 0, .int .i64 0, .int .i64 0, .int .i64 0] 45)) = W := ⟨_, rfl⟩
  obtain ⟨B0, hB0⟩ : ∃ B, w.heap.size = B := ⟨_, rfl⟩
  rw [hW0] at X0 b0_0 b0_1
  rw [hB0] at b0_0 b0_1
  have HZ0 : Hid (w.heap.size ≤ B0) := Lib.hid (by omega)
  have HW0 := Lib.hid hW0; have HB0 := Lib.hid hB0
  clear hW0 hB0
  have S1 := S.ext X0
  obtain ⟨bx, ox, e1, a0, a1, a2, a3, a4, a5⟩ := Sl.vec S1 a ha
  subst e1
  obtain ⟨bx', ox', e1, b0, b1, b2, b3, b4, b5⟩ := Sl.vec S1 b hb
  obtain ⟨rfl, rfl⟩ : bx = bx' ∧ ox = ox' := by simpa using e1
  rw [hx] at a0 a1 a2 a3 a4 a5
  rw [hy] at b0 b1 b2 b3 b4 b5
  have m0 := ext_cells a0; have m1 := ext_cells a1; have m2 := ext_cells a2; have m3 := ext_cells a3; have m4 := ext_cells a4; have m5 := ext_cells a5
  have k0 := ext_cells b0; have k1 := ext_cells b1; have k2 := ext_cells b2; have k3 := ext_cells b3; have k4 := ext_cells b4; have k5 := ext_cells b5
  have p0 := ext_cells (block_cell b0_0 0 (.int .i64 a) (by rw [← hpa]; rfl)); have p1 := ext_cells (block_cell b0_0 1 (.int .i64 b) (by rw [← hpb]; rfl))
  have p2 := ext_cells (block_cell b0_0 2 _ rfl); have p3 := ext_cells (block_cell b0_0 3 _ rfl); have p4 := ext_cells (block_cell b0_0 4 _ rfl); have p5 := ext_cells (block_cell b0_0 5 _ rfl); have p6 := ext_cells (block_cell b0_0 6 _ rfl); have p7 := ext_cells (block_cell b0_0 7 _ rfl)
  have HRR := Lib.hid b0_1
  have i1 : (0 : Int) ≤ (a : Int) := by omega
  have i2 : (a : Int) < (xs.length : Int) := by omega
  have i3 : (0 : Int) ≤ (b : Int) := by omega
  have i4 : (b : Int) < (xs.length : Int) := by omega
  clear b0_0 b0_1 S S1 a0 a1 a2 a3 a4 a5 b0 b1 b2 b3 b4 b5 e1 h1 h2 h3 h4 hx hy hd hr hpa hpb
  go_enter Tryz.func40, Tryz.ntmps40
  go_upto_region 1 with fail
  rw [HW0.out, HB0.out]
  clear HW0 HB0
  refine wp_region_ord [(0,true), (1,true), (2,true), (3,true), (4,true), (5,true), (6,true), (7,true), (8,true), (9,true), (10,true), (11,true), (12,true), (13,true)] 14 Ext (Ext W0) wide (by kernel_rfl) (stable_ext _) (Ext.drawn _ _) ?_
  iterate 10 (first | (apply wpOrd_no rfl; rfl; (simp only [List.getElem_toArray, List.getElem_cons_succ, List.getElem_cons_zero, Act.put, List.setIfInBounds_toArray, List.set_cons_succ, List.set_cons_zero]; rfl)) | (apply wpOrd_yes rfl; rfl; (intro w' hw'; unfold opR; go_simp; exact ⟨Ext.refl _, rfl⟩); (simp only [List.getElem_toArray, List.getElem_cons_succ, List.getElem_cons_zero, Act.put, List.setIfInBounds_toArray, List.set_cons_succ, List.set_cons_zero]; rfl)))
  (apply wpOrd_det rfl rfl; (intro w' hw'; refine opR_call rfl (Go.Proofs.enters_of Tryz.func76 (by kernel_rfl) rfl) (by simp only [List.map_toArray, List.map_cons, List.map_nil, Act.eval, Array.getD_eq_getD_getElem?, List.getElem?_toArray, List.getElem?_cons_succ, List.getElem?_cons_zero, Option.getD_some]; rfl) ?_; refine (AW.out _).mono ?_; rintro e w'' ⟨rfl, hx⟩; exact ⟨_, rfl, hx, rfl⟩); (simp only [List.getElem_toArray, List.getElem_cons_succ, List.getElem_cons_zero, Act.put, List.setIfInBounds_toArray, List.set_cons_succ, List.set_cons_zero]; rfl))
  iterate 2 (first | (apply wpOrd_no rfl; rfl; (simp only [List.getElem_toArray, List.getElem_cons_succ, List.getElem_cons_zero, Act.put, List.setIfInBounds_toArray, List.set_cons_succ, List.set_cons_zero]; rfl)) | (apply wpOrd_yes rfl; rfl; (intro w' hw'; unfold opR; go_simp; exact ⟨Ext.refl _, rfl⟩); (simp only [List.getElem_toArray, List.getElem_cons_succ, List.getElem_cons_zero, Act.put, List.setIfInBounds_toArray, List.set_cons_succ, List.set_cons_zero]; rfl)))
  (apply wpOrd_det rfl rfl; (intro w' hw'; refine opR_call rfl (Go.Proofs.enters_of Tryz.func76 (by kernel_rfl) rfl) (by simp only [List.map_toArray, List.map_cons, List.map_nil, Act.eval, Array.getD_eq_getD_getElem?, List.getElem?_toArray, List.getElem?_cons_succ, List.getElem?_cons_zero, Option.getD_some]; rfl) ?_; refine (DW.out _).mono ?_; rintro e w'' ⟨rfl, hx⟩; exact ⟨_, rfl, hx, rfl⟩); (simp only [List.getElem_toArray, List.getElem_cons_succ, List.getElem_cons_zero, Act.put, List.setIfInBounds_toArray, List.set_cons_succ, List.set_cons_zero]; rfl))
  refine wpOrd_nil (l := [_]) rfl ?_
  intro w1 x1
  have hRR := block_ext x1 HRR.out
  have n2 := setRow_at hRR (#[.int .i64 r.a, .int .i64 r.b, .int .i64 r.c, .int .i64 r.d, .int .i64 r.e, .int .i64 r.f] : Array Value)
  have XX := (X0.trans x1).setRow (g := B0 + 1) (by have := HZ0.out; omega) (#[.int .i64 r.a, .int .i64 r.b, .int .i64 r.c, .int .i64 r.d, .int .i64 r.e, .int .i64 r.f] : Array Value)
  have e0 := block_cell n2 0 _ rfl; have e1 := block_cell n2 1 _ rfl; have e2 := block_cell n2 2 _ rfl; have e3 := block_cell n2 3 _ rfl; have e4 := block_cell n2 4 _ rfl; have e5 := block_cell n2 5 _ rfl
  have HR2 := Lib.hid hRR
  clear hRR n2 m0 m1 m2 m3 m4 m5 k0 k1 k2 k3 k4 k5 p0 p1 p2 p3 p4 p5 p6 p7
  refine wpList_store_row rfl _ _ _ rfl (B0 + 1) _ rfl rfl _ _ HR2.out (by kernel_rfl) rfl (by simp [Value.oneCell']) ?_
  go_wp2
  refine bodyPost_ret (v := .agg #[.int .i64 r.a, .int .i64 r.b, .int .i64 r.c, .int .i64 r.d, .int .i64 r.e, .int .i64 r.f]) (by simp [results, Tryz.results40, go_sem, e0, e1, e2, e3, e4, e5]) rfl ⟨rfl, XX⟩

set_option maxRecDepth 100000 in
set_option maxHeartbeats 8000000 in
theorem rbreaks_walk (vx : Value) (xs : List V6) (hall : allB xs = true) (p : Pr) (a b : Nat) (hpa : p.a = a) (hpb : p.b = b) (hax : a < xs.length) (hbx : b < xs.length) (hpw : within p.want 16 = true) (hb0 : 0 ≤ p.bound) (hb1 : p.bound ≤ 100000) (w : World) (S : Sl w 6 V6.list vx xs) :
    Calls Tryz.prog 23 #[.agg #[.int .i64 p.a, .int .i64 p.b, .int .i64 p.want.a, .int .i64 p.want.b, .int .i64 p.want.c, .int .i64 p.want.d, .int .i64 p.want.e, .int .i64 p.want.f, .int .i64 p.bound], vx] w fun e w' => e = .returned (.bool (brkB xs p)) ∧ Ext w w' := by
  obtain ⟨ax, cx, rfl, -, -, hlx⟩ := S.len
  have X0 : Ext w (w.alloc (.cells #[.int .i64 p.a, .int .i64 p.b, .int .i64 p.want.a, .int .i64 p.want.b, .int .i64 p.want.c, .int .i64 p.want.d, .int .i64 p.want.e, .int .i64 p.want.f, .int .i64 p.bound] 69)) := (by repeat (first | with_reducible exact Ext.refl _ | with_reducible assumption | with_reducible apply Ext.alloc | with_reducible apply Ext.drew | (with_reducible refine Ext.setCell ?_ (by (try simp) <;> omega) _)))
  have b0_0 := block_new w (.cells #[.int .i64 p.a, .int .i64 p.b, .int .i64 p.want.a, .int .i64 p.want.b, .int .i64 p.want.c, .int .i64 p.want.d, .int .i64 p.want.e, .int .i64 p.want.f, .int .i64 p.bound] 69)
  obtain ⟨W0, hW0⟩ : ∃ W, (w.alloc (.cells #[.int .i64 p.a, .int .i64 p.b, .int .i64 p.want.a, .int .i64 p.want.b, .int .i64 p.want.c, .int .i64 p.want.d, .int .i64 p.want.e, .int .i64 p.want.f, .int .i64 p.bound] 69)) = W := ⟨_, rfl⟩
  obtain ⟨B0, hB0⟩ : ∃ B, w.heap.size = B := ⟨_, rfl⟩
  rw [hW0] at X0 b0_0
  rw [hB0] at b0_0
  have HZ0 : Hid (w.heap.size ≤ B0) := Lib.hid (by omega)
  have HW0 := Lib.hid hW0; have HB0 := Lib.hid hB0
  clear hW0 hB0
  have S1 := S.ext X0
  have p0 := block_cell b0_0 0 _ rfl; have p1 := block_cell b0_0 1 _ rfl
  have PA := Lib.hid (block_cell b0_0 0 (.int .i64 a) (by rw [← hpa]; rfl)); have PB := Lib.hid (block_cell b0_0 1 (.int .i64 b) (by rw [← hpb]; rfl))
  have p2 := block_cell b0_0 2 _ rfl; have p3 := block_cell b0_0 3 _ rfl; have p4 := block_cell b0_0 4 _ rfl; have p5 := block_cell b0_0 5 _ rfl; have p6 := block_cell b0_0 6 _ rfl; have p7 := block_cell b0_0 7 _ rfl; have p8 := block_cell b0_0 8 _ rfl
  have HPA := Lib.hid hpa; have HPB := Lib.hid hpb
  clear S b0_0 hpa hpb
  have hwa := within_at hall hax
  have hwb := within_at hall hbx
  have hpxa := pAt_nat hax
  have hpxb := pAt_nat hbx
  go_enter Tryz.func23, Tryz.ntmps23
  go_upto_region 1 with fail
  rw [HW0.out, HB0.out]
  clear HW0 HB0
  by_cases hbz : p.bound = 0
  · have d2 : (p.bound == 0) = true := by rw [beq_iff_eq]; exact hbz
    have EW := Lib.hid fun w' (y : Ext W0 w') => rexc_walk (.slice ax xs.length cx) xs p a b HPA.out HPB.out hax hbx (Sml.of hwa) (Sml.of hwb) (Sml.of hpw) w' (S1.ext y)
    obtain ⟨r, hr⟩ : ∃ r, (xs[b].add xs[a] (-1)).add p.want (-1) = r := ⟨_, rfl⟩
    rw [hr] at EW
    have HE : Hid (brkB xs p = decide (r ≠ V6.zero)) := Lib.hid (by
      unfold brkB; rw [if_pos hbz]
      have : excF xs p = r := by unfold excF; rw [HPA.out, HPB.out, hpxa, hpxb, hr]
      rw [this])
    obtain ⟨c, hc⟩ : ∃ c, decide (r = V6.zero) = c := ⟨_, rfl⟩
    have VQ : Hid (∀ w', (Op.equalIn 10000 45 (.agg #[.int .i64 r.a, .int .i64 r.b, .int .i64 r.c, .int .i64 r.d, .int .i64 r.e, .int .i64 r.f]) (.agg #[.int .i64 0, .int .i64 0, .int .i64 0, .int .i64 0, .int .i64 0, .int .i64 0])).run Tryz.prog w' = .ok c w') := Lib.hid (by rw [← hc]; exact run_eq_v6 (P := Tryz.prog) Tryz.underlying45 Tryz.underlying3 (by kernel_rfl) r V6.zero 9998)
    have HFC : Hid (brkB xs p = !c) := Lib.hid (by
      rw [HE.out, ← hc]
      by_cases h : r = V6.zero
      · rw [decide_eq_true h, decide_eq_false (fun hn => hn h)]; rfl
      · rw [decide_eq_false h, decide_eq_true h]; rfl)
    clear hc hwa hwb hpxa hpxb hr hbx hax hbz
    go_wp2_with fail
    refine (EW.out _ (Ext.refl W0)).mono ?_
    rintro e w1 ⟨rfl, x1⟩
    clear p0 p1 p2 p3 p4 p5 p6 p7 p8 d2
    have HX := Lib.hid (X0.trans x1)
    have VQ' := VQ.out
    go_wp2
    go_ret
    exact ⟨by rw [HFC.out] <;> first | rfl | simp, HX.out⟩
  · have d2 : (p.bound == 0) = false := by rw [beq_eq_false_iff_ne]; exact hbz
    obtain ⟨y, hy⟩ : ∃ y, xs[b] = y := ⟨_, rfl⟩
    obtain ⟨x, hx⟩ : ∃ y, xs[a] = y := ⟨_, rfl⟩
    rw [hy] at hwb hpxb; rw [hx] at hwa hpxa
    have hz48 : within (x.add p.want 1) 48 = true := within_of_sml (Sml.add (M := 32) (N := 16) (Sml.of hwa) (Sml.of hpw) (.inl rfl))
    have AW := Lib.hid fun w' => rplus_walk x p.want ((Sml.of hwa).mono (by omega)) ((Sml.of hpw).mono (by omega)) w'
    have hy48 : within y 48 = true := within_mono (by omega) hwb
    have hg : gapP xs p = expo ((y.times 12).sub ((x.add p.want 1).times 12)) := by unfold gapP; rw [HPA.out, HPB.out, hpxa, hpxb]
    obtain ⟨z, hz⟩ : ∃ z, x.add p.want 1 = z := ⟨_, rfl⟩
    rw [hz] at hz48 AW hg
    have OY := Lib.hid fun w' => rof_walk y w'
    have OZ := Lib.hid fun w' => rof_walk z w'
    rw [ofR_ok hy48] at OY; rw [ofR_ok hz48] at OZ
    have hy5 := times_within hy48; have hz5 := times_within hz48
    obtain ⟨y2, hy2⟩ : ∃ t, y.times 12 = t := ⟨_, rfl⟩
    obtain ⟨z2, hz2⟩ : ∃ t, z.times 12 = t := ⟨_, rfl⟩
    rw [hy2] at OY hy5 hg; rw [hz2] at OZ hz5 hg
    have NW := Lib.hid fun w' => rnear_walk y2 z2 hy5 hz5 p.bound ⟨hb0, by omega⟩ w'
    have hbk := brk_near (xs := xs) hbz
    rw [hg] at hbk
    obtain ⟨r, hr⟩ : ∃ r, surelyF (expo (y2.sub z2)) (-10000 * p.bound) (10000 * p.bound) = r := ⟨_, rfl⟩
    rw [hr] at NW hbk
    have HBK := Lib.hid hbk
    clear hbk hr hg hy2 hz2 hy5 hz5 hz hz48 hy48 hpxa hpxb hwa hwb hbz
    obtain ⟨bx, ox, e1, a0, a1, a2, a3, a4, a5⟩ := Sl.vec S1 a hax
    subst e1
    obtain ⟨bx', ox', e1, b0, b1, b2, b3, b4, b5⟩ := Sl.vec S1 b hbx
    obtain ⟨rfl, rfl⟩ : bx = bx' ∧ ox = ox' := by simpa using e1
    rw [hx] at a0 a1 a2 a3 a4 a5
    rw [hy] at b0 b1 b2 b3 b4 b5
    have i1 : (0 : Int) ≤ (a : Int) := by omega
    have i2 : (a : Int) < (xs.length : Int) := by omega
    have i3 : (0 : Int) ≤ (b : Int) := by omega
    have i4 : (b : Int) < (xs.length : Int) := by omega
    have QA := Lib.hid (And.intro (ext_cells a0) (And.intro (ext_cells a1) (And.intro (ext_cells a2) (And.intro (ext_cells a3) (And.intro (ext_cells a4) (ext_cells a5))))))
    have QP := Lib.hid (And.intro (ext_cells PA.out) (And.intro (ext_cells p2) (And.intro (ext_cells p3) (And.intro (ext_cells p4) (And.intro (ext_cells p5) (And.intro (ext_cells p6) (And.intro (ext_cells p7) (ext_cells p8))))))))
    clear a0 a1 a2 a3 a4 a5 e1 S1 hx hy hbx hax p0 p1 p2 p3 p4 p5 p6 p7
    go_upto_region 3 with fail
    clear p8
    have p1 := PB.out
    go_wp2_with fail
    refine (OY.out _).mono ?_
    rintro e W1 ⟨rfl, x1⟩
    clear p1 b0 b1 b2 b3 b4 b5
    have X2 : Ext W1 (W1.alloc (.cells (#[.int .i64 y2.a, .int .i64 y2.b, .int .i64 y2.c, .int .i64 y2.d, .int .i64 y2.e, .int .i64 y2.f] : Array Value) 79)) := (by repeat (first | with_reducible exact Ext.refl _ | with_reducible assumption | with_reducible apply Ext.alloc | with_reducible apply Ext.drew | (with_reducible refine Ext.setCell ?_ (by (try simp) <;> omega) _)))
    have b2_0 := block_new W1 (.cells (#[.int .i64 y2.a, .int .i64 y2.b, .int .i64 y2.c, .int .i64 y2.d, .int .i64 y2.e, .int .i64 y2.f] : Array Value) 79)
    obtain ⟨W2, hW2⟩ : ∃ W, (W1.alloc (.cells (#[.int .i64 y2.a, .int .i64 y2.b, .int .i64 y2.c, .int .i64 y2.d, .int .i64 y2.e, .int .i64 y2.f] : Array Value) 79)) = W := ⟨_, rfl⟩
    obtain ⟨B2, hB2⟩ : ∃ B, W1.heap.size = B := ⟨_, rfl⟩
    rw [hW2] at X2 b2_0
    rw [hB2] at b2_0
    have HZ2 : Hid (W1.heap.size ≤ B2) := Lib.hid (by omega)
    have HW2 := Lib.hid hW2; have HB2 := Lib.hid hB2
    clear hW2 hB2
    have x4' := x1.trans X2
    have HB4 := Lib.hid b2_0
    obtain ⟨z0, z1, z2', z3, z4, z5⟩ := QA.out
    have f0 := fun w (x : Ext W2 w) => QP.out.1 w (x4'.trans x)
    have f2 := fun w (x : Ext W2 w) => QP.out.2.1 w (x4'.trans x)
    have f4 := fun w (x : Ext W2 w) => QP.out.2.2.1 w (x4'.trans x)
    have f5 := fun w (x : Ext W2 w) => QP.out.2.2.2.1 w (x4'.trans x)
    have f6 := fun w (x : Ext W2 w) => QP.out.2.2.2.2.1 w (x4'.trans x)
    have f7 := fun w (x : Ext W2 w) => QP.out.2.2.2.2.2.1 w (x4'.trans x)
    have f8 := fun w (x : Ext W2 w) => QP.out.2.2.2.2.2.2.1 w (x4'.trans x)
    have b0 := fun w (x : Ext W2 w) => z0 w (x4'.trans x); have b1 := fun w (x : Ext W2 w) => z1 w (x4'.trans x); have b2 := fun w (x : Ext W2 w) => z2' w (x4'.trans x); have b3 := fun w (x : Ext W2 w) => z3 w (x4'.trans x); have b4 := fun w (x : Ext W2 w) => z4 w (x4'.trans x); have b5 := fun w (x : Ext W2 w) => z5 w (x4'.trans x)
    clear z0 z1 z2' z3 z4 z5 b2_0
    go_upto_region 4 with fail
    rw [HW2.out, HB2.out]
    clear HW2 HB2
    apply Z.wp_region_ordZ [(0, .det _), (1, .det _), (2, .det _), (3, .det _), (4, .det _), (5, .det _), (6, .det _), (7, .det _), (8, .det _), (9, .det _), (10, .det _), (11, .det _), (12, .new (fun v => ∃ g : Nat, v = .pointer (some ⟨g, 0, none⟩)) (ZRow 79 W2.heap.size 6) (.pointer (some ⟨0, 0, none⟩)) ⟨0, rfl⟩), (13, .one (fun u => u = undef) (fun vs _ w => ZAt 79 (#[.int .i64 z2.a, .int .i64 z2.b, .int .i64 z2.c, .int .i64 z2.d, .int .i64 z2.e, .int .i64 z2.f] : Array Value) (vs.headD undef) w) undef rfl [12]), (14, .det _)] 15 Ext (Zr 79 W2.heap.size) (Ext W2) (fun _ => True) wide [(0,true),(1,true),(2,true),(3,true),(4,true),(5,true),(6,true),(7,true),(8,true),(9,true),(10,true),(11,true),(12,true),(13,false),(14,true)] [(0,[]),(1,[]),(2,[]),(3,[]),(4,[]),(5,[]),(6,[]),(7,[]),(8,[]),(9,[]),(10,[]),(11,[]),(12,[]),(13,[12]),(14,[])] (by kernel_rfl) (by kernel_rfl) rfl rfl (by simp [Z.Kd.new, Z.Kd.det, Z.Kd.one, Z.kdOf]) (by decide) (sub_zr _ _) stable_zr (fun _ _ _ _ => trivial) (Ext.drawn _ _) trivial ?main2
    case' main2 =>
      iterate 7 (apply Z.ordX_det rfl rfl; (intro w' hw'; unfold opR; go_simp; exact ⟨Ext.refl _, rfl⟩); (simp only [List.getElem_toArray, List.getElem_cons_succ, List.getElem_cons_zero, Act.put, List.setIfInBounds_toArray, List.set_cons_succ, List.set_cons_zero]; rfl))
      (apply Z.ordX_det rfl rfl; (intro w' hw'; refine opR_call rfl (Go.Proofs.enters_of Tryz.func42 (by kernel_rfl) rfl) (by simp only [List.map_toArray, List.map_cons, List.map_nil, Act.eval, Array.getD_eq_getD_getElem?, List.getElem?_toArray, List.getElem?_cons_succ, List.getElem?_cons_zero, Option.getD_some]; rfl) ?_; refine (AW.out _).mono ?_; rintro e w'' ⟨rfl, hx⟩; exact ⟨_, rfl, hx, rfl⟩); (simp only [List.getElem_toArray, List.getElem_cons_succ, List.getElem_cons_zero, Act.put, List.setIfInBounds_toArray, List.set_cons_succ, List.set_cons_zero]; rfl))
      (apply Z.ordX_det rfl rfl; (intro w' hw'; refine opR_call rfl (Go.Proofs.enters_of Tryz.func41 (by kernel_rfl) rfl) (by simp only [List.map_toArray, List.map_cons, List.map_nil, Act.eval, Array.getD_eq_getD_getElem?, List.getElem?_toArray, List.getElem?_cons_succ, List.getElem?_cons_zero, Option.getD_some]; rfl) ?_; refine (OZ.out _).mono ?_; rintro e w'' ⟨rfl, hx⟩; exact ⟨_, rfl, hx, rfl⟩); (simp only [List.getElem_toArray, List.getElem_cons_succ, List.getElem_cons_zero, Act.put, List.setIfInBounds_toArray, List.set_cons_succ, List.set_cons_zero]; rfl))
      iterate 3 (apply Z.ordX_det rfl rfl; (intro w' hw'; unfold opR; go_simp; exact ⟨Ext.refl _, rfl⟩); (simp only [List.getElem_toArray, List.getElem_cons_succ, List.getElem_cons_zero, Act.put, List.setIfInBounds_toArray, List.set_cons_succ, List.set_cons_zero]; rfl))
      apply Z.ordX_new (fun v _ _ h k => h.zr k) rfl rfl
      · intro w' hw' _
        unfold opR
        go_simp
        exact ⟨Ext.alloc' _ _, ⟨_, rfl⟩, ZRow.new w' hw'.size _⟩
      · intro v; (simp only [List.getElem_toArray, List.getElem_cons_succ, List.getElem_cons_zero, Act.put, List.setIfInBounds_toArray, List.set_cons_succ, List.set_cons_zero]; rfl)
      rintro _ ⟨g9, rfl⟩
      apply Z.ordX_one (fun vs v _ _ h k => h.ext k) rfl rfl
      · intro w' hw' _ hN
        exact opR_zstore _ _ _ rfl _ rfl rfl (hN 12 (by simp)) (by kernel_rfl) rfl (by simp [Value.oneCell'])
      · intro v; (simp only [List.getElem_toArray, List.getElem_cons_succ, List.getElem_cons_zero, Act.put, List.setIfInBounds_toArray, List.set_cons_succ, List.set_cons_zero]; rfl)
      rintro _ rfl
      iterate 1 (apply Z.ordX_det rfl rfl; (intro w' hw'; unfold opR; go_simp; exact ⟨Ext.refl _, rfl⟩); (simp only [List.getElem_toArray, List.getElem_cons_succ, List.getElem_cons_zero, Act.put, List.setIfInBounds_toArray, List.set_cons_succ, List.set_cons_zero]; rfl))
      refine Z.ordX_nil (l := []) rfl ?_
    rintro W5 x5 ⟨g7, e9, hb5⟩ -
    simp [Z.upd] at e9
    subst e9
    have x5' := x4'.trans x5
    have c8 := QP.out.2.2.2.2.2.2.2 W5 x5'
    have u := (block_rules (block_ext x5 HB4.out)).1
    have v := (block_rules hb5).1
    clear f0 f2 f4 f5 f6 f7 f8 b0 b1 b2 b3 b4 b5 hb5
    go_wp2_with fail
    refine (NW.out _).mono ?_
    rintro e w6 ⟨rfl, x6⟩
    have HX := Lib.hid (X0.trans (x5'.trans x6))
    clear u v c8 x5 x1 x4' x5' x6
    go_wp2
    go_ret
    exact ⟨by rw [HBK.out] <;> first | rfl | simp, HX.out⟩
end Go.Proofs.YtbemjekkojgbpaaGreatDoor
