/-
  Walks of potential: broken.
-/
import Derived.Test.YtgfaiihekibcbaaGreatDoorLibV
import Derived.Test.YtgfaiihekibcbaaGreatDoorSzG
import Derived.Test.YtgfaiihekibcbaaGreatDoorLdB
set_option linter.unusedVariables false
namespace Go.Sx.Po
open Go.Sx.Sz Go.Sx.Sc
theorem pAt_nat {xs : List V6} {a : Nat} (h : a < xs.length) : pAt xs (a : Int) = xs[a] := by
  unfold pAt; rw [if_neg (by omega), Int.toNat_natCast, List.getD_eq_getElem?_getD, List.getElem?_eq_getElem h]; rfl
theorem within_at {xs : List V6} (ha : allB xs = true) {a : Nat} (h : a < xs.length) : within xs[a] 32 = true := by
  unfold allB at ha; rw [List.all_eq_true] at ha; exact ha _ (List.getElem_mem h)
theorem within_of_sml {x : V6} {M : Int} (h : Sml M x) : within x M = true := Sz.within_iff.2 h
end Go.Sx.Po
namespace Go.Proofs.YtgfaiihekibcbaaGreatDoor
open Go.RowKit Go.Sx Go.Sx.Sz Go.Sx.Sc Go.Sx.Po

/-- What a pair with a bound is judged by. -/
theorem brk_near {xs : List V6} {p : Pr} (h : p.bound ≠ 0) : brkB xs p = (surelyF (gapP xs p) (-10000 * p.bound) (10000 * p.bound) != 1) := by
  unfold brkB surelyF
  rw [if_neg h]
  by_cases h1 : -10000 * p.bound ≤ (gapP xs p).lo ∧ (gapP xs p).hi ≤ 10000 * p.bound
  · rw [if_pos h1, decide_eq_true h1]; rfl
  · rw [if_neg h1, decide_eq_false h1]
    split <;> rfl

set_option maxRecDepth 100000 in
set_option maxHeartbeats 8000000 in
theorem broken_walk (g u q : Nat) (vs : Int) (vn vp vc vx : Value) (s : Sc) (hok : ScOk s) (F : Nat → St) (G : Nat → V6) (xs : List V6) (hxl : xs.length ≤ s.notes.length) (hall : allB xs = true) (i : Nat) (hi : i < s.pairs.length) (w : World) (GL : Gl 0 w) (T : TreeR w g u q vs vn vp vc s.notes.length F G vx) (SP : Sl w 9 encP vp s.pairs) (S : Sl w 6 V6.list vx xs) :
    Calls Tryz.prog 23 #[.pointer (some ⟨g, 0, none⟩), .int .i64 i] w fun e w' => e = .returned (.bool (brkT s xs i)) ∧ Ext w w' := by
  obtain ⟨ax, cx, rfl, -, -, hlx⟩ := S.len
  obtain ⟨ap, cp, rfl, -, -, hlp⟩ := SP.len
  have hpo := hok.pr.1 i hi
  obtain ⟨bp, op, e1, A⟩ := Sl.pr SP i hi
  subst e1
  rw [← Sc.P_eq hi] at A
  have hbt : brkT s xs i = (decide ((s.P i).b < xs.length) && brkB xs (s.P i)) := rfl
  unfold pairOk at hpo
  obtain ⟨p, hp⟩ : ∃ p, s.P i = p := ⟨_, rfl⟩
  rw [hp] at A hpo hbt
  obtain ⟨⟨ha0, hab⟩, hbn, hpw, ⟨hb0, hb1⟩, -⟩ := hpo
  obtain ⟨a, hpa⟩ : ∃ a : Nat, p.a = a := ⟨p.a.toNat, by omega⟩
  obtain ⟨b, hpb⟩ : ∃ b : Nat, p.b = b := ⟨p.b.toNat, by omega⟩
  rw [hpb] at hbt
  have HBT := Lib.hid hbt
  have X0 : Ext w (w.alloc (.cells #[.int .i64 p.a, .int .i64 p.b, .int .i64 p.want.a, .int .i64 p.want.b, .int .i64 p.want.c, .int .i64 p.want.d, .int .i64 p.want.e, .int .i64 p.want.f, .int .i64 p.bound] 48)) := (by repeat (first | with_reducible exact Ext.refl _ | with_reducible assumption | with_reducible apply Ext.alloc | with_reducible apply Ext.drew | (with_reducible refine Ext.setCell ?_ (by (try simp) <;> omega) _)))
  have b0_0 := block_new w (.cells #[.int .i64 p.a, .int .i64 p.b, .int .i64 p.want.a, .int .i64 p.want.b, .int .i64 p.want.c, .int .i64 p.want.d, .int .i64 p.want.e, .int .i64 p.want.f, .int .i64 p.bound] 48)
  obtain ⟨W0, hW0⟩ : ∃ W, (w.alloc (.cells #[.int .i64 p.a, .int .i64 p.b, .int .i64 p.want.a, .int .i64 p.want.b, .int .i64 p.want.c, .int .i64 p.want.d, .int .i64 p.want.e, .int .i64 p.want.f, .int .i64 p.bound] 48)) = W := ⟨_, rfl⟩
  obtain ⟨B0, hB0⟩ : ∃ B, w.heap.size = B := ⟨_, rfl⟩
  rw [hW0] at X0 b0_0
  rw [hB0] at b0_0
  have HZ0 : Hid (w.heap.size ≤ B0) := Lib.hid (by omega)
  have HW0 := Lib.hid hW0; have HB0 := Lib.hid hB0
  clear hW0 hB0
  have S1 := S.ext X0; have T1 := T.ext X0; have G1 := GL.ext X0
  have t2 := block_cell T.tb 2 (.slice (some ⟨bp, op, none⟩) s.pairs.length cp) rfl
  have t3 := T1.c6
  obtain ⟨q0, q1, q2, q3, q4, q5, q6, q7, q8⟩ := A
  have p0 := block_cell b0_0 0 _ rfl; have p1 := block_cell b0_0 1 _ rfl
  have PA := Lib.hid (block_cell b0_0 0 (.int .i64 a) (by rw [← hpa]; rfl)); have PB := Lib.hid (block_cell b0_0 1 (.int .i64 b) (by rw [← hpb]; rfl))
  have p2 := block_cell b0_0 2 _ rfl; have p3 := block_cell b0_0 3 _ rfl; have p4 := block_cell b0_0 4 _ rfl; have p5 := block_cell b0_0 5 _ rfl; have p6 := block_cell b0_0 6 _ rfl; have p7 := block_cell b0_0 7 _ rfl; have p8 := block_cell b0_0 8 _ rfl
  have HB0C := Lib.hid b0_0
  have j1 : (0 : Int) ≤ (i : Int) := by omega
  have j2 : (i : Int) < (s.pairs.length : Int) := by omega
  have HPA := Lib.hid hpa; have HPB := Lib.hid hpb
  clear hbt hp T S SP GL b0_0 hpa hpb
  go_enter Tryz.func23, Tryz.ntmps23
  go_upto_region 2 with fail
  rw [HW0.out, HB0.out]
  clear t2 q0 q1 q2 q3 q4 q5 q6 q7 q8 HW0 HB0
  by_cases hbx : b < xs.length
  case neg =>
    have HF : Hid (brkT s xs i = false) := Lib.hid (by rw [HBT.out, decide_eq_false (show ¬ ((b : Int) < (xs.length : Int)) by omega)]; rfl)
    have d1 : decide ((xs.length : Int) ≤ p.b) = true := decide_eq_true (by have := HPB.out; omega)
    clear hbx
    go_quiet (fail)
    go_wp2
    go_ret
    exact ⟨by rw [HF.out] <;> rfl, X0.drewN _⟩
  case pos =>
  have hax : a < xs.length := by have := HPA.out; have := HPB.out; omega
  have hwa := within_at hall hax
  have hwb := within_at hall hbx
  have hpxa := pAt_nat hax
  have hpxb := pAt_nat hbx
  have HTR : Hid (brkT s xs i = brkB xs p) := Lib.hid (by rw [HBT.out, decide_eq_true (show ((b : Int) < (xs.length : Int)) by omega)]; rfl)
  have d1 : decide ((xs.length : Int) ≤ p.b) = false := decide_eq_false (by have := HPB.out; omega)
  by_cases hbz : p.bound = 0
  · have d2 : (p.bound == 0) = true := by rw [beq_iff_eq]; exact hbz
    have EW := Lib.hid fun w' (y : Ext W0 w') => exc_walk g u q vs vn (.slice (some ⟨bp, op, none⟩) s.pairs.length cp) vc (.slice ax xs.length cx) s.notes.length F G xs p a b HPA.out HPB.out hax hbx (Sml.of hwa) (Sml.of hwb) (Sml.of hpw) w' (T1.ext y) (S1.ext y)
    obtain ⟨r, hr⟩ : ∃ r, (xs[b].add xs[a] (-1)).add p.want (-1) = r := ⟨_, rfl⟩
    rw [hr] at EW
    have HE : Hid (brkB xs p = decide (r ≠ V6.zero)) := Lib.hid (by
      unfold brkB; rw [if_pos hbz]
      have : excF xs p = r := by unfold excF; rw [HPA.out, HPB.out, hpxa, hpxb, hr]
      rw [this])
    obtain ⟨c, hc⟩ : ∃ c, decide (r = V6.zero) = c := ⟨_, rfl⟩
    have VQ : Hid (∀ w', (Op.equalIn 10000 32 (.agg #[.int .i64 r.a, .int .i64 r.b, .int .i64 r.c, .int .i64 r.d, .int .i64 r.e, .int .i64 r.f]) (.agg #[.int .i64 0, .int .i64 0, .int .i64 0, .int .i64 0, .int .i64 0, .int .i64 0])).run Tryz.prog w' = .ok c w') := Lib.hid (by rw [← hc]; exact run_eq_v6 (P := Tryz.prog) Tryz.underlying32 Tryz.underlying3 (by kernel_rfl) r V6.zero 9998)
    have HFC : Hid (brkT s xs i = !c) := Lib.hid (by
      rw [HTR.out, HE.out, ← hc]
      by_cases h : r = V6.zero
      · rw [decide_eq_true h, decide_eq_false (fun hn => hn h)]; rfl
      · rw [decide_eq_false h, decide_eq_true h]; rfl)
    clear hc
    clear hwa hwb hpxa hpxb hr hbx hax hbz
    go_quiet (fail)
    go_wp2_with fail
    refine (EW.out _ ((Ext.refl W0).drewN _)).mono ?_
    rintro e w1 ⟨rfl, x1⟩
    clear p0 p1 p2 p3 p4 p5 p6 p7 p8 t3 d1 d2
    have HX := Lib.hid (X0.trans (((Ext.refl W0).drewN _).trans x1))
    have VQ' := VQ.out
    go_wp2
    go_ret
    exact ⟨by rw [HFC.out] <;> first | rfl | simp, HX.out⟩
  · have d2 : (p.bound == 0) = false := by rw [beq_eq_false_iff_ne]; exact hbz
    obtain ⟨y, hy⟩ : ∃ y, xs[b] = y := ⟨_, rfl⟩
    obtain ⟨x, hx⟩ : ∃ y, xs[a] = y := ⟨_, rfl⟩
    rw [hy] at hwb hpxb; rw [hx] at hwa hpxa
    have hz48 : within (x.add p.want 1) 48 = true := within_of_sml (Sml.add (M := 32) (N := 16) (Sml.of hwa) (Sml.of hpw) (.inl rfl))
    have AW := Lib.hid fun w' => padd_walk x p.want 1 (.inl rfl) ((Sml.of hwa).mono (by omega)) ((Sml.of hpw).mono (by omega)) w'
    have hy48 : within y 48 = true := within_mono (by omega) hwb
    have hg : gapP xs p = expo ((y.times 12).sub ((x.add p.want 1).times 12)) := by unfold gapP; rw [HPA.out, HPB.out, hpxa, hpxb]
    obtain ⟨z, hz⟩ : ∃ z, x.add p.want 1 = z := ⟨_, rfl⟩
    rw [hz] at hz48 AW hg
    have OY := Lib.hid fun w' => of_walk y w'
    have OZ := Lib.hid fun w' => of_walk z w'
    rw [ofR_ok hy48] at OY; rw [ofR_ok hz48] at OZ
    have hy5 := times_within hy48; have hz5 := times_within hz48
    obtain ⟨y2, hy2⟩ : ∃ t, y.times 12 = t := ⟨_, rfl⟩
    obtain ⟨z2, hz2⟩ : ∃ t, z.times 12 = t := ⟨_, rfl⟩
    rw [hy2] at OY hy5 hg; rw [hz2] at OZ hz5 hg
    have NW := Lib.hid fun w' (e : Ext W0 w') => near_walk y2 z2 hy5 hz5 p.bound ⟨hb0, by omega⟩ w' (G1.ext e)
    have hbk := brk_near (xs := xs) hbz
    rw [hg] at hbk
    obtain ⟨r, hr⟩ : ∃ r, surelyF (expo (y2.sub z2)) (-10000 * p.bound) (10000 * p.bound) = r := ⟨_, rfl⟩
    rw [hr] at NW hbk
    have HBK : Hid (brkT s xs i = (r != 1)) := Lib.hid (HTR.out.trans hbk)
    clear hbk hr hg hy2 hz2 hy5 hz5 hz hz48 hy48 hpxa hpxb hwa hwb hbz
    obtain ⟨bx, ox, e1, a0, a1, a2, a3, a4, a5⟩ := Sl.vec S1 a hax
    subst e1
    obtain ⟨bx', ox', e1, b0, b1, b2, b3, b4, b5⟩ := Sl.vec S1 b hbx
    obtain ⟨rfl, rfl⟩ : bx = bx' ∧ ox = ox' := by simpa using e1
    rw [hx] at a0 a1 a2 a3 a4 a5
    rw [hy] at b0 b1 b2 b3 b4 b5
    have i1 : (0 : Int) ≤ (a : Int) := by omega
    have i2 : (a : Int) < (xs.length : Int) := by omega
    have i3 : (0 : Int) ≤ (b : Int) := by omega
    have i4 : (b : Int) < (xs.length : Int) := by omega
    have XX := Lib.hid fun w' (e : Ext W0 w') => (⟨a0, a1, a2, a3, a4, a5⟩ : _ ∧ _ ∧ _ ∧ _ ∧ _ ∧ _)
    have QA := Lib.hid (And.intro (ext_cells a0) (And.intro (ext_cells a1) (And.intro (ext_cells a2) (And.intro (ext_cells a3) (And.intro (ext_cells a4) (ext_cells a5))))))
    have QB := Lib.hid (And.intro (ext_cells b0) (And.intro (ext_cells b1) (And.intro (ext_cells b2) (And.intro (ext_cells b3) (And.intro (ext_cells b4) (ext_cells b5))))))
    have QT := Lib.hid (ext_cells T1.c6)
    have QP := Lib.hid (And.intro (ext_cells PA.out) (And.intro (ext_cells PB.out) (And.intro (ext_cells p2) (And.intro (ext_cells p3) (And.intro (ext_cells p4) (And.intro (ext_cells p5) (And.intro (ext_cells p6) (And.intro (ext_cells p7) (ext_cells p8)))))))))
    clear a0 a1 a2 a3 a4 a5 b0 b1 b2 b3 b4 b5 e1 T1 S1 G1 hx hy XX hbx hax
    go_quiet (fail)
    go_wp2_with fail
    clear p0 p1 p2 p3 p4 p5 p6 p7 p8 t3 d1 d2
    obtain ⟨W1, hW1⟩ : ∃ z, W0.drewN nq = z := ⟨_, rfl⟩
    have x1 : Ext W0 W1 := by rw [← hW1]; exact (Ext.refl W0).drewN _
    rw [hW1]
    clear hW1
    obtain ⟨z0, z1, z2', z3, z4, z5⟩ := QB.out
    have f3 := fun w (x : Ext W1 w) => QT.out w (x1.trans x)
    have f1 := fun w (x : Ext W1 w) => QP.out.2.1 w (x1.trans x)
    have b0 := fun w (x : Ext W1 w) => z0 w (x1.trans x); have b1 := fun w (x : Ext W1 w) => z1 w (x1.trans x); have b2 := fun w (x : Ext W1 w) => z2' w (x1.trans x); have b3 := fun w (x : Ext W1 w) => z3 w (x1.trans x); have b4 := fun w (x : Ext W1 w) => z4 w (x1.trans x); have b5 := fun w (x : Ext W1 w) => z5 w (x1.trans x)
    clear z0 z1 z2' z3 z4 z5
    apply Z.wp_region_ordZ [(0, .det _), (1, .det _), (2, .det _), (3, .det _), (4, .det _), (5, .det _), (6, .det _), (7, .det _), (8, .det _), (9, .det _), (10, .det _), (11, .det _), (12, .new (fun v => ∃ g : Nat, v = .pointer (some ⟨g, 0, none⟩)) (ZRow 107 W1.heap.size 6) (.pointer (some ⟨0, 0, none⟩)) ⟨0, rfl⟩), (13, .one (fun u => u = undef) (fun vs _ w => ZAt 107 (#[.int .i64 y2.a, .int .i64 y2.b, .int .i64 y2.c, .int .i64 y2.d, .int .i64 y2.e, .int .i64 y2.f] : Array Value) (vs.headD undef) w) undef rfl [12]), (14, .det _)] 15 Ext (Zr 107 W1.heap.size) (Ext W1) (fun _ => True) wide [(0,true),(1,true),(2,true),(3,true),(4,true),(5,true),(6,true),(7,true),(8,true),(9,true),(10,true),(11,true),(12,true),(13,false),(14,true)] [(0,[]),(1,[]),(2,[]),(3,[]),(4,[]),(5,[]),(6,[]),(7,[]),(8,[]),(9,[]),(10,[]),(11,[]),(12,[]),(13,[12]),(14,[])] (by kernel_rfl) (by kernel_rfl) rfl rfl (by simp [Z.Kd.new, Z.Kd.det, Z.Kd.one, Z.kdOf]) (by decide) (sub_zr _ _) stable_zr (fun _ _ _ _ => trivial) (Ext.drawn _ _) trivial ?main
    case' main =>
      iterate 8 (apply Z.ordX_det rfl rfl; (intro w' hw'; unfold opR; go_simp; exact ⟨Ext.refl _, rfl⟩); (simp only [List.getElem_toArray, List.getElem_cons_succ, List.getElem_cons_zero, Act.put, List.setIfInBounds_toArray, List.set_cons_succ, List.set_cons_zero]; rfl))
      (apply Z.ordX_det rfl rfl; (intro w' hw'; refine opR_call rfl (Go.Proofs.enters_of Tryz.func54 (by kernel_rfl) rfl) (by simp only [List.map_toArray, List.map_cons, List.map_nil, Act.eval, Array.getD_eq_getD_getElem?, List.getElem?_toArray, List.getElem?_cons_succ, List.getElem?_cons_zero, Option.getD_some]; rfl) ?_; refine (OY.out _).mono ?_; rintro e w'' ⟨rfl, hx⟩; exact ⟨_, rfl, hx, rfl⟩); (simp only [List.getElem_toArray, List.getElem_cons_succ, List.getElem_cons_zero, Act.put, List.setIfInBounds_toArray, List.set_cons_succ, List.set_cons_zero]; rfl))
      iterate 3 (apply Z.ordX_det rfl rfl; (intro w' hw'; unfold opR; go_simp; exact ⟨Ext.refl _, rfl⟩); (simp only [List.getElem_toArray, List.getElem_cons_succ, List.getElem_cons_zero, Act.put, List.setIfInBounds_toArray, List.set_cons_succ, List.set_cons_zero]; rfl))
      apply Z.ordX_new (fun v _ _ h k => h.zr k) rfl rfl
      · intro w' hw' _
        unfold opR
        go_simp
        exact ⟨Ext.alloc' _ _, ⟨_, rfl⟩, ZRow.new w' hw'.size _⟩
      · intro v; (simp only [List.getElem_toArray, List.getElem_cons_succ, List.getElem_cons_zero, Act.put, List.setIfInBounds_toArray, List.set_cons_succ, List.set_cons_zero]; rfl)
      rintro _ ⟨g8, rfl⟩
      apply Z.ordX_one (fun vs v _ _ h k => h.ext k) rfl rfl
      · intro w' hw' _ hN
        exact opR_zstore _ _ _ rfl _ rfl rfl (hN 12 (by simp)) (by kernel_rfl) rfl (by simp [Value.oneCell'])
      · intro v; (simp only [List.getElem_toArray, List.getElem_cons_succ, List.getElem_cons_zero, Act.put, List.setIfInBounds_toArray, List.set_cons_succ, List.set_cons_zero]; rfl)
      rintro _ rfl
      iterate 1 (apply Z.ordX_det rfl rfl; (intro w' hw'; unfold opR; go_simp; exact ⟨Ext.refl _, rfl⟩); (simp only [List.getElem_toArray, List.getElem_cons_succ, List.getElem_cons_zero, Act.put, List.setIfInBounds_toArray, List.set_cons_succ, List.set_cons_zero]; rfl))
      refine Z.ordX_nil (l := []) rfl ?_
    rintro W4 x4 ⟨g6, e9, hb4⟩ -
    simp [Z.upd] at e9
    subst e9
    have x4' := x1.trans x4
    clear f3 f1 b0 b1 b2 b3 b4 b5
    obtain ⟨z0, z1, z2', z3, z4, z5⟩ := QA.out
    have f3 := fun w (x : Ext W4 w) => QT.out w (x4'.trans x)
    have f0 := fun w (x : Ext W4 w) => QP.out.1 w (x4'.trans x)
    have f2 := fun w (x : Ext W4 w) => QP.out.2.2.1 w (x4'.trans x)
    have f4 := fun w (x : Ext W4 w) => QP.out.2.2.2.1 w (x4'.trans x)
    have f5 := fun w (x : Ext W4 w) => QP.out.2.2.2.2.1 w (x4'.trans x)
    have f6 := fun w (x : Ext W4 w) => QP.out.2.2.2.2.2.1 w (x4'.trans x)
    have f7 := fun w (x : Ext W4 w) => QP.out.2.2.2.2.2.2.1 w (x4'.trans x)
    have f8 := fun w (x : Ext W4 w) => QP.out.2.2.2.2.2.2.2.1 w (x4'.trans x)
    have b0 := fun w (x : Ext W4 w) => z0 w (x4'.trans x); have b1 := fun w (x : Ext W4 w) => z1 w (x4'.trans x); have b2 := fun w (x : Ext W4 w) => z2' w (x4'.trans x); have b3 := fun w (x : Ext W4 w) => z3 w (x4'.trans x); have b4 := fun w (x : Ext W4 w) => z4 w (x4'.trans x); have b5 := fun w (x : Ext W4 w) => z5 w (x4'.trans x)
    have HB4 := Lib.hid hb4
    clear z0 z1 z2' z3 z4 z5 hb4
    go_wp2_with fail
    apply Z.wp_region_ordZ [(0, .det _), (1, .det _), (2, .det _), (3, .det _), (4, .det _), (5, .det _), (6, .det _), (7, .det _), (8, .det _), (9, .det _), (10, .det _), (11, .det _), (12, .det _), (13, .det _), (14, .det _), (15, .new (fun v => ∃ g : Nat, v = .pointer (some ⟨g, 0, none⟩)) (ZRow 107 W4.heap.size 6) (.pointer (some ⟨0, 0, none⟩)) ⟨0, rfl⟩), (16, .one (fun u => u = undef) (fun vs _ w => ZAt 107 (#[.int .i64 z2.a, .int .i64 z2.b, .int .i64 z2.c, .int .i64 z2.d, .int .i64 z2.e, .int .i64 z2.f] : Array Value) (vs.headD undef) w) undef rfl [15]), (17, .det _)] 18 Ext (Zr 107 W4.heap.size) (Ext W4) (fun _ => True) wide [(0,true),(1,true),(2,true),(3,true),(4,true),(5,true),(6,true),(7,true),(8,true),(9,true),(10,true),(11,true),(12,true),(13,true),(14,true),(15,true),(16,false),(17,true)] [(0,[]),(1,[]),(2,[]),(3,[]),(4,[]),(5,[]),(6,[]),(7,[]),(8,[]),(9,[]),(10,[]),(11,[]),(12,[]),(13,[]),(14,[]),(15,[]),(16,[15]),(17,[])] (by kernel_rfl) (by kernel_rfl) rfl rfl (by simp [Z.Kd.new, Z.Kd.det, Z.Kd.one, Z.kdOf]) (by decide) (sub_zr _ _) stable_zr (fun _ _ _ _ => trivial) (Ext.drawn _ _) trivial ?main2
    case' main2 =>
      iterate 10 (apply Z.ordX_det rfl rfl; (intro w' hw'; unfold opR; go_simp; exact ⟨Ext.refl _, rfl⟩); (simp only [List.getElem_toArray, List.getElem_cons_succ, List.getElem_cons_zero, Act.put, List.setIfInBounds_toArray, List.set_cons_succ, List.set_cons_zero]; rfl))
      (apply Z.ordX_det rfl rfl; (intro w' hw'; refine opR_call rfl (Go.Proofs.enters_of Tryz.func51 (by kernel_rfl) rfl) (by simp only [List.map_toArray, List.map_cons, List.map_nil, Act.eval, Array.getD_eq_getD_getElem?, List.getElem?_toArray, List.getElem?_cons_succ, List.getElem?_cons_zero, Option.getD_some]; rfl) ?_; refine (AW.out _).mono ?_; rintro e w'' ⟨rfl, hx⟩; exact ⟨_, rfl, hx, rfl⟩); (simp only [List.getElem_toArray, List.getElem_cons_succ, List.getElem_cons_zero, Act.put, List.setIfInBounds_toArray, List.set_cons_succ, List.set_cons_zero]; rfl))
      (apply Z.ordX_det rfl rfl; (intro w' hw'; refine opR_call rfl (Go.Proofs.enters_of Tryz.func54 (by kernel_rfl) rfl) (by simp only [List.map_toArray, List.map_cons, List.map_nil, Act.eval, Array.getD_eq_getD_getElem?, List.getElem?_toArray, List.getElem?_cons_succ, List.getElem?_cons_zero, Option.getD_some]; rfl) ?_; refine (OZ.out _).mono ?_; rintro e w'' ⟨rfl, hx⟩; exact ⟨_, rfl, hx, rfl⟩); (simp only [List.getElem_toArray, List.getElem_cons_succ, List.getElem_cons_zero, Act.put, List.setIfInBounds_toArray, List.set_cons_succ, List.set_cons_zero]; rfl))
      iterate 3 (apply Z.ordX_det rfl rfl; (intro w' hw'; unfold opR; go_simp; exact ⟨Ext.refl _, rfl⟩); (simp only [List.getElem_toArray, List.getElem_cons_succ, List.getElem_cons_zero, Act.put, List.setIfInBounds_toArray, List.set_cons_succ, List.set_cons_zero]; rfl))
      apply Z.ordX_new (fun v _ _ h k => h.zr k) rfl rfl
      · intro w' hw' _
        unfold opR
        go_simp
        exact ⟨Ext.alloc' _ _, ⟨_, rfl⟩, ZRow.new w' hw'.size _⟩
      · intro v; (simp only [List.getElem_toArray, List.getElem_cons_succ, List.getElem_cons_zero, Act.put, List.setIfInBounds_toArray, List.set_cons_succ, List.set_cons_zero]; rfl)
      rintro _ ⟨g9, rfl⟩
      apply Z.ordX_one (fun vs v _ _ h k => h.ext k) rfl rfl
      · intro w' hw' _ hN
        exact opR_zstore _ _ _ rfl _ rfl rfl (hN 15 (by simp)) (by kernel_rfl) rfl (by simp [Value.oneCell'])
      · intro v; (simp only [List.getElem_toArray, List.getElem_cons_succ, List.getElem_cons_zero, Act.put, List.setIfInBounds_toArray, List.set_cons_succ, List.set_cons_zero]; rfl)
      rintro _ rfl
      iterate 1 (apply Z.ordX_det rfl rfl; (intro w' hw'; unfold opR; go_simp; exact ⟨Ext.refl _, rfl⟩); (simp only [List.getElem_toArray, List.getElem_cons_succ, List.getElem_cons_zero, Act.put, List.setIfInBounds_toArray, List.set_cons_succ, List.set_cons_zero]; rfl))
      refine Z.ordX_nil (l := []) rfl ?_
    rintro W5 x5 ⟨g7, e9, hb5⟩ -
    simp [Z.upd] at e9
    subst e9
    have x5' := x4'.trans x5
    have c8 := QP.out.2.2.2.2.2.2.2.2 W5 x5'
    have u := (block_rules (block_ext x5 HB4.out)).1
    have v := (block_rules hb5).1
    clear f3 f0 f2 f4 f5 f6 f7 f8 b0 b1 b2 b3 b4 b5 hb5
    go_wp2_with fail
    refine (NW.out _ x5').mono ?_
    rintro e w6 ⟨rfl, x6⟩
    have HX := Lib.hid (X0.trans (x5'.trans x6))
    clear u v c8 x4 x5 x1 x4' x5' x6
    go_wp2
    go_ret
    exact ⟨by rw [HBK.out] <;> first | rfl | simp, HX.out⟩
end Go.Proofs.YtgfaiihekibcbaaGreatDoor
