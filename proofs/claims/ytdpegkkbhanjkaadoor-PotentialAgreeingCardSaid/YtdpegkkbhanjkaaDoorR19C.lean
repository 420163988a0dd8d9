/-
  Walk: schismaref19.Pairs.
-/
import Derived.Test.YtdpegkkbhanjkaaDoorR19B
set_option linter.unusedVariables false
namespace Go.Sx.Sc
open Go.Sx.Sz
section
variable {s : Sc}
def rpA (s : Sc) (i : Nat) : Prop := pairOk s (s.P i) ∧ (0 < i → lexP (s.P (i - 1)) (s.P i))
set_option maxRecDepth 100000 in
theorem rp_a (h : prsOk s) {i : Nat} (hi : i < s.pairs.length) : rpA s i :=
  ⟨h.1 i hi, fun h0 => by have := h.2 (i - 1) (by omega); rwa [Nat.sub_add_cancel h0] at this⟩
set_option maxRecDepth 100000 in
theorem rp_ok (h : ∀ i, i < s.pairs.length → rpA s i) : prsOk s := ⟨fun i hi => (h i hi).1, fun i hi => (h (i + 1) (by omega)).2 (by omega)⟩
end
end Go.Sx.Sc
namespace Go.Proofs.YtdpegkkbhanjkaaDoor
open Go.RowKit Go.Sx Go.Sx.Sz Go.Sx.Sc

set_option maxRecDepth 100000 in
set_option maxHeartbeats 4000000 in
theorem rpairs_walk (vn vp vc : Value) (s : Sc) (w : World) (S : ScR w vn vp vc s) (hnt : ntOk s) (hnn : s.notes.length ≤ 200) (hpn : s.pairs.length ≤ 400) : Calls Tryd.prog 43 #[.agg #[.int .i64 s.voices, vn, vp, vc]] w fun e w' => e = .returned (.bool (decide (prsOk s))) ∧ Ext w w' := by
  obtain ⟨an, cn, rfl, -, -, hln⟩ := S.nt.len
  obtain ⟨ap, cp, rfl, -, -, hlp⟩ := S.pr.len
  obtain ⟨ac, cc, rfl, -, -, hlc⟩ := S.cd.len
  have XW := Ext.alloc' w (.cells #[.int .i64 s.voices, .slice an s.notes.length cn, .slice ap s.pairs.length cp, .slice ac s.cads.length cc] 26)
  have b1 := block_new w (.cells #[.int .i64 s.voices, .slice an s.notes.length cn, .slice ap s.pairs.length cp, .slice ac s.cads.length cc] 26)
  obtain ⟨W, hW⟩ : ∃ W, w.alloc (.cells #[.int .i64 s.voices, .slice an s.notes.length cn, .slice ap s.pairs.length cp, .slice ac s.cads.length cc] 26) = W := ⟨_, rfl⟩
  rw [hW] at XW b1
  have HW := Lib.hid hW
  obtain ⟨B, hB⟩ : ∃ B, w.heap.size = B := ⟨_, rfl⟩
  rw [hB] at b1
  have CB : Hid (∀ w', Ext W w' → w'.cell? ⟨B, 1, none⟩ = some (.slice an s.notes.length cn) ∧ w'.cell? ⟨B, 2, none⟩ = some (.slice ap s.pairs.length cp)) := Lib.hid fun w' x =>
    ⟨x.cell (block_cell b1 1 _ rfl), x.cell (block_cell b1 2 _ rfl)⟩
  have S1 := S.ext XW
  have HB := Lib.hid hB
  have HNT := Lib.hid hnt
  clear hW b1 S hB hnt
  go_enter Tryd.func43, Tryd.ntmps43
  go_wp2
  rw [HW.out, HB.out]
  clear HW HB
  go_loopw [3, 4, 5, 6] (fun i _ _ _ wr => ∃ k : Nat, k ≤ s.pairs.length ∧ i = .int .i64 k ∧ (∀ j, j < k → rpA s j) ∧ Ext W wr) (fun i _ _ _ _ => s.pairs.length - (intOf i).toNat)
  case atStart => exact ⟨0, by omega, rfl, fun j h => absurd h (Nat.not_lt_zero _), Ext.refl _⟩
  case round =>
    obtain ⟨k, hk, rfl, hall, X⟩ := hrel
    have HA := Lib.hid hall
    clear hall
    obtain ⟨c1, c2⟩ := CB.out wr X
    by_cases hlt : k < s.pairs.length
    · obtain ⟨b, o, rfl, q⟩ := Sl.pr (S1.pr.ext X) k hlt
      rw [← Sc.P_eq hlt] at q
      obtain ⟨p, hp⟩ : ∃ n, s.P k = n := ⟨_, rfl⟩
      rw [hp] at q
      have HP := Lib.hid hp
      obtain ⟨q0, q1, q2, q3, q4, q5, q6, q7, q8⟩ := q
      have BAD : Hid (¬ rpA s k → decide (prsOk s) = false) := Lib.hid fun h => decide_eq_false fun hh => h (rp_a hh hlt)
      have BAP : Hid (¬ pairOk s p → decide (prsOk s) = false) := Lib.hid fun h => BAD.out fun hh => h (by rw [← HP.out]; exact hh.1)
      have i1 : (0 : Int) ≤ (k : Int) := by omega
      have i2 : (k : Int) < (s.pairs.length : Int) := by omega
      have e1 := Ext.alloc' wr (.cells #[.int .i64 p.a, .int .i64 p.b, .int .i64 p.want.a, .int .i64 p.want.b, .int .i64 p.want.c, .int .i64 p.want.d, .int .i64 p.want.e, .int .i64 p.want.f, .int .i64 p.bound] 53)
      have bN := block_new wr (.cells #[.int .i64 p.a, .int .i64 p.b, .int .i64 p.want.a, .int .i64 p.want.b, .int .i64 p.want.c, .int .i64 p.want.d, .int .i64 p.want.e, .int .i64 p.want.f, .int .i64 p.bound] 53)
      have BN := Lib.hid bN
      have k1 := e1.cell c1; have k2 := e1.cell c2
      clear hp bN
      by_cases g1 : p.a < 0
      · have HR := Lib.hid (BAP.out (fun h => by unfold pairOk at h; omega))
        go_wp2
        go_ret
        exact ⟨by rw [HR.out] <;> rfl, XW.trans (X.trans e1)⟩
      by_cases g2 : p.b ≤ p.a
      · have HR := Lib.hid (BAP.out (fun h => by unfold pairOk at h; omega))
        go_wp2
        go_ret
        exact ⟨by rw [HR.out] <;> rfl, XW.trans (X.trans e1)⟩
      by_cases g3 : (s.notes.length : Int) ≤ p.b
      · have HR := Lib.hid (BAP.out (fun h => by unfold pairOk at h; omega))
        go_wp2
        go_ret
        exact ⟨by rw [HR.out] <;> rfl, XW.trans (X.trans e1)⟩
      go_wp2_with fail
      refine (rbounded_walk p.want 16 (by omega) (by omega) _).mono ?_
      by_cases g4 : within p.want 16 = true
      case neg =>
        have HR := Lib.hid (BAP.out (fun h => by unfold pairOk at h; exact g4 h.2.2.1))
        rw [Bool.eq_false_iff.2 g4]
        clear g4
        rintro e w5 ⟨rfl, x5⟩
        have x6 : Ext (wr.alloc (.cells #[.int .i64 p.a, .int .i64 p.b, .int .i64 p.want.a, .int .i64 p.want.b, .int .i64 p.want.c, .int .i64 p.want.d, .int .i64 p.want.e, .int .i64 p.want.f, .int .i64 p.bound] 53)) w5 := x5
        clear x5 c1 c2 k1 k2 q0 q1 q2 q3 q4 q5 q6 q7 q8
        go_wp2
        go_ret
        exact ⟨by rw [HR.out] <;> rfl, XW.trans (X.trans (e1.trans x6))⟩
      have HG4 := Lib.hid g4
      rw [g4]
      clear g4
      rintro e w5 ⟨rfl, x5⟩
      have X5 : Ext W w5 := X.trans (e1.trans x5)
      have bD := block_ext x5 BN.out
      obtain ⟨D, hD⟩ : ∃ D, wr.heap.size = D := ⟨_, rfl⟩
      rw [hD] at bD ⊢
      clear hD c1 c2 k1 k2 q0 q1 q2 q3 q4 q5 q6 q7 q8 BN x5 e1
      have d0 := block_cell bD 0 _ rfl; have d1 := block_cell bD 1 _ rfl; have d8 := block_cell bD 8 _ rfl
      obtain ⟨c1, c2⟩ := CB.out w5 X5
      by_cases g5 : p.bound < 0
      · have HR := Lib.hid (BAP.out (fun h => by unfold pairOk at h; omega))
        go_wp2
        go_ret
        exact ⟨by rw [HR.out] <;> rfl, XW.trans X5⟩
      by_cases g6 : 100000 < p.bound
      · have HR := Lib.hid (BAP.out (fun h => by unfold pairOk at h; omega))
        go_wp2
        go_ret
        exact ⟨by rw [HR.out] <;> rfl, XW.trans X5⟩
      obtain ⟨A, hA⟩ : ∃ a : Nat, p.a = a := ⟨p.a.toNat, by omega⟩
      obtain ⟨C, hC⟩ : ∃ a : Nat, p.b = a := ⟨p.b.toNat, by omega⟩
      have hAC : A < C := by omega
      have hCn : C < s.notes.length := by omega
      have hAn : A < s.notes.length := by omega
      obtain ⟨bn, on, rfl, qa⟩ := Sl.nt (S1.nt.ext X5) A hAn
      obtain ⟨b2, o2, e', qc⟩ := Sl.nt (S1.nt.ext X5) C hCn
      obtain ⟨rfl, rfl⟩ : bn = b2 ∧ on = o2 := by simp at e'; exact e'
      rw [← Sc.N_eq hAn] at qa
      rw [← Sc.N_eq hCn] at qc
      have hna := HNT.out.note hAn
      have hnc := HNT.out.note hCn
      have hle := HNT.out.from_le (show A ≤ C by omega) hCn
      have hpk : pairOk s p ↔ ((s.N A).v ≠ (s.N C).v ∧ (s.N C).f < (s.N A).u) := by
        unfold pairOk
        rw [hA, hC, Int.toNat_natCast, Int.toNat_natCast]
        exact ⟨fun h => ⟨h.2.2.2.2.1, h.2.2.2.2.2⟩, fun h => ⟨by omega, by omega, HG4.out, by omega, h.1, h.2⟩⟩
      obtain ⟨⟨xv, xf, xu, xx, xt⟩, hx⟩ : ∃ x, s.N A = x := ⟨_, rfl⟩
      obtain ⟨⟨yv, yf, yu, yx, yt⟩, hy⟩ : ∃ x, s.N C = x := ⟨_, rfl⟩
      rw [hx] at qa hna hpk hle
      rw [hy] at qc hnc hpk hle
      unfold noteOk at hna hnc
      dsimp only at hna hnc hpk hle
      obtain ⟨a0, a1, a2, a3, a4, a5, a6, a7, a8, a9⟩ := qa
      obtain ⟨r0, r1, r2, r3, r4, r5, r6, r7, r8, r9⟩ := qc
      dsimp only at a0 a1 a2 a3 a4 a5 a6 a7 a8 a9 r0 r1 r2 r3 r4 r5 r6 r7 r8 r9
      have j1 : xf < xu := hna.2.1.2
      have j2 : yf < yu := hnc.2.1.2
      have HPK := Lib.hid hpk
      have HPA := Lib.hid hA; have HPC := Lib.hid hC
      rw [hA] at d0; rw [hC] at d1
      have i3 : (0 : Int) ≤ (A : Int) := by omega
      have i4 : (A : Int) < (s.notes.length : Int) := by omega
      have i5 : (0 : Int) ≤ (C : Int) := by omega
      have i6 : (C : Int) < (s.notes.length : Int) := by omega
      have ea := Ext.alloc' w5 (.cells #[.int .i64 xv, .int .i64 xf, .int .i64 xu, .int .i64 xx.a, .int .i64 xx.b, .int .i64 xx.c, .int .i64 xx.d, .int .i64 xx.e, .int .i64 xx.f, .bool xt] 44)
      have l1 := ea.cell c1; have l2 := ea.cell c2; have f1 := ea.cell d1
      have u0 := ea.cell r0; have u1 := ea.cell r1; have u2 := ea.cell r2; have u3 := ea.cell r3; have u4 := ea.cell r4; have u5 := ea.cell r5; have u6 := ea.cell r6; have u7 := ea.cell r7; have u8 := ea.cell r8; have u9 := ea.cell r9
      have ba := block_alloc (block_new w5 (.cells #[.int .i64 xv, .int .i64 xf, .int .i64 xu, .int .i64 xx.a, .int .i64 xx.b, .int .i64 xx.c, .int .i64 xx.d, .int .i64 xx.e, .int .i64 xx.f, .bool xt] 44)) (.cells #[.int .i64 yv, .int .i64 yf, .int .i64 yu, .int .i64 yx.a, .int .i64 yx.b, .int .i64 yx.c, .int .i64 yx.d, .int .i64 yx.e, .int .i64 yx.f, .bool yt] 44)
      have bb := block_at (w := w5.alloc (.cells #[.int .i64 xv, .int .i64 xf, .int .i64 xu, .int .i64 xx.a, .int .i64 xx.b, .int .i64 xx.c, .int .i64 xx.d, .int .i64 xx.e, .int .i64 xx.f, .bool xt] 44)) (n := w5.heap.size + 1) (by simp) (.cells #[.int .i64 yv, .int .i64 yf, .int .i64 yu, .int .i64 yx.a, .int .i64 yx.b, .int .i64 yx.c, .int .i64 yx.d, .int .i64 yx.e, .int .i64 yx.f, .bool yt] 44)
      have X6 : Ext w5 ((w5.alloc (.cells #[.int .i64 xv, .int .i64 xf, .int .i64 xu, .int .i64 xx.a, .int .i64 xx.b, .int .i64 xx.c, .int .i64 xx.d, .int .i64 xx.e, .int .i64 xx.f, .bool xt] 44)).alloc (.cells #[.int .i64 yv, .int .i64 yf, .int .i64 yu, .int .i64 yx.a, .int .i64 yx.b, .int .i64 yx.c, .int .i64 yx.d, .int .i64 yx.e, .int .i64 yx.f, .bool yt] 44)) := ea.trans (Ext.alloc' _ _)
      obtain ⟨W6, hW6⟩ : ∃ W, (w5.alloc (.cells #[.int .i64 xv, .int .i64 xf, .int .i64 xu, .int .i64 xx.a, .int .i64 xx.b, .int .i64 xx.c, .int .i64 xx.d, .int .i64 xx.e, .int .i64 xx.f, .bool xt] 44)).alloc (.cells #[.int .i64 yv, .int .i64 yf, .int .i64 yu, .int .i64 yx.a, .int .i64 yx.b, .int .i64 yx.c, .int .i64 yx.d, .int .i64 yx.e, .int .i64 yx.f, .bool yt] 44) = W := ⟨_, rfl⟩
      rw [hW6] at ba bb X6
      have HW6 := Lib.hid hW6
      have bD6 := block_ext X6 bD
      have XX6 : Ext W W6 := X5.trans X6
      obtain ⟨v0, v1, v2⟩ : W6.cell? ⟨w5.heap.size, 0, none⟩ = some (.int .i64 xv) ∧ W6.cell? ⟨w5.heap.size, 1, none⟩ = some (.int .i64 xf) ∧ W6.cell? ⟨w5.heap.size, 2, none⟩ = some (.int .i64 xu) := ⟨block_cell ba 0 _ rfl, block_cell ba 1 _ rfl, block_cell ba 2 _ rfl⟩
      obtain ⟨t0, t1, t2⟩ : W6.cell? ⟨w5.heap.size + 1, 0, none⟩ = some (.int .i64 yv) ∧ W6.cell? ⟨w5.heap.size + 1, 1, none⟩ = some (.int .i64 yf) ∧ W6.cell? ⟨w5.heap.size + 1, 2, none⟩ = some (.int .i64 yu) := ⟨block_cell bb 0 _ rfl, block_cell bb 1 _ rfl, block_cell bb 2 _ rfl⟩
      have HV := Lib.hid v0; have HV1 := Lib.hid v1; have HV2 := Lib.hid v2; have HT0 := Lib.hid t0; have HT1 := Lib.hid t1; have HT2 := Lib.hid t2
      clear hx hy hpk hna hnc e' hW6 ba bb bD v0 v1 v2 t0 t1 t2 ea hA hC g1 g2 g3
      go_upto_region 9 with fail
      rw [HW6.out]
      have v0 := HV.out; have v1 := HV1.out; have v2 := HV2.out; have t0 := HT0.out; have t1 := HT1.out; have t2 := HT2.out
      clear HV HV1 HV2 HT0 HT1 HT2 l1 l2 f1 u0 u1 u2 u3 u4 u5 u6 u7 u8 u9 a0 a1 a2 a3 a4 a5 a6 a7 a8 a9 r0 r1 r2 r3 r4 r5 r6 r7 r8 r9 c1 c2 d0 d1 d8 i3 i4 i5 i6
      go_cut [82] (fun s82 wx => ∃ b : Bool, s82 = .bool b ∧ Hid ((b = false ∧ pairOk s p) ∨ (b = true ∧ ¬ pairOk s p)) ∧ W6 = wx)
      case first =>
        by_cases hv : xv = yv
        · have hv' : (xv == yv) = true := beq_iff_eq.2 hv
          have HN : Hid (¬ pairOk s p) := Lib.hid fun h => (HPK.out.1 h).1 hv
          clear hv
          go_wp2_with fail
          go_meet
          exact ⟨_, rfl, Lib.hid (.inr ⟨rfl, HN.out⟩), rfl⟩
        · have hv' : (xv == yv) = false := beq_eq_false_iff_ne.2 hv
          have HI : Hid (pairOk s p ↔ yf < xu) := Lib.hid ⟨fun h => (HPK.out.1 h).2, fun h => HPK.out.2 ⟨hv, h⟩⟩
          clear hv
          rcases (show xf < yf ∨ xf = yf by omega) with m1 | m1
          all_goals rcases Int.lt_trichotomy xu yu with m2 | m2 | m2
          all_goals by_cases m3 : yf < xu
          all_goals
            (try (exfalso; omega))
          all_goals
            (first | (have HN : Hid (pairOk s p) := Lib.hid (HI.out.2 m3)) | (have HN : Hid (¬ pairOk s p) := Lib.hid (fun h => m3 (HI.out.1 h))))
            go_wp2_with fail
            go_meet
            first
            | (refine ⟨_, rfl, Lib.hid (.inl ⟨?_, HN.out⟩), rfl⟩
               first | rfl | exact decide_eq_false (by omega))
            | (refine ⟨_, rfl, Lib.hid (.inr ⟨?_, HN.out⟩), rfl⟩
               first | rfl | exact decide_eq_true (by omega))
      case rest =>
        obtain ⟨bb, rfl, HBB, rfl⟩ := hcut
        cases bb with
        | true =>
          have HR := Lib.hid (BAP.out (HBB.out.resolve_left (by simp)).2)
          go_wp2
          go_ret
          exact ⟨by rw [HR.out] <;> rfl, XW.trans XX6⟩
        | false =>
          have HL := Lib.hid (HBB.out.resolve_right (by simp)).2
          clear v0 v1 v2 t0 t1 t2
          go_upto_region 11 with fail
          obtain ⟨d0, d1⟩ : W6.cell? ⟨D, 0, none⟩ = some (.int .i64 p.a) ∧ W6.cell? ⟨D, 1, none⟩ = some (.int .i64 p.b) := ⟨block_cell bD6 0 _ (by rw [HPA.out]; rfl), block_cell bD6 1 _ (by rw [HPC.out]; rfl)⟩
          obtain ⟨c1, c2⟩ := CB.out W6 XX6
          clear bD6 c1
          go_cut [120] (fun s120 wx => ∃ b : Bool, s120 = .bool b ∧ Hid ((b = false ∧ (0 < k → lexP (s.P (k - 1)) p)) ∨ (b = true ∧ ¬ rpA s k)) ∧ Ext W6 wx)
          case first =>
            by_cases hk0 : k = 0
            · have f3 : decide (0 < k) = false := decide_eq_false (by omega)
              have HLX : Hid (0 < k → lexP (s.P (k - 1)) p) := Lib.hid (fun h => by omega)
              clear hk0
              go_quiet (fail)
              go_wp2_with fail
              go_meet
              exact ⟨_, rfl, Lib.hid (.inl ⟨rfl, HLX.out⟩), (Ext.refl _).drewN _⟩
            · have hk1 : k - 1 < s.pairs.length := by omega
              obtain ⟨b2, o2, e', qq⟩ := Sl.pr (S1.pr.ext XX6) (k - 1) hk1
              obtain ⟨rfl, rfl⟩ : b = b2 ∧ o = o2 := by simp at e'; exact e'
              rw [← Sc.P_eq hk1] at qq
              obtain ⟨m, hm⟩ : ∃ n, s.P (k - 1) = n := ⟨_, rfl⟩
              rw [hm] at qq
              have HM := Lib.hid hm
              have p0 := qq.c0; have p1 := qq.c1
              have f3 : decide (0 < k) = true := decide_eq_true (by omega)
              have f4 : IntKind.i64.wrap ((k : Int) - 1) = ((k - 1 : Nat) : Int) := by rw [IntWalk.i64_in _ (by omega)]; omega
              have f5 : (0 : Int) ≤ ((k - 1 : Nat) : Int) := by omega
              have f6 : ((k - 1 : Nat) : Int) < (s.pairs.length : Int) := by omega
              have HLX : Hid (lexP m p → (0 < k → lexP (s.P (k - 1)) p)) := Lib.hid (fun h _ => by rw [HM.out]; exact h)
              have HLY : Hid (¬ lexP m p → ¬ rpA s k) := Lib.hid (fun h h2 => h (by have := h2.2 (by omega); rwa [HM.out, HP.out] at this))
              clear hm hk0 qq e' hk1
              by_cases g1 : p.a < m.a
              · have HL := Lib.hid (HLY.out (fun h => by unfold lexP at h; omega))
                have g1' : decide (p.a < m.a) = true := decide_eq_true g1
                clear g1
                go_quiet (fail)
                go_wp2_with fail
                go_meet
                exact ⟨_, rfl, Lib.hid (.inr ⟨rfl, HL.out⟩), (Ext.refl _).drewN _⟩
              have g1' : decide (p.a < m.a) = false := decide_eq_false g1
              by_cases g2 : p.a = m.a
              · have g2' : (p.a == m.a) = true := beq_iff_eq.2 g2
                by_cases g3 : p.b ≤ m.b
                · have HL := Lib.hid (HLY.out (fun h => by unfold lexP at h; omega))
                  have g3' : decide (p.b ≤ m.b) = true := decide_eq_true g3
                  clear g1 g2 g3
                  go_quiet (fail)
                  go_wp2_with fail
                  go_meet
                  exact ⟨_, rfl, Lib.hid (.inr ⟨rfl, HL.out⟩), (Ext.refl _).drewN _⟩
                · have HL := Lib.hid (HLX.out (by unfold lexP; omega))
                  have g3' : decide (p.b ≤ m.b) = false := decide_eq_false g3
                  clear g1 g2 g3
                  go_quiet (fail)
                  go_wp2_with fail
                  go_meet
                  exact ⟨_, rfl, Lib.hid (.inl ⟨rfl, HL.out⟩), (Ext.refl _).drewN _⟩
              · have g2' : (p.a == m.a) = false := beq_eq_false_iff_ne.2 g2
                have HL := Lib.hid (HLX.out (by unfold lexP; omega))
                clear g1 g2
                go_quiet (fail)
                go_wp2_with fail
                go_meet
                exact ⟨_, rfl, Lib.hid (.inl ⟨rfl, HL.out⟩), (Ext.refl _).drewN _⟩
          case rest =>
            obtain ⟨bb, rfl, HBC, x7⟩ := hcut
            clear d0 d1 c2
            cases bb with
            | true =>
              have HR := Lib.hid (BAD.out (HBC.out.resolve_left (by simp)).2)
              go_wp2
              go_ret
              exact ⟨by rw [HR.out] <;> rfl, XW.trans (XX6.trans x7)⟩
            | false =>
              have HOK : Hid (rpA s k) := Lib.hid ⟨by rw [HP.out]; exact HL.out, by rw [HP.out]; exact (HBC.out.resolve_right (by simp)).2⟩
              go_wp2
              go_roundw
              case rel => exact ⟨k + 1, by omega, by go_num, fun j hj => by
                by_cases e : j = k
                · subst e; exact HOK.out
                · exact HA.out j (by omega), XX6.trans x7⟩
              case measure => simp [intOf] <;> omega
    · obtain rfl : k = s.pairs.length := by omega
      have HR : Hid (decide (prsOk s) = true) := Lib.hid (decide_eq_true (rp_ok HA.out))
      clear c1
      go_wp2
      go_ret
      exact ⟨by rw [HR.out] <;> rfl, XW.trans X⟩
end Go.Proofs.YtdpegkkbhanjkaaDoor
