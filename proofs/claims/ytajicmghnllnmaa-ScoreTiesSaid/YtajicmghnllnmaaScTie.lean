/-
  Proved: 'ScoreTies' returns true for every input and leaves its arguments as they were. No condition.
-/
import Derived.Test.YtajicmghnllnmaaScSec
import Derived.Test.YtajicmghnllnmaaVq
set_option linter.unusedVariables false
namespace Go.Proofs.Ytajicmghnllnmaa
open Go.RowKit Go.Sx Go.Sx.Sz Go.Sx.Sc Go.ChangeShapes Go.WideShapes Go.ChangeAt

theorem tie_find {s : Sc} (h : ScOk s) {i : Nat} (hi : i < s.notes.length) (ht : (s.N i).tied = true) :
    ∃ k : Nat, k < i ∧ findL s.notes (endP (s.N i).v (s.N i).f) 0 = (k : Int) ∧ (s.N k).v = (s.N i).v ∧ (s.N k).u = (s.N i).f ∧ (s.N k).x = (s.N i).x ∧
      ∀ j, j < s.notes.length → j ≠ k → ¬ ((s.N j).v = (s.N i).v ∧ (s.N j).u = (s.N i).f) := by
  obtain ⟨k, hk, h1, h2, h3⟩ := h.tie hi ht
  have hu : ∀ j, j < s.notes.length → (s.N j).v = (s.N i).v → (s.N j).u = (s.N i).f → j = k := fun j hj a b =>
    h.ends hj (by omega) (by rw [h1, a]) (by rw [h2, b])
  refine ⟨k, hk, ?_, h1, h2, h3, fun j hj hne ⟨a, b⟩ => hne (hu j hj a b)⟩
  refine findL_at (by omega) (by simp only [endP, Bool.and_eq_true, decide_eq_true_eq]; exact ⟨h1, h2⟩) fun j hj hp => ?_
  simp only [endP, Bool.and_eq_true, decide_eq_true_eq] at hp
  exact hu j hj hp.1 hp.2

set_option maxRecDepth 100000 in
set_option maxHeartbeats 4000000 in
theorem ties_law (vn vp vc : Value) (s : Sc) (n : Int) (w : World) (S : ScR w vn vp vc s) :
    Calls Try.prog 7 #[.agg #[.int .i64 s.voices, vn, vp, vc], .int .i64 n] w fun e w' => e = .returned (.bool true) ∧ Ext w w' := by
  obtain ⟨an, cn, rfl, -, -, hln⟩ := S.nt.len
  obtain ⟨ap, cp, rfl, -, -, hlp⟩ := S.pr.len
  obtain ⟨ac, cc, rfl, -, -, hlc⟩ := S.cd.len
  have VQ := Lib.hid (run_eq_v6 (P := Try.prog) Try.underlying38 Try.underlying3 (by kernel_rfl))
  go_enter Try.func7, Try.ntmps7
  go_wp2_with fail
  refine (head_walk _).mono ?_
  rintro e w1 ⟨rfl, x1⟩
  have X1 : Ext w w1 := Ext.trans (by repeat (first | with_reducible exact Ext.refl _ | with_reducible assumption | with_reducible apply Ext.alloc | with_reducible apply Ext.drew | (with_reducible refine Ext.setCell ?_ (by (try simp) <;> omega) _))) x1
  have B1 := BoxS.of (block_ext x1 (block_new w (.cells #[.int .i64 s.voices, .slice an s.notes.length cn, .slice ap s.pairs.length cp, .slice ac s.cads.length cc] 26)))
  obtain ⟨c0, c1, c2, c3⟩ := B1
  have HB1 : Hid (BoxS w.heap.size s.voices (.slice an s.notes.length cn) (.slice ap s.pairs.length cp) (.slice ac s.cads.length cc) w1) := Lib.hid ⟨c0, c1, c2, c3⟩
  clear x1
  go_wp2_with fail
  refine (before_walk _ _ _ s n _ (S.ext X1)).mono ?_
  obtain ⟨r, hr⟩ : ∃ r, befR s n = r := ⟨_, rfl⟩
  rw [hr]
  have HR := Lib.hid hr
  clear hr
  obtain ⟨r1, r2⟩ := r
  rintro e w2 ⟨rfl, x2⟩
  have X2 := X1.trans x2
  have HB2 := Lib.hid (HB1.out.ext x2)
  clear c0 c1 c2 c3 x2
  obtain ⟨c0, c1, c2, c3⟩ := HB2.out
  go_wp2_with fail
  refine (scvalid_walk _ _ _ s _ (S.ext X2)).mono ?_
  cases hok : scB s with
  | false =>
    obtain ⟨rfl, rfl⟩ : r1 = 0 ∧ r2 = 1 := by have := HR.out; unfold befR at this; rw [if_neg (by simp [hok])] at this; cases this; exact ⟨rfl, rfl⟩
    clear hok
    rintro e w3 ⟨rfl, x3⟩
    clear c0 c1 c2 c3
    go_wp2
    go_ret
    exact ⟨rfl, X2.trans x3⟩
  | true =>
    rintro e w3 ⟨rfl, x3⟩
    have X3 := X2.trans x3
    have HB3 := Lib.hid (HB2.out.ext x3)
    have HV := Lib.hid (scB_iff.1 hok)
    have HO := Lib.hid hok
    have S3 := S.ext X3
    have hnn := (scB_iff.1 hok).sz.2.1
    clear c0 c1 c2 c3 hok x3
    obtain ⟨B, hB⟩ : ∃ B, w.heap.size = B := ⟨_, rfl⟩
    rw [hB] at HB3
    by_cases g1 : n < 0
    · obtain ⟨rfl, rfl⟩ : r1 = 0 ∧ r2 = 1 := by have := HR.out; unfold befR at this; rw [if_neg (by omega)] at this; cases this; exact ⟨rfl, rfl⟩
      go_wp2
      go_ret
      exact ⟨rfl, X3⟩
    obtain ⟨c0, c1, c2, c3⟩ := HB3.out
    by_cases g2 : (s.notes.length : Int) ≤ n
    · obtain ⟨rfl, rfl⟩ : r1 = 0 ∧ r2 = 1 := by have := HR.out; unfold befR at this; rw [if_neg (by omega)] at this; cases this; exact ⟨rfl, rfl⟩
      clear c0 c2 c3
      go_wp2
      go_ret
      exact ⟨rfl, X3⟩
    obtain ⟨i, rfl⟩ : ∃ i : Nat, n = i := ⟨n.toNat, by omega⟩
    have hi : i < s.notes.length := by omega
    obtain ⟨b, o, rfl, q⟩ := Sl.nt S3.nt i hi
    rw [← Sc.N_eq hi] at q
    have hR2 : (r1, r2) = ((if (s.N i).tied = true then findL s.notes (endP (s.N i).v (s.N i).f) 0 else -1), (0 : Int)) := by
      rw [← HR.out]; unfold befR; rw [if_pos ⟨HO.out, by omega, by omega⟩, Int.toNat_natCast]
    have i1 : (0 : Int) ≤ (i : Int) := by omega
    have i2 : (i : Int) < (s.notes.length : Int) := by omega
    cases ht : (s.N i).tied with
    | false =>
      obtain ⟨rfl, rfl⟩ : r1 = -1 ∧ r2 = 0 := by rw [ht] at hR2; cases hR2; exact ⟨rfl, rfl⟩
      obtain ⟨q0, q1, q2, q3, q4, q5, q6, q7, q8, q9⟩ := q
      rw [ht] at q9
      clear ht hR2
      go_wp2
      go_ret
      exact ⟨rfl, (by repeat (first | with_reducible exact Ext.refl _ | with_reducible assumption | with_reducible apply Ext.alloc | with_reducible apply Ext.drew | (with_reducible refine Ext.setCell ?_ (by (try simp) <;> omega) _)))⟩
    | true =>
      obtain ⟨k, hki, hk, h1, h2, h3, hno⟩ := tie_find HV.out hi ht
      obtain ⟨rfl, rfl⟩ : r1 = (k : Int) ∧ r2 = 0 := by rw [ht, if_pos rfl, hk] at hR2; cases hR2; exact ⟨rfl, rfl⟩
      have hkn : k < s.notes.length := by omega
      obtain ⟨b', o', e', p⟩ := Sl.nt S3.nt k hkn
      obtain ⟨rfl, rfl⟩ : b' = b ∧ o' = o := by simp at e'; exact ⟨e'.1.symm, e'.2.symm⟩
      rw [← Sc.N_eq hkn] at p
      have HNO := Lib.hid hno
      obtain ⟨⟨xv, xf, xu, xx, xt⟩, hx⟩ : ∃ x, s.N i = x := ⟨_, rfl⟩
      obtain ⟨⟨yv, yf, yu, yx, yt⟩, hy⟩ : ∃ x, s.N k = x := ⟨_, rfl⟩
      rw [hx] at q HNO h1 h2 h3 ht
      rw [hy] at p h1 h2 h3
      dsimp only at q HNO h1 h2 h3 ht p
      subst h1 h2 h3 ht
      obtain ⟨q0, q1, q2, q3, q4, q5, q6, q7, q8, q9⟩ := q
      obtain ⟨p0, p1, p2, p3, p4, p5, p6, p7, p8, p9⟩ := p
      dsimp only at q0 q1 q2 q3 q4 q5 q6 q7 q8 q9 p0 p1 p2 p3 p4 p5 p6 p7 p8 p9
      clear hx hy hk hR2 HR hno e'
      have d1 : ((k : Int) == -1) = false := by rw [beq_eq_false_iff_ne]; omega
      have d2 : ¬ (k : Int) < -1 := by omega
      have d3 : ¬ (i : Int) ≤ (k : Int) := by omega
      have d4 : (0 : Int) ≤ (k : Int) := by omega
      have d5 : (k : Int) < (s.notes.length : Int) := by omega
      have e1 := Ext.alloc' w3 (.cells #[.int .i64 yv, .int .i64 yu, .int .i64 xu, .int .i64 yx.a, .int .i64 yx.b, .int .i64 yx.c, .int .i64 yx.d, .int .i64 yx.e, .int .i64 yx.f, .bool true] 40)
      have k1 := e1.cell c1
      have s0 := e1.cell p0; have s1 := e1.cell p1; have s2 := e1.cell p2; have s3 := e1.cell p3; have s4 := e1.cell p4; have s5 := e1.cell p5; have s6 := e1.cell p6; have s7 := e1.cell p7; have s8 := e1.cell p8; have s9 := e1.cell p9
      have b1 := block_alloc (block_new w3 (.cells #[.int .i64 yv, .int .i64 yu, .int .i64 xu, .int .i64 yx.a, .int .i64 yx.b, .int .i64 yx.c, .int .i64 yx.d, .int .i64 yx.e, .int .i64 yx.f, .bool true] 40)) (.cells #[.int .i64 yv, .int .i64 yf, .int .i64 yu, .int .i64 yx.a, .int .i64 yx.b, .int .i64 yx.c, .int .i64 yx.d, .int .i64 yx.e, .int .i64 yx.f, .bool yt] 40)
      have b2 := block_at (w := w3.alloc (.cells #[.int .i64 yv, .int .i64 yu, .int .i64 xu, .int .i64 yx.a, .int .i64 yx.b, .int .i64 yx.c, .int .i64 yx.d, .int .i64 yx.e, .int .i64 yx.f, .bool true] 40)) (n := w3.heap.size + 1) (by simp) (.cells #[.int .i64 yv, .int .i64 yf, .int .i64 yu, .int .i64 yx.a, .int .i64 yx.b, .int .i64 yx.c, .int .i64 yx.d, .int .i64 yx.e, .int .i64 yx.f, .bool yt] 40)
      have X4 : Ext w3 ((w3.alloc (.cells #[.int .i64 yv, .int .i64 yu, .int .i64 xu, .int .i64 yx.a, .int .i64 yx.b, .int .i64 yx.c, .int .i64 yx.d, .int .i64 yx.e, .int .i64 yx.f, .bool true] 40)).alloc (.cells #[.int .i64 yv, .int .i64 yf, .int .i64 yu, .int .i64 yx.a, .int .i64 yx.b, .int .i64 yx.c, .int .i64 yx.d, .int .i64 yx.e, .int .i64 yx.f, .bool yt] 40)) := e1.trans (Ext.alloc' _ _)
      obtain ⟨W4, hW4⟩ : ∃ W, (w3.alloc (.cells #[.int .i64 yv, .int .i64 yu, .int .i64 xu, .int .i64 yx.a, .int .i64 yx.b, .int .i64 yx.c, .int .i64 yx.d, .int .i64 yx.e, .int .i64 yx.f, .bool true] 40)).alloc (.cells #[.int .i64 yv, .int .i64 yf, .int .i64 yu, .int .i64 yx.a, .int .i64 yx.b, .int .i64 yx.c, .int .i64 yx.d, .int .i64 yx.e, .int .i64 yx.f, .bool yt] 40) = W := ⟨_, rfl⟩
      rw [hW4] at b1 b2 X4
      have HW4 := Lib.hid hW4
      have HB4 := Lib.hid (HB3.out.ext X4)
      have S4 := S3.ext X4
      have XS : Hid (∀ w', Ext W4 w' → w'.cell? ⟨w3.heap.size, 0, none⟩ = some (.int .i64 yv) ∧ w'.cell? ⟨w3.heap.size, 1, none⟩ = some (.int .i64 yu)) := Lib.hid fun w' x => ⟨x.cell (block_cell b1 0 _ rfl), x.cell (block_cell b1 1 _ rfl)⟩
      have XT : Hid (∀ w', Ext W4 w' → (w'.cell? ⟨w3.heap.size, 3, none⟩ = some (.int .i64 yx.a) ∧ w'.cell? ⟨w3.heap.size, 4, none⟩ = some (.int .i64 yx.b) ∧ w'.cell? ⟨w3.heap.size, 5, none⟩ = some (.int .i64 yx.c) ∧ w'.cell? ⟨w3.heap.size, 6, none⟩ = some (.int .i64 yx.d) ∧ w'.cell? ⟨w3.heap.size, 7, none⟩ = some (.int .i64 yx.e) ∧ w'.cell? ⟨w3.heap.size, 8, none⟩ = some (.int .i64 yx.f))) := Lib.hid fun w' x => ⟨x.cell (block_cell b1 3 _ rfl), x.cell (block_cell b1 4 _ rfl), x.cell (block_cell b1 5 _ rfl), x.cell (block_cell b1 6 _ rfl), x.cell (block_cell b1 7 _ rfl), x.cell (block_cell b1 8 _ rfl)⟩
      have YT : Hid (∀ w', Ext W4 w' → (w'.cell? ⟨w3.heap.size + 1, 0, none⟩ = some (.int .i64 yv) ∧ w'.cell? ⟨w3.heap.size + 1, 2, none⟩ = some (.int .i64 yu) ∧ w'.cell? ⟨w3.heap.size + 1, 3, none⟩ = some (.int .i64 yx.a) ∧ w'.cell? ⟨w3.heap.size + 1, 4, none⟩ = some (.int .i64 yx.b) ∧ w'.cell? ⟨w3.heap.size + 1, 5, none⟩ = some (.int .i64 yx.c) ∧ w'.cell? ⟨w3.heap.size + 1, 6, none⟩ = some (.int .i64 yx.d) ∧ w'.cell? ⟨w3.heap.size + 1, 7, none⟩ = some (.int .i64 yx.e) ∧ w'.cell? ⟨w3.heap.size + 1, 8, none⟩ = some (.int .i64 yx.f))) := Lib.hid fun w' x => ⟨x.cell (block_cell b2 0 _ rfl), x.cell (block_cell b2 2 _ rfl), x.cell (block_cell b2 3 _ rfl), x.cell (block_cell b2 4 _ rfl), x.cell (block_cell b2 5 _ rfl), x.cell (block_cell b2 6 _ rfl), x.cell (block_cell b2 7 _ rfl), x.cell (block_cell b2 8 _ rfl)⟩
      clear p0 p1 p2 p3 p4 p5 p6 p7 p8 p9 e1 b1 b2 hW4
      go_wp2
      rw [HW4.out]
      clear c0 c1 c2 c3 k1 s0 s1 s2 s3 s4 s5 s6 s7 s8 s9 q0 q1 q2 q3 q4 q5 q6 q7 q8 q9 d1 d2 d3 d4 d5 g1 g2 HB3 S3 HW4
      clear hB
      go_loopw [10] (fun a wr => ∃ m : Nat, m ≤ s.notes.length ∧ a = .int .i64 m ∧ Ext W4 wr) (fun a _ => s.notes.length - (intOf a).toNat)
      case atStart => exact ⟨0, by omega, rfl, Ext.refl _⟩
      case round =>
        obtain ⟨m, hm, rfl, X⟩ := hrel
        obtain ⟨c0, c1, c2, c3⟩ := HB4.out.ext X
        by_cases hlt : m < s.notes.length
        · obtain ⟨b2, o2, e', p⟩ := Sl.nt (S4.nt.ext X) m hlt
          obtain ⟨rfl, rfl⟩ : b' = b2 ∧ o' = o2 := by simp at e'; exact e'
          rw [← Sc.N_eq hlt] at p
          have hno := HNO.out m hlt
          have p0 := p.c0; have p2 := p.c2
          obtain ⟨mv, hmv⟩ : ∃ v, (s.N m).v = v := ⟨_, rfl⟩
          obtain ⟨mu, hmu⟩ : ∃ v, (s.N m).u = v := ⟨_, rfl⟩
          rw [hmv] at p0 hno
          rw [hmu] at p2 hno
          obtain ⟨s0, s1⟩ := XS.out wr X
          have i3 : (0 : Int) ≤ (m : Int) := by omega
          have i4 : (m : Int) < (s.notes.length : Int) := by omega
          clear p hmv hmu e' c0 c2 c3
          by_cases hmk : m = k
          · have e1 : ((m : Int) != (k : Int)) = false := by rw [bne_eq_false_iff_eq]; omega
            clear hmk hno
            go_wp2
            go_quiet (fail)
            go_wp2
            go_roundw
            case rel => exact ⟨m + 1, by omega, by go_num, X.drewN _⟩
            case measure => simp [intOf] <;> omega
          · have e1 : ((m : Int) != (k : Int)) = true := by rw [bne_iff_ne]; omega
            have hno' := hno hmk
            clear hmk hno
            by_cases hv : mv = yv
            · have e2 : (mv == yv) = true := by rw [beq_iff_eq]; exact hv
              have e3 : (mu == yu) = false := by rw [beq_eq_false_iff_ne]; exact fun h => hno' ⟨hv, h⟩
              clear hv hno'
              go_wp2
              go_quiet (fail)
              go_wp2
              go_roundw
              case rel => exact ⟨m + 1, by omega, by go_num, X.drewN _⟩
              case measure => simp [intOf] <;> omega
            · have e2 : (mv == yv) = false := by rw [beq_eq_false_iff_ne]; exact hv
              clear hv hno'
              go_wp2
              go_quiet (fail)
              go_wp2
              go_roundw
              case rel => exact ⟨m + 1, by omega, by go_num, X.drewN _⟩
              case measure => simp [intOf] <;> omega
        · obtain rfl : m = s.notes.length := by omega
          obtain ⟨s0, s1⟩ := XS.out wr X
          obtain ⟨s3, s4, s5, s6, s7, s8⟩ := XT.out wr X
          obtain ⟨t0, t2, t3, t4, t5, t6, t7, t8⟩ := YT.out wr X
          have VQ' := VQ.out
          clear c0 c2 c3
          go_wp2
          go_ret
          exact ⟨by first | rfl | simp, X3.trans (X4.trans X)⟩

theorem scoreTies_args (H : Type) (enc : TypeId × Value → H) (W : World) (base : Nat) (vs : List Value) (ds : List (DataW H)) (hA : Args enc Try.prog W base Try.f7.params.toList vs ds) :
    Calls Try.prog 7 vs.toArray W fun e W' => e = .returned (.bool true) ∧ Ext W W' := by
  rw [Try.params7] at hA
  obtain ⟨v0, _, d0, _, rfl, rfl, h0, hA⟩ := hA.cons
  obtain ⟨v1, _, d1, _, rfl, rfl, h1, hA⟩ := hA.cons
  obtain ⟨rfl, rfl⟩ := hA.nil
  obtain ⟨s, vn, vp, vc, rfl, S⟩ := arg_score h0
  obtain ⟨a, rfl, _⟩ := h1.int Try.underlying3
  exact ties_law vn vp vc s a W S

set_option maxRecDepth 100000 in
theorem scoreTies_lifted (os : Os) (started : os.Started) (H : Type) (enc : TypeId × Value → H) :
    ReturnsInHanded {} Try.checked os 7 .any (Rows.scoreTiesSpec.pre6 enc Try.prog Try.f7 Rows.scoreTiesRow.domain false) (Rows.scoreTiesSpec.post enc Try.prog Try.f7 false true false false) :=
  law_said (C := Try.checked) (by kernel_rfl) started (by kernel_rfl) Try.func7
    (ChangeSpec.witness6 (enc := enc) (C := Try.checked) false ⟨#[], #[.agg #[.int .i64 0, .slice none 0 0, .slice none 0 0, .slice none 0 0], .int .i64 0], []⟩ 8 (by kernel_rfl) (by kernel_rfl) (by kernel_rfl) (by kernel_rfl))
    (by kernel_rfl) (by kernel_rfl) (by kernel_rfl) rfl (fun ds h => by match ds, h with | [_, _], _ => rfl) (scoreTies_args H enc)

theorem scoreTies_holds : Rows.ScoreTiesSaid :=
  OpenClaim.holds_of_wide 7 Try.f7 rfl rfl rfl rfl rfl rfl rfl ⟨rfl, rfl, rfl, rfl, rfl⟩ rfl rfl rfl rfl rfl (by kernel_rfl) Try.func7 (by kernel_rfl)
    (of_decide_eq_true (by kernel_rfl)) (by unfold Func.isWrapper; first | (rw [if_pos (by decide +kernel)]; kernel_rfl) | (rw [if_neg (by decide +kernel)]; exact ⟨rfl, rfl⟩))
    (fun os started H enc _ => scoreTies_lifted os started H enc)
end Go.Proofs.Ytajicmghnllnmaa
