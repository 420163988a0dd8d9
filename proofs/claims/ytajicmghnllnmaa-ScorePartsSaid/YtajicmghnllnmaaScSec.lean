/-
  Proved: 'ScoreSections' returns true for every input and leaves its arguments as they were. No condition.
-/
import Derived.Test.YtajicmghnllnmaaScK
import Derived.Test.YtajicmghnllnmaaScL
set_option linter.unusedVariables false
namespace Go.Proofs.Ytajicmghnllnmaa
open Go.RowKit Go.Sx Go.Sx.Sz Go.Sx.Sc Go.ChangeShapes Go.WideShapes Go.ChangeAt

/-- The cells of a score's box. -/
structure BoxS (B : Nat) (v : Int) (vn vp vc : Value) (w : World) : Prop where
  c0 : w.cell? ⟨B, 0, none⟩ = some (.int .i64 v)
  c1 : w.cell? ⟨B, 1, none⟩ = some vn
  c2 : w.cell? ⟨B, 2, none⟩ = some vp
  c3 : w.cell? ⟨B, 3, none⟩ = some vc
theorem BoxS.ext {B : Nat} {v : Int} {vn vp vc : Value} {w w' : World} (h : BoxS B v vn vp vc w) (x : Ext w w') : BoxS B v vn vp vc w' := ⟨x.cell h.c0, x.cell h.c1, x.cell h.c2, x.cell h.c3⟩
theorem BoxS.of {B : Nat} {v : Int} {vn vp vc : Value} {w : World} {t : TypeId} {fr : Nat × Nat} (h : w.heap[B]? = some (.cells #[.int .i64 v, vn, vp, vc] t fr)) : BoxS B v vn vp vc w :=
  ⟨block_cell h 0 _ rfl, block_cell h 1 _ rfl, block_cell h 2 _ rfl, block_cell h 3 _ rfl⟩

section
variable {s : Sc}
theorem sec_at (h : cadOk s) {i : Nat} (hi : i < s.cads.length) : secF s (s.C i) = i + 1 := by
  unfold secF
  refine count_split (by omega) (fun q h1 h2 => decide_eq_true ?_) (fun q h1 h2 => decide_eq_false ?_)
  · rw [← Sc.C_eq h1]
    by_cases e : q = i
    · subst e; exact Int.le_refl _
    · have := h.lt (show q < i by omega) hi; omega
  · rw [← Sc.C_eq h1]
    have := h.lt (show i < q by omega) h1; omega
theorem sec_below (h : cadOk s) {i : Nat} (hi : i < s.cads.length) : secF s (s.C i - 1) = i := by
  unfold secF
  refine count_split (by omega) (fun q h1 h2 => decide_eq_true ?_) (fun q h1 h2 => decide_eq_false ?_)
  · rw [← Sc.C_eq h1]
    have := h.lt h2 hi; omega
  · rw [← Sc.C_eq h1]
    by_cases e : q = i
    · subst e; omega
    · have := h.lt (show i < q by omega) h1; omega
theorem sec_mono {a b : Int} (h : a ≤ b) : secF s a ≤ secF s b := by
  unfold secF
  apply List.countP_mono_left
  intro x _ hx
  simp only [decide_eq_true_eq] at *
  omega
theorem sec_le (t : Int) : secF s t ≤ s.cads.length := List.countP_le_length
end

set_option maxRecDepth 100000 in
set_option maxHeartbeats 4000000 in
theorem sections_law (vn vp vc : Value) (s : Sc) (early late : Int) (w : World) (S : ScR w vn vp vc s) :
    Calls Try.prog 4 #[.agg #[.int .i64 s.voices, vn, vp, vc], .int .i64 early, .int .i64 late] w fun e w' => e = .returned (.bool true) ∧ Ext w w' := by
  obtain ⟨an, cn, rfl, -, -, hln⟩ := S.nt.len
  obtain ⟨ap, cp, rfl, -, -, hlp⟩ := S.pr.len
  obtain ⟨ac, cc, rfl, -, -, hlc⟩ := S.cd.len
  go_enter Try.func4, Try.ntmps4
  go_wp2_with fail
  refine (head_walk _).mono ?_
  rintro e w1 ⟨rfl, x1⟩
  have X1 : Ext w w1 := Ext.trans (by repeat (first | with_reducible exact Ext.refl _ | with_reducible assumption | with_reducible apply Ext.alloc | with_reducible apply Ext.drew | (with_reducible refine Ext.setCell ?_ (by (try simp) <;> omega) _))) x1
  have B1 := BoxS.of (block_ext x1 (block_new w (.cells #[.int .i64 s.voices, .slice an s.notes.length cn, .slice ap s.pairs.length cp, .slice ac s.cads.length cc] 26)))
  obtain ⟨c0, c1, c2, c3⟩ := B1
  have HB1 : Hid (BoxS w.heap.size s.voices (.slice an s.notes.length cn) (.slice ap s.pairs.length cp) (.slice ac s.cads.length cc) w1) := Lib.hid ⟨c0, c1, c2, c3⟩
  clear x1
  go_wp2_with fail
  refine (scvalid_walk _ _ _ s _ (S.ext X1)).mono ?_
  cases hok : scB s with
  | false =>
    clear hok
    rintro e w2 ⟨rfl, x2⟩
    clear c0 c1 c2 c3
    go_wp2
    go_ret
    exact ⟨rfl, X1.trans x2⟩
  | true =>
    rintro e w2 ⟨rfl, x2⟩
    have X2 := X1.trans x2
    have HB2 := Lib.hid (HB1.out.ext x2)
    have HV := Lib.hid (scB_iff.1 hok)
    have HO := Lib.hid hok
    have S2 := S.ext X2
    have hnc := (scB_iff.1 hok).sz.2.2.2
    clear c0 c1 c2 c3 hok x2
    obtain ⟨B, hB⟩ : ∃ B, w.heap.size = B := ⟨_, rfl⟩
    rw [hB] at HB2
    go_wp2
    clear hB
    go_loopw [8] (fun i wr => ∃ k : Nat, k ≤ s.cads.length ∧ i = .int .i64 k ∧ Ext w2 wr) (fun i _ => s.cads.length - (intOf i).toNat)
    case atStart => exact ⟨0, by omega, rfl, Ext.refl _⟩
    case round =>
      obtain ⟨k, hk, rfl, X⟩ := hrel
      obtain ⟨c0, c1, c2, c3⟩ := HB2.out.ext X
      by_cases hlt : k < s.cads.length
      · obtain ⟨b, o, rfl, q0⟩ := Sl.num (S2.cd.ext X) k hlt
        have hC := Sc.C_eq hlt
        have hr := HV.out.cd.1 k hlt
        have r1 := sec_below HV.out.cd hlt
        have r2 := sec_at HV.out.cd hlt
        rw [← hC] at q0
        obtain ⟨t, ht⟩ : ∃ t, s.C k = t := ⟨_, rfl⟩
        rw [ht] at q0 hr r1 r2
        have R1 : Hid (secR s (t - 1) = ((k : Int), 0)) := Lib.hid (by unfold secR; rw [if_pos ⟨HO.out, by omega, by omega⟩, r1])
        have R2 : Hid (secR s t = ((k : Int) + 1, 0)) := Lib.hid (by unfold secR; rw [if_pos ⟨HO.out, by omega, by omega⟩, r2]; rfl)
        have i1 : (0 : Int) ≤ (k : Int) := by omega
        have i2 : (k : Int) < (s.cads.length : Int) := by omega
        have e1 : IntKind.i64.wrap (t - 1) = t - 1 := IntWalk.i64_in _ (by omega)
        have SW := Lib.hid fun u w' (y : Ext wr w') => section_walk (.slice an s.notes.length cn) (.slice ap s.pairs.length cp) (.slice (some ⟨b, o, none⟩) s.cads.length cc) s u w' ((S2.ext X).ext y)
        clear hC ht r1 r2
        obtain ⟨wo, rfl⟩ : ∃ wo : World, wo = wr := ⟨_, rfl⟩
        go_wp2
        go_region_held3 (fun w' => w'.cell? ⟨B, 0, none⟩ = some (.int .i64 s.voices) ∧ w'.cell? ⟨B, 1, none⟩ = some (.slice an s.notes.length cn) ∧ w'.cell? ⟨B, 2, none⟩ = some (.slice ap s.pairs.length cp) ∧ w'.cell? ⟨B, 3, none⟩ = some (.slice (some ⟨b, o, none⟩) s.cads.length cc) ∧ w'.cell? ⟨b, o + k, none⟩ = some (.int .i64 t)) (go_keep)
          ((go_at_call 14; refine (SW.out _ _ (by repeat (first | with_reducible exact Ext.refl _ | with_reducible assumption | with_reducible apply Ext.alloc | with_reducible apply Ext.drew | (with_reducible refine Ext.setCell ?_ (by (try simp) <;> omega) _)))).mono ?_; rw [R1.out]; rintro e w4 ⟨rfl, hx⟩; have y4 : Ext wo w4 := Ext.trans (by repeat (first | with_reducible exact Ext.refl _ | with_reducible assumption | with_reducible apply Ext.alloc | with_reducible apply Ext.drew | (with_reducible refine Ext.setCell ?_ (by (try simp) <;> omega) _))) hx; have k0 := y4.cell c0; have k1 := y4.cell c1; have k2 := y4.cell c2; have k3 := y4.cell c3; have k4 := y4.cell q0; clear hx))
        all_goals
          clear c0 c1 c2 c3 q0 e1
          go_wp2
          go_region_held3 (fun w' => w'.cell? ⟨B, 0, none⟩ = some (.int .i64 s.voices) ∧ w'.cell? ⟨B, 1, none⟩ = some (.slice an s.notes.length cn) ∧ w'.cell? ⟨B, 2, none⟩ = some (.slice ap s.pairs.length cp) ∧ w'.cell? ⟨B, 3, none⟩ = some (.slice (some ⟨b, o, none⟩) s.cads.length cc) ∧ w'.cell? ⟨b, o + k, none⟩ = some (.int .i64 t)) (go_keep)
            ((go_at_call 14; refine (SW.out _ _ (Ext.trans y4 (by repeat (first | with_reducible exact Ext.refl _ | with_reducible assumption | with_reducible apply Ext.alloc | with_reducible apply Ext.drew | (with_reducible refine Ext.setCell ?_ (by (try simp) <;> omega) _))))).mono ?_; rw [R2.out]; rintro e w5 ⟨rfl, hx⟩; have y5 : Ext w4 w5 := Ext.trans (by repeat (first | with_reducible exact Ext.refl _ | with_reducible assumption | with_reducible apply Ext.alloc | with_reducible apply Ext.drew | (with_reducible refine Ext.setCell ?_ (by (try simp) <;> omega) _))) hx; have l0 := y5.cell k0; have l1 := y5.cell k1; have l2 := y5.cell k2; have l3 := y5.cell k3; have l4 := y5.cell k4; clear hx))
          all_goals
            clear k0 k1 k2 k3 k4 l0 l1 l2 l3 l4
            go_wp2
            go_roundw
            case rel => exact ⟨k + 1, by omega, by go_num, (X.trans y4).trans y5⟩
            case measure => simp [intOf] <;> omega
      · obtain rfl : k = s.cads.length := by omega
        by_cases g1 : early < 0
        · clear c0 c1 c2
          go_wp2
          go_ret
          exact ⟨rfl, X2.trans X⟩
        by_cases g2 : late < early
        · clear c0 c1 c2
          go_wp2
          go_ret
          exact ⟨rfl, X2.trans X⟩
        by_cases g3 : 100000 < late
        · clear c0 c1 c2
          go_wp2
          go_ret
          exact ⟨rfl, X2.trans X⟩
        have R1 : Hid (secR s early = ((secF s early : Int), 0)) := Lib.hid (by unfold secR; rw [if_pos ⟨HO.out, by omega, by omega⟩])
        have R2 : Hid (secR s late = ((secF s late : Int), 0)) := Lib.hid (by unfold secR; rw [if_pos ⟨HO.out, by omega, by omega⟩])
        have h1 := sec_mono (s := s) (show early ≤ late by omega)
        have h2 := sec_le (s := s) late
        obtain ⟨a, ha⟩ : ∃ a, secF s early = a := ⟨_, rfl⟩
        obtain ⟨b, hb⟩ : ∃ a, secF s late = a := ⟨_, rfl⟩
        rw [ha] at R1 h1
        rw [hb] at R2 h1 h2
        clear ha hb
        go_wp2_with fail
        refine (section_walk _ _ _ s early _ (S2.ext X)).mono ?_
        rw [R1.out]
        rintro e w4 ⟨rfl, x4⟩
        have y4 := X.trans x4
        clear c0 c1 c2 c3 x4
        obtain ⟨c0, c1, c2, c3⟩ := HB2.out.ext y4
        go_wp2_with fail
        refine (section_walk _ _ _ s late _ (S2.ext y4)).mono ?_
        rw [R2.out]
        rintro e w5 ⟨rfl, x5⟩
        have y5 := y4.trans x5
        clear c0 c1 c2 c3 x5
        obtain ⟨c0, c1, c2, c3⟩ := HB2.out.ext y5
        clear c0 c1 c2
        have k1 : (a : Int) ≤ (b : Int) := by omega
        have k2 : (b : Int) ≤ (s.cads.length : Int) := by omega
        have k3 : (0 : Int) ≤ (a : Int) := by omega
        go_wp2
        go_ret
        exact ⟨by first | rfl | simp, X2.trans y5⟩

theorem scoreSections_args (H : Type) (enc : TypeId × Value → H) (W : World) (base : Nat) (vs : List Value) (ds : List (DataW H)) (hA : Args enc Try.prog W base Try.f4.params.toList vs ds) :
    Calls Try.prog 4 vs.toArray W fun e W' => e = .returned (.bool true) ∧ Ext W W' := by
  rw [Try.params4] at hA
  obtain ⟨v0, _, d0, _, rfl, rfl, h0, hA⟩ := hA.cons
  obtain ⟨v1, _, d1, _, rfl, rfl, h1, hA⟩ := hA.cons
  obtain ⟨v2, _, d2, _, rfl, rfl, h2, hA⟩ := hA.cons
  obtain ⟨rfl, rfl⟩ := hA.nil
  obtain ⟨s, vn, vp, vc, rfl, S⟩ := arg_score h0
  obtain ⟨a, rfl, _⟩ := h1.int Try.underlying3
  obtain ⟨b, rfl, _⟩ := h2.int Try.underlying3
  exact sections_law vn vp vc s a b W S

set_option maxRecDepth 100000 in
theorem scoreSections_lifted (os : Os) (started : os.Started) (H : Type) (enc : TypeId × Value → H) :
    ReturnsInHanded {} Try.checked os 4 .any (Rows.scoreSectionsSpec.pre6 enc Try.prog Try.f4 Rows.scoreSectionsRow.domain false) (Rows.scoreSectionsSpec.post enc Try.prog Try.f4 false true false false) :=
  law_said (C := Try.checked) (by kernel_rfl) started (by kernel_rfl) Try.func4
    (ChangeSpec.witness6 (enc := enc) (C := Try.checked) false ⟨#[], #[.agg #[.int .i64 0, .slice none 0 0, .slice none 0 0, .slice none 0 0], .int .i64 0, .int .i64 0], []⟩ 8 (by kernel_rfl) (by kernel_rfl) (by kernel_rfl) (by kernel_rfl))
    (by kernel_rfl) (by kernel_rfl) (by kernel_rfl) rfl (fun ds h => by match ds, h with | [_, _, _], _ => rfl) (scoreSections_args H enc)

theorem scoreSections_holds : Rows.ScoreSectionsSaid :=
  OpenClaim.holds_of_wide 4 Try.f4 rfl rfl rfl rfl rfl rfl rfl ⟨rfl, rfl, rfl, rfl, rfl⟩ rfl rfl rfl rfl rfl (by kernel_rfl) Try.func4 (by kernel_rfl)
    (of_decide_eq_true (by kernel_rfl)) (by unfold Func.isWrapper; first | (rw [if_pos (by decide +kernel)]; kernel_rfl) | (rw [if_neg (by decide +kernel)]; exact ⟨rfl, rfl⟩))
    (fun os started H enc _ => scoreSections_lifted os started H enc)
end Go.Proofs.Ytajicmghnllnmaa
