/-
  Proved: 'ReportBinding' returns true for every input and leaves its arguments as they were. No condition.
-/
import Derived.Test.YteelklpppfahcaaRepX
import Derived.Test.YteelklpppfahcaaShut
set_option linter.unusedVariables false
namespace Go.Proofs.Yteelklpppfahcaa
open Go.RowKit Go.Sx Go.Sx.Rep Go.ChangeShapes Go.WideShapes Go.ChangeAt

set_option maxHeartbeats 4000000 in
theorem binding_walk (v pv : Value) (xs ps : List Int) (i leaf : Int) (w : World) (S : Sl w 1 encU v xs) (T : Sl w 1 encU pv ps) :
    Calls Try.prog 5 #[v, .int .i64 i, .int .u64 leaf, pv] w fun e w' => e = .returned (.bool true) ∧ Ext w w' := by
  obtain ⟨a?, cap, rfl, h1, h2, h3⟩ := S.len
  obtain ⟨b?, cbp, rfl, k1, k2, k3⟩ := T.len
  clear h1 h2 k1 k2
  by_cases hr : rootErr xs = 0
  · have HR := Lib.hid hr
    by_cases he : pathErr xs i = 0
    · have hz := pathErr_zero.1 he
      obtain ⟨⟨z1, z2⟩, z3, z4⟩ := hz
      obtain ⟨k, rfl⟩ : ∃ k : Nat, i = k := ⟨i.toNat, by omega⟩
      have hk : k < xs.length := by omega
      have hrv := Lib.hid (show rootV xs = root xs by unfold rootV; rw [if_pos hr])
      have hpl := Lib.hid (show pathL xs k = pathG xs k by unfold pathL; rw [if_pos he]; rfl)
      have hck := path_check xs k hk z2
      have hdp := pathG_deep xs k hk z2
      have hcl := check_len xs k (root xs) leaf ps
      obtain ⟨g, hg⟩ : ∃ g, pathG xs k = g := ⟨_, rfl⟩
      have HG := Lib.hid hg
      rw [hg] at hck hdp hcl
      rw [hg] at hpl
      clear hg
      have HE := Lib.hid he
      obtain ⟨b0, o0, rfl, hc⟩ := S.at1 k hk
      simp only [encU, List.getD_cons_zero] at hc
      cases hcc : checkF (root xs) leaf k xs.length ps with
      | false =>
        have HCC := Lib.hid hcc
        clear hcc hck hdp hcl he hr
        go_enter Try.func5, Try.ntmps5
        go_wp2_with fail
        refine (head_walk _).mono ?_
        rintro e w1 ⟨rfl, x1⟩
        go_wp2_with fail
        refine (root_walk _ xs _ (S.ext x1)).mono ?_
        rw [HR.out, hrv.out]
        rintro e w2 ⟨rfl, x2⟩
        have X2 := x1.trans x2
        go_wp2_with fail
        refine (path_walk _ xs k _ (S.ext X2)).mono ?_
        rw [HE.out, hpl.out]
        rintro e w3 ⟨p, rfl, o3, x3⟩
        have X3 := X2.trans x3
        clear o3
        go_wp2_with fail
        refine (check_walk (root xs) leaf k xs.length _ ps _ (T.ext X3)).mono ?_
        rw [HCC.out]
        rintro e w4 ⟨rfl, x4⟩
        have X4 := X3.trans x4
        clear S T
        go_wp2
        go_ret
        exact ⟨rfl, X4⟩
      | true =>
        have HCC := Lib.hid hcc
        have hpl2 := hcl hcc
        have hl1 : ¬ (10 : Int) < ps.length := by omega
        have hl2 : ¬ (10 : Int) < g.length := by omega
        have ha := check_leads (root xs) leaf k xs.length ps hk z2
        have hb := check_leads (root xs) xs[k] k xs.length g hk z2
        rw [hcc] at ha
        rw [hck] at hb
        have hbind := leads_bind xs.length leaf xs[k] k xs.length ps g
        obtain ⟨⟨ta, pas, oa⟩, hLa⟩ : ∃ r, leadsF xs.length leaf k xs.length ps = r := ⟨_, rfl⟩
        obtain ⟨⟨tb, pbs, ob⟩, hLb⟩ : ∃ r, leadsF xs.length xs[k] k xs.length g = r := ⟨_, rfl⟩
        rw [hLa] at ha hbind
        rw [hLb] at hb hbind
        simp only [] at ha hb hbind
        obtain ⟨hoa, hta⟩ := Bool.and_eq_true_iff.1 ha.symm
        obtain ⟨hob, htb⟩ := Bool.and_eq_true_iff.1 hb.symm
        subst hoa hob
        have hta := beq_iff_eq.1 hta
        have htb := beq_iff_eq.1 htb
        subst hta
        subst htb
        have hor := (hbind rfl rfl).2 rfl
        have HLa := Lib.hid hLa
        have HLb := Lib.hid hLb
        have HOR := Lib.hid hor
        clear hcc hck hdp hcl he hr ha hb hbind hLa hLb hor hpl2
        go_enter Try.func5, Try.ntmps5
        go_wp2_with fail
        refine (head_walk _).mono ?_
        rintro e w1 ⟨rfl, x1⟩
        go_wp2_with fail
        refine (root_walk _ xs _ (S.ext x1)).mono ?_
        rw [HR.out, hrv.out]
        rintro e w2 ⟨rfl, x2⟩
        have X2 := x1.trans x2
        go_wp2_with fail
        refine (path_walk _ xs k _ (S.ext X2)).mono ?_
        rw [HE.out, hpl.out]
        rintro e w3 ⟨p, rfl, o3, x3⟩
        have X3 := X2.trans x3
        have s3 := o3.sl (by simp [encU]) (by omega)
        obtain ⟨pa, pn, pc, rfl⟩ := o3.shape
        obtain ⟨_, _, e, _, _, _⟩ := s3.len
        injection e with e1 e2 e3
        subst e2
        clear e1 e3 o3
        go_wp2_with fail
        refine (check_walk (root xs) leaf k xs.length _ ps _ (T.ext X3)).mono ?_
        rw [HCC.out]
        rintro e w4 ⟨rfl, x4⟩
        have X4 := X3.trans x4
        go_wp2_with fail
        refine (leads_walk xs.length leaf k xs.length _ ps _ (Nat.le_refl _) (by omega) hk (T.ext X4)).mono ?_
        rw [HLa.out]
        rintro e w5 ⟨pv, rfl, o5, x5⟩
        have X5 := X4.trans x5
        obtain ⟨qa, qn, qc, rfl⟩ := o5.shape
        have hc5 := (X5.alloc (.cells #[.int .u64 (root xs), .slice qa qn qc, .bool true] 37)).cell hc
        go_wp2_with fail
        refine (leads_walk xs.length xs[k] k xs.length _ g _ (Nat.le_refl _) (by omega) hk ((s3.ext (x4.trans x5)).ext (Ext.alloc' _ _))).mono ?_
        rw [HLb.out]
        rintro e w6 ⟨pv, rfl, o6, x6⟩
        have y6 : Ext w5 w6 := Ext.trans (Ext.alloc' _ _) x6
        have X6 := X5.trans y6
        obtain ⟨ra, rn, rc, rfl⟩ := o6.shape
        have f0 := x6.cell (alloc_cell w5 #[.int .u64 (root xs), .slice qa qn qc, .bool true] 37 1 (.slice qa qn qc) rfl)
        have f1 := (Ext.alloc' w6 (.cells #[.int .u64 (root xs), .slice ra rn rc, .bool true] 37)).cell f0
        have f2 := alloc_cell w6 #[.int .u64 (root xs), .slice ra rn rc, .bool true] 37 1 (.slice ra rn rc) rfl
        have X7 := X6.alloc (.cells #[.int .u64 (root xs), .slice ra rn rc, .bool true] 37)
        have la : pas.length ≤ xs.length := by have := leadsF_len xs.length leaf k xs.length ps; rw [HLa.out] at this; exact this
        have lb : pbs.length ≤ xs.length := by have := leadsF_len xs.length xs[k] k xs.length g; rw [HLb.out] at this; exact this
        have s5 := ((o5.sl (by simp [encP]) (show pas.length ≤ _ by omega)).ext y6).ext (Ext.alloc' w6 (.cells #[.int .u64 (root xs), .slice ra rn rc, .bool true] 37))
        have s6 := (o6.sl (by simp [encP]) (show pbs.length ≤ _ by omega)).ext (Ext.alloc' w6 (.cells #[.int .u64 (root xs), .slice ra rn rc, .bool true] 37))
        have s7 := ((s3.ext (x4.trans x5)).ext y6).ext (Ext.alloc' w6 (.cells #[.int .u64 (root xs), .slice ra rn rc, .bool true] 37))
        have T7 := T.ext X7
        have hc7 := X7.cell hc
        clear S T s3 o5 o6 hc5 hc f0
        obtain ⟨w7, hw7⟩ : ∃ x, w6.alloc (.cells #[.int .u64 (root xs), .slice ra rn rc, .bool true] 37) = x := ⟨_, rfl⟩
        rw [hw7] at f1 f2 s5 s6 s7 T7 hc7 X7
        have HW7 := Lib.hid hw7
        clear hw7
        cases hq : (leaf == xs[k]) with
        | false =>
          have hco := HOR.out.resolve_left (fun h => (beq_eq_false_iff_ne.1 hq) h.1)
          have HCO := Lib.hid hco
          clear hco
          go_wp2_with (first
            | (rw [HW7.out])
            | (go_at_call 17; go_must (refine (collide_walk _ _ pas pbs _ s5 s6).mono ?_); rw [HCO.out]; rintro e w8 ⟨rfl, x8⟩; have X8 := X7.trans x8)
            | fail)
          go_ret
          exact ⟨rfl, X8⟩
        | true =>
          by_cases hpg : ps = g
          · have hd := Lib.hid (decide_eq_true hpg)
            clear hpg
            go_wp2_with (first
              | (rw [HW7.out])
              | (go_at_call 16; go_must (refine (same_walk _ _ ps g _ T7 s7).mono ?_); rw [hd.out]; rintro e w8 ⟨rfl, x8⟩; have X8 := X7.trans x8)
              | fail)
            go_ret
            exact ⟨rfl, X8⟩
          · have hd := Lib.hid (decide_eq_false hpg)
            have HCO := Lib.hid (HOR.out.resolve_left (fun h => hpg h.2))
            clear hpg
            go_wp2_with (first
              | (rw [HW7.out])
              | (go_at_call 16; go_must (refine (same_walk _ _ ps g _ T7 s7).mono ?_); rw [hd.out]; rintro e w8 ⟨rfl, x8⟩; have X8 := X7.trans x8; have u5 := s5.ext x8; have u6 := s6.ext x8; have v1 := x8.cell f1; have v2 := x8.cell f2)
              | (go_at_call 17; go_must (refine (collide_walk _ _ pas pbs _ u5 u6).mono ?_); rw [HCO.out]; rintro e w9 ⟨rfl, x9⟩; have X9 := X8.trans x9)
              | fail)
            go_ret
            exact ⟨rfl, X9⟩
    · have hne : (pathErr xs i != 0) = true := by rw [bne_iff_ne]; exact he
      obtain ⟨er, her⟩ : ∃ er, pathErr xs i = er := ⟨_, rfl⟩
      rw [her] at hne
      have HE := Lib.hid her
      clear her hr he
      go_enter Try.func5, Try.ntmps5
      go_wp2_with fail
      refine (head_walk _).mono ?_
      rintro e w1 ⟨rfl, x1⟩
      go_wp2_with fail
      refine (root_walk _ xs _ (S.ext x1)).mono ?_
      rw [HR.out]
      rintro e w2 ⟨rfl, x2⟩
      have X2 := x1.trans x2
      go_wp2_with fail
      refine (path_walk _ xs i _ (S.ext X2)).mono ?_
      rw [HE.out]
      rintro e w3 ⟨p, rfl, o3, x3⟩
      have X3 := X2.trans x3
      clear o3 S T
      go_wp2
      go_ret
      exact ⟨rfl, X3⟩
  · have hne : (rootErr xs != 0) = true := by rw [bne_iff_ne]; exact hr
    obtain ⟨er, her⟩ : ∃ er, rootErr xs = er := ⟨_, rfl⟩
    rw [her] at hne
    have HR := Lib.hid her
    obtain ⟨ep, hep⟩ : ∃ ep, pathErr xs i = ep := ⟨_, rfl⟩
    have HE := Lib.hid hep
    clear her hr hep
    go_enter Try.func5, Try.ntmps5
    go_wp2_with fail
    refine (head_walk _).mono ?_
    rintro e w1 ⟨rfl, x1⟩
    go_wp2_with fail
    refine (root_walk _ xs _ (S.ext x1)).mono ?_
    rw [HR.out]
    rintro e w2 ⟨rfl, x2⟩
    have X2 := x1.trans x2
    go_wp2_with fail
    refine (path_walk _ xs i _ (S.ext X2)).mono ?_
    rw [HE.out]
    rintro e w3 ⟨p, rfl, o3, x3⟩
    have X3 := X2.trans x3
    clear o3 S T
    go_wp2
    go_ret
    exact ⟨rfl, X3⟩

theorem reportBinding_args (H : Type) (enc : TypeId × Value → H) (W : World) (base : Nat) (vs : List Value) (ds : List (DataW H)) (hA : Args enc Try.prog W base Try.f5.params.toList vs ds) :
    Calls Try.prog 5 vs.toArray W fun e W' => e = .returned (.bool true) ∧ Ext W W' := by
  rw [Try.params5] at hA
  obtain ⟨v0, _, d0, _, rfl, rfl, h0, hA⟩ := hA.cons
  obtain ⟨v1, _, d1, _, rfl, rfl, h1, hA⟩ := hA.cons
  obtain ⟨v2, _, d2, _, rfl, rfl, h2, hA⟩ := hA.cons
  obtain ⟨v3, _, d3, _, rfl, rfl, h3, hA⟩ := hA.cons
  obtain ⟨rfl, rfl⟩ := hA.nil
  obtain ⟨xs, S, _, _⟩ := h0.sl Try.underlying27 (by kernel_rfl) (of_decide_eq_true (by kernel_rfl)) (elem_int Try.underlying24)
  obtain ⟨i, rfl, _⟩ := h1.int Try.underlying3
  obtain ⟨leaf, rfl, _⟩ := h2.int Try.underlying24
  obtain ⟨ps, T, _, _⟩ := h3.sl Try.underlying27 (by kernel_rfl) (of_decide_eq_true (by kernel_rfl)) (elem_int Try.underlying24)
  exact binding_walk v0 v3 xs ps i leaf W S T

set_option maxRecDepth 100000 in
theorem reportBinding_lifted (os : Os) (started : os.Started) (H : Type) (enc : TypeId × Value → H) :
    ReturnsInHanded {} Try.checked os 5 .any (Rows.reportBindingSpec.pre6 enc Try.prog Try.f5 Rows.reportBindingRow.domain false) (Rows.reportBindingSpec.post enc Try.prog Try.f5 false true false false) :=
  law_said (C := Try.checked) (by kernel_rfl) started (by kernel_rfl) Try.func5
    (ChangeSpec.witness6 (enc := enc) (C := Try.checked) false ⟨#[], #[.slice none 0 0, .int .i64 0, .int .u64 0, .slice none 0 0], []⟩ 8 (by kernel_rfl) (by kernel_rfl) (by kernel_rfl) (by kernel_rfl))
    (by kernel_rfl) (by kernel_rfl) (by kernel_rfl) rfl (fun ds h => by match ds, h with | [_, _, _, _], _ => rfl) (reportBinding_args H enc)

theorem reportBinding_holds : Rows.ReportBindingSaid :=
  OpenClaim.holds_of_wide 5 Try.f5 rfl rfl rfl rfl rfl rfl rfl ⟨rfl, rfl, rfl, rfl, rfl⟩ rfl rfl rfl rfl rfl (by kernel_rfl) Try.func5 (by kernel_rfl)
    (of_decide_eq_true (by kernel_rfl)) (by unfold Func.isWrapper; first | (rw [if_pos (by decide +kernel)]; kernel_rfl) | (rw [if_neg (by decide +kernel)]; exact ⟨rfl, rfl⟩))
    (fun os started H enc _ => reportBinding_lifted os started H enc)
end Go.Proofs.Yteelklpppfahcaa
