/-
  Proved: 'ReportPaths' returns true for every input and leaves its arguments as they were. No condition.
-/
import Derived.Test.YteelklpppfahcaaRepK
import Derived.Test.YteelklpppfahcaaRepP
import Derived.Test.YteelklpppfahcaaShut
namespace Go.Proofs.Yteelklpppfahcaa
open Go.RowKit Go.Sx Go.Sx.Rep Go.ChangeShapes Go.WideShapes Go.ChangeAt

set_option maxHeartbeats 1000000 in
theorem paths_walk (v pv : Value) (xs ps : List Int) (i rt leaf : Int) (w : World) (S : Sl w 1 encU v xs) (T : Sl w 1 encU pv ps) :
    Calls Try.prog 4 #[v, .int .i64 i, .int .u64 rt, .int .u64 leaf, pv] w fun e w' => e = .returned (.bool true) ∧ Ext w w' := by
  obtain ⟨a?, cap, rfl, h1, h2, h3⟩ := S.len
  obtain ⟨b?, cbp, rfl, k1, k2, k3⟩ := T.len
  clear h1 h2 k1 k2
  by_cases he : pathErr xs i = 0
  · have hz := pathErr_zero.1 he
    obtain ⟨⟨z1, z2⟩, z3, z4⟩ := hz
    obtain ⟨k, rfl⟩ : ∃ k : Nat, i = k := ⟨i.toNat, by omega⟩
    have hk : k < xs.length := by omega
    have hre := Lib.hid (rootErr_zero.2 ⟨z1, z2⟩)
    have hrv := Lib.hid (show rootV xs = root xs by unfold rootV; rw [if_pos hre.out])
    have hpl := Lib.hid (show pathL xs k = pathG xs k by unfold pathL; rw [if_pos he]; rfl)
    have hck := Lib.hid (path_check xs k hk z2)
    have hdp := pathG_deep xs k hk z2
    have hcl := Lib.hid (check_len xs k rt leaf ps)
    obtain ⟨g, hg⟩ : ∃ g, pathG xs k = g := ⟨_, rfl⟩
    have HG := Lib.hid hg; clear hg
    rw [HG.out] at hpl hck hdp hcl
    have HE := Lib.hid he; clear he
    obtain ⟨b0, o0, rfl, hc⟩ := S.at1 k hk
    simp only [encU, List.getD_cons_zero] at hc
    go_enter Try.func4, Try.ntmps4
    go_wp2_with fail
    refine (head_walk _).mono ?_
    rintro e w1 ⟨rfl, x1⟩
    go_wp2_with fail
    refine (path_walk _ xs k _ (S.ext x1)).mono ?_
    rw [HE.out, hpl.out]
    rintro e w2 ⟨p, rfl, o2, x2⟩
    have X2 := x1.trans x2
    go_wp2_with fail
    refine (root_walk _ xs _ (S.ext X2)).mono ?_
    rw [hre.out, hrv.out]
    rintro e w3 ⟨rfl, x3⟩
    have X3 := X2.trans x3
    have gc := X3.cell hc
    have s2 := (o2.sl (by simp [encU]) (by omega)).ext x3
    obtain ⟨pa, pn, pc, rfl⟩ := o2.shape
    obtain ⟨_, _, e, _, _, _⟩ := s2.len
    injection e with e1 e2 e3
    subst e2
    clear e1 e3 o2 x2 X2 hc
    go_wp2_with fail
    refine (check_walk (root xs) xs[k] k xs.length _ g _ s2).mono ?_
    rw [hck.out]
    rintro e w4 ⟨rfl, x4⟩
    have X4 := X3.trans x4
    go_wp2_with fail
    refine (check_walk rt leaf k xs.length _ ps _ (T.ext X4)).mono ?_
    rintro e w5 ⟨rfl, x5⟩
    have X5 := X4.trans x5
    have hd : decide (((g.length : Nat) : Int) ≤ 10) = true := decide_eq_true (by omega)
    clear S T s2
    cases hcc : checkF rt leaf k xs.length ps with
    | false =>
      go_wp2
      go_ret
      exact ⟨rfl, X5⟩
    | true =>
      have hll : ((ps.length : Int) == g.length) = true := by rw [beq_iff_eq, hcl.out hcc]
      clear hcc
      go_wp2
      go_ret
      exact ⟨rfl, X5⟩
  · have hpl := Lib.hid (show pathL xs i = [] by unfold pathL; rw [if_neg he])
    have hb : (pathErr xs i != 0) = true := by rw [bne_iff_ne]; exact he
    by_cases hr : rootErr xs = 0
    · have hpe : pathErr xs i = if i < 0 ∨ (xs.length : Int) ≤ i then 1 else 0 := by unfold pathErr; rw [if_pos hr]
      have hor : i < 0 ∨ (xs.length : Int) ≤ i := by
        by_cases h : i < 0 ∨ (xs.length : Int) ≤ i
        · exact h
        · rw [if_neg h] at hpe; exact absurd hpe he
      rw [if_pos hor] at hpe
      have HPE := Lib.hid hpe; have HR := Lib.hid hr
      clear hpe hr hb he
      go_enter Try.func4, Try.ntmps4
      go_wp2_with fail
      refine (head_walk _).mono ?_
      rintro e w1 ⟨rfl, x1⟩
      go_wp2_with fail
      refine (path_walk _ xs i _ (S.ext x1)).mono ?_
      rw [HPE.out, hpl.out]
      rintro e w2 ⟨p, rfl, o2, x2⟩
      have X2 := x1.trans x2
      go_wp2_with fail
      refine (root_walk _ xs _ (S.ext X2)).mono ?_
      rw [HR.out]
      rintro e w3 ⟨rfl, x3⟩
      have X3 := X2.trans x3
      have s2 := (o2.sl (by simp [encU]) (by simp)).ext x3
      obtain ⟨pa, pn, pc, rfl⟩ := o2.shape
      obtain ⟨_, _, e, _, _, _⟩ := s2.len
      injection e with e1 e2 e3
      simp only [List.length_nil] at e2
      subst e2
      clear e1 e3 o2 x2 X2 s2 S T
      rcases Int.lt_or_le i 0 with hi | hi
      · clear hor
        go_wp2
        go_ret
        exact ⟨rfl, X3⟩
      · have hi2 : (xs.length : Int) ≤ i := by omega
        clear hor
        go_wp2
        go_ret
        exact ⟨rfl, X3⟩
    · have hpe : pathErr xs i = rootErr xs := by unfold pathErr; rw [if_neg hr]
      rw [hpe] at hb
      have hb' : (rootErr xs != 0) = true := hb
      have HPE := Lib.hid hpe; have HR := Lib.hid hr
      clear hpe hr hb he
      obtain ⟨er, her⟩ : ∃ er, rootErr xs = er := ⟨_, rfl⟩
      rw [her] at hb' HPE
      have HER := Lib.hid her; clear her
      go_enter Try.func4, Try.ntmps4
      go_wp2_with fail
      refine (head_walk _).mono ?_
      rintro e w1 ⟨rfl, x1⟩
      go_wp2_with fail
      refine (path_walk _ xs i _ (S.ext x1)).mono ?_
      rw [HPE.out, hpl.out]
      rintro e w2 ⟨p, rfl, o2, x2⟩
      have X2 := x1.trans x2
      go_wp2_with fail
      refine (root_walk _ xs _ (S.ext X2)).mono ?_
      rw [HER.out]
      rintro e w3 ⟨rfl, x3⟩
      have X3 := X2.trans x3
      have s2 := (o2.sl (by simp [encU]) (by simp)).ext x3
      obtain ⟨pa, pn, pc, rfl⟩ := o2.shape
      obtain ⟨_, _, e, _, _, _⟩ := s2.len
      injection e with e1 e2 e3
      simp only [List.length_nil] at e2
      subst e2
      clear e1 e3 o2 x2 X2 s2 S T
      have hee : (er == er) = true := beq_self_eq_true er
      go_wp2
      go_ret
      exact ⟨rfl, X3⟩

theorem reportPaths_args (H : Type) (enc : TypeId × Value → H) (W : World) (base : Nat) (vs : List Value) (ds : List (DataW H)) (hA : Args enc Try.prog W base Try.f4.params.toList vs ds) :
    Calls Try.prog 4 vs.toArray W fun e W' => e = .returned (.bool true) ∧ Ext W W' := by
  rw [Try.params4] at hA
  obtain ⟨v0, _, d0, _, rfl, rfl, h0, hA⟩ := hA.cons
  obtain ⟨v1, _, d1, _, rfl, rfl, h1, hA⟩ := hA.cons
  obtain ⟨v2, _, d2, _, rfl, rfl, h2, hA⟩ := hA.cons
  obtain ⟨v3, _, d3, _, rfl, rfl, h3, hA⟩ := hA.cons
  obtain ⟨v4, _, d4, _, rfl, rfl, h4, hA⟩ := hA.cons
  obtain ⟨rfl, rfl⟩ := hA.nil
  obtain ⟨xs, S, _, _⟩ := h0.sl Try.underlying27 (by kernel_rfl) (of_decide_eq_true (by kernel_rfl)) (elem_int Try.underlying24)
  obtain ⟨i, rfl, _⟩ := h1.int Try.underlying3
  obtain ⟨rt, rfl, _⟩ := h2.int Try.underlying24
  obtain ⟨leaf, rfl, _⟩ := h3.int Try.underlying24
  obtain ⟨ps, T, _, _⟩ := h4.sl Try.underlying27 (by kernel_rfl) (of_decide_eq_true (by kernel_rfl)) (elem_int Try.underlying24)
  exact paths_walk v0 v4 xs ps i rt leaf W S T

set_option maxRecDepth 100000 in
theorem reportPaths_lifted (os : Os) (started : os.Started) (H : Type) (enc : TypeId × Value → H) :
    ReturnsInHanded {} Try.checked os 4 .any (Rows.reportPathsSpec.pre6 enc Try.prog Try.f4 Rows.reportPathsRow.domain false) (Rows.reportPathsSpec.post enc Try.prog Try.f4 false true false false) :=
  law_said (C := Try.checked) (by kernel_rfl) started (by kernel_rfl) Try.func4
    (ChangeSpec.witness6 (enc := enc) (C := Try.checked) false ⟨#[], #[.slice none 0 0, .int .i64 0, .int .u64 0, .int .u64 0, .slice none 0 0], []⟩ 8 (by kernel_rfl) (by kernel_rfl) (by kernel_rfl) (by kernel_rfl))
    (by kernel_rfl) (by kernel_rfl) (by kernel_rfl) rfl (fun ds h => by match ds, h with | [_, _, _, _, _], _ => rfl) (reportPaths_args H enc)

theorem reportPaths_holds : Rows.ReportPathsSaid :=
  OpenClaim.holds_of_wide 4 Try.f4 rfl rfl rfl rfl rfl rfl rfl ⟨rfl, rfl, rfl, rfl, rfl⟩ rfl rfl rfl rfl rfl (by kernel_rfl) Try.func4 (by kernel_rfl)
    (of_decide_eq_true (by kernel_rfl)) (by unfold Func.isWrapper; first | (rw [if_pos (by decide +kernel)]; kernel_rfl) | (rw [if_neg (by decide +kernel)]; exact ⟨rfl, rfl⟩))
    (fun os started H enc _ => reportPaths_lifted os started H enc)
end Go.Proofs.Yteelklpppfahcaa
