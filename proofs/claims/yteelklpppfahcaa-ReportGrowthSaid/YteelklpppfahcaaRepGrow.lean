/-
  Proved: 'ReportGrowth' returns true for every input and leaves its arguments as they were. No condition.
-/
import Derived.Test.YteelklpppfahcaaRepK
import Derived.Test.YteelklpppfahcaaRepP
import Derived.Test.YteelklpppfahcaaShut
namespace Go.Proofs.Yteelklpppfahcaa
open Go.RowKit Go.Sx Go.Sx.Rep Go.ChangeShapes Go.WideShapes Go.ChangeAt

/-- The first m of a list, as a slice. -/
theorem Sl_take {α : Type} {w : World} {sz : Nat} {enc : α → List Value} {a? : Option Addr} {n cap : Nat} {xs : List α} (S : Sl w sz enc (.slice a? n cap) xs) (m : Nat) (hm : m ≤ xs.length) : Sl w sz enc (.slice a? m cap) (xs.take m) := by
  obtain ⟨a, c, e, h1, h2, h3, h4⟩ := S
  injection e with e1 e2 e3
  subst e1 e2 e3
  have hl : (xs.take m).length = m := by simp; omega
  refine ⟨a?, cap, by rw [hl], by omega, h2, by omega, fun i hi => ?_⟩
  obtain ⟨a, ha, hc⟩ := h4 i (by omega)
  exact ⟨a, ha, fun j hj => by rw [hc j hj]; simp⟩

set_option maxHeartbeats 2000000 in
theorem growth_walk (v : Value) (xs : List Int) (i other : Int) (w : World) (S : Sl w 1 encU v xs) :
    Calls Try.prog 6 #[v, .int .i64 i, .int .u64 other] w fun e w' => e = .returned (.bool true) ∧ Ext w w' := by
  obtain ⟨a?, cap, rfl, h1, h2, h3⟩ := S.len
  by_cases he : growErr xs i = 0
  · have hz := growErr_zero.1 he
    obtain ⟨⟨z1, z2⟩, z3, z4⟩ := hz
    obtain ⟨m, rfl⟩ : ∃ m : Nat, i = m := ⟨i.toNat, by omega⟩
    have hm1 : 1 ≤ m := by omega
    have hm2 : m ≤ xs.length := by omega
    have hre := Lib.hid (rootErr_zero.2 ⟨z1, z2⟩)
    have hre2 := Lib.hid (rootErr_take xs m hm1 hm2 z2)
    have hrv := Lib.hid (show rootV xs = root xs by unfold rootV; rw [if_pos hre.out])
    have hrv2 := Lib.hid (show rootV (xs.take m) = root (xs.take m) by unfold rootV; rw [if_pos hre2.out])
    have hpl := Lib.hid (show growL xs m = growG xs m by unfold growL; rw [if_pos he]; rfl)
    have hck := Lib.hid (grow_follows xs m hm1 hm2 z2)
    have hdp := growG_deep xs m hm1 hm2 z2
    have hsome := fun h => grow_some xs m hm1 h
    have hfull := fun (h : m = xs.length) => show growG xs m = [] by rw [h]; exact grow_full xs z1
    obtain ⟨g, hg⟩ : ∃ g, growG xs m = g := ⟨_, rfl⟩
    have HG := Lib.hid hg; clear hg
    rw [HG.out] at hpl hck hdp hsome hfull
    have HE := Lib.hid he; clear he
    have hcap : m ≤ cap := by omega
    unfold maxLen at h2
    have T := Sl_take S m hm2
    obtain ⟨b0, o0, rfl, hc0⟩ := S.at1 0 z1
    clear h1
    go_enter Try.func6, Try.ntmps6
    go_wp2_with fail
    refine (head_walk _).mono ?_
    rintro e w1 ⟨rfl, x1⟩
    go_wp2_with fail
    refine (grow_walk _ xs m _ (S.ext x1)).mono ?_
    rw [HE.out, hpl.out]
    rintro e w2 ⟨p, rfl, o2, x2⟩
    have X2 := x1.trans x2
    go_wp2_with fail
    refine (root_walk _ xs _ (S.ext X2)).mono ?_
    rw [hre.out, hrv.out]
    rintro e w3 ⟨rfl, x3⟩
    have X3 := X2.trans x3
    have s2 := (o2.sl (by simp [encU]) (by omega)).ext x3
    obtain ⟨pa, pn, pc, rfl⟩ := o2.shape
    obtain ⟨_, _, e, _, _, _⟩ := s2.len
    injection e with e1 e2 e3
    subst e2
    clear e1 e3 o2 x2 X2 hc0
    go_wp2_with fail
    refine (root_walk _ (xs.take m) _ (T.ext X3)).mono ?_
    rw [hre2.out, hrv2.out]
    rintro e w4 ⟨rfl, x4⟩
    have X4 := X3.trans x4
    go_wp2_with fail
    refine (follows_walk _ _ m xs.length _ g _ (s2.ext x4)).mono ?_
    rw [hck.out]
    rintro e w5 ⟨rfl, x5⟩
    have X5 := X4.trans x5
    clear S T s2
    by_cases hlt : m < xs.length
    · have hlt' : (m : Int) < xs.length := by omega
      have hg0 : decide ((0 : Int) < (g.length : Nat)) = true := decide_eq_true (by have := hsome hlt; omega)
      go_wp2
      go_ret
      exact ⟨rfl, X5⟩
    · have hme : m = xs.length := by omega
      have hgn := hfull hme
      subst hgn
      subst hme
      have hlt' : ¬ (xs.length : Int) < xs.length := by omega
      have hff := Lib.hid (follows_full other (root xs) xs.length (by omega) (by omega))
      have hz0 : (((([] : List Int).length : Nat) : Int) == 0) = true := rfl
      go_wp2_with fail
      refine (follows_walk other _ xs.length xs.length _ [] _ (Sl.nil _ _ _)).mono ?_
      rw [hff.out]
      rintro e w6 ⟨rfl, x6⟩
      have X6 := X5.trans x6
      cases hot : (other == root xs) with
      | true =>
        go_wp2
        go_ret
        exact ⟨rfl, X6⟩
      | false =>
        go_wp2
        go_ret
        exact ⟨rfl, X6⟩
  · have hpl := Lib.hid (show growL xs i = [] by unfold growL; rw [if_neg he])
    have hb : (growErr xs i != 0) = true := by rw [bne_iff_ne]; exact he
    clear h1 h2
    by_cases hr : rootErr xs = 0
    · have hpe : growErr xs i = if i < 1 ∨ (xs.length : Int) < i then 1 else 0 := by unfold growErr; rw [if_pos hr]
      have hor : i < 1 ∨ (xs.length : Int) < i := by
        by_cases h : i < 1 ∨ (xs.length : Int) < i
        · exact h
        · rw [if_neg h] at hpe; exact absurd hpe he
      rw [if_pos hor] at hpe
      have HPE := Lib.hid hpe; have HR := Lib.hid hr
      clear hpe hr hb he
      go_enter Try.func6, Try.ntmps6
      go_wp2_with fail
      refine (head_walk _).mono ?_
      rintro e w1 ⟨rfl, x1⟩
      go_wp2_with fail
      refine (grow_walk _ xs i _ (S.ext x1)).mono ?_
      rw [HPE.out, hpl.out]
      rintro e w2 ⟨p, rfl, o2, x2⟩
      have X2 := x1.trans x2
      go_wp2_with fail
      refine (root_walk _ xs _ (S.ext X2)).mono ?_
      rw [HR.out]
      rintro e w3 ⟨rfl, x3⟩
      have X3 := X2.trans x3
      have s2 := (o2.sl (by simp [encU]) (by simp)).ext x3
      obtain ⟨pa, pn, pc, rfl⟩ := o2.shape
      obtain ⟨_, _, e, _, _, _⟩ := s2.len
      injection e with e1 e2 e3
      simp only [List.length_nil] at e2
      subst e2
      clear e1 e3 o2 x2 X2 s2 S
      rcases Int.lt_or_le i 1 with hi | hi
      · clear hor
        go_wp2
        go_ret
        exact ⟨rfl, X3⟩
      · have hi2 : (xs.length : Int) < i := by omega
        clear hor
        go_wp2
        go_ret
        exact ⟨rfl, X3⟩
    · have hpe : growErr xs i = rootErr xs := by unfold growErr; rw [if_neg hr]
      rw [hpe] at hb
      have hb' : (rootErr xs != 0) = true := hb
      have HPE := Lib.hid hpe; have HR := Lib.hid hr
      clear hpe hr hb he
      obtain ⟨er, her⟩ : ∃ er, rootErr xs = er := ⟨_, rfl⟩
      rw [her] at hb' HPE
      have HER := Lib.hid her; clear her
      go_enter Try.func6, Try.ntmps6
      go_wp2_with fail
      refine (head_walk _).mono ?_
      rintro e w1 ⟨rfl, x1⟩
      go_wp2_with fail
      refine (grow_walk _ xs i _ (S.ext x1)).mono ?_
      rw [HPE.out, hpl.out]
      rintro e w2 ⟨p, rfl, o2, x2⟩
      have X2 := x1.trans x2
      go_wp2_with fail
      refine (root_walk _ xs _ (S.ext X2)).mono ?_
      rw [HER.out]
      rintro e w3 ⟨rfl, x3⟩
      have X3 := X2.trans x3
      have s2 := (o2.sl (by simp [encU]) (by simp)).ext x3
      obtain ⟨pa, pn, pc, rfl⟩ := o2.shape
      obtain ⟨_, _, e, _, _, _⟩ := s2.len
      injection e with e1 e2 e3
      simp only [List.length_nil] at e2
      subst e2
      clear e1 e3 o2 x2 X2 s2 S
      have hee : (er == er) = true := beq_self_eq_true er
      go_wp2
      go_ret
      exact ⟨rfl, X3⟩

theorem reportGrowth_args (H : Type) (enc : TypeId × Value → H) (W : World) (base : Nat) (vs : List Value) (ds : List (DataW H)) (hA : Args enc Try.prog W base Try.f6.params.toList vs ds) :
    Calls Try.prog 6 vs.toArray W fun e W' => e = .returned (.bool true) ∧ Ext W W' := by
  rw [Try.params6] at hA
  obtain ⟨v0, _, d0, _, rfl, rfl, h0, hA⟩ := hA.cons
  obtain ⟨v1, _, d1, _, rfl, rfl, h1, hA⟩ := hA.cons
  obtain ⟨v2, _, d2, _, rfl, rfl, h2, hA⟩ := hA.cons
  obtain ⟨rfl, rfl⟩ := hA.nil
  obtain ⟨xs, S, _, _⟩ := h0.sl Try.underlying27 (by kernel_rfl) (of_decide_eq_true (by kernel_rfl)) (elem_int Try.underlying24)
  obtain ⟨i, rfl, _⟩ := h1.int Try.underlying3
  obtain ⟨other, rfl, _⟩ := h2.int Try.underlying24
  exact growth_walk v0 xs i other W S

set_option maxRecDepth 100000 in
theorem reportGrowth_lifted (os : Os) (started : os.Started) (H : Type) (enc : TypeId × Value → H) :
    ReturnsInHanded {} Try.checked os 6 .any (Rows.reportGrowthSpec.pre6 enc Try.prog Try.f6 Rows.reportGrowthRow.domain false) (Rows.reportGrowthSpec.post enc Try.prog Try.f6 false true false false) :=
  law_said (C := Try.checked) (by kernel_rfl) started (by kernel_rfl) Try.func6
    (ChangeSpec.witness6 (enc := enc) (C := Try.checked) false ⟨#[], #[.slice none 0 0, .int .i64 0, .int .u64 0], []⟩ 8 (by kernel_rfl) (by kernel_rfl) (by kernel_rfl) (by kernel_rfl))
    (by kernel_rfl) (by kernel_rfl) (by kernel_rfl) rfl (fun ds h => by match ds, h with | [_, _, _], _ => rfl) (reportGrowth_args H enc)

theorem reportGrowth_holds : Rows.ReportGrowthSaid :=
  OpenClaim.holds_of_wide 6 Try.f6 rfl rfl rfl rfl rfl rfl rfl ⟨rfl, rfl, rfl, rfl, rfl⟩ rfl rfl rfl rfl rfl (by kernel_rfl) Try.func6 (by kernel_rfl)
    (of_decide_eq_true (by kernel_rfl)) (by unfold Func.isWrapper; first | (rw [if_pos (by decide +kernel)]; kernel_rfl) | (rw [if_neg (by decide +kernel)]; exact ⟨rfl, rfl⟩))
    (fun os started H enc _ => reportGrowth_lifted os started H enc)
end Go.Proofs.Yteelklpppfahcaa
