/-
  Proved: 'ReportFollows' returns true for every input and leaves its arguments as they were. No condition.
-/
import Derived.Test.YteelklpppfahcaaRepZ
import Derived.Test.YteelklpppfahcaaShut
set_option linter.unusedVariables false
namespace Go.Proofs.Yteelklpppfahcaa
open Go.RowKit Go.Sx Go.Sx.Rep Go.ChangeShapes Go.WideShapes Go.ChangeAt

set_option maxHeartbeats 8000000 in
theorem folaw_walk (v pv : Value) (xs ps : List Int) (i old : Int) (w : World) (S : Sl w 1 encU v xs) (T : Sl w 1 encU pv ps) :
    Calls Try.prog 7 #[v, .int .i64 i, .int .u64 old, pv] w fun e w' => e = .returned (.bool true) ∧ Ext w w' := by
  obtain ⟨a?, cap, rfl, h1, h2, h3⟩ := S.len
  obtain ⟨b?, cbp, rfl, k1, k2, k3⟩ := T.len
  clear k1 k2
  by_cases hr : rootErr xs = 0
  · have HR := Lib.hid hr
    by_cases he : growErr xs i = 0
    · have hz := growErr_zero.1 he
      obtain ⟨⟨z1, z2⟩, z3, z4⟩ := hz
      obtain ⟨k, rfl⟩ : ∃ k : Nat, i = k := ⟨i.toNat, by omega⟩
      have hk1 : 1 ≤ k := by omega
      have hk2 : k ≤ xs.length := by omega
      have hrv := Lib.hid (show rootV xs = root xs by unfold rootV; rw [if_pos hr])
      have hre2 := Lib.hid (rootErr_take xs k hk1 hk2 z2)
      have hrv2 := Lib.hid (show rootV (xs.take k) = root (xs.take k) by unfold rootV; rw [if_pos hre2.out])
      have hpl := Lib.hid (show growL xs k = growG xs k by unfold growL; rw [if_pos he]; rfl)
      have hck := grow_follows xs k hk1 hk2 z2
      have hdp := growG_deep xs k hk1 hk2 z2
      obtain ⟨g, hg⟩ : ∃ g, growG xs k = g := ⟨_, rfl⟩
      have HG := Lib.hid hg
      rw [hg] at hck hdp
      rw [hg] at hpl
      clear hg
      have HE := Lib.hid he
      have hkc : k ≤ cap := by omega
      unfold maxLen at h2
      obtain ⟨b0, o0, rfl, hc⟩ := S.at1 0 z1
      have SK := Sl_first S k hk2
      clear hc
      cases hcc : followsF old (root xs) k xs.length ps with
      | false =>
        have HCC := Lib.hid hcc
        clear hcc hck hdp he hr
        go_enter Try.func7, Try.ntmps7
        go_wp2_with fail
        refine (head_walk _).mono ?_
        rintro e w1 ⟨rfl, x1⟩
        go_wp2_with fail
        refine (root_walk _ xs _ (S.ext x1)).mono ?_
        rw [HR.out, hrv.out]
        rintro e w2 ⟨rfl, x2⟩
        have X2 := x1.trans x2
        go_wp2_with fail
        refine (grow_walk _ xs k _ (S.ext X2)).mono ?_
        rw [HE.out, hpl.out]
        rintro e w3 ⟨p, rfl, o3, x3⟩
        have X3 := X2.trans x3
        clear o3
        go_wp2_with fail
        refine (follows_walk old (root xs) k xs.length _ ps _ (T.ext X3)).mono ?_
        rw [HCC.out]
        rintro e w4 ⟨rfl, x4⟩
        have X4 := X3.trans x4
        clear S T
        go_wp2
        go_ret
        exact ⟨rfl, X4⟩
      | true =>
        have HCC := Lib.hid hcc
        have hpl2 := follows_len old (root xs) k xs.length ps hk1 hk2 z2 hcc
        have hl1 : ¬ (12 : Int) < ps.length := by omega
        have hl2 : ¬ (12 : Int) < g.length := by omega
        have hlk : ¬ (xs.length : Int) < k := by omega
        have ha := follows_shows old (root xs) k xs.length ps hk1 hk2 z2
        have hb := follows_shows (root (xs.take k)) (root xs) k xs.length g hk1 hk2 z2
        rw [hcc] at ha
        rw [hck] at hb
        have hbind := shows_bind xs.length old (root (xs.take k)) k xs.length true ps g
        have la0 := showsF_len xs.length old k xs.length true ps
        have lb0 := showsF_len xs.length (root (xs.take k)) k xs.length true g
        obtain ⟨⟨ao, an, pas, oa⟩, hLa⟩ : ∃ r, showsF xs.length old k xs.length true ps = r := ⟨_, rfl⟩
        obtain ⟨⟨bo, bn, pbs, ob⟩, hLb⟩ : ∃ r, showsF xs.length (root (xs.take k)) k xs.length true g = r := ⟨_, rfl⟩
        rw [hLa] at ha hbind la0
        rw [hLb] at hb hbind lb0
        simp only [] at ha hb hbind la0 lb0
        obtain ⟨ha1, ha2⟩ := Bool.and_eq_true_iff.1 ha.symm
        obtain ⟨hoa, hao⟩ := Bool.and_eq_true_iff.1 ha1
        obtain ⟨hb1, hb2⟩ := Bool.and_eq_true_iff.1 hb.symm
        obtain ⟨hob, hbo⟩ := Bool.and_eq_true_iff.1 hb1
        subst hoa hob
        have ea := beq_iff_eq.1 ha2
        have eb := beq_iff_eq.1 hb2
        have eo := beq_iff_eq.1 hao
        have ep := beq_iff_eq.1 hbo
        have hor := (hbind rfl rfl).2 (ea.trans eb.symm)
        rw [eo, ep] at hor
        have HLa := Lib.hid hLa
        have HLb := Lib.hid hLb
        have HOR := Lib.hid hor
        obtain ⟨first, hfi⟩ : ∃ y, root (xs.take k) = y := ⟨_, rfl⟩
        rw [hfi] at hrv2 HLb HOR
        have HFI := Lib.hid hfi
        clear hcc hck hdp he hr ha hb hbind hLa hLb hor hpl2 ha1 ha2 hb1 hb2 hao hbo ea eb eo ep hfi
        go_enter Try.func7, Try.ntmps7
        go_wp2_with fail
        refine (head_walk _).mono ?_
        rintro e w1 ⟨rfl, x1⟩
        go_wp2_with fail
        refine (root_walk _ xs _ (S.ext x1)).mono ?_
        rw [HR.out, hrv.out]
        rintro e w2 ⟨rfl, x2⟩
        have X2 := x1.trans x2
        go_wp2_with fail
        refine (grow_walk _ xs k _ (S.ext X2)).mono ?_
        rw [HE.out, hpl.out]
        rintro e w3 ⟨p, rfl, o3, x3⟩
        have X3 := X2.trans x3
        have s3 := o3.sl (by simp [encU]) (by omega)
        obtain ⟨pa, pn, pc, rfl⟩ := o3.shape
        obtain ⟨_, _, e, _, _, _⟩ := s3.len
        injection e with e1 e2 e3
        subst e2
        clear e1 e3 o3
        go_wp2_with fail
        refine (follows_walk old (root xs) k xs.length _ ps _ (T.ext X3)).mono ?_
        rw [HCC.out]
        rintro e w4 ⟨rfl, x4⟩
        have X4 := X3.trans x4
        go_wp2_with fail
        refine (root_walk _ (xs.take k) _ (SK.ext X4)).mono ?_
        rw [hre2.out, hrv2.out]
        rintro e w41 ⟨rfl, x41⟩
        have X41 := X4.trans x41
        go_wp2_with fail
        refine (shows_walk xs.length old k xs.length true _ ps _ (Nat.le_refl _) (by omega) hk1 hk2 (T.ext X41)).mono ?_
        rw [HLa.out]
        rintro e w5 ⟨pv, rfl, o5, x5⟩
        have X5 := X41.trans x5
        obtain ⟨qa, qn, qc, rfl⟩ := o5.shape
        go_wp2_with fail
        refine (shows_walk xs.length first k xs.length true _ g _ (Nat.le_refl _) (by omega) hk1 hk2 ((s3.ext ((x4.trans x41).trans x5)).ext (Ext.alloc' _ _))).mono ?_
        rw [HLb.out]
        rintro e w6 ⟨pv, rfl, o6, x6⟩
        have y6 : Ext w5 w6 := Ext.trans (Ext.alloc' _ _) x6
        have X6 := X5.trans y6
        obtain ⟨ra, rn, rc, rfl⟩ := o6.shape
        obtain ⟨CA, hCA⟩ : ∃ c : Array Value, c = #[.int .u64 ao, .int .u64 an, .slice qa qn qc, .bool true] := ⟨_, rfl⟩
        obtain ⟨CB, hCB⟩ : ∃ c : Array Value, c = #[.int .u64 bo, .int .u64 bn, .slice ra rn rc, .bool true] := ⟨_, rfl⟩
        have f0 := x6.cell (alloc_cell w5 #[.int .u64 ao, .int .u64 an, .slice qa qn qc, .bool true] 44 2 (.slice qa qn qc) rfl)
        have f1 := (Ext.alloc' w6 (.cells CB 44)).cell f0
        have f2 := alloc_cell w6 CB 44 2 (.slice ra rn rc) (by rw [hCB]; rfl)
        have X7 := X6.alloc (.cells CB 44)
        have s5 := ((o5.sl (by simp [encP]) (show pas.length ≤ _ by omega)).ext y6).ext (Ext.alloc' w6 (.cells CB 44))
        have s6 := (o6.sl (by simp [encP]) (show pbs.length ≤ _ by omega)).ext (Ext.alloc' w6 (.cells CB 44))
        clear S T s3 o5 o6 f0 SK
        obtain ⟨w7, hw7⟩ : ∃ x, w6.alloc (.cells CB 44) = x := ⟨_, rfl⟩
        rw [hw7] at f1 f2 s5 s6 X7
        rw [hCB] at hw7
        have HW7 := Lib.hid hw7
        clear hw7 hCA hCB
        cases hq : (old == first) with
        | false =>
          have HCO := Lib.hid (HOR.out.resolve_left (fun h => (beq_eq_false_iff_ne.1 hq) h))
          go_wp2_with (first
            | (rw [HW7.out])
            | (go_at_call 17; go_must (refine (collide_walk _ _ pas pbs _ s5 s6).mono ?_); rw [HCO.out]; rintro e w8 ⟨rfl, x8⟩; have X8 := X7.trans x8)
            | fail)
          go_ret
          exact ⟨rfl, X8⟩
        | true =>
          clear s5 s6
          go_wp2_with (first
            | (rw [HW7.out])
            | fail)
          go_ret
          exact ⟨rfl, X7⟩
    · have hne : (growErr xs i != 0) = true := by rw [bne_iff_ne]; exact he
      obtain ⟨er, her⟩ : ∃ er, growErr xs i = er := ⟨_, rfl⟩
      rw [her] at hne
      have HE := Lib.hid her
      clear her hr he h1 h2
      go_enter Try.func7, Try.ntmps7
      go_wp2_with fail
      refine (head_walk _).mono ?_
      rintro e w1 ⟨rfl, x1⟩
      go_wp2_with fail
      refine (root_walk _ xs _ (S.ext x1)).mono ?_
      rw [HR.out]
      rintro e w2 ⟨rfl, x2⟩
      have X2 := x1.trans x2
      go_wp2_with fail
      refine (grow_walk _ xs i _ (S.ext X2)).mono ?_
      rw [HE.out]
      rintro e w3 ⟨p, rfl, o3, x3⟩
      have X3 := X2.trans x3
      clear o3 S T
      go_wp2
      go_ret
      exact ⟨rfl, X3⟩
  · have hne : (rootErr xs != 0) = true := by rw [bne_iff_ne]; exact hr
    obtain ⟨er, her⟩ : ∃ er, rootErr xs = er := ⟨_, rfl⟩
    rw [her] at hne
    have HR := Lib.hid her
    obtain ⟨ep, hep⟩ : ∃ ep, growErr xs i = ep := ⟨_, rfl⟩
    have HE := Lib.hid hep
    clear her hr hep h1 h2
    go_enter Try.func7, Try.ntmps7
    go_wp2_with fail
    refine (head_walk _).mono ?_
    rintro e w1 ⟨rfl, x1⟩
    go_wp2_with fail
    refine (root_walk _ xs _ (S.ext x1)).mono ?_
    rw [HR.out]
    rintro e w2 ⟨rfl, x2⟩
    have X2 := x1.trans x2
    go_wp2_with fail
    refine (grow_walk _ xs i _ (S.ext X2)).mono ?_
    rw [HE.out]
    rintro e w3 ⟨p, rfl, o3, x3⟩
    have X3 := X2.trans x3
    clear o3 S T
    go_wp2
    go_ret
    exact ⟨rfl, X3⟩

theorem reportFollows_args (H : Type) (enc : TypeId × Value → H) (W : World) (base : Nat) (vs : List Value) (ds : List (DataW H)) (hA : Args enc Try.prog W base Try.f7.params.toList vs ds) :
    Calls Try.prog 7 vs.toArray W fun e W' => e = .returned (.bool true) ∧ Ext W W' := by
  rw [Try.params7] at hA
  obtain ⟨v0, _, d0, _, rfl, rfl, h0, hA⟩ := hA.cons
  obtain ⟨v1, _, d1, _, rfl, rfl, h1, hA⟩ := hA.cons
  obtain ⟨v2, _, d2, _, rfl, rfl, h2, hA⟩ := hA.cons
  obtain ⟨v3, _, d3, _, rfl, rfl, h3, hA⟩ := hA.cons
  obtain ⟨rfl, rfl⟩ := hA.nil
  obtain ⟨xs, S, _, _⟩ := h0.sl Try.underlying27 (by kernel_rfl) (of_decide_eq_true (by kernel_rfl)) (elem_int Try.underlying24)
  obtain ⟨i, rfl, _⟩ := h1.int Try.underlying3
  obtain ⟨leaf, rfl, _⟩ := h2.int Try.underlying24
  obtain ⟨ps, T, _, _⟩ := h3.sl Try.underlying27 (by kernel_rfl) (of_decide_eq_true (by kernel_rfl)) (elem_int Try.underlying24)
  exact folaw_walk v0 v3 xs ps i leaf W S T

set_option maxRecDepth 100000 in
theorem reportFollows_lifted (os : Os) (started : os.Started) (H : Type) (enc : TypeId × Value → H) :
    ReturnsInHanded {} Try.checked os 7 .any (Rows.reportFollowsSpec.pre6 enc Try.prog Try.f7 Rows.reportFollowsRow.domain false) (Rows.reportFollowsSpec.post enc Try.prog Try.f7 false true false false) :=
  law_said (C := Try.checked) (by kernel_rfl) started (by kernel_rfl) Try.func7
    (ChangeSpec.witness6 (enc := enc) (C := Try.checked) false ⟨#[], #[.slice none 0 0, .int .i64 0, .int .u64 0, .slice none 0 0], []⟩ 8 (by kernel_rfl) (by kernel_rfl) (by kernel_rfl) (by kernel_rfl))
    (by kernel_rfl) (by kernel_rfl) (by kernel_rfl) rfl (fun ds h => by match ds, h with | [_, _, _, _], _ => rfl) (reportFollows_args H enc)

theorem reportFollows_holds : Rows.ReportFollowsSaid :=
  OpenClaim.holds_of_wide 7 Try.f7 rfl rfl rfl rfl rfl rfl rfl ⟨rfl, rfl, rfl, rfl, rfl⟩ rfl rfl rfl rfl rfl (by kernel_rfl) Try.func7 (by kernel_rfl)
    (of_decide_eq_true (by kernel_rfl)) (by unfold Func.isWrapper; first | (rw [if_pos (by decide +kernel)]; kernel_rfl) | (rw [if_neg (by decide +kernel)]; exact ⟨rfl, rfl⟩))
    (fun os started H enc _ => reportFollows_lifted os started H enc)
end Go.Proofs.Yteelklpppfahcaa
