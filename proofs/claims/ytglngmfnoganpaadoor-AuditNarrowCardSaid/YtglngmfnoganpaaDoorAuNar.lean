/-
  Proved: 'AuditNarrow' returns true for every input and leaves its arguments as they were. No condition.
-/
import Derived.Test.YtglngmfnoganpaaDoorAuNarM
import Derived.BigQuiet
set_option linter.unusedVariables false
namespace Go.Proofs.YtglngmfnoganpaaDoor
open Go.RowKit Go.Sx Go.Sx.Sz Go.Sx.Sc Go.Sx.Au Go.ChangeShapes Go.WideShapes Go.ChangeAt

set_option maxRecDepth 100000 in
set_option maxHeartbeats 8000000 in
theorem aunar_law (vn vp vc vt vo : Value) (s : Sc) (l o : List S2) (w : World) (G0 : Gl 0 w) (S : ScR w vn vp vc s) (R : Sl w 2 encS vt l) (O : Sl w 2 encS vo o) :
    Calls Tryd.prog 5 #[.agg #[.int .i64 s.voices, vn, vp, vc], vt, vo] w fun e w' => e = .returned (.bool true) ∧ Ext w w' := by
  obtain ⟨an, cn, rfl, -, -, hln⟩ := S.nt.len
  obtain ⟨ap, cp, rfl, -, -, hlp⟩ := S.pr.len
  obtain ⟨ac, cc, rfl, -, -, hlc⟩ := S.cd.len
  obtain ⟨at', ct, rfl, -, -, hlt⟩ := R.len
  obtain ⟨ao, co, rfl, -, -, hlo⟩ := O.len
  have X0 : Ext w (w.alloc (.cells #[.int .i64 s.voices, .slice an s.notes.length cn, .slice ap s.pairs.length cp, .slice ac s.cads.length cc] 26)) := (by repeat (first | with_reducible exact Ext.refl _ | with_reducible assumption | with_reducible apply Ext.alloc | with_reducible apply Ext.drew | (with_reducible refine Ext.setCell ?_ (by (try simp) <;> omega) _)))
  have b0_0 := block_new w (.cells #[.int .i64 s.voices, .slice an s.notes.length cn, .slice ap s.pairs.length cp, .slice ac s.cads.length cc] 26)
  obtain ⟨W0, hW0⟩ : ∃ W, (w.alloc (.cells #[.int .i64 s.voices, .slice an s.notes.length cn, .slice ap s.pairs.length cp, .slice ac s.cads.length cc] 26)) = W := ⟨_, rfl⟩
  obtain ⟨B0, hB0⟩ : ∃ B, w.heap.size = B := ⟨_, rfl⟩
  rw [hW0] at X0 b0_0
  rw [hB0] at b0_0
  have HZ0 : Hid (w.heap.size ≤ B0) := Lib.hid (by omega)
  have HW0 := Lib.hid hW0; have HB0 := Lib.hid hB0
  clear hW0 hB0
  have CB := Lib.hid (boxS39 b0_0)
  have S1 := S.ext X0; have R1 := R.ext X0; have G1 := G0.ext X0; have O1 := O.ext X0
  clear S R O G0 b0_0
  go_enter Tryd.func5, Tryd.ntmps5
  go_wp2_with fail
  rw [HW0.out, HB0.out]
  clear HW0 HB0
  refine (head_walk _ G1).mono ?_
  rintro e w1 ⟨rfl, x1⟩
  obtain ⟨c0, c1, c2, c3⟩ := CB.out _ x1
  go_wp2_with fail
  refine (few_walk _ _ _ s _ (S1.ext x1)).mono ?_
  cases hf : fewB s with
  | false =>
    clear hf
    rintro e w2 ⟨rfl, y2⟩
    clear c0 c1 c2 c3
    go_wp2
    go_ret
    exact ⟨rfl, X0.trans (x1.trans y2)⟩
  | true =>
  clear hf
  rintro e w2 ⟨rfl, y2⟩
  have x2 := x1.trans y2
  clear c0 c1 c2 c3
  obtain ⟨c0, c1, c2, c3⟩ := CB.out _ x2
  go_wp2_with fail
  refine (rtones_walk _ _ _ _ s l _ (S1.ext x2) (R1.ext x2)).mono ?_
  cases hok : tonesB s l with
  | false =>
    clear hok
    rintro e w3 ⟨rfl, y3⟩
    clear c0 c1 c2 c3
    go_wp2
    go_ret
    exact ⟨rfl, X0.trans (x2.trans y3)⟩
  | true =>
  have HO := Lib.hid hok
  have HT := Lib.hid (tonesB_iff.1 hok)
  clear hok
  rintro e w3 ⟨rfl, y3⟩
  have x3 := x2.trans y3
  clear c0 c1 c2 c3
  obtain ⟨c0, c1, c2, c3⟩ := CB.out _ x3
  go_wp2_with fail
  refine (rtones_walk _ _ _ _ s o _ (S1.ext x3) (O1.ext x3)).mono ?_
  cases hok : tonesB s o with
  | false =>
    clear hok
    rintro e w4 ⟨rfl, y4⟩
    clear c0 c1 c2 c3
    go_wp2
    go_ret
    exact ⟨rfl, X0.trans (x3.trans y4)⟩
  | true =>
  have HP := Lib.hid hok
  have HU := Lib.hid (tonesB_iff.1 hok)
  clear hok
  have HNR := Lib.hid (nar_res HT.out HU.out)
  rintro e w4 ⟨rfl, y4⟩
  have x4 := x3.trans y4
  have hll : l.length ≤ 200 := by have h1 := HT.out.2.1; have h2 := HT.out.1.sz.2.1; omega
  clear c0 c1 c2 c3
  go_wp2_with fail
  refine (narrow_walk _ _ l o (fun h9 => by omega) _ (R1.ext x4) (O1.ext x4)).mono ?_
  rw [HNR.out]
  by_cases hw : worstM l o l.length = 0
  case neg =>
    rw [if_neg hw]
    clear hw
    rintro e w5 ⟨v5, rfl, -, y5⟩
    go_wp2
    go_ret
    exact ⟨rfl, X0.trans (x4.trans y5)⟩
  rw [if_pos hw]
  have HW := Lib.hid hw
  have hnt := nar_tones HT.out HU.out hw
  have HN := Lib.hid (tonesB_iff.2 hnt)
  clear hnt hw
  have HA1 : Hid (auditR s l = (fdsL s l s.pairs.length, 0)) := Lib.hid (if_pos HO.out)
  have HA2 : Hid (auditR s o = (fdsL s o s.pairs.length, 0)) := Lib.hid (if_pos HP.out)
  have HA3 : Hid (auditR s (zipM l o l.length) = (fdsL s (zipM l o l.length) s.pairs.length, 0)) := Lib.hid (if_pos HN.out)
  rintro e w5 ⟨v5, rfl, SZ, y5⟩
  have x5 := x4.trans y5
  obtain ⟨az, cz, rfl, -, -, -⟩ := SZ.len
  obtain ⟨c0, c1, c2, c3⟩ := CB.out _ x5
  go_wp2_with fail
  refine (audit_walk _ _ _ _ s l _ (G1.ext x5) (S1.ext x5) (R1.ext x5)).mono ?_
  rw [HA1.out]
  rintro e w6 ⟨v6, rfl, L6, y6⟩
  have x6 := x5.trans y6
  replace SZ := SZ.ext y6
  clear c0 c1 c2 c3
  obtain ⟨c0, c1, c2, c3⟩ := CB.out _ x6
  go_wp2_with fail
  refine (audit_walk _ _ _ _ s o _ (G1.ext x6) (S1.ext x6) (O1.ext x6)).mono ?_
  rw [HA2.out]
  rintro e w7 ⟨v7, rfl, L7, y7⟩
  have x7 := x6.trans y7
  replace SZ := SZ.ext y7
  replace L6 := L6.ext y7
  clear c0 c1 c2 c3
  obtain ⟨c0, c1, c2, c3⟩ := CB.out _ x7
  go_wp2_with fail
  refine (audit_walk _ _ _ _ s (zipM l o l.length) _ (G1.ext x7) (S1.ext x7) SZ).mono ?_
  rw [HA3.out]
  rintro e w8 ⟨v8, rfl, L8, y8⟩
  have x8 := x7.trans y8
  replace L6 := L6.ext y8
  replace L7 := L7.ext y8
  clear c0 c1 c2 c3 SZ
  have HVV := Lib.hid fun k (hk : k < s.pairs.length) => nar_verd HT.out HU.out HW.out hk
  obtain ⟨n, hn⟩ : ∃ n, s.pairs.length = n := ⟨_, rfl⟩
  obtain ⟨fa, hfa⟩ : ∃ f, fdsL s l n = f := ⟨_, rfl⟩
  obtain ⟨fb, hfb⟩ : ∃ f, fdsL s o n = f := ⟨_, rfl⟩
  obtain ⟨fz, hfz⟩ : ∃ f, fdsL s (zipM l o l.length) n = f := ⟨_, rfl⟩
  have la : fa.length = n := by rw [← hfa, fdsL_len]
  have lb : fb.length = n := by rw [← hfb, fdsL_len]
  have lz : fz.length = n := by rw [← hfz, fdsL_len]
  obtain ⟨c0, c1, c2, c3⟩ := CB.out _ x8
  have hpl : s.pairs.length ≤ 400 := HT.out.1.sz.2.2.1
  rw [hn] at L6 L7 L8 HVV c2 hpl
  rw [hfa] at L6; rw [hfb] at L7; rw [hfz] at L8
  obtain ⟨a6, q6, rfl, -, -, -⟩ := L6.len
  obtain ⟨a7, q7, rfl, -, -, -⟩ := L7.len
  obtain ⟨a8, q8, rfl, -, -, -⟩ := L8.len
  have HG : Hid (∀ k (h : k < n), ((fa[k]'(by omega)).verdict = 3 ∨ (fz[k]'(by omega)).verdict = (fa[k]'(by omega)).verdict) ∧ ((fb[k]'(by omega)).verdict = 3 ∨ (fz[k]'(by omega)).verdict = (fb[k]'(by omega)).verdict)) := Lib.hid fun k hk => by
    have := HVV.out k hk
    subst hfa; subst hfb; subst hfz
    rw [fdsL_get hk, fdsL_get hk, fdsL_get hk]
    exact this
  have HX := Lib.hid (X0.trans x8)
  clear HVV hfa hfb hfz hn
  rw [la] at L6 ⊢; rw [lb] at L7 ⊢; rw [lz] at L8 ⊢
  have en : ((n : Int) != (n : Int)) = false := by simp
  go_wp2
  clear c0 c1 c2 c3
  go_loopw [7, 101] (fun u i wr => ∃ k : Nat, k ≤ n ∧ i = .int .i64 k ∧ u = .bool true ∧ Ext w8 wr) (fun _ i _ => n - (intOf i).toNat)
  case atStart => exact ⟨0, by omega, rfl, rfl, Ext.refl _⟩
  case round =>
    obtain ⟨k, hk, rfl, rfl, X⟩ := hrel
    by_cases hlt' : k < n
    · obtain ⟨ba, oa, rfl, -, p1, -⟩ := Sl.fd (L6.ext X) k (by omega)
      obtain ⟨bb, ob, rfl, -, p2, -⟩ := Sl.fd (L7.ext X) k (by omega)
      obtain ⟨bz, oz, rfl, -, p3, -⟩ := Sl.fd (L8.ext X) k (by omega)
      obtain ⟨h1, h2⟩ := HG.out k hlt'
      obtain ⟨va, hva⟩ : ∃ z, (fa[k]'(by omega)).verdict = z := ⟨_, rfl⟩
      obtain ⟨vb, hvb⟩ : ∃ z, (fb[k]'(by omega)).verdict = z := ⟨_, rfl⟩
      obtain ⟨vz, hvz⟩ : ∃ z, (fz[k]'(by omega)).verdict = z := ⟨_, rfl⟩
      rw [hva] at p1 h1; rw [hvb] at p2 h2; rw [hvz] at p3 h1 h2
      have i1 : (0 : Int) ≤ (k : Int) := by omega
      have i2 : (k : Int) < (n : Int) := by omega
      clear hva hvb hvz
      have HLT := Lib.hid hlt'
      by_cases ea : va = 3
      · subst ea
        by_cases eb : vb = 3
        · subst eb
          clear h1 h2
          go_wp2
          go_quiet (fail)
          go_wp2
          go_roundw
          case rel => exact ⟨k + 1, by have := HLT.out; omega, by go_num, rfl, X.drewN _⟩
          case measure => have := HLT.out; simp [intOf] <;> omega
        · obtain rfl : vz = vb := by omega
          have e1 : (vz == 3) = false := beq_eq_false_iff_ne.2 eb
          have e2 : (vz == vz) = true := beq_self_eq_true _
          clear h1 h2 eb
          go_wp2
          go_quiet (fail)
          go_wp2
          go_roundw
          case rel => exact ⟨k + 1, by have := HLT.out; omega, by go_num, rfl, X.drewN _⟩
          case measure => have := HLT.out; simp [intOf] <;> omega
      · obtain rfl : vz = va := by omega
        have e1 : (vz == 3) = false := beq_eq_false_iff_ne.2 ea
        have e2 : (vz == vz) = true := beq_self_eq_true _
        by_cases eb : vb = 3
        · subst eb
          clear h1 h2 ea
          go_wp2
          go_quiet (fail)
          go_wp2
          go_roundw
          case rel => exact ⟨k + 1, by have := HLT.out; omega, by go_num, rfl, X.drewN _⟩
          case measure => have := HLT.out; simp [intOf] <;> omega
        · obtain rfl : vb = vz := by omega
          clear h1 h2 ea eb
          go_wp2
          go_quiet (fail)
          go_wp2
          go_roundw
          case rel => exact ⟨k + 1, by have := HLT.out; omega, by go_num, rfl, X.drewN _⟩
          case measure => have := HLT.out; simp [intOf] <;> omega
    · obtain rfl : k = n := by omega
      go_wp2
      go_ret
      exact ⟨rfl, Ext.trans HX.out X⟩

theorem auditNarrow_args (H : Type) (enc : TypeId × Value → H) (W : World) (base : Nat) (vs : List Value) (ds : List (DataW H)) (_ : ∀ k, (OpenSpec.ofChange Rows.auditNarrowSpec).cond = some k → k H ds = true) (hL : laidMetH Tryd.prog Rows.auditNarrowRow.laid W) (hA : Args enc Tryd.prog W base Tryd.f5.params.toList vs ds) :
    Calls Tryd.prog 5 vs.toArray W fun e W' => e = .returned (.bool true) ∧ Ext W W' := by
  rw [Tryd.params5] at hA
  obtain ⟨v0, _, d0, _, rfl, rfl, h0, hA⟩ := hA.cons
  obtain ⟨v1, _, d1, _, rfl, rfl, h1, hA⟩ := hA.cons
  obtain ⟨v2, _, d2, _, rfl, rfl, h2, hA⟩ := hA.cons
  obtain ⟨rfl, rfl⟩ := hA.nil
  obtain ⟨s, vn, vp, vc, rfl, S⟩ := arg_score h0
  obtain ⟨l1, S1, n1⟩ := arg_sizes h1
  obtain ⟨l2, S2, n2⟩ := arg_sizes h2
  exact aunar_law _ _ _ _ _ s l1 l2 W (gv_of hL) S S1 S2

theorem auditNarrow_met (os : Os) : laidMet Tryd.prog Rows.auditNarrowRow.laid ((laidWorld os).forCall (fun _ _ => 0) ⟨#[], #[.agg #[.int .i64 0, .slice none 0 0, .slice none 0 0, .slice none 0 0], .slice none 0 0, .slice none 0 0], []⟩).memory := laidMet_of_run' 8 (by kernel_rfl) (by kernel_rfl)
theorem auditNarrow_reads (os : Os) {H : Type} (enc : TypeId × Value → H) : ∃ places, DataW.whole enc Tryd.prog ((laidWorld os).forCall (fun _ _ => 0) ⟨#[], #[.agg #[.int .i64 0, .slice none 0 0, .slice none 0 0, .slice none 0 0], .slice none 0 0, .slice none 0 0], []⟩).memory Tryd.f5.params.toList Rows.auditNarrowSpec.vars false #[.agg #[.int .i64 0, .slice none 0 0, .slice none 0 0, .slice none 0 0], .slice none 0 0, .slice none 0 0].toList 8 = some ([.agg [.lit (.int .i64 0), .nil, .nil, .nil], .nil, .nil], [], places) := ⟨[], by kernel_rfl⟩
set_option maxRecDepth 100000 in
theorem auditNarrow_lifted (os : Os) (started : os.Started) (H : Type) (enc : TypeId × Value → H) (F : Stop.Interp) :
    ReturnsInHanded {} Tryd.checked os 5 .any ((OpenSpec.ofChange Rows.auditNarrowSpec).preRow enc Tryd.prog Tryd.f5 Rows.auditNarrowRow.domain false Rows.auditNarrowRow.laid) (((OpenSpec.ofChange Rows.auditNarrowSpec).at F).post enc Tryd.prog Tryd.f5 false true false false) := by
  obtain ⟨places, hx⟩ := auditNarrow_reads os enc
  exact law_row (C := Tryd.checked) (s := (OpenSpec.ofChange Rows.auditNarrowSpec)) (by kernel_rfl) started (by kernel_rfl) Tryd.func5
    (witness_row_at (enc := enc) (C := Tryd.checked) false (laidWorld os) #[.agg #[.int .i64 0, .slice none 0 0, .slice none 0 0, .slice none 0 0], .slice none 0 0, .slice none 0 0] rfl (by kernel_rfl) (by kernel_rfl) (by kernel_rfl) (OpenSpec.preRow_of_cond 8 hx (by kernel_rfl) (fun k hk => by cases hk) (by kernel_rfl) (auditNarrow_met os)))
    (by kernel_rfl) (by kernel_rfl) (by kernel_rfl) rfl (fun ds h => by match ds, h with | [_, _, _], _ => rfl) (auditNarrow_args H enc)
theorem auditNarrow_said : Rows.AuditNarrowSaid :=
  OpenClaim.holds_of_cond 5 Tryd.f5 rfl rfl rfl rfl rfl rfl rfl ⟨rfl, rfl, rfl, rfl, rfl⟩ rfl rfl rfl rfl rfl (by kernel_rfl) Tryd.func5 (by kernel_rfl)
    (of_decide_eq_true (by kernel_rfl)) (by unfold Func.isWrapper; first | (rw [if_pos (by decide +kernel)]; kernel_rfl) | (rw [if_neg (by decide +kernel)]; exact ⟨rfl, rfl⟩))
    (fun os started H enc _ F => by rw [OpenClaim.pre_eq_preRow]; exact auditNarrow_lifted os started H enc F)
theorem auditNarrow_plain (f : FuncId) (fn : Func) (hf : Tryd.pinned.checked.prog.funcNamed "schisma/schismalaw39.AuditNarrow" = some f) (hfn : Tryd.pinned.checked.prog.funcs[f]? = some fn) :
    false = Tryd.pinned.checked.prog.looks [] ∧ ∀ (j : Nat) t, fn.params[j]? = some t → Tryd.pinned.checked.prog.wantsStandIn t = false := by
  obtain rfl : f = 5 := Option.some.inj ((show Tryd.prog.funcNamed "schisma/schismalaw39.AuditNarrow" = some 5 by kernel_rfl).symm.trans hf) |>.symm
  obtain rfl : fn = Tryd.f5 := (Option.some.inj (Tryd.func5.symm.trans hfn)).symm
  refine ⟨by kernel_rfl, fun j t ht => ?_⟩
  have hall : Tryd.f5.params.all (fun t => !Tryd.prog.wantsStandIn t) = true := by kernel_rfl
  have := (Array.all_eq_true'.1 hall) t (Array.mem_of_getElem? ht)
  have e : Tryd.prog.wantsStandIn t = false := by simpa using this
  exact e
/-- The card. -/
theorem auditNarrow_holds : Rows.AuditNarrowCardSaid :=
  Claim7.holds_tied_plain_at .later [] _ _ _ _ auditNarrow_said (fun _ h => by cases h) (by kernel_rfl) (fun _ h => by cases h) auditNarrow_row_tie rfl ⟨rfl, rfl⟩ (by kernel_rfl) rfl auditNarrow_plain (by kernel_rfl)
end Go.Proofs.YtglngmfnoganpaaDoor
