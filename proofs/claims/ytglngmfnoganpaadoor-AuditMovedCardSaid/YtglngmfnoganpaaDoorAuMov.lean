/-
  Proved: 'AuditMoved' returns true for every input and leaves its arguments as they were. No condition.
-/
import Derived.Test.YtglngmfnoganpaaDoorAuReb
set_option linter.unusedVariables false
namespace Go.Proofs.YtglngmfnoganpaaDoor
open Go.RowKit Go.Sx Go.Sx.Sz Go.Sx.Sc Go.Sx.Au Go.ChangeShapes Go.WideShapes Go.ChangeAt

def movS (l : List S2) (b : Int) : List S2 := l.map fun z => ⟨z.lo + b, z.hi + b⟩
theorem movT {l : List S2} {b : Int} {k : Nat} (h : k < l.length) : T (movS l b) k = ⟨(T l k).lo + b, (T l k).hi + b⟩ := by
  rw [T_eq (by simpa [movS] using h), T_eq h]; simp [movS]
theorem mov_fd {s : Sc} {l : List S2} (h : tonesOk s l) (b : Int) {k : Nat} (hk : k < s.pairs.length) : fdOf s (movS l b) k = fdOf s l k := by
  obtain ⟨-, -, ⟨A, C, hA, hC, hA', hC'⟩, -⟩ := pairD_ok h hk
  unfold fdOf pairD
  rw [hA, hC, Int.toNat_natCast, Int.toNat_natCast, movT hA', movT hC', diff_shift]
theorem mov_audit {s : Sc} {l : List S2} (h : tonesB s l = true) (b : Int) (h' : tonesB s (movS l b) = true) : auditR s (movS l b) = auditR s l := by
  unfold auditR
  rw [if_pos h, if_pos h']
  congr 1
  exact List.map_congr_left fun k hk => mov_fd (tonesB_iff.1 h) b (List.mem_range.1 hk)

set_option maxRecDepth 100000 in
set_option maxHeartbeats 8000000 in
theorem aumov_law (vn vp vc vt : Value) (s : Sc) (l : List S2) (b : Int) (w : World) (G0 : Gl 0 w) (S : ScR w vn vp vc s) (R : Sl w 2 encS vt l) :
    Calls Tryd.prog 8 #[.agg #[.int .i64 s.voices, vn, vp, vc], vt, .int .i64 b] w fun e w' => e = .returned (.bool true) ∧ Ext w w' := by
  obtain ⟨an, cn, rfl, -, -, hln⟩ := S.nt.len
  obtain ⟨ap, cp, rfl, -, -, hlp⟩ := S.pr.len
  obtain ⟨ac, cc, rfl, -, -, hlc⟩ := S.cd.len
  obtain ⟨at', ct, rfl, -, -, hlt⟩ := R.len
  have X0 : Ext w (w.alloc (.cells #[.int .i64 s.voices, .slice an s.notes.length cn, .slice ap s.pairs.length cp, .slice ac s.cads.length cc] 26)) := (by repeat (first | with_reducible exact Ext.refl _ | with_reducible assumption | with_reducible apply Ext.alloc | with_reducible apply Ext.drew | (with_reducible refine Ext.setCell ?_ (by (try simp) <;> omega) _)))
  have b0_0 := block_new w (.cells #[.int .i64 s.voices, .slice an s.notes.length cn, .slice ap s.pairs.length cp, .slice ac s.cads.length cc] 26)
  obtain ⟨W0, hW0⟩ : ∃ W, (w.alloc (.cells #[.int .i64 s.voices, .slice an s.notes.length cn, .slice ap s.pairs.length cp, .slice ac s.cads.length cc] 26)) = W := ⟨_, rfl⟩
  obtain ⟨B0, hB0⟩ : ∃ B, w.heap.size = B := ⟨_, rfl⟩
  rw [hW0] at X0 b0_0
  rw [hB0] at b0_0
  have HZ0 : Hid (w.heap.size ≤ B0) := Lib.hid (by omega)
  have HW0 := Lib.hid hW0; have HB0 := Lib.hid hB0
  clear hW0 hB0
  have CB := Lib.hid (boxS39 b0_0)
  have S1 := S.ext X0; have R1 := R.ext X0; have G1 := G0.ext X0
  clear S R G0 b0_0
  go_enter Tryd.func8, Tryd.ntmps8
  go_wp2_with fail
  rw [HW0.out, HB0.out]
  clear HW0 HB0
  refine (head_walk _ G1).mono ?_
  rintro e w1 ⟨rfl, x1⟩
  obtain ⟨c0, c1, c2, c3⟩ := CB.out _ x1
  go_wp2_with fail
  refine (few_walk _ _ _ s _ (S1.ext x1)).mono ?_
  cases hf : fewB s with
  | false =>
    clear hf
    rintro e w2 ⟨rfl, y2⟩
    clear c0 c1 c2 c3
    go_wp2
    go_ret
    exact ⟨rfl, X0.trans (x1.trans y2)⟩
  | true =>
  clear hf
  rintro e w2 ⟨rfl, y2⟩
  have x2 := x1.trans y2
  clear c0 c1 c2 c3
  obtain ⟨c0, c1, c2, c3⟩ := CB.out _ x2
  by_cases hb0 : b < -100000000000000
  · go_wp2
    go_ret
    exact ⟨rfl, X0.trans x2⟩
  by_cases hb1 : 100000000000000 < b
  · go_wp2
    go_ret
    exact ⟨rfl, X0.trans x2⟩
  have hb2 : -100000000000000 ≤ b ∧ b ≤ 100000000000000 := by omega
  go_wp2_with fail
  refine (rtones_walk _ _ _ _ s l _ (S1.ext x2) (R1.ext x2)).mono ?_
  cases hok : tonesB s l with
  | false =>
    clear hok
    rintro e w3 ⟨rfl, y3⟩
    clear c0 c1 c2 c3
    go_wp2
    go_ret
    exact ⟨rfl, X0.trans (x2.trans y3)⟩
  | true =>
  have HO := Lib.hid hok
  have HT := Lib.hid (tonesB_iff.1 hok)
  have hll : l.length ≤ 200 := by have h1 := (tonesB_iff.1 hok).2.1; have h2 := (tonesB_iff.1 hok).1.sz.2.1; omega
  have hzz := Lib.hid fun (z : S2) (hz : z ∈ l) => szOk_iff.1 ((tonesB_iff.1 hok).2.2 z hz)
  clear hok
  rintro e W ⟨rfl, y3⟩
  have XW := x2.trans y3
  clear c0 c1 c2 c3 x1 x2 y2 y3
  have R2 := R1.ext XW
  obtain ⟨h1, h2⟩ := hb2
  go_wp2
  go_loopw [8, 36] (fun v i wr => ∃ k : Nat, k ≤ l.length ∧ i = .int .i64 k ∧ OwnR wr W.heap.size 56 2 encS v (movS (l.take k) b) ∧ Ext W wr) (fun _ i _ => l.length - (intOf i).toNat)
  case atStart => exact ⟨0, by omega, rfl, OwnR.nil, Ext.refl _⟩
  case round =>
    obtain ⟨k, hk, rfl, own, X⟩ := hrel
    by_cases hlt' : k < l.length
    · obtain ⟨bb, oo, rfl, a0, a1⟩ := Sl.sz (R2.ext X) k hlt'
      have hz := hzz.out _ (List.getElem_mem hlt')
      obtain ⟨⟨zl, zh⟩, hx⟩ : ∃ z, l[k] = z := ⟨_, rfl⟩
      rw [hx] at a0 a1 hz
      dsimp only at a0 a1 hz
      obtain ⟨z1, z2, z3⟩ := hz
      have HT' : Hid (movS (l.take (k + 1)) b = movS (l.take k) b ++ [⟨zl + b, zh + b⟩]) := Lib.hid (by unfold movS; rw [List.take_succ_eq_append_getElem hlt', hx, List.map_append]; rfl)
      have i1 : (0 : Int) ≤ (k : Int) := by omega
      have i2 : (k : Int) < (l.length : Int) := by omega
      have e4 := Ext.alloc' wr (.cells #[.int .i64 zl, .int .i64 zh] 56)
      have own4 := own.ext e4
      have X4 := X.trans e4
      have hsz := X4.size
      have hlen : (movS (l.take k) b).length = k := by simp [movS]; omega
      have bn := block_new wr (.cells #[.int .i64 zl, .int .i64 zh] 56)
      clear own hx
      go_wp2_with (at_builtin; go_must (refine wpList_own1 et_sz rfl _ _ rfl own4 rfl (⟨zl + b, zh + b⟩ : S2) rfl rfl rfl (by simp [encS, Value.oneCell']) (by omega) hsz ?_; intro v' w5 hown' hb' happ _))
      go_roundw
      case rel => exact ⟨k + 1, by omega, by go_num, by rw [HT'.out]; exact hown', Below.trans X4 hb'⟩
      case measure => simp [intOf] <;> omega
    · obtain rfl : k = l.length := by omega
      rw [List.take_length] at own
      have S7 := own.sl (fun _ _ => rfl) (by simp [movS]; omega)
      have x4 := XW.trans X
      obtain ⟨am, cm, rfl, -, -, -⟩ := S7.len
      clear own
      obtain ⟨c0, c1, c2, c3⟩ := CB.out _ x4
      go_wp2_with fail
      refine (rtones_walk _ _ _ _ s (movS l b) _ (S1.ext x4) S7).mono ?_
      cases hok2 : tonesB s (movS l b) with
      | false =>
        clear hok2
        rintro e w5 ⟨rfl, y5⟩
        clear c0 c1 c2 c3
        go_wp2
        go_ret
        exact ⟨rfl, X0.trans (x4.trans y5)⟩
      | true =>
        have HEQ := Lib.hid (mov_audit HO.out b hok2)
        have HA : Hid (auditR s l = (fdsL s l s.pairs.length, 0)) := Lib.hid (if_pos HO.out)
        clear hok2
        rintro e w5 ⟨rfl, y5⟩
        have x5 := x4.trans y5
        have S8 := S7.ext y5
        clear c0 c1 c2 c3
        obtain ⟨c0, c1, c2, c3⟩ := CB.out _ x5
        go_wp2_with fail
        refine (audit_walk _ _ _ _ s l _ (G1.ext x5) (S1.ext x5) (R1.ext x5)).mono ?_
        rw [HA.out]
        rintro e w6 ⟨v6, rfl, L6, y6⟩
        have x6 := x5.trans y6
        have S9 := S8.ext y6
        clear c0 c1 c2 c3 S8 S7
        obtain ⟨c0, c1, c2, c3⟩ := CB.out _ x6
        go_wp2_with fail
        refine (audit_walk _ _ _ _ s (movS l b) _ (G1.ext x6) (S1.ext x6) S9).mono ?_
        rw [HEQ.out, HA.out]
        rintro e w7 ⟨v7, rfl, L7, y7⟩
        have x7 := x6.trans y7
        clear c0 c1 c2 c3
        go_wp2_with fail
        refine (samefd_walk _ _ _ _ _ (L6.ext y7) L7).mono ?_
        rw [decide_eq_true rfl]
        rintro e w8 ⟨rfl, y8⟩
        have HX := Lib.hid (X0.trans (x7.trans y8))
        go_wp2
        go_ret
        exact ⟨rfl, HX.out⟩

theorem auditMoved_args (H : Type) (enc : TypeId × Value → H) (W : World) (base : Nat) (vs : List Value) (ds : List (DataW H)) (_ : ∀ k, (OpenSpec.ofChange Rows.auditMovedSpec).cond = some k → k H ds = true) (hL : laidMetH Tryd.prog Rows.auditMovedRow.laid W) (hA : Args enc Tryd.prog W base Tryd.f8.params.toList vs ds) :
    Calls Tryd.prog 8 vs.toArray W fun e W' => e = .returned (.bool true) ∧ Ext W W' := by
  rw [Tryd.params8] at hA
  obtain ⟨v0, _, d0, _, rfl, rfl, h0, hA⟩ := hA.cons
  obtain ⟨v1, _, d1, _, rfl, rfl, h1, hA⟩ := hA.cons
  obtain ⟨v2, _, d2, _, rfl, rfl, h2, hA⟩ := hA.cons
  obtain ⟨rfl, rfl⟩ := hA.nil
  obtain ⟨s, vn, vp, vc, rfl, S⟩ := arg_score h0
  obtain ⟨l1, S1, n1⟩ := arg_sizes h1
  obtain ⟨k, rfl, _⟩ := h2.int Tryd.underlying3
  exact aumov_law _ _ _ _ s l1 k W (gv_of hL) S S1

theorem auditMoved_met (os : Os) : laidMet Tryd.prog Rows.auditMovedRow.laid ((laidWorld os).forCall (fun _ _ => 0) ⟨#[], #[.agg #[.int .i64 0, .slice none 0 0, .slice none 0 0, .slice none 0 0], .slice none 0 0, .int .i64 0], []⟩).memory := laidMet_of_run' 8 (by kernel_rfl) (by kernel_rfl)
theorem auditMoved_reads (os : Os) {H : Type} (enc : TypeId × Value → H) : ∃ places, DataW.whole enc Tryd.prog ((laidWorld os).forCall (fun _ _ => 0) ⟨#[], #[.agg #[.int .i64 0, .slice none 0 0, .slice none 0 0, .slice none 0 0], .slice none 0 0, .int .i64 0], []⟩).memory Tryd.f8.params.toList Rows.auditMovedSpec.vars false #[.agg #[.int .i64 0, .slice none 0 0, .slice none 0 0, .slice none 0 0], .slice none 0 0, .int .i64 0].toList 8 = some ([.agg [.lit (.int .i64 0), .nil, .nil, .nil], .nil, .lit (.int .i64 0)], [], places) := ⟨[], by kernel_rfl⟩
set_option maxRecDepth 100000 in
theorem auditMoved_lifted (os : Os) (started : os.Started) (H : Type) (enc : TypeId × Value → H) (F : Stop.Interp) :
    ReturnsInHanded {} Tryd.checked os 8 .any ((OpenSpec.ofChange Rows.auditMovedSpec).preRow enc Tryd.prog Tryd.f8 Rows.auditMovedRow.domain false Rows.auditMovedRow.laid) (((OpenSpec.ofChange Rows.auditMovedSpec).at F).post enc Tryd.prog Tryd.f8 false true false false) := by
  obtain ⟨places, hx⟩ := auditMoved_reads os enc
  exact law_row (C := Tryd.checked) (s := (OpenSpec.ofChange Rows.auditMovedSpec)) (by kernel_rfl) started (by kernel_rfl) Tryd.func8
    (witness_row_at (enc := enc) (C := Tryd.checked) false (laidWorld os) #[.agg #[.int .i64 0, .slice none 0 0, .slice none 0 0, .slice none 0 0], .slice none 0 0, .int .i64 0] rfl (by kernel_rfl) (by kernel_rfl) (by kernel_rfl) (OpenSpec.preRow_of_cond 8 hx (by kernel_rfl) (fun k hk => by cases hk) (by kernel_rfl) (auditMoved_met os)))
    (by kernel_rfl) (by kernel_rfl) (by kernel_rfl) rfl (fun ds h => by match ds, h with | [_, _, _], _ => rfl) (auditMoved_args H enc)
theorem auditMoved_said : Rows.AuditMovedSaid :=
  OpenClaim.holds_of_cond 8 Tryd.f8 rfl rfl rfl rfl rfl rfl rfl ⟨rfl, rfl, rfl, rfl, rfl⟩ rfl rfl rfl rfl rfl (by kernel_rfl) Tryd.func8 (by kernel_rfl)
    (of_decide_eq_true (by kernel_rfl)) (by unfold Func.isWrapper; first | (rw [if_pos (by decide +kernel)]; kernel_rfl) | (rw [if_neg (by decide +kernel)]; exact ⟨rfl, rfl⟩))
    (fun os started H enc _ F => by rw [OpenClaim.pre_eq_preRow]; exact auditMoved_lifted os started H enc F)
theorem auditMoved_plain (f : FuncId) (fn : Func) (hf : Tryd.pinned.checked.prog.funcNamed "schisma/schismalaw39.AuditMoved" = some f) (hfn : Tryd.pinned.checked.prog.funcs[f]? = some fn) :
    false = Tryd.pinned.checked.prog.looks [] ∧ ∀ (j : Nat) t, fn.params[j]? = some t → Tryd.pinned.checked.prog.wantsStandIn t = false := by
  obtain rfl : f = 8 := Option.some.inj ((show Tryd.prog.funcNamed "schisma/schismalaw39.AuditMoved" = some 8 by kernel_rfl).symm.trans hf) |>.symm
  obtain rfl : fn = Tryd.f8 := (Option.some.inj (Tryd.func8.symm.trans hfn)).symm
  refine ⟨by kernel_rfl, fun j t ht => ?_⟩
  have hall : Tryd.f8.params.all (fun t => !Tryd.prog.wantsStandIn t) = true := by kernel_rfl
  have := (Array.all_eq_true'.1 hall) t (Array.mem_of_getElem? ht)
  have e : Tryd.prog.wantsStandIn t = false := by simpa using this
  exact e
/-- The card. -/
theorem auditMoved_holds : Rows.AuditMovedCardSaid :=
  Claim7.holds_tied_plain_at .later [] _ _ _ _ auditMoved_said (fun _ h => by cases h) (by kernel_rfl) (fun _ h => by cases h) auditMoved_row_tie rfl ⟨rfl, rfl⟩ (by kernel_rfl) rfl auditMoved_plain (by kernel_rfl)
end Go.Proofs.YtglngmfnoganpaaDoor
