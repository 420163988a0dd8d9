/-
  Proved: 'BlameAssigned' returns true for every input and leaves its arguments as they were. No condition.
-/
import Derived.Test.YtbemjekkojgbpaaDoorBmI
import Derived.Test.YtbemjekkojgbpaaDoorBlN
import Derived.Test.YtbemjekkojgbpaaDoorR23A
import Derived.Test.YtbemjekkojgbpaaDoorBmL
set_option linter.unusedVariables false
namespace Go.Sx.Bl
open Go.Sx.Sz Go.Sx.Sc Go.Sx.Au Go.Sx.Po
theorem ass_facts (s : Sc) (h : List V6) (l : List S2) : (chgR s h l).2 ≠ 0 ∨ (devR s h l).1 ≠ [] ∨ ((chgR s h l).2 = 0 ∧ (devR s h l).1 = [] ∧ (devR s h l).2 = 0 ∧ (brkR s h).2 = 0 ∧ (chgR s h l).1.length ≤ 400 ∧ (brkR s h).1.length ≤ 400 ∧
    ∀ k (hk : k < (chgR s h l).1.length), ∃ (i : Nat) (bb : Bool), (chgR s h l).1[k] = ⟨i, if bb = true then 2 else 3, -1⟩ ∧ ((brkR s h).1.any fun c => decide (c.pair = (i : Int))) = bb) := by
  by_cases he : hearE s h l = 0
  case neg => exact .inl (by unfold chgR; rw [if_neg he]; exact he)
  obtain ⟨h1, h2⟩ := hear_ok.1 he
  have hb : brkR s h = (brkL s (tuneR s h).1, 0) := by unfold brkR; rw [if_pos h1]
  have hd : devR s h l = ((devL (tuneR s h).1 l).map fun i : Nat => (i : Int), 0) := by unfold devR; rw [if_pos he]
  have hc : chgR s h l = (chgL s (tuneR s h).1 l, 0) := by unfold chgR; rw [if_pos he]
  rw [hb, hd, hc]
  by_cases hdl : devL (tuneR s h).1 l = []
  case neg => exact .inr (.inl (by simpa using hdl))
  have hp := h2.1.sz.2.2.1
  refine .inr (.inr ⟨rfl, by rw [hdl]; rfl, rfl, rfl, ?_, ?_, ?_⟩)
  · have : (chgL s (tuneR s h).1 l).length ≤ s.pairs.length := by
      unfold chgL
      rw [List.length_map]
      have := (List.range s.pairs.length).length_filter_le (chgB s (tuneR s h).1 l)
      rwa [List.length_range] at this
    show (chgL s (tuneR s h).1 l).length ≤ 400
    omega
  · have : (brkL s (tuneR s h).1).length ≤ s.pairs.length := by
      unfold brkL
      rw [List.length_map]
      have := (List.range s.pairs.length).length_filter_le (brkT s (tuneR s h).1)
      rwa [List.length_range] at this
    show (brkL s (tuneR s h).1).length ≤ 400
    omega
  · intro k hk
    obtain ⟨i, hi, e, -, a1, a2, a3⟩ := chg_get h2.1 (xs := (tuneR s h).1) (l := l) (k := k) hk
    exact ⟨i, brkT s (tuneR s h).1 i, by show (chgL s (tuneR s h).1 l)[k] = _; rw [e, chg_free hdl a1 a2 a3], brk_any hi⟩
end Go.Sx.Bl
namespace Go.Proofs.YtbemjekkojgbpaaDoor
open Go.RowKit Go.Sx Go.Sx.Sz Go.Sx.Sc Go.Sx.Au Go.Sx.Po Go.Sx.Bl Go.ChangeShapes Go.WideShapes Go.ChangeAt

set_option maxRecDepth 100000 in
set_option maxHeartbeats 8000000 in
theorem bass_law (vn vp vc vh vt : Value) (s : Sc) (h : List V6) (l : List S2) (w : World) (GL : Gl 0 w) (S : ScR w vn vp vc s) (V : Sl w 6 V6.list vh h) (R : Sl w 2 encS vt l) :
    Calls Tryd.prog 4 #[.agg #[.int .i64 s.voices, vn, vp, vc], vh, vt] w fun e w' => e = .returned (.bool true) ∧ Ext w w' := by
  obtain ⟨an, cn, rfl, -, -, hln⟩ := S.nt.len
  obtain ⟨ap, cp, rfl, -, -, hlp⟩ := S.pr.len
  obtain ⟨ac, cc, rfl, -, -, hlc⟩ := S.cd.len
  obtain ⟨ah, ch, rfl, -, -, -⟩ := V.len
  obtain ⟨at', ct, rfl, -, -, -⟩ := R.len
  have CW := @charges_walk (.slice an s.notes.length cn) (.slice ap s.pairs.length cp) (.slice ac s.cads.length cc) (.slice ah h.length ch) (.slice at' l.length ct) s h l
  have DW := @deviants_walk (.slice an s.notes.length cn) (.slice ap s.pairs.length cp) (.slice ac s.cads.length cc) (.slice ah h.length ch) (.slice at' l.length ct) s h l
  have BW := @broken0_walk (.slice an s.notes.length cn) (.slice ap s.pairs.length cp) (.slice ac s.cads.length cc) (.slice ah h.length ch) s h
  have hf := ass_facts s h l
  obtain ⟨⟨cl, ce⟩, hc⟩ : ∃ z, chgR s h l = z := ⟨_, rfl⟩
  obtain ⟨⟨dl, de⟩, hd⟩ : ∃ z, devR s h l = z := ⟨_, rfl⟩
  obtain ⟨⟨bl, be⟩, hb⟩ : ∃ z, brkR s h = z := ⟨_, rfl⟩
  rw [hc] at CW hf; rw [hd] at DW hf; rw [hb] at BW hf
  simp only at CW DW BW hf
  have HCW := Lib.hid CW; have HDW := Lib.hid DW; have HBW := Lib.hid BW; have HF := Lib.hid hf
  clear hc hd hb CW DW BW hf
  have X0 : Ext w (w.alloc (.cells #[.int .i64 s.voices, .slice an s.notes.length cn, .slice ap s.pairs.length cp, .slice ac s.cads.length cc] 26)) := (by repeat (first | with_reducible exact Ext.refl _ | with_reducible assumption | with_reducible apply Ext.alloc | with_reducible apply Ext.drew | (with_reducible refine Ext.setCell ?_ (by (try simp) <;> omega) _)))
  have b0_0 := block_new w (.cells #[.int .i64 s.voices, .slice an s.notes.length cn, .slice ap s.pairs.length cp, .slice ac s.cads.length cc] 26)
  obtain ⟨W0, hW0⟩ : ∃ W, (w.alloc (.cells #[.int .i64 s.voices, .slice an s.notes.length cn, .slice ap s.pairs.length cp, .slice ac s.cads.length cc] 26)) = W := ⟨_, rfl⟩
  obtain ⟨B0, hB0⟩ : ∃ B, w.heap.size = B := ⟨_, rfl⟩
  rw [hW0] at X0 b0_0
  rw [hB0] at b0_0
  have HZ0 : Hid (w.heap.size ≤ B0) := Lib.hid (by omega)
  have HW0 := Lib.hid hW0; have HB0 := Lib.hid hB0
  clear hW0 hB0
  have CB := Lib.hid (boxS b0_0)
  have S1 := S.ext X0; have V1 := V.ext X0; have G1 := GL.ext X0; have R1 := R.ext X0
  clear S V GL R b0_0
  go_enter Tryd.func4, Tryd.ntmps4
  go_wp2_with fail
  rw [HW0.out, HB0.out]
  clear HW0 HB0
  refine (bhead_walk _ G1).mono ?_
  rintro e w1 ⟨rfl, x1⟩
  obtain ⟨c0, c1, c2, c3⟩ := CB.out _ x1
  go_wp2_with fail
  refine (rfew_walk _ _ _ s _ (S1.ext x1)).mono ?_
  obtain ⟨fw, hfw⟩ : ∃ z, (decide (s.notes.length ≤ 40) && decide (s.pairs.length ≤ 60)) = z := ⟨_, rfl⟩
  rw [hfw]
  clear hfw
  rintro e w2 ⟨rfl, y2⟩
  have x2 := x1.trans y2
  clear c0 c1 c2 c3
  cases fw with
  | false =>
    have HX := Lib.hid (X0.trans x2)
    go_wp2
    go_ret
    exact ⟨by first | rfl | simp, HX.out⟩
  | true =>
  obtain ⟨c0, c1, c2, c3⟩ := CB.out _ x2
  go_wp2_with fail
  refine (HCW.out _ (G1.ext x2) (S1.ext x2) (V1.ext x2) (R1.ext x2)).mono ?_
  rintro e w3 ⟨v3, rfl, L3, y3⟩
  have x3 := x2.trans y3
  clear c0 c1 c2 c3
  obtain ⟨c0, c1, c2, c3⟩ := CB.out _ x3
  go_wp2_with fail
  refine (HDW.out _ (G1.ext x3) (S1.ext x3) (V1.ext x3) (R1.ext x3)).mono ?_
  rintro e w4 ⟨v4, rfl, L4, y4⟩
  have x4 := x3.trans y4
  have L3 := L3.ext y4
  clear c0 c1 c2 c3
  obtain ⟨c0, c1, c2, c3⟩ := CB.out _ x4
  go_wp2_with fail
  refine (HBW.out _ (G1.ext x4) (S1.ext x4) (V1.ext x4)).mono ?_
  rintro e w5 ⟨v5, rfl, C5, y5⟩
  have x5 := x4.trans y5
  have L3 := L3.ext y5
  have L4 := L4.ext y5
  obtain ⟨a3, q3, rfl, -, -, -⟩ := L3.len
  obtain ⟨a4, q4, rfl, -, -, -⟩ := L4.len
  obtain ⟨a5, q5, rfl, h5, AT5⟩ := C5.at
  have HX5 := Lib.hid (X0.trans x5)
  clear c0 c1 c2 c3 y2 y3 y4 y5 x1 x2 x3 x4 x5
  by_cases hce : ce = 0
  case neg =>
    have t1 : (ce != 0) = true := by rw [bne_iff_ne]; exact hce
    clear hce
    go_wp2
    go_ret
    exact ⟨by first | rfl | simp, HX5.out⟩
  subst hce
  cases dl with
  | cons d dl =>
    go_wp2
    go_ret
    exact ⟨by first | rfl | simp, HX5.out⟩
  | nil =>
  obtain ⟨-, -, rfl, rfl, hcl, hbl, hfa⟩ : (0 : Int) = 0 ∧ ([] : List Int) = [] ∧ de = 0 ∧ be = 0 ∧ cl.length ≤ 400 ∧ bl.length ≤ 400 ∧ _ := by
    rcases HF.out with h9 | h9 | h9
    · exact absurd rfl h9
    · exact absurd rfl h9
    · exact h9
  have HFA := Lib.hid hfa
  have HAT := Lib.hid AT5
  clear hfa AT5 C5 L4 HCW HDW HBW
  go_wp2
  go_loopw [14] (fun i wr => ∃ k : Nat, k ≤ cl.length ∧ i = .int .i64 k ∧ Ext w5 wr) (fun i _ => cl.length - (intOf i).toNat)
  case atStart => exact ⟨0, by omega, by first | rfl | trivial, Ext.refl _⟩
  case round =>
    obtain ⟨k, hk, rfl, X⟩ := hrel
    by_cases hlt : k < cl.length
    case neg =>
      obtain rfl : k = cl.length := by omega
      have HX := Lib.hid (HX5.out.trans X)
      go_wp2
      go_ret
      exact ⟨by first | rfl | simp, HX.out⟩
    case pos =>
    obtain ⟨i, bb, hi, ha⟩ := HFA.out k hlt
    obtain ⟨bC, oC, rfl, k0, k1, k2⟩ := Sl.cg (L3.ext X) k hlt
    rw [hi] at k0 k1 k2
    dsimp only at k0 k1 k2
    have i1 : (0 : Int) ≤ (k : Int) := by omega
    have i2 : (k : Int) < (cl.length : Int) := by omega
    have HA := Lib.hid ha
    obtain ⟨W, rfl⟩ : ∃ z : World, z = wr := ⟨_, rfl⟩
    have D0 := ext_cells k0; have D1 := ext_cells k1; have D2 := ext_cells k2
    clear hi ha k0 k1 k2
    go_wp2
    go_loopw [15, 16] (fun b j wr => ∃ m : Nat, m ≤ bl.length ∧ b = .bool ((bl.take m).any fun c => decide (c.pair = (i : Int))) ∧ j = .int .i64 m ∧ Ext W wr) (fun _ j _ => bl.length - (intOf j).toNat)
    case atStart => exact ⟨0, by omega, by first | rfl | simp, by first | rfl | trivial, Ext.refl _⟩
    case round =>
      obtain ⟨m, hm, rfl, rfl, Y⟩ := hrel
      have d0 := D0 _ Y; have d1 := D1 _ Y; have d2 := D2 _ Y
      by_cases hml : m < bl.length
      case pos =>
        obtain ⟨b0, o0, sv, rfl, e0, -, -, -, -, -, -, -, -⟩ := HAT.out wr (X.trans Y) m hml
        have ht := List.take_succ_eq_append_getElem hml
        obtain ⟨x, hx⟩ : ∃ x, bl[m] = x := ⟨_, rfl⟩
        rw [hx] at e0 ht
        have j1 : (0 : Int) ≤ (m : Int) := by omega
        have j2 : (m : Int) < (bl.length : Int) := by omega
        have HTT : Hid ((bl.take (m + 1)).any (fun c => decide (c.pair = (i : Int))) = ((bl.take m).any (fun c => decide (c.pair = (i : Int))) || decide (x.pair = (i : Int)))) := Lib.hid (by rw [ht, List.any_append]; simp)
        obtain ⟨p, hp⟩ : ∃ z, (bl.take m).any (fun c => decide (c.pair = (i : Int))) = z := ⟨_, rfl⟩
        rw [hp] at HTT ⊢
        clear d1 d2 hx ht hp
        cases p with
        | true =>
          go_wp2
          go_quiet (fail)
          go_wp2
          go_roundw
          case rel => exact ⟨m + 1, by omega, by rw [HTT.out] <;> rfl, by go_num, Y.trans (Ext.drawn _ _)⟩
          case measure => simp [intOf] <;> omega
        | false =>
          by_cases hxi : x.pair = (i : Int)
          · have t1 : (x.pair == (i : Int)) = true := beq_iff_eq.2 hxi
            have t2 : Hid (decide (x.pair = (i : Int)) = true) := Lib.hid (decide_eq_true hxi)
            clear hxi
            go_wp2
            go_quiet (fail)
            go_wp2
            go_roundw
            case rel => exact ⟨m + 1, by omega, by rw [HTT.out, t2.out] <;> rfl, by go_num, Y.trans (Ext.drawn _ _)⟩
            case measure => simp [intOf] <;> omega
          · have t1 : (x.pair == (i : Int)) = false := beq_eq_false_iff_ne.2 hxi
            have t2 : Hid (decide (x.pair = (i : Int)) = false) := Lib.hid (decide_eq_false hxi)
            clear hxi
            go_wp2
            go_quiet (fail)
            go_wp2
            go_roundw
            case rel => exact ⟨m + 1, by omega, by rw [HTT.out, t2.out] <;> rfl, by go_num, Y.trans (Ext.drawn _ _)⟩
            case measure => simp [intOf] <;> omega
      case neg =>
        obtain rfl : m = bl.length := by omega
        rw [List.take_length, HA.out]
        have HX := Lib.hid (X.trans Y)
        cases bb with
        | true =>
          go_wp2
          go_roundw
          case rel => exact ⟨k + 1, by omega, by go_num, HX.out⟩
          case measure => simp [intOf] <;> omega
        | false =>
          go_wp2
          go_roundw
          case rel => exact ⟨k + 1, by omega, by go_num, HX.out⟩
          case measure => simp [intOf] <;> omega

theorem blameAssigned_args (H : Type) (enc : TypeId × Value → H) (W : World) (base : Nat) (vs : List Value) (ds : List (DataW H)) (_ : ∀ k, (OpenSpec.ofChange Rows.blameAssignedSpec).cond = some k → k H ds = true) (hL : laidMetH Tryd.prog Rows.blameAssignedRow.laid W) (hA : Args enc Tryd.prog W base Tryd.f4.params.toList vs ds) :
    Calls Tryd.prog 4 vs.toArray W fun e W' => e = .returned (.bool true) ∧ Ext W W' := by
  rw [Tryd.params4] at hA
  obtain ⟨v0, _, d0, _, rfl, rfl, h0, hA⟩ := hA.cons
  obtain ⟨v1, _, d1, _, rfl, rfl, h1, hA⟩ := hA.cons
  obtain ⟨v2, _, d2, _, rfl, rfl, h2, hA⟩ := hA.cons
  obtain ⟨rfl, rfl⟩ := hA.nil
  obtain ⟨s0, vn0, vp0, vc0, rfl, S0⟩ := arg_score h0
  obtain ⟨l1, S1, n1⟩ := arg_vecs h1
  obtain ⟨l2, S2, n2⟩ := arg_sizes h2
  exact bass_law _ _ _ _ _ s0 l1 l2 W (gv_of hL) S0 S1 S2

theorem blameAssigned_met (os : Os) : laidMet Tryd.prog Rows.blameAssignedRow.laid ((laidWorld os).forCall (fun _ _ => 0) ⟨#[], #[.agg #[.int .i64 0, .slice none 0 0, .slice none 0 0, .slice none 0 0], .slice none 0 0, .slice none 0 0], []⟩).memory := laidMet_of_run' 8 (by kernel_rfl) (by kernel_rfl)
theorem blameAssigned_reads (os : Os) {H : Type} (enc : TypeId × Value → H) : ∃ places, DataW.whole enc Tryd.prog ((laidWorld os).forCall (fun _ _ => 0) ⟨#[], #[.agg #[.int .i64 0, .slice none 0 0, .slice none 0 0, .slice none 0 0], .slice none 0 0, .slice none 0 0], []⟩).memory Tryd.f4.params.toList Rows.blameAssignedSpec.vars false #[.agg #[.int .i64 0, .slice none 0 0, .slice none 0 0, .slice none 0 0], .slice none 0 0, .slice none 0 0].toList 8 = some ([.agg [.lit (.int .i64 0), .nil, .nil, .nil], .nil, .nil], [], places) := ⟨[], by kernel_rfl⟩
set_option maxRecDepth 100000 in
theorem blameAssigned_lifted (os : Os) (started : os.Started) (H : Type) (enc : TypeId × Value → H) (F : Stop.Interp) :
    ReturnsInHanded {} Tryd.checked os 4 .any ((OpenSpec.ofChange Rows.blameAssignedSpec).preRow enc Tryd.prog Tryd.f4 Rows.blameAssignedRow.domain false Rows.blameAssignedRow.laid) (((OpenSpec.ofChange Rows.blameAssignedSpec).at F).post enc Tryd.prog Tryd.f4 false true false false) := by
  obtain ⟨places, hx⟩ := blameAssigned_reads os enc
  exact law_row (C := Tryd.checked) (s := (OpenSpec.ofChange Rows.blameAssignedSpec)) (by kernel_rfl) started (by kernel_rfl) Tryd.func4
    (witness_row_at (enc := enc) (C := Tryd.checked) false (laidWorld os) #[.agg #[.int .i64 0, .slice none 0 0, .slice none 0 0, .slice none 0 0], .slice none 0 0, .slice none 0 0] rfl (by kernel_rfl) (by kernel_rfl) (by kernel_rfl) (OpenSpec.preRow_of_cond 8 hx (by kernel_rfl) (fun k hk => by cases hk) (by kernel_rfl) (blameAssigned_met os)))
    (by kernel_rfl) (by kernel_rfl) (by kernel_rfl) rfl (fun ds h => by match ds, h with | [_, _, _], _ => rfl) (blameAssigned_args H enc)
theorem blameAssigned_said : Rows.BlameAssignedSaid :=
  OpenClaim.holds_of_cond 4 Tryd.f4 rfl rfl rfl rfl rfl rfl rfl ⟨rfl, rfl, rfl, rfl, rfl⟩ rfl rfl rfl rfl rfl (by kernel_rfl) Tryd.func4 (by kernel_rfl)
    (of_decide_eq_true (by kernel_rfl)) (by unfold Func.isWrapper; first | (rw [if_pos (by decide +kernel)]; kernel_rfl) | (rw [if_neg (by decide +kernel)]; exact ⟨rfl, rfl⟩))
    (fun os started H enc _ F => by rw [OpenClaim.pre_eq_preRow]; exact blameAssigned_lifted os started H enc F)
theorem blameAssigned_plain (f : FuncId) (fn : Func) (hf : Tryd.pinned.checked.prog.funcNamed "schisma/schismalaw40.BlameAssigned" = some f) (hfn : Tryd.pinned.checked.prog.funcs[f]? = some fn) :
    false = Tryd.pinned.checked.prog.looks [] ∧ ∀ (j : Nat) t, fn.params[j]? = some t → Tryd.pinned.checked.prog.wantsStandIn t = false := by
  obtain rfl : f = 4 := Option.some.inj ((show Tryd.prog.funcNamed "schisma/schismalaw40.BlameAssigned" = some 4 by kernel_rfl).symm.trans hf) |>.symm
  obtain rfl : fn = Tryd.f4 := (Option.some.inj (Tryd.func4.symm.trans hfn)).symm
  refine ⟨by kernel_rfl, fun j t ht => ?_⟩
  have hall : Tryd.f4.params.all (fun t => !Tryd.prog.wantsStandIn t) = true := by kernel_rfl
  have := (Array.all_eq_true'.1 hall) t (Array.mem_of_getElem? ht)
  have e : Tryd.prog.wantsStandIn t = false := by simpa using this
  exact e
/-- The card. -/
theorem blameAssigned_holds : Rows.BlameAssignedCardSaid :=
  Claim7.holds_tied_plain_at .later [] _ _ _ _ blameAssigned_said (fun _ h => by cases h) (by kernel_rfl) (fun _ h => by cases h) blameAssigned_row_tie rfl ⟨rfl, rfl⟩ (by kernel_rfl) rfl blameAssigned_plain (by kernel_rfl)
end Go.Proofs.YtbemjekkojgbpaaDoor
