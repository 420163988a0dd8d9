/-
  Proved: 'PotentialChains' returns true for every input and leaves its arguments as they were. No condition.
-/
import Derived.Test.YtdpegkkbhanjkaaDoorPoH
import Derived.Test.YtdpegkkbhanjkaaDoorR23A
import Derived.Test.YtdpegkkbhanjkaaDoorArgL
import Derived.Test.YtdpegkkbhanjkaaDoorLdB
set_option linter.unusedVariables false
namespace Go.Proofs.YtdpegkkbhanjkaaDoor
open Go.RowKit Go.Sx Go.Sx.Sz Go.Sx.Sc Go.Sx.Po Go.ChangeShapes Go.WideShapes Go.ChangeAt

section
variable {H : Type} {enc : TypeId × Value → H} {W : World} {base : Nat} {v : Value} {d : DataW H}
theorem el_step : El enc Tryd.prog W 35 3 encSt (fun _ => True) :=
  (El.struct Tryd.underlying35 (by kernel_rfl) (Fs.cons (El.int Tryd.underlying3) (by kernel_rfl) rfl (Fs.cons (El.int Tryd.underlying3) (by kernel_rfl) rfl (Fs.cons (El.int Tryd.underlying3) (by kernel_rfl) rfl (Fs.nil _))))).map
    (fun a => (⟨a.1, a.2.1, a.2.2.1⟩ : St)) (fun _ => rfl) (fun _ _ => trivial)
set_option maxRecDepth 100000 in
theorem arg_chain (h : Arg enc Tryd.prog W base 60 v d) : ∃ (c : Cn) (vst : Value), v = .agg #[.int .i64 c.pair, vst, .int .i64 c.comma.a, .int .i64 c.comma.b, .int .i64 c.comma.c, .int .i64 c.comma.d, .int .i64 c.comma.e, .int .i64 c.comma.f] ∧ Sl W 3 encSt vst c.steps := by
  have b1 : Tryd.prog.bytesOf 35 = 24 := by kernel_rfl
  have E6 := el_vec6 (enc := enc) (W := W)
  have ES := el_step (enc := enc) (W := W)
  obtain ⟨a, rfl, h1, h2, h3, -⟩ := Arg.struct (sz := 8) Tryd.underlying60 (El.struct Tryd.underlying60 (by kernel_rfl) (Fs.cons (El.int Tryd.underlying3) (by kernel_rfl) rfl
    (Fs.cons (El.slice (sz := 3) Tryd.underlying58 (by kernel_rfl) (by rw [b1]; decide) ES) (by kernel_rfl) rfl
    (Fs.cons (s0 := 6) E6 (by kernel_rfl) rfl (Fs.nil _))))) h
  exact ⟨⟨a.1, a.2.1.2, a.2.2.1⟩, a.2.1.1, rfl, h2.1⟩
end

/-- What Check shows stands in Broken's list, with its comma. -/
theorem chk_find {s : Sc} {h : List V6} {c : Cn} (h0 : (chkR s h c).2 = 0) (h1 : (chkR s h c).1 = true) : (brkR s h).2 = 0 ∧ ∃ k : Nat, ∃ hk : k < (brkR s h).1.length, fndC (brkR s h).1 c.pair = k ∧ ((brkR s h).1[k]).comma = c.comma := by
  unfold chkR at h0 h1
  by_cases ht : (tuneR s h).2 = 0
  · rw [if_pos ht] at h0 h1
    obtain ⟨i, e1, hi, hb, e2⟩ := chk_comma ht h1
    have hbr : brkR s h = (brkL s (tuneR s h).1, 0) := by unfold brkR; rw [if_pos ht]
    rw [hbr]
    refine ⟨rfl, ?_⟩
    rcases find_cn (s := s) (xs := (tuneR s h).1) hi with ⟨k, hk, f1, f2, -⟩ | ⟨-, f2⟩
    · refine ⟨k, hk, ?_, ?_⟩
      · unfold fndC; rw [e1]; simp only; rw [f1]
      · simp only; rw [f2, e2]; rfl
    · rw [hb] at f2; cases f2
  · rw [if_neg ht] at h0
    exact absurd h0 ht
theorem chk_err {s : Sc} {h : List V6} {c : Cn} : (chkR s h c).2 = (brkR s h).2 ∧ ((chkR s h c).2 ≠ 0 → (chkR s h c).1 = false) := by
  unfold chkR brkR
  by_cases ht : (tuneR s h).2 = 0
  · rw [if_pos ht, if_pos ht]; exact ⟨rfl, fun h => absurd rfl h⟩
  · rw [if_neg ht, if_neg ht]; exact ⟨rfl, fun _ => rfl⟩

set_option maxRecDepth 100000 in
set_option maxHeartbeats 8000000 in
theorem potchn_law (vn vp vc vh vst : Value) (s : Sc) (h : List V6) (c : Cn) (w : World) (GL : Gl 0 w) (S : ScR w vn vp vc s) (V : Sl w 6 V6.list vh h) (L : Sl w 3 encSt vst c.steps) :
    Calls Tryd.prog 6 #[.agg #[.int .i64 s.voices, vn, vp, vc], vh, .agg #[.int .i64 c.pair, vst, .int .i64 c.comma.a, .int .i64 c.comma.b, .int .i64 c.comma.c, .int .i64 c.comma.d, .int .i64 c.comma.e, .int .i64 c.comma.f]] w fun e w' => e = .returned (.bool true) ∧ Ext w w' := by
  obtain ⟨an, cn, rfl, -, -, hln⟩ := S.nt.len
  obtain ⟨ap, cp, rfl, -, -, hlp⟩ := S.pr.len
  obtain ⟨ac, cc, rfl, -, -, hlc⟩ := S.cd.len
  obtain ⟨ah, ch, rfl, -, -, hlh⟩ := V.len
  obtain ⟨al, cl, rfl, -, -, hll⟩ := L.len
  have CF := @chk_find s h c
  obtain ⟨CE1, CE2⟩ := @chk_err s h c
  have BW := @broken0_walk (.slice an s.notes.length cn) (.slice ap s.pairs.length cp) (.slice ac s.cads.length cc) (.slice ah h.length ch) s h
  have CW := @check_walk (.slice an s.notes.length cn) (.slice ap s.pairs.length cp) (.slice ac s.cads.length cc) (.slice ah h.length ch) (.slice al c.steps.length cl) s h c
  obtain ⟨⟨ck, ce⟩, hck⟩ : ∃ z, chkR s h c = z := ⟨_, rfl⟩
  obtain ⟨⟨bl, be⟩, hbl⟩ : ∃ z, brkR s h = z := ⟨_, rfl⟩
  rw [hck] at CF CE1 CE2 CW; rw [hbl] at CF CE1 BW
  simp only at CF CE1 CE2 CW BW
  subst CE1
  have HCF := Lib.hid CF; have HCE := Lib.hid CE2; have HBW := Lib.hid BW; have HCW := Lib.hid CW
  clear hck hbl CF CE2 BW CW
  have X0 : Ext w ((w.alloc (.cells #[.int .i64 s.voices, .slice an s.notes.length cn, .slice ap s.pairs.length cp, .slice ac s.cads.length cc] 26)).alloc (.cells #[.int .i64 c.pair, .slice al c.steps.length cl, .int .i64 c.comma.a, .int .i64 c.comma.b, .int .i64 c.comma.c, .int .i64 c.comma.d, .int .i64 c.comma.e, .int .i64 c.comma.f] 60)) := (by repeat (first | with_reducible exact Ext.refl _ | with_reducible assumption | with_reducible apply Ext.alloc | with_reducible apply Ext.drew | (with_reducible refine Ext.setCell ?_ (by (try simp) <;> omega) _)))
  have b0_0 := block_alloc (block_new w (.cells #[.int .i64 s.voices, .slice an s.notes.length cn, .slice ap s.pairs.length cp, .slice ac s.cads.length cc] 26)) (.cells #[.int .i64 c.pair, .slice al c.steps.length cl, .int .i64 c.comma.a, .int .i64 c.comma.b, .int .i64 c.comma.c, .int .i64 c.comma.d, .int .i64 c.comma.e, .int .i64 c.comma.f] 60)
  have b0_1 := block_at (w := (w.alloc (.cells #[.int .i64 s.voices, .slice an s.notes.length cn, .slice ap s.pairs.length cp, .slice ac s.cads.length cc] 26))) (n := w.heap.size + 1) (by simp) (.cells #[.int .i64 c.pair, .slice al c.steps.length cl, .int .i64 c.comma.a, .int .i64 c.comma.b, .int .i64 c.comma.c, .int .i64 c.comma.d, .int .i64 c.comma.e, .int .i64 c.comma.f] 60)
  obtain ⟨W0, hW0⟩ : ∃ W, ((w.alloc (.cells #[.int .i64 s.voices, .slice an s.notes.length cn, .slice ap s.pairs.length cp, .slice ac s.cads.length cc] 26)).alloc (.cells #[.int .i64 c.pair, .slice al c.steps.length cl, .int .i64 c.comma.a, .int .i64 c.comma.b, .int .i64 c.comma.c, .int .i64 c.comma.d, .int .i64 c.comma.e, .int .i64 c.comma.f] 60)) = W := ⟨_, rfl⟩
  obtain ⟨B0, hB0⟩ : ∃ B, w.heap.size = B := ⟨_, rfl⟩
  rw [hW0] at X0 b0_0 b0_1
  rw [hB0] at b0_0 b0_1
  have HZ0 : Hid (w.heap.size ≤ B0) := Lib.hid (by omega)
  have HW0 := Lib.hid hW0; have HB0 := Lib.hid hB0
  clear hW0 hB0
  have CB := Lib.hid (boxS b0_0)
  have HC1 := Lib.hid b0_1
  have S1 := S.ext X0; have V1 := V.ext X0; have G1 := GL.ext X0; have L1 := L.ext X0
  clear S V L GL b0_0 b0_1
  go_enter Tryd.func6, Tryd.ntmps6
  go_wp2_with fail
  rw [HW0.out, HB0.out]
  clear HW0 HB0
  refine (head_walk _ G1).mono ?_
  rintro e w1 ⟨rfl, x1⟩
  obtain ⟨c0, c1, c2, c3⟩ := CB.out _ x1
  go_wp2_with fail
  refine (rfew_walk _ _ _ s _ (S1.ext x1)).mono ?_
  obtain ⟨fw, hfw⟩ : ∃ z, (decide (s.notes.length ≤ 40) && decide (s.pairs.length ≤ 60)) = z := ⟨_, rfl⟩
  rw [hfw]
  clear hfw
  rintro e w2 ⟨rfl, y2⟩
  have x2 := x1.trans y2
  clear c0 c1 c2 c3
  cases fw with
  | false =>
    have HX := Lib.hid (X0.trans x2)
    go_wp2
    go_ret
    exact ⟨by first | rfl | simp, HX.out⟩
  | true =>
  obtain ⟨c0, c1, c2, c3⟩ := CB.out _ x2
  have bb := block_ext x2 HC1.out
  have d0 := block_cell bb 0 _ rfl; have d1 := block_cell bb 1 _ rfl; have d2 := block_cell bb 2 _ rfl; have d3 := block_cell bb 3 _ rfl; have d4 := block_cell bb 4 _ rfl; have d5 := block_cell bb 5 _ rfl; have d6 := block_cell bb 6 _ rfl; have d7 := block_cell bb 7 _ rfl
  clear bb
  go_wp2_with fail
  refine (HCW.out _ (G1.ext x2) (S1.ext x2) (V1.ext x2) (L1.ext x2)).mono ?_
  rintro e w3 ⟨rfl, y3⟩
  have x3 := x2.trans y3
  clear c0 c1 c2 c3 d0 d1 d2 d3 d4 d5 d6 d7
  obtain ⟨c0, c1, c2, c3⟩ := CB.out _ x3
  go_wp2_with fail
  refine (HBW.out _ (G1.ext x3) (S1.ext x3) (V1.ext x3)).mono ?_
  rintro e w4 ⟨v4, rfl, C4, y4⟩
  have x4 := x3.trans y4
  obtain ⟨a4, q4, rfl, h4, AT4⟩ := C4.at
  clear c0 c1 c2 c3
  have HX4 := Lib.hid (X0.trans x4)
  have e0 : (ce == ce) = true := beq_self_eq_true _
  by_cases hce : ce = 0
  case neg =>
    have e1 : (ce != 0) = true := by rw [bne_iff_ne]; exact hce
    obtain rfl := HCE.out hce
    clear hce
    go_wp2
    go_ret
    exact ⟨by first | rfl | simp, HX4.out⟩
  case pos =>
  subst hce
  cases ck with
  | false =>
    go_wp2
    go_ret
    exact ⟨by first | rfl | simp, HX4.out⟩
  | true =>
  obtain ⟨-, k, hk, hf, hcm⟩ := HCF.out rfl rfl
  have d0 := block_cell (block_ext x4 HC1.out) 0 _ rfl
  go_wp2_with fail
  refine (find_walk _ _ _ _ C4).mono ?_
  rw [hf]
  rintro e w5 ⟨rfl, x5⟩
  have bb := block_ext (x4.trans x5) HC1.out
  clear d0
  have d2 := block_cell bb 2 _ rfl; have d3 := block_cell bb 3 _ rfl; have d4 := block_cell bb 4 _ rfl; have d5 := block_cell bb 5 _ rfl; have d6 := block_cell bb 6 _ rfl; have d7 := block_cell bb 7 _ rfl
  obtain ⟨bl', ol', sv, rfl, r0, rs, r2, r3, r4, r5, r6, r7, -⟩ := AT4 w5 x5 k hk
  rw [hcm] at r2 r3 r4 r5 r6 r7
  obtain ⟨cm, hcc⟩ : ∃ z, c.comma = z := ⟨_, rfl⟩
  rw [hcc] at r2 r3 r4 r5 r6 r7 d2 d3 d4 d5 d6 d7
  have VQ : ∀ w', (Op.equalIn 10000 41 (.agg #[.int .i64 cm.a, .int .i64 cm.b, .int .i64 cm.c, .int .i64 cm.d, .int .i64 cm.e, .int .i64 cm.f]) (.agg #[.int .i64 cm.a, .int .i64 cm.b, .int .i64 cm.c, .int .i64 cm.d, .int .i64 cm.e, .int .i64 cm.f])).run Tryd.prog w' = .ok true w' := fun w' => by
    have := run_eq_v6 (P := Tryd.prog) Tryd.underlying41 Tryd.underlying3 (by kernel_rfl) cm cm 9998 w'
    rwa [decide_eq_true rfl] at this
  have t1 : decide ((0 : Int) ≤ (k : Int)) = true := decide_eq_true (by omega)
  have i1 : (0 : Int) ≤ (k : Int) := by omega
  have i2 : (k : Int) < (bl.length : Int) := by omega
  have HX5 := Lib.hid (HX4.out.trans x5)
  clear hcc hcm hf bb AT4 C4 r0 rs hk x5
  go_wp2
  go_quiet (fail)
  go_wp2
  go_ret
  exact ⟨by first | rfl | simp, HX5.out.drewN _⟩

theorem potentialChains_args (H : Type) (enc : TypeId × Value → H) (W : World) (base : Nat) (vs : List Value) (ds : List (DataW H)) (_ : ∀ k, (OpenSpec.ofChange Rows.potentialChainsSpec).cond = some k → k H ds = true) (hL : laidMetH Tryd.prog Rows.potentialChainsRow.laid W) (hA : Args enc Tryd.prog W base Tryd.f6.params.toList vs ds) :
    Calls Tryd.prog 6 vs.toArray W fun e W' => e = .returned (.bool true) ∧ Ext W W' := by
  rw [Tryd.params6] at hA
  obtain ⟨v0, _, d0, _, rfl, rfl, h0, hA⟩ := hA.cons
  obtain ⟨v1, _, d1, _, rfl, rfl, h1, hA⟩ := hA.cons
  obtain ⟨v2, _, d2, _, rfl, rfl, h2, hA⟩ := hA.cons
  obtain ⟨rfl, rfl⟩ := hA.nil
  obtain ⟨s0, vn0, vp0, vc0, rfl, S0⟩ := arg_score h0
  obtain ⟨l1, S1, n1⟩ := arg_vecs h1
  obtain ⟨x2, v2_, rfl, S2⟩ := arg_chain h2
  exact potchn_law _ _ _ _ _ s0 l1 x2 W (gv_of hL) S0 S1 S2

theorem potentialChains_met (os : Os) : laidMet Tryd.prog Rows.potentialChainsRow.laid ((laidWorld os).forCall (fun _ _ => 0) ⟨#[], #[.agg #[.int .i64 0, .slice none 0 0, .slice none 0 0, .slice none 0 0], .slice none 0 0, .agg #[.int .i64 0, .slice none 0 0, .int .i64 0, .int .i64 0, .int .i64 0, .int .i64 0, .int .i64 0, .int .i64 0]], []⟩).memory := laidMet_of_run' 8 (by kernel_rfl) (by kernel_rfl)
theorem potentialChains_reads (os : Os) {H : Type} (enc : TypeId × Value → H) : ∃ places, DataW.whole enc Tryd.prog ((laidWorld os).forCall (fun _ _ => 0) ⟨#[], #[.agg #[.int .i64 0, .slice none 0 0, .slice none 0 0, .slice none 0 0], .slice none 0 0, .agg #[.int .i64 0, .slice none 0 0, .int .i64 0, .int .i64 0, .int .i64 0, .int .i64 0, .int .i64 0, .int .i64 0]], []⟩).memory Tryd.f6.params.toList Rows.potentialChainsSpec.vars false #[.agg #[.int .i64 0, .slice none 0 0, .slice none 0 0, .slice none 0 0], .slice none 0 0, .agg #[.int .i64 0, .slice none 0 0, .int .i64 0, .int .i64 0, .int .i64 0, .int .i64 0, .int .i64 0, .int .i64 0]].toList 8 = some ([.agg [.lit (.int .i64 0), .nil, .nil, .nil], .nil, .agg [.lit (.int .i64 0), .nil, .agg [.lit (.int .i64 0), .lit (.int .i64 0), .lit (.int .i64 0), .lit (.int .i64 0), .lit (.int .i64 0), .lit (.int .i64 0)]]], [], places) := ⟨[], by kernel_rfl⟩
set_option maxRecDepth 100000 in
theorem potentialChains_lifted (os : Os) (started : os.Started) (H : Type) (enc : TypeId × Value → H) (F : Stop.Interp) :
    ReturnsInHanded {} Tryd.checked os 6 .any ((OpenSpec.ofChange Rows.potentialChainsSpec).preRow enc Tryd.prog Tryd.f6 Rows.potentialChainsRow.domain false Rows.potentialChainsRow.laid) (((OpenSpec.ofChange Rows.potentialChainsSpec).at F).post enc Tryd.prog Tryd.f6 false true false false) := by
  obtain ⟨places, hx⟩ := potentialChains_reads os enc
  exact law_row (C := Tryd.checked) (s := (OpenSpec.ofChange Rows.potentialChainsSpec)) (by kernel_rfl) started (by kernel_rfl) Tryd.func6
    (witness_row_at (enc := enc) (C := Tryd.checked) false (laidWorld os) #[.agg #[.int .i64 0, .slice none 0 0, .slice none 0 0, .slice none 0 0], .slice none 0 0, .agg #[.int .i64 0, .slice none 0 0, .int .i64 0, .int .i64 0, .int .i64 0, .int .i64 0, .int .i64 0, .int .i64 0]] rfl (by kernel_rfl) (by kernel_rfl) (by kernel_rfl) (OpenSpec.preRow_of_cond 8 hx (by kernel_rfl) (fun k hk => by cases hk) (by kernel_rfl) (potentialChains_met os)))
    (by kernel_rfl) (by kernel_rfl) (by kernel_rfl) rfl (fun ds h => by match ds, h with | [_, _, _], _ => rfl) (potentialChains_args H enc)
theorem potentialChains_said : Rows.PotentialChainsSaid :=
  OpenClaim.holds_of_cond 6 Tryd.f6 rfl rfl rfl rfl rfl rfl rfl ⟨rfl, rfl, rfl, rfl, rfl⟩ rfl rfl rfl rfl rfl (by kernel_rfl) Tryd.func6 (by kernel_rfl)
    (of_decide_eq_true (by kernel_rfl)) (by unfold Func.isWrapper; first | (rw [if_pos (by decide +kernel)]; kernel_rfl) | (rw [if_neg (by decide +kernel)]; exact ⟨rfl, rfl⟩))
    (fun os started H enc _ F => by rw [OpenClaim.pre_eq_preRow]; exact potentialChains_lifted os started H enc F)
theorem potentialChains_plain (f : FuncId) (fn : Func) (hf : Tryd.pinned.checked.prog.funcNamed "schisma/schismalaw23.PotentialChains" = some f) (hfn : Tryd.pinned.checked.prog.funcs[f]? = some fn) :
    false = Tryd.pinned.checked.prog.looks [] ∧ ∀ (j : Nat) t, fn.params[j]? = some t → Tryd.pinned.checked.prog.wantsStandIn t = false := by
  obtain rfl : f = 6 := Option.some.inj ((show Tryd.prog.funcNamed "schisma/schismalaw23.PotentialChains" = some 6 by kernel_rfl).symm.trans hf) |>.symm
  obtain rfl : fn = Tryd.f6 := (Option.some.inj (Tryd.func6.symm.trans hfn)).symm
  refine ⟨by kernel_rfl, fun j t ht => ?_⟩
  have hall : Tryd.f6.params.all (fun t => !Tryd.prog.wantsStandIn t) = true := by kernel_rfl
  have := (Array.all_eq_true'.1 hall) t (Array.mem_of_getElem? ht)
  have e : Tryd.prog.wantsStandIn t = false := by simpa using this
  exact e
/-- The card. -/
theorem potentialChains_holds : Rows.PotentialChainsCardSaid :=
  Claim7.holds_tied_plain_at .later [] _ _ _ _ potentialChains_said (fun _ h => by cases h) (by kernel_rfl) (fun _ h => by cases h) potentialChains_row_tie rfl ⟨rfl, rfl⟩ (by kernel_rfl) rfl potentialChains_plain (by kernel_rfl)
end Go.Proofs.YtdpegkkbhanjkaaDoor
