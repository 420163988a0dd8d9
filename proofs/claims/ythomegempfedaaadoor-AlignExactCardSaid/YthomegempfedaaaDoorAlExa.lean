/-
  Proved: 'AlignExact' returns true for every input and leaves its arguments as they were. No condition.
-/
import Derived.Test.YthomegempfedaaaDoorAlL
import Derived.Test.YthomegempfedaaaDoorR3A
set_option linter.unusedVariables false
namespace Go.Proofs.YthomegempfedaaaDoor
open Go.RowKit Go.Sx Go.Sx.Sz Go.Sx.Al Go.ChangeShapes Go.WideShapes Go.ChangeAt

/-- The tone that is heard for a due: its size, wider by b on both sides. -/
def exTone (b : Int) (d : Due) : Hrd := ⟨d.t, ⟨(dsz d).lo - b, (dsz d).hi + b⟩⟩

theorem sz_of (d : Due) (h : within d.x 48 = true) : ofR d.x = (d.x.times 12, 0) ∧ sizeR (d.x.times 12) = (dsz d, 0) ∧ -(576 * 22202638314) ≤ (dsz d).lo ∧ (dsz d).lo ≤ (dsz d).hi ∧ (dsz d).hi ≤ 576 * 22202638314 := by
  have h1 : ofR d.x = (d.x.times 12, 0) := by rw [ofR, if_pos h]
  have h2 : within (d.x.times 12) 576 = true := within_times (B := 48) (n := 12) (by omega) h
  have h3 : sizeR (d.x.times 12) = (expo (d.x.times 12), 0) := by rw [sizeR, if_pos h2]
  have h4 : dsz d = expo (d.x.times 12) := by unfold dsz; rw [h1]; simp only [h3]
  refine ⟨h1, by rw [h3, h4], ?_⟩
  rw [h4]
  exact expo_bd h2

theorem exa_mc {p : Prc} {b : Int} (hb0 : 0 ≤ b) (hb1 : b ≤ 65535) {d : Due} (h : within d.x 48 = true) : mc p d (exTone b d) = 0 := by
  obtain ⟨-, -, h1, h2, h3⟩ := sz_of d h
  have hc : (cmpR (dsz d) (exTone b d).s).1 = 0 := by
    unfold cmpR
    have k1 : szOk (dsz d) = true := szOk_iff.2 ⟨by omega, by omega, by omega⟩
    have k2 : szOk (exTone b d).s = true := szOk_iff.2 (by simp only [exTone]; omega)
    rw [if_pos ⟨k1, k2⟩, if_neg (by simp only [exTone]; omega), if_neg (by simp only [exTone]; omega)]
  unfold mc
  rw [if_pos hc]
  unfold absd exTone
  simp
theorem exa_ok {ds : List Due} {p : Prc} (hv : AlOk ds [] p) {b : Int} (hb0 : 0 ≤ b) (hb1 : b ≤ 65535) : AlOk ds (ds.map (exTone b)) p where
  dx := hv.dx
  hx := fun h hh => by
    obtain ⟨d, hd, rfl⟩ := List.mem_map.1 hh
    obtain ⟨-, -, h1, h2, h3⟩ := sz_of d (hv.dx d hd)
    exact szOk_iff.2 (by simp only [exTone]; omega)
  dn := hv.dn
  hn := by rw [List.length_map]; exact hv.dn
  dr := hv.dr
  dt := hv.dt
  hr := by
    rw [List.map_map]
    exact hv.dr
  ht := fun h hh => by
    obtain ⟨d, hd, rfl⟩ := List.mem_map.1 hh
    exact hv.dt d hd
  skip := hv.skip
  off := hv.off
theorem exa_tab {ds : List Due} {p : Prc} (hv : AlOk ds [] p) {b : Int} (hb0 : 0 ≤ b) (hb1 : b ≤ 65535) : ∀ (f i : Nat), i + f = ds.length → tab ds (ds.map (exTone b)) p i i = 0
  | 0, i, h => by
    obtain rfl : i = ds.length := by omega
    have := @tab_nm ds (ds.map (exTone b)) p
    rwa [List.length_map] at this
  | f + 1, i, h => by
    have hi : i < ds.length := by omega
    have hj : i < (ds.map (exTone b)).length := by rw [List.length_map]; exact hi
    have hV := exa_ok hv hb0 hb1
    rw [tab_mid hi hj]
    have e1 : (ds.map (exTone b))[i] = exTone b ds[i] := List.getElem_map _
    rw [e1, exa_mc hb0 hb1 (hv.dx _ (List.getElem_mem _)), exa_tab hv hb0 hb1 f (i + 1) (by omega)]
    have a := (tab_small hV (show i + 1 ≤ ds.length by omega) (show i ≤ (ds.map (exTone b)).length by omega)).1
    have c := (tab_small hV (show i ≤ ds.length by omega) (show i + 1 ≤ (ds.map (exTone b)).length by omega)).1
    have s := hv.skip.1
    omega
theorem exa_path {ds : List Due} {p : Prc} (hv : AlOk ds [] p) {b : Int} (hb0 : 0 ≤ b) (hb1 : b ≤ 65535) : ∀ (f g i : Nat), i + f = ds.length → f ≤ g → path ds (ds.map (exTone b)) p g i i = (List.range' i f).map fun k => ⟨(k : Nat), (k : Nat)⟩
  | 0, g, i, h, hg => by
    obtain rfl : i = ds.length := by omega
    exact path_end _ _ _ _ _ _ (Nat.le_refl _) (by rw [List.length_map]; exact Nat.le_refl _)
  | f + 1, g + 1, i, h, hg => by
    have hi : i < ds.length := by omega
    have hj : i < (ds.map (exTone b)).length := by rw [List.length_map]; exact hi
    have hc : tab ds (ds.map (exTone b)) p i i = mc p (ds.getD i default) ((ds.map (exTone b)).getD i default) + tab ds (ds.map (exTone b)) p (i + 1) (i + 1) := by
      rw [exa_tab hv hb0 hb1 (f + 1) i h, exa_tab hv hb0 hb1 f (i + 1) (by omega), List.getD_eq_getElem?_getD, List.getD_eq_getElem?_getD, List.getElem?_eq_getElem hi, List.getElem?_eq_getElem hj]
      simp only [Option.getD_some, List.getElem_map]
      rw [exa_mc hb0 hb1 (hv.dx _ (List.getElem_mem _))]; rfl
    rw [path, if_pos ⟨hi, hj, hc⟩, exa_path hv hb0 hb1 f g (i + 1) (by omega) (by omega), List.range'_succ]
    rfl
theorem exa_all {ds : List Due} {p : Prc} (hok : alOk ds [] p = true) {b : Int} (hb0 : 0 ≤ b) (hb1 : b ≤ 65535) :
    alCr ds (ds.map (exTone b)) p = 0 ∧ alEr ds (ds.map (exTone b)) p = 0 ∧ alLr ds (ds.map (exTone b)) p = (List.range ds.length).map fun k => ⟨(k : Nat), (k : Nat)⟩ := by
  have hv := alOk_iff.1 hok
  have h1 := alOk_iff.2 (exa_ok hv hb0 hb1)
  refine ⟨by rw [alCr, if_pos h1, exa_tab hv hb0 hb1 ds.length 0 (by omega)], by rw [alEr, if_pos h1], ?_⟩
  rw [alLr, if_pos h1, pathL, exa_path hv hb0 hb1 ds.length _ 0 (by omega) (by omega), List.range_eq_range']

theorem et_h : ET Tryd.prog 23 54 3 24 := .mk' (z := .agg #[.int .i64 0, .int .i64 0, .int .i64 0]) Tryd.underlying23 (by kernel_rfl) rfl (by decide) (by decide)

set_option maxRecDepth 100000 in
set_option maxHeartbeats 4000000 in
theorem exact_walk (vd : Value) (ds : List Due) (p : Prc) (b : Int) (hb0 : 0 ≤ b) (hb1 : b ≤ 65535) (hn1 : ds.length * 56 ≤ 140737488351232) (w : World) (G : Gl 0 w) (Sd : Sl w 7 encD vd ds) :
    Calls Tryd.prog 6 #[vd, .agg #[.int .i64 p.skip, .int .i64 p.off], .int .u16 b] w fun e w' => e = .returned (.bool true) ∧ Ext w w' := by
  obtain ⟨ad, cd, rfl, -, -, -⟩ := Sd.len
  go_enter Tryd.func6, Tryd.ntmps6
  go_wp2_with fail
  refine (head_walk _ (G.ext (by repeat (first | with_reducible exact Ext.refl _ | with_reducible assumption | with_reducible apply Ext.alloc | with_reducible apply Ext.drew | (with_reducible refine Ext.setCell ?_ (by (try simp) <;> omega) _))))).mono ?_
  rintro e w1 ⟨rfl, x1⟩
  have X1 : Ext w w1 := Ext.trans (by repeat (first | with_reducible exact Ext.refl _ | with_reducible assumption | with_reducible apply Ext.alloc | with_reducible apply Ext.drew | (with_reducible refine Ext.setCell ?_ (by (try simp) <;> omega) _))) x1
  have b1 := block_ext x1 (block_new w (.cells #[.int .i64 p.skip, .int .i64 p.off] 25))
  have c10 := block_cell b1 0 (.int .i64 p.skip) rfl
  have c11 := block_cell b1 1 (.int .i64 p.off) rfl
  have B1 := Lib.hid b1
  clear x1 b1
  go_wp2_with fail
  refine (alvalid_walk _ _ ds [] p hn1 (by simp) _ (Sd.ext X1) (Sl.nil _ _ _)).mono ?_
  cases hok : alOk ds [] p with
  | false =>
    clear hok
    rintro e w2 ⟨rfl, x2⟩
    have X2 := X1.trans x2
    clear x2 B1 c10 c11
    go_wp2
    go_ret
    exact ⟨rfl, X2⟩
  | true =>
    obtain ⟨k1, k2, k3⟩ := exa_all hok hb0 hb1
    have hv := alOk_iff.1 hok
    have K1 := Lib.hid k1; have K2 := Lib.hid k2; have K3 := Lib.hid k3; have HV := Lib.hid hv
    have hdn := hv.dn
    clear hok k1 k2 k3 hv
    rintro e w2 ⟨rfl, x2⟩
    have X2 := X1.trans x2
    have B2 := Lib.hid (block_ext x2 B1.out)
    clear x2 B1 c10 c11
    have SD2 := Sd.ext X2
    go_wp2
    go_loopw [8, 9] (fun v i wr => ∃ k : Nat, k ≤ ds.length ∧ i = .int .i64 k ∧ OwnR wr w2.heap.size 54 3 encH v ((ds.take k).map (exTone b)) ∧ Ext w2 wr) (fun _ i _ => ds.length - (intOf i).toNat)
    case atStart => exact ⟨0, by omega, rfl, OwnR.nil, Ext.refl _⟩
    case round =>
      obtain ⟨k, hk, rfl, own, X⟩ := hrel
      by_cases hlt : k < ds.length
      · obtain ⟨g, o, rfl, q0, q1, q2, q3, q4, q5, q6⟩ := Sl.due (SD2.ext X) k hlt
        obtain ⟨tn, hh⟩ : ∃ h, ds[k] = h := ⟨_, rfl⟩
        rw [hh] at q0 q1 q2 q3 q4 q5 q6
        obtain ⟨s1, s2, s3, s4, s5⟩ := sz_of tn (HV.out.dx tn (by rw [← hh]; exact List.getElem_mem _))
        have hts : (ds.take (k + 1)).map (exTone b) = (ds.take k).map (exTone b) ++ [exTone b tn] := by rw [List.take_succ_eq_append_getElem hlt, List.map_append, hh]; rfl
        obtain ⟨y, hy⟩ : ∃ y, tn.x.times 12 = y := ⟨_, rfl⟩
        obtain ⟨s, hs⟩ : ∃ s, dsz tn = s := ⟨_, rfl⟩
        have hex : exTone b tn = ⟨tn.t, ⟨s.lo - b, s.hi + b⟩⟩ := by rw [← hs]; rfl
        rw [hex] at hts
        rw [hy] at s1 s2
        rw [hs] at s2 s3 s4 s5
        have HTS := Lib.hid hts; have S1 := Lib.hid s1; have S2 := Lib.hid s2
        have i1 : (0 : Int) ≤ (k : Int) := by omega
        have i2 : (k : Int) < (ds.length : Int) := by omega
        have Q0 := Lib.hid q0
        clear hts hh hy hs hex s1 s2
        obtain ⟨wo, rfl⟩ : ∃ wo : World, wo = wr := ⟨_, rfl⟩
        go_wp2_with fail
        refine (rof_walk tn.x _).mono ?_
        rw [S1.out]
        rintro e w3 ⟨rfl, x3⟩
        clear q0 q1 q2 q3 q4 q5 q6
        go_wp2_with fail
        have y3 : Ext wo (w3.alloc (.cells #[.int .i64 y.a, .int .i64 y.b, .int .i64 y.c, .int .i64 y.d, .int .i64 y.e, .int .i64 y.f] 43)) := Ext.trans (by repeat (first | with_reducible exact Ext.refl _ | with_reducible assumption | with_reducible apply Ext.alloc | with_reducible apply Ext.drew | (with_reducible refine Ext.setCell ?_ (by (try simp) <;> omega) _))) (Ext.alloc' _ _)
        refine (rsof_walk y _).mono ?_
        rw [S2.out]
        rintro e w4 ⟨rfl, x4⟩
        have y4 := y3.trans x4
        clear x3 x4 y3
        go_wp2
        obtain ⟨N, hN⟩ : ∃ N, w4.heap.size = N := ⟨_, rfl⟩
        have bN := block_at hN (.cells #[.int .i64 s.lo, .int .i64 s.hi] 50)
        have yN := Ext.alloc' w4 (.cells #[.int .i64 s.lo, .int .i64 s.hi] 50)
        obtain ⟨W3, hW3⟩ : ∃ W3, w4.alloc (.cells #[.int .i64 s.lo, .int .i64 s.hi] 50) = W3 := ⟨_, rfl⟩
        rw [hW3] at bN yN
        rw [hN, hW3]
        have e1 : IntKind.i64.wrap (s.lo - b) = s.lo - b := IntWalk.i64_in _ (by omega)
        have e2 : IntKind.i64.wrap (s.hi + b) = s.hi + b := IntWalk.i64_in _ (by omega)
        have e3 : IntKind.i64.wrap b = b := IntWalk.i64_in _ (by omega)
        have n0 := ext_cells (block_cell bN 0 (.int .i64 s.lo) rfl)
        have n1 := ext_cells (block_cell bN 1 (.int .i64 s.hi) rfl)
        have n2 := ext_cells ((y4.trans yN).cell Q0.out)
        have own3 := own.ext (y4.trans yN)
        have X3 := (X.trans y4).trans yN
        clear hN hW3 bN yN y4 own X Q0
        apply wp_region_ordX [(0, .det _), (1, .det _), (2, .det _), (3, .det _), (4, .det _), (5, .det _), (6, .det _), (7, .det _), (8, .det _), (9, .det _), (10, .det _), (11, .det _), (12, .det _), (13, .det _), (14, .det _), (15, .det _), (16, .det _), (17, .det _), (18, .new (fun _ => True) (Sl1 W3.heap.size 54 #[.int .i64 tn.t, .int .i64 (s.lo - b), .int .i64 (s.hi + b)]) undef trivial)] 19 Ext Ext (Ext W3) (fun _ => True) wide
          [(0,true), (1,true), (2,true), (3,true), (4,true), (5,true), (6,true), (7,true), (8,true), (9,true), (10,true), (11,true), (12,true), (13,true), (14,true), (15,true), (16,true), (17,true), (18,true)] (by kernel_rfl) rfl (by decide) (fun _ _ h => h) (stable_ext _) stable_true (Ext.drawn _ _) trivial ?main
        case main =>
          iterate 18 (apply ordX_det rfl rfl; (intro w' hw'; unfold opR; go_simp; exact ⟨Ext.refl _, rfl⟩); (simp only [List.getElem_toArray, List.getElem_cons_succ, List.getElem_cons_zero, Act.put, List.setIfInBounds_toArray, List.set_cons_succ, List.set_cons_zero]; rfl))
          apply ordX_new (Sl1.stable _ _ _) rfl rfl
          · intro w' hw'
            unfold opR
            go_simp
            exact ⟨Ext.alloc' _ _, Sl1.new w' _ _ hw'.size⟩
          · intro v; (simp only [List.getElem_toArray, List.getElem_cons_succ, List.getElem_cons_zero, Act.put, List.setIfInBounds_toArray, List.set_cons_succ, List.set_cons_zero]; rfl)
          intro v8 _
          refine ordX_nil rfl ?_
          rintro w4 hw4 - ⟨-, g8, rfl, hg8, hrow⟩
          refine wpList_own_app et_h rfl (.tmp 51) (.tmp 69) rfl (own3.ext hw4) rfl [(⟨tn.t, ⟨s.lo - b, s.hi + b⟩⟩ : Hrd)] ⟨g8, 0, none⟩ 1 rfl (fun _ _ => rfl) (fun j u hu => row_news hrow j u hu) (by simp [encH, Value.oneCell']) (by simp; omega) (X3.trans hw4).size ?_
          intro v5 w5 o5 b5 a5 _
          have XF : Ext w2 w5 := Below.trans (X3.trans hw4) b5
          have O5 := Lib.hid o5
          clear n0 n1 n2 own3 X3 hrow o5 b5 a5 hw4 e1 e2 e3
          go_wp2
          go_roundw
          case rel => exact ⟨k + 1, by omega, by go_num, by rw [HTS.out]; exact O5.out, XF⟩
          case measure => simp [intOf]; omega
      · obtain rfl : k = ds.length := by omega
        rw [List.take_length] at own
        have SH := own.sl (fun _ _ => rfl) (by simp; omega)
        obtain ⟨ah, ch, rfl, -, -, -⟩ := SH.len
        have B3 := Lib.hid (block_ext X B2.out)
        have c30 := block_cell B3.out 0 (.int .i64 p.skip) rfl
        have c31 := block_cell B3.out 1 (.int .i64 p.off) rfl
        obtain ⟨wo, rfl⟩ : ∃ wo : World, wo = wr := ⟨_, rfl⟩
        clear own B2
        rw [List.length_map] at SH ⊢
        go_wp2_with fail
        refine (align_walk _ _ ds (ds.map (exTone b)) p hn1 (by simp; omega) _ (G.ext (X2.trans X)) (SD2.ext X) SH).mono ?_
        rw [K1.out, K2.out, K3.out]
        rintro e w4 ⟨vl, vt, rfl, SL, TT, x4⟩
        have X4 := (X2.trans X).trans x4
        obtain ⟨al, cl, e5, -, -, -⟩ := SL.len
        rw [List.length_map, List.length_range] at e5
        subst e5
        have hl' : ((ds.length : Int) != (ds.length : Int)) = false := by simp
        clear x4 TT c30 c31 SH SD2 X X2
        go_wp2
        go_loopw [7, 18] (fun u i wr => ∃ k : Nat, k ≤ ds.length ∧ u = .bool true ∧ i = .int .i64 k ∧ Ext w4 wr) (fun _ i _ => ds.length - (intOf i).toNat)
        case atStart => exact ⟨0, by omega, rfl, rfl, Ext.refl _⟩
        case round =>
          obtain ⟨k, hk, rfl, rfl, X⟩ := hrel
          by_cases hlt : k < ds.length
          · obtain ⟨bl, ol, rfl, q0, q1⟩ := Sl.mt (SL.ext X) k (by simpa using hlt)
            simp only [List.getElem_map, List.getElem_range] at q0 q1
            have i1 : (0 : Int) ≤ (k : Int) := by omega
            have i2 : (k : Int) < (ds.length : Int) := by omega
            clear SL
            go_wp2
            go_roundw
            case rel => exact ⟨k + 1, by omega, by first | rfl | simp, by go_num, X⟩
            case measure => simp [intOf]; omega
          · obtain rfl : k = ds.length := by omega
            clear SL
            go_wp2
            go_ret
            exact ⟨rfl, X4.trans X⟩

theorem alignExact_args (H : Type) (enc : TypeId × Value → H) (W : World) (base : Nat) (vs : List Value) (ds : List (DataW H)) (_ : ∀ k, (OpenSpec.ofChange Rows.alignExactSpec).cond = some k → k H ds = true) (hL : laidMetH Tryd.prog Rows.alignExactRow.laid W) (hA : Args enc Tryd.prog W base Tryd.f6.params.toList vs ds) :
    Calls Tryd.prog 6 vs.toArray W fun e W' => e = .returned (.bool true) ∧ Ext W W' := by
  rw [Tryd.params6] at hA
  obtain ⟨v0, _, d0, _, rfl, rfl, h0, hA⟩ := hA.cons
  obtain ⟨v1, _, d1, _, rfl, rfl, h1, hA⟩ := hA.cons
  obtain ⟨v2, _, d2, _, rfl, rfl, h2, hA⟩ := hA.cons
  obtain ⟨rfl, rfl⟩ := hA.nil
  obtain ⟨l0, S0, n0⟩ := arg_dues h0
  obtain ⟨p, rfl, _⟩ := arg_price h1
  obtain ⟨s, rfl, s0, s1⟩ := h2.int Tryd.underlying41
  exact exact_walk _ l0 p s s0 s1 n0 W (gv_of hL) S0

theorem alignExact_met (os : Os) : laidMet Tryd.prog Rows.alignExactRow.laid ((laidWorld os).forCall (fun _ _ => 0) ⟨#[], #[.slice none 0 0, .agg #[.int .i64 0, .int .i64 0], .int .u16 0], []⟩).memory := laidMet_of_run' 8 (by kernel_rfl) (by kernel_rfl)
theorem alignExact_reads (os : Os) {H : Type} (enc : TypeId × Value → H) : ∃ places, DataW.whole enc Tryd.prog ((laidWorld os).forCall (fun _ _ => 0) ⟨#[], #[.slice none 0 0, .agg #[.int .i64 0, .int .i64 0], .int .u16 0], []⟩).memory Tryd.f6.params.toList Rows.alignExactSpec.vars false #[.slice none 0 0, .agg #[.int .i64 0, .int .i64 0], .int .u16 0].toList 8 = some ([.nil, .agg [.lit (.int .i64 0), .lit (.int .i64 0)], .lit (.int .u16 0)], [], places) := ⟨[], by kernel_rfl⟩
set_option maxRecDepth 100000 in
theorem alignExact_lifted (os : Os) (started : os.Started) (H : Type) (enc : TypeId × Value → H) (F : Stop.Interp) :
    ReturnsInHanded {} Tryd.checked os 6 .any ((OpenSpec.ofChange Rows.alignExactSpec).preRow enc Tryd.prog Tryd.f6 Rows.alignExactRow.domain false Rows.alignExactRow.laid) (((OpenSpec.ofChange Rows.alignExactSpec).at F).post enc Tryd.prog Tryd.f6 false true false false) := by
  obtain ⟨places, hx⟩ := alignExact_reads os enc
  exact law_row (C := Tryd.checked) (s := (OpenSpec.ofChange Rows.alignExactSpec)) (by kernel_rfl) started (by kernel_rfl) Tryd.func6
    (witness_row_at (enc := enc) (C := Tryd.checked) false (laidWorld os) #[.slice none 0 0, .agg #[.int .i64 0, .int .i64 0], .int .u16 0] rfl (by kernel_rfl) (by kernel_rfl) (by kernel_rfl) (OpenSpec.preRow_of_cond 8 hx (by kernel_rfl) (fun k hk => by cases hk) (by kernel_rfl) (alignExact_met os)))
    (by kernel_rfl) (by kernel_rfl) (by kernel_rfl) rfl (fun ds h => by match ds, h with | [_, _, _], _ => rfl) (alignExact_args H enc)
theorem alignExact_said : Rows.AlignExactSaid :=
  OpenClaim.holds_of_cond 6 Tryd.f6 rfl rfl rfl rfl rfl rfl rfl ⟨rfl, rfl, rfl, rfl, rfl⟩ rfl rfl rfl rfl rfl (by kernel_rfl) Tryd.func6 (by kernel_rfl)
    (of_decide_eq_true (by kernel_rfl)) (by unfold Func.isWrapper; first | (rw [if_pos (by decide +kernel)]; kernel_rfl) | (rw [if_neg (by decide +kernel)]; exact ⟨rfl, rfl⟩))
    (fun os started H enc _ F => by rw [OpenClaim.pre_eq_preRow]; exact alignExact_lifted os started H enc F)
theorem alignExact_plain (f : FuncId) (fn : Func) (hf : Tryd.pinned.checked.prog.funcNamed "schisma/schismalaw38.AlignExact" = some f) (hfn : Tryd.pinned.checked.prog.funcs[f]? = some fn) :
    false = Tryd.pinned.checked.prog.looks [] ∧ ∀ (j : Nat) t, fn.params[j]? = some t → Tryd.pinned.checked.prog.wantsStandIn t = false := by
  obtain rfl : f = 6 := Option.some.inj ((show Tryd.prog.funcNamed "schisma/schismalaw38.AlignExact" = some 6 by kernel_rfl).symm.trans hf) |>.symm
  obtain rfl : fn = Tryd.f6 := (Option.some.inj (Tryd.func6.symm.trans hfn)).symm
  refine ⟨by kernel_rfl, fun j t ht => ?_⟩
  have hall : Tryd.f6.params.all (fun t => !Tryd.prog.wantsStandIn t) = true := by kernel_rfl
  have := (Array.all_eq_true'.1 hall) t (Array.mem_of_getElem? ht)
  have e : Tryd.prog.wantsStandIn t = false := by simpa using this
  exact e
/-- The card. -/
theorem alignExact_holds : Rows.AlignExactCardSaid :=
  Claim7.holds_tied_plain_at .later [] _ _ _ _ alignExact_said (fun _ h => by cases h) (by kernel_rfl) (fun _ h => by cases h) alignExact_row_tie rfl ⟨rfl, rfl⟩ (by kernel_rfl) rfl alignExact_plain (by kernel_rfl)
end Go.Proofs.YthomegempfedaaaDoor
