/-
  Walks of schismaref23: Tune.
-/
import Derived.Test.YtbemjekkojgbpaaGreatDoorR40B
import Derived.Test.YtbemjekkojgbpaaGreatDoorLibR
import Derived.Test.YtbemjekkojgbpaaGreatDoorPlN
set_option linter.unusedVariables false
namespace Go.Sx.Po
open Go.Sx.Sz Go.Sx.Sc
theorem zero_add1 (y : V6) : V6.zero.add y 1 = y := by
  refine V6.ext' fun k hk => ?_
  rw [V6.add_get _ _ _ hk, zero_get hk]; omega
theorem xs_step {s : Sc} (hok : ScOk s) (h : List V6) {k : Nat} (hk : k < s.notes.length) : xsL s h (k + 1) = xsL s h k ++ [(pAt (xsL s h k) (upF s k).a).add (prodF s h k) 1] := rfl
theorem all_snoc {xs : List V6} {x : V6} (h : allB xs = true) : allB (xs ++ [x]) = within x 32 := by
  unfold allB at *; rw [List.all_append, h]; simp
theorem all_cut {s : Sc} {h : List V6} {k m : Nat} (hk : k ≤ m) (hb : allB (xsL s h k) = false) : allB (xsL s h m) = false := by
  cases ha : allB (xsL s h m) with
  | false => rfl
  | true => rw [xsL_pre h hk] at ha; rw [all_pre ha] at hb; cases hb
theorem tune_bad0 {s : Sc} {h : List V6} (hb : tunB s h = false) : tuneR s h = ([], 1) := by unfold tuneR; rw [hb, if_neg (by decide)]
theorem tune_range {s : Sc} {h : List V6} (hb : tunB s h = true) (ha : allB (xsL s h (tunN s h.length)) = false) : tuneR s h = ([], 3) := by unfold tuneR; rw [if_pos hb, ha, if_neg (by decide)]
theorem tune_good {s : Sc} {h : List V6} (hb : tunB s h = true) (ha : allB (xsL s h (tunN s h.length)) = true) : tuneR s h = (xsL s h (tunN s h.length), 0) := by unfold tuneR; rw [if_pos hb, if_pos ha]
theorem prod_sml {s : Sc} (hok : ScOk s) {h : List V6} (hwi : ∀ x ∈ h, within x 48 = true) {n : Nat} (hn : n < s.notes.length) (hs : secF s (s.N n).f < h.length) : Sml 100 (prodF s h n) := by
  unfold prodF
  split
  · have h1 := hok.nt.1 n hn
    unfold noteOk at h1
    have h2 : hF h (secF s (s.N n).f) = h[secF s (s.N n).f] := by unfold hF; rw [List.getD_eq_getElem?_getD, List.getElem?_eq_getElem hs]; rfl
    have := Sml.add (n := 1) (Sml.of h1.2.2.2) (Sml.of (hwi _ (List.getElem_mem hs))) (.inl rfl)
    rw [h2]
    exact this.mono (by omega)
  · unfold wantF
    split
    · exact Sml.zero (by omega)
    · split
      · next p hp =>
        obtain ⟨hm, -, -⟩ := pur_some hp
        have := pair_mem hok hm
        unfold pairOk at this
        exact (Sml.of this.2.2.1).mono (by omega)
      · exact Sml.zero (by omega)
theorem pAt_sml {xs : List V6} (h : allB xs = true) {i : Int} (hi : i < xs.length) : Sml 32 (pAt xs i) := by
  unfold pAt
  split
  · exact Sml.zero (by omega)
  · rw [List.getD_eq_getElem?_getD, List.getElem?_eq_getElem (by omega)]
    exact Sml.of (List.all_eq_true.1 h _ (List.getElem_mem _))
end Go.Sx.Po
namespace Go.Proofs.YtbemjekkojgbpaaGreatDoor
open Go.RowKit Go.Sx Go.Sx.Sz Go.Sx.Sc Go.Sx.Po

set_option maxRecDepth 100000 in
set_option maxHeartbeats 16000000 in
theorem rtune_walk (vn vp vc vh : Value) (s : Sc) (h : List V6) (w : World) (S : ScR w vn vp vc s) (V : Sl w 6 V6.list vh h) :
    Calls Tryz.prog 30 #[.agg #[.int .i64 s.voices, vn, vp, vc], vh] w fun e w' => ∃ v, e = .returned (.tuple #[v, .int .i64 (tuneR s h).2]) ∧ Sl w' 6 V6.list v (tuneR s h).1 ∧ Ext w w' := by
  obtain ⟨an, cn, rfl, -, -, hln⟩ := S.nt.len
  obtain ⟨ap, cp, rfl, -, -, hlp⟩ := S.pr.len
  obtain ⟨ac, cc, rfl, -, -, hlc⟩ := S.cd.len
  obtain ⟨ah, ch, rfl, -, -, hlh⟩ := V.len
  have hbad := @tune_bad0 s h
  have hrng := @tune_range s h
  have hgood := @tune_good s h
  obtain ⟨⟨tl, te⟩, htr⟩ : ∃ r, tuneR s h = r := ⟨_, rfl⟩
  rw [htr] at hbad hrng hgood ⊢
  have HBAD := Lib.hid hbad; have HRNG := Lib.hid hrng; have HGOOD := Lib.hid hgood
  clear htr hbad hrng hgood
  have X0 : Ext w (w.alloc (.cells #[.int .i64 s.voices, .slice an s.notes.length cn, .slice ap s.pairs.length cp, .slice ac s.cads.length cc] 26)) := (by repeat (first | with_reducible exact Ext.refl _ | with_reducible assumption | with_reducible apply Ext.alloc | with_reducible apply Ext.drew | (with_reducible refine Ext.setCell ?_ (by (try simp) <;> omega) _)))
  have b0_0 := block_new w (.cells #[.int .i64 s.voices, .slice an s.notes.length cn, .slice ap s.pairs.length cp, .slice ac s.cads.length cc] 26)
  obtain ⟨W0, hW0⟩ : ∃ W, (w.alloc (.cells #[.int .i64 s.voices, .slice an s.notes.length cn, .slice ap s.pairs.length cp, .slice ac s.cads.length cc] 26)) = W := ⟨_, rfl⟩
  obtain ⟨B0, hB0⟩ : ∃ B, w.heap.size = B := ⟨_, rfl⟩
  rw [hW0] at X0 b0_0
  rw [hB0] at b0_0
  have HZ0 : Hid (w.heap.size ≤ B0) := Lib.hid (by omega)
  have HW0 := Lib.hid hW0; have HB0 := Lib.hid hB0
  clear hW0 hB0
  have CB := Lib.hid (boxS b0_0)
  have S1 := S.ext X0; have V1 := V.ext X0
  clear S V b0_0
  go_enter Tryz.func30, Tryz.ntmps30
  go_wp2_with fail
  rw [HW0.out, HB0.out]
  clear HW0 HB0
  refine (rvalid19_walk _ _ _ s _ S1).mono ?_
  cases hv : scB s with
  | false =>
    obtain ⟨rfl, rfl⟩ := Prod.mk.inj (HBAD.out (by unfold tunB; rw [hv]; rfl))
    clear hv
    rintro e w1 ⟨rfl, x1⟩
    go_wp2
    go_ret2
    exact ⟨_, rfl, Sl.nil _ _ _, X0.trans x1⟩
  | true =>
  have hok := scB_iff.1 hv
  have hcn := hok.sz.2.2.2
  have hnn := hok.sz.2.1
  rintro e w1 ⟨rfl, x1⟩
  obtain ⟨c0, c1, c2, c3⟩ := CB.out _ x1
  have E1 : IntKind.i64.wrap ((s.cads.length : Int) + 1) = (s.cads.length : Int) + 1 := IntWalk.i64_in _ (by omega)
  by_cases hle : h.length ≤ s.cads.length + 1
  case neg =>
    obtain ⟨rfl, rfl⟩ := Prod.mk.inj (HBAD.out (by unfold tunB; rw [decide_eq_false hle, Bool.and_false, Bool.false_and]))
    have t1 : decide ((s.cads.length : Int) + 1 < (h.length : Int)) = true := decide_eq_true (by omega)
    clear hv hok hcn hle hnn
    go_wp2
    go_ret2
    exact ⟨_, rfl, Sl.nil _ _ _, X0.trans x1⟩
  have t1 : decide ((s.cads.length : Int) + 1 < (h.length : Int)) = false := decide_eq_false (by omega)
  have HOK := Lib.hid hok; have HV := Lib.hid hv; have HLE := Lib.hid hle
  have HX1 := Lib.hid x1
  clear hv hok
  go_wp2
  clear t1 E1 c0 c1 c2 c3 x1
  go_loopw [7] (fun i wr => ∃ k : Nat, k ≤ h.length ∧ i = .int .i64 k ∧ Hid (∀ x ∈ h.take k, within x 48 = true) ∧ Ext w1 wr) (fun i _ => h.length - (intOf i).toNat)
  case atStart => exact ⟨0, by omega, by first | rfl | trivial, Lib.hid (fun x hx => by simp at hx), Ext.refl _⟩
  case round =>
    obtain ⟨k, hk, rfl, HT, X⟩ := hrel
    by_cases hlt : k < h.length
    case pos =>
      obtain ⟨b, o, rfl, a0, a1, a2, a3, a4, a5⟩ := Sl.vec (V1.ext (HX1.out.trans X)) k hlt
      have htk := List.take_succ_eq_append_getElem hlt
      have hmem : h[k] ∈ h := List.getElem_mem hlt
      obtain ⟨x, hx⟩ : ∃ x, h[k] = x := ⟨_, rfl⟩
      rw [hx] at a0 a1 a2 a3 a4 a5 htk hmem
      have i1 : (0 : Int) ≤ (k : Int) := by omega
      have i2 : (k : Int) < (h.length : Int) := by omega
      have HTK := Lib.hid htk; have HME := Lib.hid hmem
      clear hx htk hmem
      go_wp2_with fail
      refine (rinterval_walk x _).mono ?_
      obtain ⟨iv, hiv⟩ : ∃ z, within x 48 = z := ⟨_, rfl⟩
      rw [hiv]
      rintro e w4 ⟨rfl, x4⟩
      clear a0 a1 a2 a3 a4 a5
      cases iv with
      | false =>
        obtain ⟨rfl, rfl⟩ := Prod.mk.inj (HBAD.out (by
          cases hb : tunB s h with
          | false => rfl
          | true => have := (tunB_iff.1 hb).2.2 x HME.out; rw [hiv] at this; cases this))
        have HX := Lib.hid (X0.trans (HX1.out.trans (X.trans x4)))
        clear hiv
        go_wp2
        go_ret2
        exact ⟨_, rfl, Sl.nil _ _ _, HX.out⟩
      | true =>
        have HT2 : Hid (∀ y ∈ h.take (k + 1), within y 48 = true) := Lib.hid (fun y hy => by
          rw [HTK.out] at hy
          rcases List.mem_append.1 hy with h9 | h9
          · exact HT.out y h9
          · rw [List.mem_singleton.1 h9]; exact hiv)
        have HX := Lib.hid (X.trans x4)
        clear hiv
        go_wp2
        go_roundw
        case rel => exact ⟨k + 1, by omega, by go_num, HT2, HX.out⟩
        case measure => simp [intOf] <;> omega
    case neg =>
    obtain rfl : k = h.length := by omega
    have HWI : Hid (∀ x ∈ h, within x 48 = true) := Lib.hid (by have := HT.out; rwa [List.take_length] at this)
    have HTB : Hid (tunB s h = true) := Lib.hid (tunB_iff.2 ⟨HOK.out, HLE.out, HWI.out⟩)
    have X3 := HX1.out.trans X
    have HX3 := Lib.hid X3
    obtain ⟨w3, rfl⟩ : ∃ z : World, z = wr := ⟨_, rfl⟩
    clear HBAD HT X
    go_wp2
    clear X3
    go_loopw [8, 9] (fun v i wr => ∃ k : Nat, k ≤ tunN s h.length ∧ i = .int .i64 k ∧ Hid (allB (xsL s h k) = true) ∧ OwnR wr w3.heap.size 45 6 V6.list v (xsL s h k) ∧ Ext w3 wr) (fun _ i _ => s.notes.length - (intOf i).toNat)
    case atStart => exact ⟨0, by omega, by first | rfl | trivial, Lib.hid rfl, OwnR.nil, Ext.refl _⟩
    case round =>
      obtain ⟨k, hk, rfl, HA, own, X⟩ := hrel
      have htl := tun_le s h.length
      obtain ⟨c0, c1, c2, c3⟩ := CB.out _ (HX3.out.trans X)
      have hxk : (xsL s h k).length = k := xsL_len _ _
      have HTL := Lib.hid htl
      by_cases hkn : k < s.notes.length
      case neg =>
        have hkk : k = tunN s h.length := by omega
        obtain ⟨rfl, rfl⟩ := Prod.mk.inj (HGOOD.out HTB.out (by rw [← hkk]; exact HA.out))
        have t1 : decide (k < s.notes.length) = false := decide_eq_false hkn
        have c1 := ext_cells c1
        have OW0 := own.sl (fun _ _ => rfl) (by omega)
        obtain ⟨va, vm, vd, rfl⟩ := own.shape
        rw [show xsL s h k = xsL s h (tunN s h.length) by rw [← hkk]] at OW0
        have OW := Lib.hid OW0
        have HX := Lib.hid (HX3.out.trans X)
        clear hkk hkn own X htl c0 c2 c3 hxk OW0
        go_wp2_with fail
        refine wp_region_ord [(0,true), (1,true), (2,true), (3,true), (4,true), (5,true), (6,true), (7,true), (8,true), (9,true), (10,true), (11,true), (12,true), (13,true), (14,true), (15,true), (16,true), (17,true)] 18 Ext (Ext wr) wide (by kernel_rfl) (stable_ext _) (Ext.drawn _ _) ?_
        iterate 18 (first | (apply wpOrd_no rfl; rfl; (simp only [List.getElem_toArray, List.getElem_cons_succ, List.getElem_cons_zero, Act.put, List.setIfInBounds_toArray, List.set_cons_succ, List.set_cons_zero]; rfl)) | (apply wpOrd_yes rfl; rfl; (intro w' hw'; unfold opR; go_simp; exact ⟨Ext.refl _, rfl⟩); (simp only [List.getElem_toArray, List.getElem_cons_succ, List.getElem_cons_zero, Act.put, List.setIfInBounds_toArray, List.set_cons_succ, List.set_cons_zero]; rfl)))
        refine wpOrd_nil (l := []) rfl ?_
        intro w9 x9
        have HX9 := Lib.hid (X0.trans (HX.out.trans x9))
        have OW9 := Lib.hid (OW.out.ext x9)
        clear c1 x9 t1
        go_wp2
        go_ret2
        exact ⟨.slice va vm vd, by first | rfl | simp, OW9.out, HX9.out⟩
      case pos =>
      obtain ⟨bn, on, rfl, A⟩ := Sl.nt (S1.nt.ext (HX3.out.trans X)) k hkn
      rw [← Sc.N_eq hkn] at A
      have q1 := ext_cells A.c1
      have SW := Lib.hid fun w' (y : Ext wr w') => rof19_walk (.slice (some ⟨bn, on, none⟩) s.notes.length cn) (.slice ap s.pairs.length cp) (.slice ac s.cads.length cc) s (s.N k).f w' (S1.ext (HX3.out.trans (X.trans y)))
      have htu := tun_iff HOK.out.nt h.length hkn
      obtain ⟨t, ht⟩ : ∃ t, secF s (s.N k).f = t := ⟨_, rfl⟩
      have HSC := Lib.hid ht
      rw [ht] at SW htu
      have HTU := Lib.hid htu
      have t1 : decide (k < s.notes.length) = true := decide_eq_true hkn
      have i1 : (0 : Int) ≤ (k : Int) := by omega
      have i2 : (k : Int) < (s.notes.length : Int) := by omega
      have OW := Lib.hid own
      obtain ⟨va, vm, vd, rfl⟩ := own.shape
      have c0 := ext_cells c0; have c1 := ext_cells c1; have c2 := ext_cells c2; have c3 := ext_cells c3
      have HXK := Lib.hid hxk; have HXX := Lib.hid X
      clear A ht htu own hxk X
      have hgt : decide (t < h.length) = true ∨ decide (t < h.length) = false := by cases decide (t < h.length) <;> simp
      by_cases hth : t < h.length
      case neg =>
        have t2 : decide (t < h.length) = false := decide_eq_false hth
        have hkk : k = tunN s h.length := by
          have h1 : ¬ k < tunN s h.length := fun h9 => hth (HTU.out.1 h9)
          omega
        obtain ⟨rfl, rfl⟩ := Prod.mk.inj (HGOOD.out HTB.out (by rw [← hkk]; exact HA.out))
        have HXE : Hid (xsL s h k = xsL s h (tunN s h.length)) := Lib.hid (by rw [← hkk])
        clear hkk hth hgt htl
        go_wp2_with fail
        refine wp_region_ord [(0,true), (1,true), (2,true), (3,true), (4,true), (5,true), (6,true), (7,true), (8,true), (9,true), (10,true), (11,true), (12,true), (13,true), (14,true), (15,true), (16,true), (17,true)] 18 Ext (Ext wr) wide (by kernel_rfl) (stable_ext _) (Ext.drawn _ _) ?_
        iterate 13 (first | (apply wpOrd_no rfl; rfl; (simp only [List.getElem_toArray, List.getElem_cons_succ, List.getElem_cons_zero, Act.put, List.setIfInBounds_toArray, List.set_cons_succ, List.set_cons_zero]; rfl)) | (apply wpOrd_yes rfl; rfl; (intro w' hw'; unfold opR; go_simp; exact ⟨Ext.refl _, rfl⟩); (simp only [List.getElem_toArray, List.getElem_cons_succ, List.getElem_cons_zero, Act.put, List.setIfInBounds_toArray, List.set_cons_succ, List.set_cons_zero]; rfl)))
        (apply wpOrd_yes rfl (by rfl); (intro w' hw'; refine opR_call rfl (Go.Proofs.enters_of Tryz.func57 (by kernel_rfl) rfl) (by simp only [List.map_toArray, List.map_cons, List.map_nil, Act.eval, Array.getD_eq_getD_getElem?, List.getElem?_toArray, List.getElem?_cons_succ, List.getElem?_cons_zero, Option.getD_some]; rfl) ?_; refine (SW.out w' hw').mono ?_; rintro e w'' ⟨rfl, hx⟩; exact ⟨_, rfl, hx, rfl⟩); (simp only [List.getElem_toArray, List.getElem_cons_succ, List.getElem_cons_zero, Act.put, List.setIfInBounds_toArray, List.set_cons_succ, List.set_cons_zero]; rfl))
        iterate 4 (first | (apply wpOrd_no rfl; rfl; (simp only [List.getElem_toArray, List.getElem_cons_succ, List.getElem_cons_zero, Act.put, List.setIfInBounds_toArray, List.set_cons_succ, List.set_cons_zero]; rfl)) | (apply wpOrd_yes rfl; rfl; (intro w' hw'; unfold opR; go_simp; exact ⟨Ext.refl _, rfl⟩); (simp only [List.getElem_toArray, List.getElem_cons_succ, List.getElem_cons_zero, Act.put, List.setIfInBounds_toArray, List.set_cons_succ, List.set_cons_zero]; rfl)))
        refine wpOrd_nil (l := []) rfl ?_
        intro w9 x9
        have HX9 := Lib.hid (X0.trans (HX3.out.trans (HXX.out.trans x9)))
        have OW90 := (OW.out.ext x9).sl (fun _ _ => rfl) (by have := HXK.out; omega)
        rw [HXE.out] at OW90
        have OW9 := Lib.hid OW90
        clear OW90
        clear c0 c1 c2 c3 q1 x9 t1 t2
        go_wp2
        go_ret2
        exact ⟨.slice va vm vd, by first | rfl | simp, OW9.out, HX9.out⟩
      case pos =>
      have t2 : decide (t < h.length) = true := decide_eq_true hth
      have hkt : k < tunN s h.length := HTU.out.2 hth
      have hth' : secF s (s.N k).f < h.length := by rw [HSC.out]; exact hth
      have up := up_lt HOK.out hkn
      have UW := Lib.hid fun w' (y : Ext wr w') => rup_walk (.slice (some ⟨bn, on, none⟩) s.notes.length cn) (.slice ap s.pairs.length cp) (.slice ac s.cads.length cc) s k hkn w' (S1.ext (HX3.out.trans (HXX.out.trans y)))
      have PW := Lib.hid fun w' (y : Ext wr w') => rproduct_walk (.slice (some ⟨bn, on, none⟩) s.notes.length cn) (.slice ap s.pairs.length cp) (.slice ac s.cads.length cc) (.slice ah h.length ch) s h k HOK.out hkn HWI.out hth' w' (S1.ext (HX3.out.trans (HXX.out.trans y))) (V1.ext (HX3.out.trans (HXX.out.trans y)))
      have hps := prod_sml HOK.out HWI.out hkn hth'
      have hst := xs_step HOK.out h hkn
      have has := @all_snoc (xsL s h k) ((pAt (xsL s h k) (upF s k).a).add (prodF s h k) 1) HA.out
      rw [← hst] at has
      have hcut := @all_cut s h (k + 1) (tunN s h.length) (by omega)
      have hpat := @pAt_sml (xsL s h k) HA.out (upF s k).a (by rw [HXK.out]; exact up.2.1)
      obtain ⟨⟨ua, ub, uk⟩, hu⟩ : ∃ u, upF s k = u := ⟨_, rfl⟩
      obtain ⟨pr, hpr⟩ : ∃ u, prodF s h k = u := ⟨_, rfl⟩
      obtain ⟨xs, hxs⟩ : ∃ u, xsL s h k = u := ⟨_, rfl⟩
      have HXK2 := HXK.out
      rw [hu] at UW PW up hst has hpat
      rw [hpr] at PW hps hst has
      rw [hxs] at hst has OW hpat HXK2
      simp only at UW PW up hst has hpat
      have hu1 := up.1; have hu2 := up.2.1
      have HST := Lib.hid hst; have HAS := Lib.hid has; have HCUT := Lib.hid hcut; have HKT := Lib.hid hkt; have HPS := Lib.hid hps; have HPA := Lib.hid hpat; have HXL := Lib.hid HXK2
      clear hu hpr hxs up hst has hcut hkt hth hth' hps hpat HXK2 hgt HXK
      go_wp2_with fail
      refine wp_region_ord [(0,true), (1,true), (2,true), (3,true), (4,true), (5,true), (6,true), (7,true), (8,true), (9,true), (10,true), (11,true), (12,true), (13,true), (14,true), (15,true), (16,true), (17,true)] 18 Ext (Ext wr) wide (by kernel_rfl) (stable_ext _) (Ext.drawn _ _) ?_
      iterate 13 (first | (apply wpOrd_no rfl; rfl; (simp only [List.getElem_toArray, List.getElem_cons_succ, List.getElem_cons_zero, Act.put, List.setIfInBounds_toArray, List.set_cons_succ, List.set_cons_zero]; rfl)) | (apply wpOrd_yes rfl; rfl; (intro w' hw'; unfold opR; go_simp; exact ⟨Ext.refl _, rfl⟩); (simp only [List.getElem_toArray, List.getElem_cons_succ, List.getElem_cons_zero, Act.put, List.setIfInBounds_toArray, List.set_cons_succ, List.set_cons_zero]; rfl)))
      (apply wpOrd_yes rfl (by rfl); (intro w' hw'; refine opR_call rfl (Go.Proofs.enters_of Tryz.func57 (by kernel_rfl) rfl) (by simp only [List.map_toArray, List.map_cons, List.map_nil, Act.eval, Array.getD_eq_getD_getElem?, List.getElem?_toArray, List.getElem?_cons_succ, List.getElem?_cons_zero, Option.getD_some]; rfl) ?_; refine (SW.out w' hw').mono ?_; rintro e w'' ⟨rfl, hx⟩; exact ⟨_, rfl, hx, rfl⟩); (simp only [List.getElem_toArray, List.getElem_cons_succ, List.getElem_cons_zero, Act.put, List.setIfInBounds_toArray, List.set_cons_succ, List.set_cons_zero]; rfl))
      iterate 4 (first | (apply wpOrd_no rfl; rfl; (simp only [List.getElem_toArray, List.getElem_cons_succ, List.getElem_cons_zero, Act.put, List.setIfInBounds_toArray, List.set_cons_succ, List.set_cons_zero]; rfl)) | (apply wpOrd_yes rfl; rfl; (intro w' hw'; unfold opR; go_simp; exact ⟨Ext.refl _, rfl⟩); (simp only [List.getElem_toArray, List.getElem_cons_succ, List.getElem_cons_zero, Act.put, List.setIfInBounds_toArray, List.set_cons_succ, List.set_cons_zero]; rfl)))
      refine wpOrd_nil (l := []) rfl ?_
      intro w4 x4
      clear c0 c1 c2 c3 q1 t1 t2
      obtain ⟨c0, c1, c2, c3⟩ := CB.out _ (HX3.out.trans (HXX.out.trans x4))
      go_wp2_with fail
      refine (UW.out w4 x4).mono ?_
      rintro e w5 ⟨rfl, y5⟩
      clear c0 c1 c2 c3
      have X6 : Ext w5 (w5.alloc (.cells #[.int .i64 ua, .int .i64 ub, .int .i64 uk] 113)) := (by repeat (first | with_reducible exact Ext.refl _ | with_reducible assumption | with_reducible apply Ext.alloc | with_reducible apply Ext.drew | (with_reducible refine Ext.setCell ?_ (by (try simp) <;> omega) _)))
      have b6_0 := block_new w5 (.cells #[.int .i64 ua, .int .i64 ub, .int .i64 uk] 113)
      obtain ⟨W6, hW6⟩ : ∃ W, (w5.alloc (.cells #[.int .i64 ua, .int .i64 ub, .int .i64 uk] 113)) = W := ⟨_, rfl⟩
      obtain ⟨B6, hB6⟩ : ∃ B, w5.heap.size = B := ⟨_, rfl⟩
      rw [hW6] at X6 b6_0
      rw [hB6] at b6_0
      have HZ6 : Hid (w5.heap.size ≤ B6) := Lib.hid (by omega)
      have HW6 := Lib.hid hW6; have HB6 := Lib.hid hB6
      clear hW6 hB6
      have x6 := x4.trans (y5.trans X6)
      have HP6 := Lib.hid b6_0
      have p0 := block_cell b6_0 0 _ rfl; have p1 := block_cell b6_0 1 _ rfl; have p2 := block_cell b6_0 2 _ rfl
      obtain ⟨c0, c1, c2, c3⟩ := CB.out _ (HX3.out.trans (HXX.out.trans x6))
      clear b6_0 y5 X6
      go_upto_region 15 with fail
      rw [HW6.out, HB6.out]
      clear HW6 HB6
      go_wp2_with fail
      refine (PW.out W6 x6).mono ?_
      rintro e w7 ⟨rfl, y7⟩
      have X8 : Ext w7 (w7.alloc (.cells (#[.int .i64 pr.a, .int .i64 pr.b, .int .i64 pr.c, .int .i64 pr.d, .int .i64 pr.e, .int .i64 pr.f] : Array Value) 45)) := (by repeat (first | with_reducible exact Ext.refl _ | with_reducible assumption | with_reducible apply Ext.alloc | with_reducible apply Ext.drew | (with_reducible refine Ext.setCell ?_ (by (try simp) <;> omega) _)))
      have b8_0 := block_new w7 (.cells (#[.int .i64 pr.a, .int .i64 pr.b, .int .i64 pr.c, .int .i64 pr.d, .int .i64 pr.e, .int .i64 pr.f] : Array Value) 45)
      obtain ⟨W8, hW8⟩ : ∃ W, (w7.alloc (.cells (#[.int .i64 pr.a, .int .i64 pr.b, .int .i64 pr.c, .int .i64 pr.d, .int .i64 pr.e, .int .i64 pr.f] : Array Value) 45)) = W := ⟨_, rfl⟩
      obtain ⟨B8, hB8⟩ : ∃ B, w7.heap.size = B := ⟨_, rfl⟩
      rw [hW8] at X8 b8_0
      rw [hB8] at b8_0
      have HZ8 : Hid (w7.heap.size ≤ B8) := Lib.hid (by omega)
      have HW8 := Lib.hid hW8; have HB8 := Lib.hid hB8
      clear hW8 hB8
      have X68 := y7.trans X8
      have x8 := x6.trans X68
      have HB8' := Lib.hid b8_0
      have p0 := block_cell (block_ext X68 HP6.out) 0 _ rfl
      have HX8 := Lib.hid x8
      have hwz : w3.heap.size ≤ B8 := by have h1 := HXX.out.size; have h2 := (x6.trans y7).size; have h3 := HZ8.out; omega
      have HWZ := Lib.hid hwz
      have HWZ2 : Hid (wr.heap.size ≤ B8) := Lib.hid (by have h2 := (x6.trans y7).size; have h3 := HZ8.out; omega)
      clear c0 c1 c2 c3 b8_0 p1 p2 y7 X8 X68 hwz x6 x8
      go_upto_region 16 with fail
      rw [HW8.out, HB8.out]
      clear HW8 HB8
      by_cases hua : 0 ≤ ua
      case neg =>
        obtain rfl : ua = -1 := by omega
        have hpz : pAt xs (-1) = V6.zero := rfl
        have HST2 := HST.out; have HAS2 := HAS.out
        rw [hpz, zero_add1] at HST2 HAS2
        have HST := Lib.hid HST2; have HAS := Lib.hid HAS2
        obtain ⟨xv, hxv⟩ : ∃ z, pr = z := ⟨_, rfl⟩
        obtain rfl := hxv
        have t3 : decide ((0 : Int) ≤ -1) = false := by decide
        have hb := HB8'.out
        have z0 := block_cell hb 0 _ rfl; have z1 := block_cell hb 1 _ rfl; have z2 := block_cell hb 2 _ rfl; have z3 := block_cell hb 3 _ rfl; have z4 := block_cell hb 4 _ rfl; have z5 := block_cell hb 5 _ rfl
        have XT := Lib.hid (HXX.out.trans HX8.out)
        obtain ⟨WT, rfl⟩ : ∃ z : World, z = W8 := ⟨_, rfl⟩
        have OT := Lib.hid (OW.out.ext HX8.out)
        clear hb hpz HST2 HAS2 hua
        go_wp2_with fail
        refine (rbounded_walk pr 32 (by omega) (by omega) _).mono ?_
        have HAS3 := HAS.out
        obtain ⟨bw, hbw⟩ : ∃ z, within pr 32 = z := ⟨_, rfl⟩
        rw [hbw] at HAS3
        rw [hbw]
        rintro e w11 ⟨rfl, x11⟩
        have Z := Lib.hid fun w' (y : Ext w11 w') => (⟨y.cell (x11.cell z0), y.cell (x11.cell z1), y.cell (x11.cell z2), y.cell (x11.cell z3), y.cell (x11.cell z4), y.cell (x11.cell z5)⟩ : _ ∧ _ ∧ _ ∧ _ ∧ _ ∧ _)
        clear z0 z1 z2 z3 z4 z5 hbw
        cases bw with
        | false =>
          obtain ⟨rfl, rfl⟩ := Prod.mk.inj (HRNG.out HTB.out (HCUT.out HAS3))
          have HX := Lib.hid (X0.trans (HX3.out.trans (XT.out.trans x11)))
          clear HAS3
          go_wp2
          go_ret2
          exact ⟨_, rfl, Sl.nil _ _ _, HX.out⟩
        | true =>
          have HA2 : Hid (allB (xsL s h (k + 1)) = true) := Lib.hid HAS3
          have own := OT.out.ext x11
          have HXT := Lib.hid (XT.out.trans x11)
          have hsz := HXT.out.size
          obtain ⟨z0, z1, z2, z3, z4, z5⟩ := Z.out _ (Ext.refl _)
          have hxl := HXL.out
          have hkt := HKT.out
          have hb1 : (xs.length + 1) * 48 ≤ 140737488355328 := by omega
          clear HAS3 hxl hkt
          go_wp2_with (first | (at_builtin; go_must (refine wpList_own1 et_xs rfl _ _ rfl own rfl pr rfl rfl rfl (by simp [V6.list, Value.oneCell']) hb1 hsz ?_; intro v' w12 hown' hb' happ _)) | fail)
          rw [← HST.out] at hown'
          have FIN := Lib.hid (And.intro hown' (Below.trans HXT.out hb'))
          clear hown' hb' happ own z0 z1 z2 z3 z4 z5
          go_roundw
          case rel => exact ⟨k + 1, by have := HKT.out; omega, by go_num, HA2, FIN.out.1, FIN.out.2⟩
          case measure => simp [intOf] <;> omega
      case pos =>
        obtain ⟨m, rfl⟩ : ∃ m : Nat, ua = (m : Int) := ⟨ua.toNat, by omega⟩
        have hm : m < xs.length := by have := HXL.out; omega
        have hpx : pAt xs (m : Int) = xs[m] := by unfold pAt; rw [if_neg (by omega), Int.toNat_natCast, List.getD_eq_getElem?_getD, List.getElem?_eq_getElem hm]; rfl
        have HST2 := HST.out; have HAS2 := HAS.out; have HPA2 := HPA.out
        rw [hpx] at HST2 HAS2 HPA2
        have hne : xs ≠ [] := by rintro h9; rw [h9] at hm; exact absurd hm (Nat.not_lt_zero _)
        obtain ⟨g, cap, he, hg1, hg2, hg3⟩ := OW.out.block hne
        obtain ⟨rfl, rfl, rfl⟩ : va = some ⟨g, 0, none⟩ ∧ vm = xs.length ∧ vd = cap := by simpa using he
        have y0 := OW.out.cell (fun _ _ => rfl) m 0 hm (by omega); have y1 := OW.out.cell (fun _ _ => rfl) m 1 hm (by omega); have y2 := OW.out.cell (fun _ _ => rfl) m 2 hm (by omega)
        have y3 := OW.out.cell (fun _ _ => rfl) m 3 hm (by omega); have y4 := OW.out.cell (fun _ _ => rfl) m 4 hm (by omega); have y5 := OW.out.cell (fun _ _ => rfl) m 5 hm (by omega)
        obtain ⟨xm, hxm⟩ : ∃ z, xs[m] = z := ⟨_, rfl⟩
        rw [hxm] at y0 y1 y2 y3 y4 y5 HST2 HAS2 HPA2
        simp only [V6.list, List.getD_cons_zero, List.getD_cons_succ, Nat.add_zero] at y0 y1 y2 y3 y4 y5
        have LW := Lib.hid fun w' => rplus_walk xm pr (HPA2.mono (by omega)) (HPS.out.mono (by omega)) w'
        obtain ⟨xv, hxv⟩ : ∃ z, xm.add pr 1 = z := ⟨_, rfl⟩
        rw [hxv] at HST2 HAS2 LW
        have HST := Lib.hid HST2; have HAS := Lib.hid HAS2
        have i3 : (0 : Int) ≤ (m : Int) := by omega
        have i4 : (m : Int) < (xs.length : Int) := by omega
        have t3 : decide ((0 : Int) ≤ (m : Int)) = true := decide_eq_true (by omega)
        have y0 := ext_cells (HX8.out.cell y0); have y1 := ext_cells (HX8.out.cell y1); have y2 := ext_cells (HX8.out.cell y2); have y3 := ext_cells (HX8.out.cell y3); have y4 := ext_cells (HX8.out.cell y4); have y5 := ext_cells (HX8.out.cell y5)
        have hb := HB8'.out
        have z0 := ext_cells (block_cell hb 0 _ rfl); have z1 := ext_cells (block_cell hb 1 _ rfl); have z2 := ext_cells (block_cell hb 2 _ rfl); have z3 := ext_cells (block_cell hb 3 _ rfl); have z4 := ext_cells (block_cell hb 4 _ rfl); have z5 := ext_cells (block_cell hb 5 _ rfl)
        clear hb hpx HST2 HAS2 HPA2 hxm hxv he hg1 hg2 hg3 hne hua
        go_upto_region 17 with fail
        have p0 := ext_cells p0
        refine wp_region_ord [(0,true), (1,true), (2,true), (3,true), (4,true), (5,true), (6,true)] 7 Ext (Ext W8) wide (by kernel_rfl) (stable_ext _) (Ext.drawn _ _) ?_
        iterate 6 (first | (apply wpOrd_no rfl; rfl; (simp only [List.getElem_toArray, List.getElem_cons_succ, List.getElem_cons_zero, Act.put, List.setIfInBounds_toArray, List.set_cons_succ, List.set_cons_zero]; rfl)) | (apply wpOrd_yes rfl; rfl; (intro w' hw'; unfold opR; go_simp; exact ⟨Ext.refl _, rfl⟩); (simp only [List.getElem_toArray, List.getElem_cons_succ, List.getElem_cons_zero, Act.put, List.setIfInBounds_toArray, List.set_cons_succ, List.set_cons_zero]; rfl)))
        (apply wpOrd_det rfl rfl; (intro w' hw'; refine opR_call rfl (Go.Proofs.enters_of Tryz.func42 (by kernel_rfl) rfl) (by simp only [List.map_toArray, List.map_cons, List.map_nil, Act.eval, Array.getD_eq_getD_getElem?, List.getElem?_toArray, List.getElem?_cons_succ, List.getElem?_cons_zero, Option.getD_some]; rfl) ?_; refine (LW.out w').mono ?_; rintro e w'' ⟨rfl, hx⟩; exact ⟨_, rfl, hx, rfl⟩); (simp only [List.getElem_toArray, List.getElem_cons_succ, List.getElem_cons_zero, Act.put, List.setIfInBounds_toArray, List.set_cons_succ, List.set_cons_zero]; rfl))
        refine wpOrd_nil (l := [_]) rfl ?_
        intro w9 x9
        have H9 := Lib.hid (block_ext x9 HB8'.out)
        have n2 := setRow_at H9.out (#[.int .i64 xv.a, .int .i64 xv.b, .int .i64 xv.c, .int .i64 xv.d, .int .i64 xv.e, .int .i64 xv.f] : Array Value)
        have XT := Lib.hid ((HXX.out.trans (HX8.out.trans x9)).setRow (g := B8) HWZ.out (#[.int .i64 xv.a, .int .i64 xv.b, .int .i64 xv.c, .int .i64 xv.d, .int .i64 xv.e, .int .i64 xv.f] : Array Value))
        have OT : Hid (OwnR (w9.setRow B8 (#[.int .i64 xv.a, .int .i64 xv.b, .int .i64 xv.c, .int .i64 xv.d, .int .i64 xv.e, .int .i64 xv.f] : Array Value)) w3.heap.size 45 6 V6.list (.slice (some ⟨g, 0, none⟩) xs.length vd) xs) := Lib.hid ((OW.out.ext (HX8.out.trans x9)).setRow (OW.out.fresh HWZ2.out) _)
        obtain ⟨WT, hWT⟩ : ∃ z, w9.setRow B8 (#[.int .i64 xv.a, .int .i64 xv.b, .int .i64 xv.c, .int .i64 xv.d, .int .i64 xv.e, .int .i64 xv.f] : Array Value) = z := ⟨_, rfl⟩
        have HWT := Lib.hid hWT
        rw [hWT] at n2 XT OT
        have z0 := block_cell n2 0 _ rfl; have z1 := block_cell n2 1 _ rfl; have z2 := block_cell n2 2 _ rfl; have z3 := block_cell n2 3 _ rfl; have z4 := block_cell n2 4 _ rfl; have z5 := block_cell n2 5 _ rfl
        clear n2 y0 y1 y2 y3 y4 y5 p0 hWT
        go_upto_region 18 with (first | (refine wpList_store_row rfl _ _ _ rfl B8 _ rfl rfl _ _ H9.out (by kernel_rfl) rfl (by simp [Value.oneCell']) ?_) | fail)
        rw [HWT.out]
        go_wp2_with fail
        refine (rbounded_walk xv 32 (by omega) (by omega) _).mono ?_
        have HAS3 := HAS.out
        obtain ⟨bw, hbw⟩ : ∃ z, within xv 32 = z := ⟨_, rfl⟩
        rw [hbw] at HAS3
        rw [hbw]
        rintro e w11 ⟨rfl, x11⟩
        have Z := Lib.hid fun w' (y : Ext w11 w') => (⟨y.cell (x11.cell z0), y.cell (x11.cell z1), y.cell (x11.cell z2), y.cell (x11.cell z3), y.cell (x11.cell z4), y.cell (x11.cell z5)⟩ : _ ∧ _ ∧ _ ∧ _ ∧ _ ∧ _)
        clear z0 z1 z2 z3 z4 z5 hbw
        cases bw with
        | false =>
          obtain ⟨rfl, rfl⟩ := Prod.mk.inj (HRNG.out HTB.out (HCUT.out HAS3))
          have HX := Lib.hid (X0.trans (HX3.out.trans (XT.out.trans x11)))
          clear HAS3
          go_wp2
          go_ret2
          exact ⟨_, rfl, Sl.nil _ _ _, HX.out⟩
        | true =>
          have HA2 : Hid (allB (xsL s h (k + 1)) = true) := Lib.hid HAS3
          have own := OT.out.ext x11
          have HXT := Lib.hid (XT.out.trans x11)
          have hsz := HXT.out.size
          obtain ⟨z0, z1, z2, z3, z4, z5⟩ := Z.out _ (Ext.refl _)
          have hxl := HXL.out
          have hkt := HKT.out
          have hb1 : (xs.length + 1) * 48 ≤ 140737488355328 := by omega
          clear HAS3 hxl hkt
          go_wp2_with (first | (at_builtin; go_must (refine wpList_own1 et_xs rfl _ _ rfl own rfl xv rfl rfl rfl (by simp [V6.list, Value.oneCell']) hb1 hsz ?_; intro v' w12 hown' hb' happ _)) | fail)
          rw [← HST.out] at hown'
          have FIN := Lib.hid (And.intro hown' (Below.trans HXT.out hb'))
          clear hown' hb' happ own z0 z1 z2 z3 z4 z5
          go_roundw
          case rel => exact ⟨k + 1, by have := HKT.out; omega, by go_num, HA2, FIN.out.1, FIN.out.2⟩
          case measure => simp [intOf] <;> omega
end Go.Proofs.YtbemjekkojgbpaaGreatDoor
