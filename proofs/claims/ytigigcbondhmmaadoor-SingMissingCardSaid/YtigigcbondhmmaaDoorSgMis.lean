/-
  Proved: 'SingMissing' returns true for every input and leaves its arguments as they were. No condition.
-/
import Derived.Test.YtigigcbondhmmaaDoorSgStp0
set_option linter.unusedVariables false
namespace Go.Proofs.YtigigcbondhmmaaDoor
open Go.RowKit Go.Sx Go.Sx.Sz Go.Sx.Sc Go.Sx.Sg Go.ChangeShapes Go.WideShapes Go.ChangeAt

theorem miss_entry {s : Sc} {xs : List V6} {st : List Int} {i : Nat} (h : missN s xs st i = true) : entryN s i = true := by
  unfold missN at h; rw [Bool.and_eq_true] at h; exact h.1
theorem miss_iff {s : Sc} {xs : List V6} {st : List Int} {i : Nat} (he : entryN s i = true) : missN s xs st i = decide ((findR s xs i (st.getD (s.N i).v.toNat 0)).2 ≠ 0) := by
  unfold missN; rw [he, Bool.true_and]
theorem mem_pickN {q : Nat → Bool} {k i : Nat} (h : i < k) : decide ((i : Int) ∈ pickL q k) = q i := by
  cases hq : q i with
  | true => exact decide_eq_true (mem_pickL.2 ⟨i, rfl, h, hq⟩)
  | false =>
    refine decide_eq_false fun hm => ?_
    obtain ⟨j, hj, h1, h2⟩ := mem_pickL.1 hm
    obtain rfl : i = j := by omega
    rw [hq] at h2; cases h2

set_option maxRecDepth 100000 in
set_option maxHeartbeats 16000000 in
theorem sgmis_law (vn vp vc vx vt : Value) (s : Sc) (xs : List V6) (st : List Int) (w : World) (G0 : Gl 0 w) (S : ScR w vn vp vc s) (V : Sl w 6 V6.list vx xs) (T : Sl w 1 encZ vt st) :
    Calls Tryd.prog 7 #[.agg #[.int .i64 s.voices, vn, vp, vc], vx, vt] w fun e w' => e = .returned (.bool true) ∧ Ext w w' := by
  obtain ⟨an, cn, rfl, -, -, hln⟩ := S.nt.len
  obtain ⟨ap, cp, rfl, -, -, hlp⟩ := S.pr.len
  obtain ⟨ac, cc, rfl, -, -, hlc⟩ := S.cd.len
  obtain ⟨ax, cx, rfl, -, -, hlx⟩ := V.len
  obtain ⟨at', ct, rfl, -, -, hlt0⟩ := T.len
  have X0 : Ext w (w.alloc (.cells #[.int .i64 s.voices, .slice an s.notes.length cn, .slice ap s.pairs.length cp, .slice ac s.cads.length cc] 26)) := (by repeat (first | with_reducible exact Ext.refl _ | with_reducible assumption | with_reducible apply Ext.alloc | with_reducible apply Ext.drew | (with_reducible refine Ext.setCell ?_ (by (try simp) <;> omega) _)))
  have b0_0 := block_new w (.cells #[.int .i64 s.voices, .slice an s.notes.length cn, .slice ap s.pairs.length cp, .slice ac s.cads.length cc] 26)
  obtain ⟨W0, hW0⟩ : ∃ W, (w.alloc (.cells #[.int .i64 s.voices, .slice an s.notes.length cn, .slice ap s.pairs.length cp, .slice ac s.cads.length cc] 26)) = W := ⟨_, rfl⟩
  obtain ⟨B0, hB0⟩ : ∃ B, w.heap.size = B := ⟨_, rfl⟩
  rw [hW0] at X0 b0_0
  rw [hB0] at b0_0
  have HZ0 : Hid (w.heap.size ≤ B0) := Lib.hid (by omega)
  have HW0 := Lib.hid hW0; have HB0 := Lib.hid hB0
  clear hW0 hB0
  have CB := Lib.hid (boxS b0_0)
  have S1 := S.ext X0; have V1 := V.ext X0; have T1 := T.ext X0; have G1 := G0.ext X0
  clear S V T G0 b0_0
  go_enter Tryd.func7, Tryd.ntmps7
  go_wp2_with fail
  rw [HW0.out, HB0.out]
  clear HW0 HB0
  refine (head_walk _ G1).mono ?_
  rintro e w1 ⟨rfl, x1⟩
  obtain ⟨c0, c1, c2, c3⟩ := CB.out _ x1
  go_wp2_with fail
  refine (missing_walk _ _ _ _ _ s xs st _ (G1.ext x1) (S1.ext x1) (V1.ext x1) (T1.ext x1)).mono ?_
  by_cases hc : hallB s xs = true ∧ (st.length : Int) = s.voices ∧ stepsB st = true
  case neg =>
    have HR : Hid (missingR s xs st = ([], 1)) := Lib.hid (missing_bad hc)
    rw [HR.out]
    clear hc
    rintro e w2 ⟨v2, rfl, L2, y2⟩
    obtain ⟨a2, c2', rfl, -, -, -⟩ := L2.len
    clear c0 c1 c2 c3
    simp only [List.length_nil]
    go_wp2
    go_ret
    exact ⟨by first | rfl | simp, X0.trans (x1.trans y2)⟩
  have HR : Hid (missingR s xs st = (pickL (missN s xs st) s.notes.length, 0)) := Lib.hid (if_pos hc)
  have HALL := Lib.hid (hallB_iff.1 hc.1)
  have HH := Lib.hid hc.1
  have hsb : scB s = true := scB_iff.2 HALL.out.1
  have HER : Hid (entriesR s = (pickL (entryN s) s.notes.length, 0)) := Lib.hid (by unfold entriesR; rw [hsb]; rfl)
  have hnn := HALL.out.1.sz.2.1
  have STB : Hid (∀ j (h : j < st.length), 0 ≤ st[j] ∧ st[j] ≤ 2400000) := Lib.hid fun j h => by
    have := List.all_eq_true.1 hc.2.2 _ (List.getElem_mem h)
    rwa [decide_eq_true_eq] at this
  have e1 : ((st.length : Int) != s.voices) = false := by rw [bne_eq_false_iff_eq]; exact hc.2.1
  have HSB := Lib.hid hsb
  have HVL := Lib.hid hc.2.1
  rw [HR.out]
  clear hc hsb
  rintro e w2 ⟨v2, rfl, L2, y2⟩
  have x2 := x1.trans y2
  clear c0 c1 c2 c3
  obtain ⟨c0, c1, c2, c3⟩ := CB.out _ x2
  go_wp2_with fail
  refine (entries_walk _ _ _ s _ (S1.ext x2)).mono ?_
  rw [HER.out]
  rintro e w3 ⟨v3, rfl, L3, y3⟩
  have x3 := x2.trans y3
  clear c0 c1 c2 c3
  obtain ⟨c0, c1, c2, c3⟩ := CB.out _ x3
  go_wp2_with fail
  refine (scvalid_walk _ _ _ s _ (S1.ext x3)).mono ?_
  rw [HSB.out]
  rintro e W4 ⟨rfl, y4⟩
  have x4 := x3.trans y4
  clear c0 c1 c2 c3
  obtain ⟨c0, c1, c2, c3⟩ := CB.out _ x4
  have L2 := L2.ext (y3.trans y4); have L3 := L3.ext y4
  obtain ⟨al, cl, rfl, -, -, hll⟩ := L2.len
  obtain ⟨ae, ce, rfl, -, -, hle⟩ := L3.len
  have hpl := pickL_len (missN s xs st) s.notes.length
  have hpe := pickL_len (entryN s) s.notes.length
  go_wp2
  clear c0 c1 c2 c3 e1
  go_loopw [12] (fun i wr => ∃ k : Nat, k ≤ (pickL (missN s xs st) s.notes.length).length ∧ i = .int .i64 k ∧ Ext W4 wr) (fun i _ => (pickL (missN s xs st) s.notes.length).length - (intOf i).toNat)
  case atStart => exact ⟨0, by omega, rfl, Ext.refl _⟩
  case round =>
    obtain ⟨k, hk, rfl, X⟩ := hrel
    by_cases hlt : k < (pickL (missN s xs st) s.notes.length).length
    · obtain ⟨bb, oo, e', a0⟩ := Sl.num (L2.ext X) k hlt
      subst e'
      obtain ⟨m, hm, hml, hmq⟩ := pickL_at hlt
      have hin : decide ((m : Int) ∈ pickL (entryN s) s.notes.length) = true := by rw [mem_pickN hml]; exact miss_entry hmq
      rw [hm] at a0
      have HAS := Lib.hid fun w' (y : Ext wr w') => has_walk (.slice ae (pickL (entryN s) s.notes.length).length ce) (pickL (entryN s) s.notes.length) m w' (L3.ext (X.trans y))
      rw [hin] at HAS
      have i1 : (0 : Int) ≤ (k : Int) := by omega
      have i2 : (k : Int) < ((pickL (missN s xs st) s.notes.length).length : Int) := by omega
      obtain ⟨wo, rfl⟩ : ∃ wo : World, wo = wr := ⟨_, rfl⟩
      by_cases hk0 : k = 0
      · subst hk0
        rw [Nat.add_zero] at a0
        have a0 := ext_cells a0
        clear hin hm
        go_upto_region 11 with fail
        refine wp_region_ord [(0,true), (1,true), (2,true), (3,true), (4,true), (5,true), (6,true), (7,true), (8,true), (9,true), (10,true), (11,true), (12,true), (13,true), (14,true), (15,true), (16,true), (17,true), (18,true), (19,true), (20,true), (21,true), (22,true)] 23 Ext (Ext wo) wide (by kernel_rfl) (stable_ext _) (Ext.drawn _ _) ?_
        iterate 5 (first | (apply wpOrd_no rfl; rfl; (simp only [List.getElem_toArray, List.getElem_cons_succ, List.getElem_cons_zero, Act.put, List.setIfInBounds_toArray, List.set_cons_succ, List.set_cons_zero]; rfl)) | (apply wpOrd_yes rfl; rfl; (intro w' hw'; unfold opR; go_simp; exact ⟨Ext.refl _, rfl⟩); (simp only [List.getElem_toArray, List.getElem_cons_succ, List.getElem_cons_zero, Act.put, List.setIfInBounds_toArray, List.set_cons_succ, List.set_cons_zero]; rfl)))
        (apply wpOrd_det rfl rfl; (intro w' hw'; refine opR_call rfl (Go.Proofs.enters_of Tryd.func22 (by kernel_rfl) rfl) (by simp only [List.map_toArray, List.map_cons, List.map_nil, Act.eval, Array.getD_eq_getD_getElem?, List.getElem?_toArray, List.getElem?_cons_succ, List.getElem?_cons_zero, Option.getD_some]; rfl) ?_; refine (HAS.out _ hw').mono ?_; rintro e w'' ⟨rfl, hx⟩; exact ⟨_, rfl, hx, rfl⟩); (simp only [List.getElem_toArray, List.getElem_cons_succ, List.getElem_cons_zero, Act.put, List.setIfInBounds_toArray, List.set_cons_succ, List.set_cons_zero]; rfl))
        iterate 17 (first | (apply wpOrd_no rfl; rfl; (simp only [List.getElem_toArray, List.getElem_cons_succ, List.getElem_cons_zero, Act.put, List.setIfInBounds_toArray, List.set_cons_succ, List.set_cons_zero]; rfl)) | (apply wpOrd_yes rfl; rfl; (intro w' hw'; unfold opR; go_simp; exact ⟨Ext.refl _, rfl⟩); (simp only [List.getElem_toArray, List.getElem_cons_succ, List.getElem_cons_zero, Act.put, List.setIfInBounds_toArray, List.set_cons_succ, List.set_cons_zero]; rfl)))
        refine wpOrd_nil rfl ?_
        intro w9 x9
        clear a0
        go_wp2
        go_roundw
        case rel => exact ⟨1, by omega, by first | rfl | go_num, X.trans x9⟩
        case measure => simp [intOf]; omega
      · obtain ⟨q, rfl⟩ : ∃ q, k = q + 1 := ⟨k - 1, by omega⟩
        have hlt' := pickL_lt (missN s xs st) s.notes.length hlt
        obtain ⟨bb', oo', e', a1⟩ := Sl.num (L2.ext X) q (by omega)
        obtain ⟨rfl, rfl⟩ : bb = bb' ∧ oo = oo' := by simpa using e'
        rw [hm] at hlt'
        obtain ⟨z, hz⟩ : ∃ z, (pickL (missN s xs st) s.notes.length)[q] = z := ⟨_, rfl⟩
        rw [hz] at a1 hlt'
        obtain ⟨k, hkq⟩ : ∃ k, k = q + 1 := ⟨_, rfl⟩
        rw [← hkq] at a0 i1 i2 hlt hk ⊢
        have E1 : IntKind.i64.wrap ((k : Int) - 1) = (q : Int) := by rw [IntWalk.i64_in _ (by omega)]; omega
        have f0 : decide (0 < k) = true := decide_eq_true (by omega)
        have f1 : decide ((m : Int) ≤ z) = false := decide_eq_false (by omega)
        have i3 : (0 : Int) ≤ (q : Int) := by omega
        have i4 : (q : Int) < ((pickL (missN s xs st) s.notes.length).length : Int) := by omega
        have a0 := ext_cells a0
        have a1 := ext_cells a1
        have HKQ := Lib.hid hkq
        clear hin hm hz hlt' hkq hk0 e'
        go_upto_region 11 with fail
        refine wp_region_ord [(0,true), (1,true), (2,true), (3,true), (4,true), (5,true), (6,true), (7,true), (8,true), (9,true), (10,true), (11,true), (12,true), (13,true), (14,true), (15,true), (16,true), (17,true), (18,true), (19,true), (20,true), (21,true), (22,true)] 23 Ext (Ext wo) wide (by kernel_rfl) (stable_ext _) (Ext.drawn _ _) ?_
        iterate 5 (first | (apply wpOrd_no rfl; rfl; (simp only [List.getElem_toArray, List.getElem_cons_succ, List.getElem_cons_zero, Act.put, List.setIfInBounds_toArray, List.set_cons_succ, List.set_cons_zero]; rfl)) | (apply wpOrd_yes rfl; rfl; (intro w' hw'; unfold opR; go_simp; exact ⟨Ext.refl _, rfl⟩); (simp only [List.getElem_toArray, List.getElem_cons_succ, List.getElem_cons_zero, Act.put, List.setIfInBounds_toArray, List.set_cons_succ, List.set_cons_zero]; rfl)))
        (apply wpOrd_det rfl rfl; (intro w' hw'; refine opR_call rfl (Go.Proofs.enters_of Tryd.func22 (by kernel_rfl) rfl) (by simp only [List.map_toArray, List.map_cons, List.map_nil, Act.eval, Array.getD_eq_getD_getElem?, List.getElem?_toArray, List.getElem?_cons_succ, List.getElem?_cons_zero, Option.getD_some]; rfl) ?_; refine (HAS.out _ hw').mono ?_; rintro e w'' ⟨rfl, hx⟩; exact ⟨_, rfl, hx, rfl⟩); (simp only [List.getElem_toArray, List.getElem_cons_succ, List.getElem_cons_zero, Act.put, List.setIfInBounds_toArray, List.set_cons_succ, List.set_cons_zero]; rfl))
        iterate 17 (first | (apply wpOrd_no rfl; rfl; (simp only [List.getElem_toArray, List.getElem_cons_succ, List.getElem_cons_zero, Act.put, List.setIfInBounds_toArray, List.set_cons_succ, List.set_cons_zero]; rfl)) | (apply wpOrd_yes rfl; rfl; (intro w' hw'; unfold opR; go_simp; exact ⟨Ext.refl _, rfl⟩); (simp only [List.getElem_toArray, List.getElem_cons_succ, List.getElem_cons_zero, Act.put, List.setIfInBounds_toArray, List.set_cons_succ, List.set_cons_zero]; rfl)))
        refine wpOrd_nil rfl ?_
        intro w9 x9
        clear a0 a1 E1 f0 f1
        go_wp2
        go_roundw
        case rel => exact ⟨k + 1, by omega, by go_num, X.trans x9⟩
        case measure => simp [intOf]; omega
    · obtain rfl : k = (pickL (missN s xs st) s.notes.length).length := by omega
      obtain ⟨W5, rfl⟩ : ∃ z : World, z = wr := ⟨_, rfl⟩
      have x5 := x4.trans X
      have L2 := L2.ext X; have L3 := L3.ext X
      go_wp2
      go_loopw [13] (fun i wr => ∃ k : Nat, k ≤ (pickL (entryN s) s.notes.length).length ∧ i = .int .i64 k ∧ Ext W5 wr) (fun i _ => (pickL (entryN s) s.notes.length).length - (intOf i).toNat)
      case atStart => exact ⟨0, by omega, rfl, Ext.refl _⟩
      case round =>
        obtain ⟨k, hk, rfl, X⟩ := hrel
        by_cases hlt : k < (pickL (entryN s) s.notes.length).length
        · obtain ⟨m, hm, hml, hmq⟩ := pickL_at hlt
          obtain ⟨bb, oo, e', a0⟩ := Sl.num (L3.ext X) k hlt
          subst e'
          rw [hm] at a0
          have XX := x5.trans X
          obtain ⟨b, o, rfl, A⟩ := Sl.nt (S1.nt.ext XX) m hml
          rw [← Sc.N_eq hml] at A
          have hvr := (HALL.out.1.nt.note hml).1
          have hmis := miss_iff (xs := xs) (st := st) hmq
          have hff := from_eq (s := s) (xs := xs) (n := (m : Int)) (st := st.getD (s.N m).v.toNat 0) HH.out (by rw [entry_nat hml]; exact hmq)
          have hin := mem_pickN (q := missN s xs st) hml
          have d0 := A.c0
          obtain ⟨v, hv⟩ : ∃ v, (s.N m).v = v := ⟨_, rfl⟩
          rw [hv] at hvr hmis hff d0
          obtain ⟨vi, rfl⟩ : ∃ vi : Nat, v = (vi : Int) := ⟨v.toNat, by omega⟩
          have hvl : vi < st.length := by have := HVL.out; omega
          rw [Int.toNat_natCast] at hmis hff
          rw [getD_eq hvl] at hmis hff
          replace hff := hff (STB.out vi hvl)
          rw [Int.toNat_natCast] at hff
          obtain ⟨tb, tq, e'', t0⟩ := Sl.num (T1.ext XX) vi hvl
          subst e''
          obtain ⟨z, hz⟩ : ∃ z, st[vi] = z := ⟨_, rfl⟩
          rw [hz] at hmis hff t0
          obtain ⟨wo, rfl⟩ : ∃ wo : World, wo = wr := ⟨_, rfl⟩
          have h4 := find_cases s xs m z
          have FW := Lib.hid fun w' (y : Ext wo w') => from_walk (.slice (some ⟨b, o, none⟩) s.notes.length cn) (.slice ap s.pairs.length cp) (.slice ac s.cads.length cc) (.slice ax xs.length cx) s xs m z w' (G1.ext (XX.trans y)) (S1.ext (XX.trans y)) (V1.ext (XX.trans y))
          rw [hff] at FW
          obtain ⟨⟨ra, rb⟩, hr⟩ : ∃ r, findR s xs m z = r := ⟨_, rfl⟩
          rw [hr] at hmis FW h4
          simp only at hmis FW
          have h5 : rb = 0 ∨ rb = 4 := by
            rcases h4 with ⟨i, h⟩ | h
            · simp at h; exact .inl h.2
            · simp at h; exact .inr h.2
          rw [hmis] at hin
          have HAS := Lib.hid fun w' (y : Ext wo w') => has_walk (.slice al (pickL (missN s xs st) s.notes.length).length cl) (pickL (missN s xs st) s.notes.length) m w' (L2.ext (X.trans y))
          rw [hin] at HAS
          have i1 : (0 : Int) ≤ (k : Int) := by omega
          have i2 : (k : Int) < ((pickL (entryN s) s.notes.length).length : Int) := by omega
          have i3 : (0 : Int) ≤ (m : Int) := by omega
          have i4 : (m : Int) < (s.notes.length : Int) := by omega
          have i5 : (0 : Int) ≤ (vi : Int) := by omega
          have i6 : (vi : Int) < (st.length : Int) := by omega
          have f1 : decide ((m : Int) < 0) = false := decide_eq_false (by omega)
          have f2 : decide (s.notes.length ≤ m) = false := decide_eq_false (by omega)
          obtain ⟨c0, c1, c2, c3⟩ := CB.out _ XX
          have a0 := ext_cells a0; have d0 := ext_cells d0; have t0 := ext_cells t0
          have c0 := ext_cells c0; have c1 := ext_cells c1; have c2 := ext_cells c2; have c3 := ext_cells c3
          have H5 := Lib.hid h5
          clear hm hmq A hmis hff hin hv hz h4 hr h5
          go_upto_region 16 with fail
          refine wp_region_ord [(0,true), (1,true), (2,true), (3,true), (4,true), (5,true), (6,true), (7,true), (8,true), (9,true), (10,true), (11,true), (12,true), (13,true), (14,true)] 15 Ext (Ext wo) wide (by kernel_rfl) (stable_ext _) (Ext.drawn _ _) ?_
          iterate 15 (first | (apply wpOrd_no rfl; rfl; (simp only [List.getElem_toArray, List.getElem_cons_succ, List.getElem_cons_zero, Act.put, List.setIfInBounds_toArray, List.set_cons_succ, List.set_cons_zero]; rfl)) | (apply wpOrd_yes rfl; rfl; (intro w' hw'; unfold opR; go_simp; exact ⟨Ext.refl _, rfl⟩); (simp only [List.getElem_toArray, List.getElem_cons_succ, List.getElem_cons_zero, Act.put, List.setIfInBounds_toArray, List.set_cons_succ, List.set_cons_zero]; rfl)))
          refine wpOrd_nil rfl ?_
          intro w8 x8
          have k0 := fun w' (y : Ext w8 w') => a0 w' (x8.trans y)
          have k1 := fun w' (y : Ext w8 w') => d0 w' (x8.trans y)
          have k2 := fun w' (y : Ext w8 w') => t0 w' (x8.trans y)
          have k3 := fun w' (y : Ext w8 w') => c0 w' (x8.trans y)
          have k4 := fun w' (y : Ext w8 w') => c1 w' (x8.trans y)
          have k5 := fun w' (y : Ext w8 w') => c2 w' (x8.trans y)
          have k6 := fun w' (y : Ext w8 w') => c3 w' (x8.trans y)
          clear a0 d0 t0 c0 c1 c2 c3
          go_upto_region 18 with fail
          refine wp_region_ord [(0,true), (1,true), (2,true), (3,true), (4,true), (5,true), (6,true), (7,true), (8,true), (9,true), (10,true), (11,true), (12,true), (13,true), (14,true), (15,true), (16,true), (17,true), (18,true), (19,true), (20,true), (21,true), (22,true), (23,true)] 24 Ext (Ext w8) wide (by kernel_rfl) (stable_ext _) (Ext.drawn _ _) ?_
          iterate 18 (first | (apply wpOrd_no rfl; rfl; (simp only [List.getElem_toArray, List.getElem_cons_succ, List.getElem_cons_zero, Act.put, List.setIfInBounds_toArray, List.set_cons_succ, List.set_cons_zero]; rfl)) | (apply wpOrd_yes rfl; rfl; (intro w' hw'; unfold opR; go_simp; exact ⟨Ext.refl _, rfl⟩); (simp only [List.getElem_toArray, List.getElem_cons_succ, List.getElem_cons_zero, Act.put, List.setIfInBounds_toArray, List.set_cons_succ, List.set_cons_zero]; rfl)))
          (apply wpOrd_det rfl rfl; (intro w' hw'; refine opR_call rfl (Go.Proofs.enters_of Tryd.func15 (by kernel_rfl) rfl) (by simp only [List.map_toArray, List.map_cons, List.map_nil, Act.eval, Array.getD_eq_getD_getElem?, List.getElem?_toArray, List.getElem?_cons_succ, List.getElem?_cons_zero, Option.getD_some]; rfl) ?_; refine (FW.out _ (x8.trans hw')).mono ?_; rintro e w'' ⟨rfl, hx⟩; exact ⟨_, rfl, hx, rfl⟩); (simp only [List.getElem_toArray, List.getElem_cons_succ, List.getElem_cons_zero, Act.put, List.setIfInBounds_toArray, List.set_cons_succ, List.set_cons_zero]; rfl))
          iterate 5 (first | (apply wpOrd_no rfl; rfl; (simp only [List.getElem_toArray, List.getElem_cons_succ, List.getElem_cons_zero, Act.put, List.setIfInBounds_toArray, List.set_cons_succ, List.set_cons_zero]; rfl)) | (apply wpOrd_yes rfl; rfl; (intro w' hw'; unfold opR; go_simp; exact ⟨Ext.refl _, rfl⟩); (simp only [List.getElem_toArray, List.getElem_cons_succ, List.getElem_cons_zero, Act.put, List.setIfInBounds_toArray, List.set_cons_succ, List.set_cons_zero]; rfl)))
          refine wpOrd_nil rfl ?_
          intro w9 x9
          have x89 := x8.trans x9
          have k0 := k0 w9 x9
          clear k1 k2 k3 k4 k5 k6
          go_wp2_with fail
          refine (HAS.out _ x89).mono ?_
          rintro e w10 ⟨rfl, y10⟩
          have x10 := x89.trans y10
          clear k0
          rcases H5.out with h | h
          all_goals
            subst h
            go_wp2
            go_roundw
            case rel => exact ⟨k + 1, by omega, by go_num, X.trans x10⟩
            case measure => simp [intOf]; omega
        · obtain rfl : k = (pickL (entryN s) s.notes.length).length := by omega
          have XX := X0.trans (x5.trans X)
          go_wp2
          go_ret
          exact ⟨rfl, XX⟩

theorem singMissing_args (H : Type) (enc : TypeId × Value → H) (W : World) (base : Nat) (vs : List Value) (ds : List (DataW H)) (_ : ∀ k, (OpenSpec.ofChange Rows.singMissingSpec).cond = some k → k H ds = true) (hL : laidMetH Tryd.prog Rows.singMissingRow.laid W) (hA : Args enc Tryd.prog W base Tryd.f7.params.toList vs ds) :
    Calls Tryd.prog 7 vs.toArray W fun e W' => e = .returned (.bool true) ∧ Ext W W' := by
  rw [Tryd.params7] at hA
  obtain ⟨v0, _, d0, _, rfl, rfl, h0, hA⟩ := hA.cons
  obtain ⟨v1, _, d1, _, rfl, rfl, h1, hA⟩ := hA.cons
  obtain ⟨v2, _, d2, _, rfl, rfl, h2, hA⟩ := hA.cons
  obtain ⟨rfl, rfl⟩ := hA.nil
  obtain ⟨s0, vn0, vp0, vc0, rfl, S0⟩ := arg_score h0
  obtain ⟨l1, S1, n1⟩ := arg_vecs h1
  obtain ⟨l2, S2, n2⟩ := arg_ints h2
  exact sgmis_law _ _ _ _ _ s0 l1 l2 W (gv_of hL) S0 S1 S2

theorem singMissing_met (os : Os) : laidMet Tryd.prog Rows.singMissingRow.laid ((laidWorld os).forCall (fun _ _ => 0) ⟨#[], #[.agg #[.int .i64 0, .slice none 0 0, .slice none 0 0, .slice none 0 0], .slice none 0 0, .slice none 0 0], []⟩).memory := laidMet_of_run' 8 (by kernel_rfl) (by kernel_rfl)
theorem singMissing_reads (os : Os) {H : Type} (enc : TypeId × Value → H) : ∃ places, DataW.whole enc Tryd.prog ((laidWorld os).forCall (fun _ _ => 0) ⟨#[], #[.agg #[.int .i64 0, .slice none 0 0, .slice none 0 0, .slice none 0 0], .slice none 0 0, .slice none 0 0], []⟩).memory Tryd.f7.params.toList Rows.singMissingSpec.vars false #[.agg #[.int .i64 0, .slice none 0 0, .slice none 0 0, .slice none 0 0], .slice none 0 0, .slice none 0 0].toList 8 = some ([.agg [.lit (.int .i64 0), .nil, .nil, .nil], .nil, .nil], [], places) := ⟨[], by kernel_rfl⟩
set_option maxRecDepth 100000 in
theorem singMissing_lifted (os : Os) (started : os.Started) (H : Type) (enc : TypeId × Value → H) (F : Stop.Interp) :
    ReturnsInHanded {} Tryd.checked os 7 .any ((OpenSpec.ofChange Rows.singMissingSpec).preRow enc Tryd.prog Tryd.f7 Rows.singMissingRow.domain false Rows.singMissingRow.laid) (((OpenSpec.ofChange Rows.singMissingSpec).at F).post enc Tryd.prog Tryd.f7 false true false false) := by
  obtain ⟨places, hx⟩ := singMissing_reads os enc
  exact law_row (C := Tryd.checked) (s := (OpenSpec.ofChange Rows.singMissingSpec)) (by kernel_rfl) started (by kernel_rfl) Tryd.func7
    (witness_row_at (enc := enc) (C := Tryd.checked) false (laidWorld os) #[.agg #[.int .i64 0, .slice none 0 0, .slice none 0 0, .slice none 0 0], .slice none 0 0, .slice none 0 0] rfl (by kernel_rfl) (by kernel_rfl) (by kernel_rfl) (OpenSpec.preRow_of_cond 8 hx (by kernel_rfl) (fun k hk => by cases hk) (by kernel_rfl) (singMissing_met os)))
    (by kernel_rfl) (by kernel_rfl) (by kernel_rfl) rfl (fun ds h => by match ds, h with | [_, _, _], _ => rfl) (singMissing_args H enc)
theorem singMissing_said : Rows.SingMissingSaid :=
  OpenClaim.holds_of_cond 7 Tryd.f7 rfl rfl rfl rfl rfl rfl rfl ⟨rfl, rfl, rfl, rfl, rfl⟩ rfl rfl rfl rfl rfl (by kernel_rfl) Tryd.func7 (by kernel_rfl)
    (of_decide_eq_true (by kernel_rfl)) (by unfold Func.isWrapper; first | (rw [if_pos (by decide +kernel)]; kernel_rfl) | (rw [if_neg (by decide +kernel)]; exact ⟨rfl, rfl⟩))
    (fun os started H enc _ F => by rw [OpenClaim.pre_eq_preRow]; exact singMissing_lifted os started H enc F)
theorem singMissing_plain (f : FuncId) (fn : Func) (hf : Tryd.pinned.checked.prog.funcNamed "schisma/schismalaw22.SingMissing" = some f) (hfn : Tryd.pinned.checked.prog.funcs[f]? = some fn) :
    false = Tryd.pinned.checked.prog.looks [] ∧ ∀ (j : Nat) t, fn.params[j]? = some t → Tryd.pinned.checked.prog.wantsStandIn t = false := by
  obtain rfl : f = 7 := Option.some.inj ((show Tryd.prog.funcNamed "schisma/schismalaw22.SingMissing" = some 7 by kernel_rfl).symm.trans hf) |>.symm
  obtain rfl : fn = Tryd.f7 := (Option.some.inj (Tryd.func7.symm.trans hfn)).symm
  refine ⟨by kernel_rfl, fun j t ht => ?_⟩
  have hall : Tryd.f7.params.all (fun t => !Tryd.prog.wantsStandIn t) = true := by kernel_rfl
  have := (Array.all_eq_true'.1 hall) t (Array.mem_of_getElem? ht)
  have e : Tryd.prog.wantsStandIn t = false := by simpa using this
  exact e
/-- The card. -/
theorem singMissing_holds : Rows.SingMissingCardSaid :=
  Claim7.holds_tied_plain_at .later [] _ _ _ _ singMissing_said (fun _ h => by cases h) (by kernel_rfl) (fun _ h => by cases h) singMissing_row_tie rfl ⟨rfl, rfl⟩ (by kernel_rfl) rfl singMissing_plain (by kernel_rfl)
end Go.Proofs.YtigigcbondhmmaaDoor
