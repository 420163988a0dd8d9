/-
  Proved: 'ScoreSounding' returns true for every input and leaves its arguments as they were. No condition.
-/
import Derived.Test.YtajicmghnllnmaaScSec
import Derived.BigQuiet
set_option linter.unusedVariables false
namespace Go.Proofs.Ytajicmghnllnmaa
open Go.RowKit Go.Sx Go.Sx.Sz Go.Sx.Sc Go.ChangeShapes Go.WideShapes Go.ChangeAt

theorem choose_at {l : List Nt} {p : Nt → Bool} {k : Nat} (h : k < (chooseL l p).length) : ∃ m : Nat, (chooseL l p)[k] = (m : Int) ∧ m < l.length ∧ p (l.getD m default) = true := by
  obtain ⟨a, b, c⟩ := chooseL_mem.1 (List.getElem_mem h)
  exact ⟨((chooseL l p)[k]).toNat, by omega, by omega, c⟩
theorem choose_lt {l : List Nt} {p : Nt → Bool} {j k : Nat} (h : k < (chooseL l p).length) (hj : j < k) : (chooseL l p)[j] < (chooseL l p)[k] :=
  List.pairwise_iff_getElem.1 chooseL_sorted j k (by omega) h hj
theorem choose_has {l : List Nt} {p : Nt → Bool} {i : Nat} (h : i < l.length) : decide ((i : Int) ∈ chooseL l p) = p (l.getD i default) := by
  rw [Bool.eq_iff_iff, decide_eq_true_eq, chooseL_mem]
  constructor
  · rintro ⟨-, -, h⟩; exact h
  · intro h'; exact ⟨by omega, by omega, h'⟩
theorem snd_apart {s : Sc} (h : ScOk s) {t : Int} {i j : Nat} (hi : i < s.notes.length) (hj : j < i) (pi : sndP t (s.N i) = true) (pj : sndP t (s.N j) = true) : (s.N j).v ≠ (s.N i).v := by
  intro e
  have := h.apart hj hi e
  unfold sndP at pi pj
  rw [Bool.and_eq_true, decide_eq_true_eq, decide_eq_true_eq] at pi pj
  omega

set_option maxRecDepth 100000 in
set_option maxHeartbeats 4000000 in
theorem sounding_law (vn vp vc : Value) (s : Sc) (tick : Int) (w : World) (S : ScR w vn vp vc s) :
    Calls Try.prog 6 #[.agg #[.int .i64 s.voices, vn, vp, vc], .int .i64 tick] w fun e w' => e = .returned (.bool true) ∧ Ext w w' := by
  obtain ⟨an, cn, rfl, -, -, hln⟩ := S.nt.len
  obtain ⟨ap, cp, rfl, -, -, hlp⟩ := S.pr.len
  obtain ⟨ac, cc, rfl, -, -, hlc⟩ := S.cd.len
  go_enter Try.func6, Try.ntmps6
  go_wp2_with fail
  refine (head_walk _).mono ?_
  rintro e w1 ⟨rfl, x1⟩
  have X1 : Ext w w1 := Ext.trans (by repeat (first | with_reducible exact Ext.refl _ | with_reducible assumption | with_reducible apply Ext.alloc | with_reducible apply Ext.drew | (with_reducible refine Ext.setCell ?_ (by (try simp) <;> omega) _))) x1
  have B1 := BoxS.of (block_ext x1 (block_new w (.cells #[.int .i64 s.voices, .slice an s.notes.length cn, .slice ap s.pairs.length cp, .slice ac s.cads.length cc] 26)))
  obtain ⟨c0, c1, c2, c3⟩ := B1
  have HB1 : Hid (BoxS w.heap.size s.voices (.slice an s.notes.length cn) (.slice ap s.pairs.length cp) (.slice ac s.cads.length cc) w1) := Lib.hid ⟨c0, c1, c2, c3⟩
  clear x1
  go_wp2_with fail
  refine (scvalid_walk _ _ _ s _ (S.ext X1)).mono ?_
  cases hok : scB s with
  | false =>
    clear hok
    rintro e w2 ⟨rfl, x2⟩
    clear c0 c1 c2 c3
    go_wp2
    go_ret
    exact ⟨rfl, X1.trans x2⟩
  | true =>
    rintro e w2 ⟨rfl, x2⟩
    have X2 := X1.trans x2
    have HB2 := Lib.hid (HB1.out.ext x2)
    have HV := Lib.hid (scB_iff.1 hok)
    have HO := Lib.hid hok
    have S2 := S.ext X2
    have hnc := (scB_iff.1 hok).sz.2.2.2
    have hnn := (scB_iff.1 hok).sz.2.1
    clear c0 c1 c2 c3 hok x2
    obtain ⟨B, hB⟩ : ∃ B, w.heap.size = B := ⟨_, rfl⟩
    rw [hB] at HB2
    by_cases g1 : tick < 0
    · go_wp2
      go_ret
      exact ⟨rfl, X2⟩
    by_cases g2 : 100000 < tick
    · go_wp2
      go_ret
      exact ⟨rfl, X2⟩
    have R1 : Hid (sndR s tick = (chooseL s.notes (sndP tick), 0)) := Lib.hid (by unfold sndR; rw [if_pos ⟨HO.out, by omega, by omega⟩])
    obtain ⟨c0, c1, c2, c3⟩ := HB2.out
    go_wp2_with fail
    refine (sound_walk _ _ _ s tick _ S2).mono ?_
    rw [R1.out]
    rintro e w3 ⟨v, rfl, SL, x3⟩
    have X3 := X2.trans x3
    have S3 := S2.ext x3
    have HB3 := Lib.hid (HB2.out.ext x3)
    obtain ⟨L, hL⟩ : ∃ L, chooseL s.notes (sndP tick) = L := ⟨_, rfl⟩
    have hLs : L.length ≤ s.notes.length := by rw [← hL]; exact chooseL_len
    have HL := Lib.hid hL
    rw [hL] at SL
    obtain ⟨al, cl, rfl, -, -, hll⟩ := SL.len
    have HAT : Hid (∀ k (h : k < L.length), ∃ m : Nat, L[k] = (m : Int) ∧ m < s.notes.length ∧ sndP tick (s.N m) = true) := Lib.hid (by subst hL; exact fun k h => choose_at h)
    have HLT : Hid (∀ j k (h : k < L.length) (hj : j < k), L[j] < L[k]) := Lib.hid (by subst hL; exact fun j k h hj => choose_lt h hj)
    have HHAS : Hid (∀ i, i < s.notes.length → decide ((i : Int) ∈ L) = sndP tick (s.N i)) := Lib.hid (by subst hL; exact fun i h => choose_has h)
    clear hL R1 c0 c1 c2 c3 HB2 S2 X2 x3
    go_wp2
    clear hB
    go_loopw [8, 9] (fun i _ wr => ∃ k : Nat, k ≤ L.length ∧ i = .int .i64 k ∧ Ext w3 wr) (fun i _ _ => L.length - (intOf i).toNat)
    case atStart => exact ⟨0, by omega, rfl, Ext.refl _⟩
    case round =>
      obtain ⟨k, hk, rfl, X⟩ := hrel
      obtain ⟨c0, c1, c2, c3⟩ := HB3.out.ext X
      by_cases hlt : k < L.length
      · obtain ⟨b, o, rfl, q0⟩ := Sl.num (SL.ext X) k hlt
        obtain ⟨m, hm, hmn, hmp⟩ := HAT.out k hlt
        have HP := Lib.hid hmp
        obtain ⟨bn, on, rfl, qn⟩ := Sl.nt (S3.nt.ext X) m hmn
        have qv := qn.c0
        rw [← Sc.N_eq hmn] at qv
        rw [hm] at q0
        have HM := Lib.hid hm
        have i1 : (0 : Int) ≤ (k : Int) := by omega
        have i2 : (k : Int) < (L.length : Int) := by omega
        have i3 : (0 : Int) ≤ (m : Int) := by omega
        have i4 : (m : Int) < (s.notes.length : Int) := by omega
        have hprev : ∀ j (hj : j < k), L[j] < (m : Int) := fun j hj => by rw [← hm]; exact HLT.out j k hlt hj
        have HPV := Lib.hid hprev
        clear hm hmp qn hprev
        obtain ⟨wo, rfl⟩ : ∃ wo : World, wo = wr := ⟨_, rfl⟩
        have d1 : decide ((m : Int) < 0) = false := decide_eq_false (by omega)
        have d2 : decide ((s.notes.length : Int) ≤ (m : Int)) = false := decide_eq_false (by omega)
        have d2n : decide (s.notes.length ≤ m) = false := decide_eq_false (by omega)
        by_cases hk0 : k = 0
        · have d3 : decide (0 < k) = false := decide_eq_false (by omega)
          clear hk0
          have g0 := ext_cells c1; have g1 := ext_cells q0
          go_wp2
          refine wp_region_ord [(0,true), (1,true), (2,true), (3,true), (4,true), (5,true), (6,true), (7,true), (8,true), (9,true), (10,true), (11,true), (12,true), (13,true), (14,true), (15,true), (16,true), (17,true), (18,true), (19,true), (20,true), (21,true), (22,true), (23,true), (24,true), (25,true), (26,true), (27,true), (28,true), (29,true), (30,true)] 31 Ext (Ext wo) wide (by kernel_rfl) (stable_ext _) (Ext.drawn _ _) ?_
          iterate 31 (first | (apply wpOrd_yes rfl; rfl; (intro w' hw'; unfold opR; go_simp; exact ⟨Ext.refl _, rfl⟩); (simp only [List.getElem_toArray, List.getElem_cons_succ, List.getElem_cons_zero, Act.put, List.setIfInBounds_toArray, List.set_cons_succ, List.set_cons_zero]; rfl)) | (apply wpOrd_no rfl; rfl; (simp only [List.getElem_toArray, List.getElem_cons_succ, List.getElem_cons_zero, Act.put, List.setIfInBounds_toArray, List.set_cons_succ, List.set_cons_zero]; rfl)))
          refine wpOrd_nil rfl ?_
          intro w9 x9
          have Y9 : Ext w3 w9 := Ext.trans X x9
          clear g0 g1
          go_wp2
          go_loopw [9] (fun i wr => i = .int .i64 0 ∧ Ext w3 wr) (fun i _ => 0)
          case atStart => exact ⟨rfl, Y9⟩
          case round =>
            obtain ⟨rfl, Y⟩ := hrel
            go_wp2
            go_roundw
            case rel => exact ⟨k + 1, by omega, by go_num, Y⟩
            case measure => simp [intOf] <;> omega
        · obtain ⟨b', o', e', p0⟩ := Sl.num (SL.ext X) (k - 1) (by omega)
          obtain ⟨rfl, rfl⟩ : b' = b ∧ o' = o := by simp at e'; exact ⟨e'.1.symm, e'.2.symm⟩
          clear e'
          obtain ⟨x, hx⟩ : ∃ x, L[k - 1] = x := ⟨_, rfl⟩
          have hpx := HPV.out (k - 1) (by omega)
          rw [hx] at p0 hpx
          have e1 : IntKind.i64.wrap ((k : Int) - 1) = ((k - 1 : Nat) : Int) := by rw [IntWalk.i64_in _ (by omega)]; omega
          have i5 : (0 : Int) < (k : Int) := by omega
          have i6 : (0 : Int) ≤ ((k - 1 : Nat) : Int) := by omega
          have i7 : ((k - 1 : Nat) : Int) < (L.length : Int) := by omega
          have i8 : decide ((m : Int) ≤ x) = false := decide_eq_false (by omega)
          have d3 : decide (0 < k) = true := decide_eq_true (by omega)
          have d5 : decide (x < (m : Int)) = true := decide_eq_true hpx
          clear hx
          have g0 := ext_cells c1; have g1 := ext_cells q0; have g2 := ext_cells p0
          go_wp2
          refine wp_region_ord [(0,true), (1,true), (2,true), (3,true), (4,true), (5,true), (6,true), (7,true), (8,true), (9,true), (10,true), (11,true), (12,true), (13,true), (14,true), (15,true), (16,true), (17,true), (18,true), (19,true), (20,true), (21,true), (22,true), (23,true), (24,true), (25,true), (26,true), (27,true), (28,true), (29,true), (30,true)] 31 Ext (Ext wo) wide (by kernel_rfl) (stable_ext _) (Ext.drawn _ _) ?_
          iterate 31 (first | (apply wpOrd_yes rfl; rfl; (intro w' hw'; unfold opR; go_simp; exact ⟨Ext.refl _, rfl⟩); (simp only [List.getElem_toArray, List.getElem_cons_succ, List.getElem_cons_zero, Act.put, List.setIfInBounds_toArray, List.set_cons_succ, List.set_cons_zero]; rfl)) | (apply wpOrd_no rfl; rfl; (simp only [List.getElem_toArray, List.getElem_cons_succ, List.getElem_cons_zero, Act.put, List.setIfInBounds_toArray, List.set_cons_succ, List.set_cons_zero]; rfl)))
          refine wpOrd_nil rfl ?_
          intro w9 x9
          have Y9 : Ext w3 w9 := Ext.trans X x9
          clear g0 g1 g2
          clear p0 e1 i6 i7 i8 hpx
          go_wp2
          clear i5 d3 d5 d1 d2 d2n
          go_loopw [9] (fun a wr => ∃ j : Nat, j ≤ k ∧ a = .int .i64 j ∧ Ext w3 wr) (fun a _ => k - (intOf a).toNat)
          case atStart => exact ⟨0, by omega, rfl, Y9⟩
          case round =>
            obtain ⟨j, hj, rfl, Y⟩ := hrel
            obtain ⟨c0, c1, c2, c3⟩ := HB3.out.ext Y
            by_cases hjk : j < k
            · obtain ⟨b3, o3, e3, p3⟩ := Sl.num (SL.ext Y) k hlt
              obtain ⟨rfl, rfl⟩ : b' = b3 ∧ o' = o3 := by simp at e3; exact e3
              obtain ⟨b4, o4, e4, p4⟩ := Sl.num (SL.ext Y) j (by omega)
              obtain ⟨rfl, rfl⟩ : b' = b4 ∧ o' = o4 := by simp at e4; exact e4
              obtain ⟨mj, hmj, hmjn, hmjp⟩ := HAT.out j (by omega)
              have hmjm := HPV.out j hjk
              rw [hmj] at hmjm p4
              rw [HM.out] at p3
              obtain ⟨b5, o5, e5, p5⟩ := Sl.nt (S3.nt.ext Y) mj hmjn
              obtain ⟨b6, o6, e6, p6⟩ := Sl.nt (S3.nt.ext Y) m hmn
              obtain ⟨rfl, rfl⟩ : bn = b5 ∧ on = o5 := by simp at e5; exact e5
              obtain ⟨rfl, rfl⟩ : bn = b6 ∧ on = o6 := by simp at e6; exact e6
              rw [← Sc.N_eq hmjn] at p5
              rw [← Sc.N_eq hmn] at p6
              have p50 := p5.c0; have p60 := p6.c0
              have hne := snd_apart HV.out hmn (show mj < m by omega) HP.out hmjp
              obtain ⟨v1, hv1⟩ : ∃ v, (s.N mj).v = v := ⟨_, rfl⟩
              obtain ⟨v2, hv2⟩ : ∃ v, (s.N m).v = v := ⟨_, rfl⟩
              rw [hv1] at hne p50
              rw [hv2] at hne p60
              have f1 : (v1 == v2) = false := beq_eq_false_iff_ne.2 hne
              have j1 : (0 : Int) ≤ (mj : Int) := by omega
              have j2 : (mj : Int) < (s.notes.length : Int) := by omega
              have j3 : (0 : Int) ≤ (j : Int) := by omega
              have j4 : (j : Int) < (L.length : Int) := by omega
              clear e3 e4 e5 e6 hmj hmjn hmjp hmjm p5 p6 hne hv1 hv2 c0 c2 c3
              go_wp2
              go_quiet (fail)
              go_wp2
              go_roundw
              case rel => exact ⟨j + 1, by omega, by go_num, Y.drewN _⟩
              case measure => simp [intOf] <;> omega
            · obtain rfl : j = k := by omega
              clear c0 c2 c3
              go_wp2
              go_roundw
              case rel => exact ⟨j + 1, by omega, by go_num, Y⟩
              case measure => simp [intOf] <;> omega
      · obtain rfl : k = L.length := by omega
        go_wp2
        clear c0 c1 c2 c3
        go_loopw [10] (fun a wr => ∃ j : Nat, j ≤ s.notes.length ∧ a = .int .i64 j ∧ Ext w3 wr) (fun a _ => s.notes.length - (intOf a).toNat)
        case atStart => exact ⟨0, by omega, rfl, X⟩
        case round =>
          obtain ⟨j, hj, rfl, Y⟩ := hrel
          obtain ⟨c0, c1, c2, c3⟩ := HB3.out.ext Y
          by_cases hlt : j < s.notes.length
          · obtain ⟨b, o, rfl, q⟩ := Sl.nt (S3.nt.ext Y) j hlt
            have hh := HHAS.out j hlt
            rw [← Sc.N_eq hlt] at q
            have q1 := q.c1; have q2 := q.c2
            unfold sndP at hh
            obtain ⟨f, hf⟩ : ∃ v, (s.N j).f = v := ⟨_, rfl⟩
            obtain ⟨u, hu⟩ : ∃ v, (s.N j).u = v := ⟨_, rfl⟩
            rw [hf] at hh q1
            rw [hu] at hh q2
            have HC := Lib.hid fun w' (y : Ext wr w') => has_walk (.slice al L.length cl) L j w' (SL.ext (Y.trans y))
            have i1 : (0 : Int) ≤ (j : Int) := by omega
            have i2 : (j : Int) < (s.notes.length : Int) := by omega
            clear q hf hu c0 c2 c3
            obtain ⟨wo, rfl⟩ : ∃ wo : World, wo = wr := ⟨_, rfl⟩
            have g0 := ext_cells c1; have g1 := ext_cells q1; have g2 := ext_cells q2
            by_cases hft : f ≤ tick
            · have d1 : decide (f ≤ tick) = true := decide_eq_true hft
              by_cases htu : tick < u
              · have d2 : decide (tick < u) = true := decide_eq_true htu
                rw [d1, d2, Bool.true_and] at hh
                have HH := Lib.hid hh
                clear hh hft htu
                go_wp2
                refine wp_region_ord [(0,true), (1,true), (2,true), (3,true), (4,true), (5,true), (6,true), (7,true), (8,true), (9,true), (10,true), (11,true), (12,true), (13,true), (14,true), (15,true), (16,true), (17,true), (18,true), (19,true), (20,true), (21,true)] 22 Ext (Ext wo) wide (by kernel_rfl) (stable_ext _) (Ext.drawn _ _) ?_
                iterate 2 (first | (apply wpOrd_yes rfl; rfl; (intro w' hw'; unfold opR; go_simp; exact ⟨Ext.refl _, rfl⟩); (simp only [List.getElem_toArray, List.getElem_cons_succ, List.getElem_cons_zero, Act.put, List.setIfInBounds_toArray, List.set_cons_succ, List.set_cons_zero]; rfl)) | (apply wpOrd_no rfl; rfl; (simp only [List.getElem_toArray, List.getElem_cons_succ, List.getElem_cons_zero, Act.put, List.setIfInBounds_toArray, List.set_cons_succ, List.set_cons_zero]; rfl)))
                (apply wpOrd_det rfl rfl; (intro w' hw'; refine opR_call rfl (Go.Proofs.enters_of Try.func25 (by kernel_rfl) rfl) (by simp only [List.map_toArray, List.map_cons, List.map_nil, Act.eval, Array.getD_eq_getD_getElem?, List.getElem?_toArray, List.getElem?_cons_succ, List.getElem?_cons_zero, Option.getD_some]; rfl) ?_; refine (HC.out _ hw').mono ?_; rw [HH.out]; rintro e w'' ⟨rfl, hx⟩; exact ⟨_, rfl, hx, rfl⟩); (simp only [List.getElem_toArray, List.getElem_cons_succ, List.getElem_cons_zero, Act.put, List.setIfInBounds_toArray, List.set_cons_succ, List.set_cons_zero]; rfl))
                iterate 19 (first | (apply wpOrd_yes rfl; rfl; (intro w' hw'; unfold opR; go_simp; exact ⟨Ext.refl _, rfl⟩); (simp only [List.getElem_toArray, List.getElem_cons_succ, List.getElem_cons_zero, Act.put, List.setIfInBounds_toArray, List.set_cons_succ, List.set_cons_zero]; rfl)) | (apply wpOrd_no rfl; rfl; (simp only [List.getElem_toArray, List.getElem_cons_succ, List.getElem_cons_zero, Act.put, List.setIfInBounds_toArray, List.set_cons_succ, List.set_cons_zero]; rfl)))
                refine wpOrd_nil rfl ?_
                intro w9 x9
                have Y9 := Y.trans x9
                clear g0 g1 g2
                go_wp2
                go_roundw
                case rel => exact ⟨j + 1, by omega, by go_num, Y9⟩
                case measure => simp [intOf] <;> omega
              · have d2 : decide (tick < u) = false := decide_eq_false htu
                rw [d1, d2, Bool.true_and] at hh
                have HH := Lib.hid hh
                clear hh hft htu
                go_wp2
                refine wp_region_ord [(0,true), (1,true), (2,true), (3,true), (4,true), (5,true), (6,true), (7,true), (8,true), (9,true), (10,true), (11,true), (12,true), (13,true), (14,true), (15,true), (16,true), (17,true), (18,true), (19,true), (20,true), (21,true)] 22 Ext (Ext wo) wide (by kernel_rfl) (stable_ext _) (Ext.drawn _ _) ?_
                iterate 2 (first | (apply wpOrd_yes rfl; rfl; (intro w' hw'; unfold opR; go_simp; exact ⟨Ext.refl _, rfl⟩); (simp only [List.getElem_toArray, List.getElem_cons_succ, List.getElem_cons_zero, Act.put, List.setIfInBounds_toArray, List.set_cons_succ, List.set_cons_zero]; rfl)) | (apply wpOrd_no rfl; rfl; (simp only [List.getElem_toArray, List.getElem_cons_succ, List.getElem_cons_zero, Act.put, List.setIfInBounds_toArray, List.set_cons_succ, List.set_cons_zero]; rfl)))
                (apply wpOrd_det rfl rfl; (intro w' hw'; refine opR_call rfl (Go.Proofs.enters_of Try.func25 (by kernel_rfl) rfl) (by simp only [List.map_toArray, List.map_cons, List.map_nil, Act.eval, Array.getD_eq_getD_getElem?, List.getElem?_toArray, List.getElem?_cons_succ, List.getElem?_cons_zero, Option.getD_some]; rfl) ?_; refine (HC.out _ hw').mono ?_; rw [HH.out]; rintro e w'' ⟨rfl, hx⟩; exact ⟨_, rfl, hx, rfl⟩); (simp only [List.getElem_toArray, List.getElem_cons_succ, List.getElem_cons_zero, Act.put, List.setIfInBounds_toArray, List.set_cons_succ, List.set_cons_zero]; rfl))
                iterate 19 (first | (apply wpOrd_yes rfl; rfl; (intro w' hw'; unfold opR; go_simp; exact ⟨Ext.refl _, rfl⟩); (simp only [List.getElem_toArray, List.getElem_cons_succ, List.getElem_cons_zero, Act.put, List.setIfInBounds_toArray, List.set_cons_succ, List.set_cons_zero]; rfl)) | (apply wpOrd_no rfl; rfl; (simp only [List.getElem_toArray, List.getElem_cons_succ, List.getElem_cons_zero, Act.put, List.setIfInBounds_toArray, List.set_cons_succ, List.set_cons_zero]; rfl)))
                refine wpOrd_nil rfl ?_
                intro w9 x9
                have Y9 := Y.trans x9
                clear g0 g1 g2
                go_wp2
                go_roundw
                case rel => exact ⟨j + 1, by omega, by go_num, Y9⟩
                case measure => simp [intOf] <;> omega
            · have d1 : decide (f ≤ tick) = false := decide_eq_false hft
              rw [d1, Bool.false_and] at hh
              have HH := Lib.hid hh
              clear hh hft
              go_wp2
              refine wp_region_ord [(0,true), (1,true), (2,true), (3,true), (4,true), (5,true), (6,true), (7,true), (8,true), (9,true), (10,true), (11,true), (12,true), (13,true), (14,true), (15,true), (16,true), (17,true), (18,true), (19,true), (20,true), (21,true)] 22 Ext (Ext wo) wide (by kernel_rfl) (stable_ext _) (Ext.drawn _ _) ?_
              iterate 2 (first | (apply wpOrd_yes rfl; rfl; (intro w' hw'; unfold opR; go_simp; exact ⟨Ext.refl _, rfl⟩); (simp only [List.getElem_toArray, List.getElem_cons_succ, List.getElem_cons_zero, Act.put, List.setIfInBounds_toArray, List.set_cons_succ, List.set_cons_zero]; rfl)) | (apply wpOrd_no rfl; rfl; (simp only [List.getElem_toArray, List.getElem_cons_succ, List.getElem_cons_zero, Act.put, List.setIfInBounds_toArray, List.set_cons_succ, List.set_cons_zero]; rfl)))
              (apply wpOrd_det rfl rfl; (intro w' hw'; refine opR_call rfl (Go.Proofs.enters_of Try.func25 (by kernel_rfl) rfl) (by simp only [List.map_toArray, List.map_cons, List.map_nil, Act.eval, Array.getD_eq_getD_getElem?, List.getElem?_toArray, List.getElem?_cons_succ, List.getElem?_cons_zero, Option.getD_some]; rfl) ?_; refine (HC.out _ hw').mono ?_; rw [HH.out]; rintro e w'' ⟨rfl, hx⟩; exact ⟨_, rfl, hx, rfl⟩); (simp only [List.getElem_toArray, List.getElem_cons_succ, List.getElem_cons_zero, Act.put, List.setIfInBounds_toArray, List.set_cons_succ, List.set_cons_zero]; rfl))
              iterate 19 (first | (apply wpOrd_yes rfl; rfl; (intro w' hw'; unfold opR; go_simp; exact ⟨Ext.refl _, rfl⟩); (simp only [List.getElem_toArray, List.getElem_cons_succ, List.getElem_cons_zero, Act.put, List.setIfInBounds_toArray, List.set_cons_succ, List.set_cons_zero]; rfl)) | (apply wpOrd_no rfl; rfl; (simp only [List.getElem_toArray, List.getElem_cons_succ, List.getElem_cons_zero, Act.put, List.setIfInBounds_toArray, List.set_cons_succ, List.set_cons_zero]; rfl)))
              refine wpOrd_nil rfl ?_
              intro w9 x9
              have Y9 := Y.trans x9
              clear g0 g1 g2
              go_wp2
              go_roundw
              case rel => exact ⟨j + 1, by omega, by go_num, Y9⟩
              case measure => simp [intOf] <;> omega
          · obtain rfl : j = s.notes.length := by omega
            clear c0 c2 c3
            go_wp2
            go_ret
            exact ⟨rfl, X3.trans Y⟩

theorem scoreSounding_args (H : Type) (enc : TypeId × Value → H) (W : World) (base : Nat) (vs : List Value) (ds : List (DataW H)) (hA : Args enc Try.prog W base Try.f6.params.toList vs ds) :
    Calls Try.prog 6 vs.toArray W fun e W' => e = .returned (.bool true) ∧ Ext W W' := by
  rw [Try.params6] at hA
  obtain ⟨v0, _, d0, _, rfl, rfl, h0, hA⟩ := hA.cons
  obtain ⟨v1, _, d1, _, rfl, rfl, h1, hA⟩ := hA.cons
  obtain ⟨rfl, rfl⟩ := hA.nil
  obtain ⟨s, vn, vp, vc, rfl, S⟩ := arg_score h0
  obtain ⟨a, rfl, _⟩ := h1.int Try.underlying3
  exact sounding_law vn vp vc s a W S

set_option maxRecDepth 100000 in
theorem scoreSounding_lifted (os : Os) (started : os.Started) (H : Type) (enc : TypeId × Value → H) :
    ReturnsInHanded {} Try.checked os 6 .any (Rows.scoreSoundingSpec.pre6 enc Try.prog Try.f6 Rows.scoreSoundingRow.domain false) (Rows.scoreSoundingSpec.post enc Try.prog Try.f6 false true false false) :=
  law_said (C := Try.checked) (by kernel_rfl) started (by kernel_rfl) Try.func6
    (ChangeSpec.witness6 (enc := enc) (C := Try.checked) false ⟨#[], #[.agg #[.int .i64 0, .slice none 0 0, .slice none 0 0, .slice none 0 0], .int .i64 0], []⟩ 8 (by kernel_rfl) (by kernel_rfl) (by kernel_rfl) (by kernel_rfl))
    (by kernel_rfl) (by kernel_rfl) (by kernel_rfl) rfl (fun ds h => by match ds, h with | [_, _], _ => rfl) (scoreSounding_args H enc)

theorem scoreSounding_holds : Rows.ScoreSoundingSaid :=
  OpenClaim.holds_of_wide 6 Try.f6 rfl rfl rfl rfl rfl rfl rfl ⟨rfl, rfl, rfl, rfl, rfl⟩ rfl rfl rfl rfl rfl (by kernel_rfl) Try.func6 (by kernel_rfl)
    (of_decide_eq_true (by kernel_rfl)) (by unfold Func.isWrapper; first | (rw [if_pos (by decide +kernel)]; kernel_rfl) | (rw [if_neg (by decide +kernel)]; exact ⟨rfl, rfl⟩))
    (fun os started H enc _ => scoreSounding_lifted os started H enc)
end Go.Proofs.Ytajicmghnllnmaa
