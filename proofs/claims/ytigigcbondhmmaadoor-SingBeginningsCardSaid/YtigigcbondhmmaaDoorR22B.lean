/-
  Walks: schismaref22.Pitches, Entry.
-/
import Derived.Test.YtigigcbondhmmaaDoorR22A
import Derived.Test.YtigigcbondhmmaaDoorSgH
set_option linter.unusedVariables false
namespace Go.Proofs.YtigigcbondhmmaaDoor
open Go.RowKit Go.Sx Go.Sx.Sz Go.Sx.Sc Go.Sx.Sg Go.Sx.Au

set_option maxRecDepth 100000 in
set_option maxHeartbeats 4000000 in
theorem rpitches_walk (vn vp vc vx : Value) (s : Sc) (xs : List V6) (w : World) (S : ScR w vn vp vc s) (R : Sl w 6 V6.list vx xs) : Calls Tryd.prog 31 #[.agg #[.int .i64 s.voices, vn, vp, vc], vx] w fun e w' => e = .returned (.bool (hallB s xs)) ∧ Ext w w' := by
  obtain ⟨an, cn, rfl, -, -, hln⟩ := S.nt.len
  obtain ⟨ap, cp, rfl, -, -, hlp⟩ := S.pr.len
  obtain ⟨ac, cc, rfl, -, -, hlc⟩ := S.cd.len
  obtain ⟨at', ct, rfl, -, -, hlt⟩ := R.len
  have X0 : Ext w (w.alloc (.cells #[.int .i64 s.voices, .slice an s.notes.length cn, .slice ap s.pairs.length cp, .slice ac s.cads.length cc] 26)) := (by repeat (first | with_reducible exact Ext.refl _ | with_reducible assumption | with_reducible apply Ext.alloc | with_reducible apply Ext.drew | (with_reducible refine Ext.setCell ?_ (by (try simp) <;> omega) _)))
  have b0_0 := block_new w (.cells #[.int .i64 s.voices, .slice an s.notes.length cn, .slice ap s.pairs.length cp, .slice ac s.cads.length cc] 26)
  obtain ⟨W0, hW0⟩ : ∃ W, (w.alloc (.cells #[.int .i64 s.voices, .slice an s.notes.length cn, .slice ap s.pairs.length cp, .slice ac s.cads.length cc] 26)) = W := ⟨_, rfl⟩
  obtain ⟨B0, hB0⟩ : ∃ B, w.heap.size = B := ⟨_, rfl⟩
  rw [hW0] at X0 b0_0
  rw [hB0] at b0_0
  have HZ0 : Hid (w.heap.size ≤ B0) := Lib.hid (by omega)
  have HW0 := Lib.hid hW0; have HB0 := Lib.hid hB0
  clear hW0 hB0
  have c0 := block_cell b0_0 0 _ rfl; have c1 := block_cell b0_0 1 _ rfl; have c2 := block_cell b0_0 2 _ rfl; have c3 := block_cell b0_0 3 _ rfl
  have VW := Lib.hid fun w' (y : Ext w w') => rvalid19_walk _ _ _ s w' (S.ext y)
  have HB := Lib.hid b0_0
  cases hok : scB s with
  | false =>
    have HR : Hid (hallB s xs = false) := Lib.hid (hall_no fun h => by rw [h.1] at hok; cases hok)
    have HO := Lib.hid hok
    clear hok b0_0
    go_enter Tryd.func31, Tryd.ntmps31
    go_wp2_with fail
    rw [HW0.out, HB0.out]
    refine (VW.out _ X0).mono ?_
    rw [HO.out]
    rintro e w1 ⟨rfl, x1⟩
    have X1 := X0.trans x1
    clear c0 c1 c2 c3
    go_wp2
    go_ret
    exact ⟨by rw [HR.out] <;> rfl, X1⟩
  | true =>
    have HO := Lib.hid hok
    clear hok b0_0
    go_enter Tryd.func31, Tryd.ntmps31
    go_wp2_with fail
    rw [HW0.out, HB0.out]
    refine (VW.out _ X0).mono ?_
    rw [HO.out]
    rintro e w1 ⟨rfl, x1⟩
    have X1 := X0.trans x1
    have b1 := block_ext x1 HB.out
    clear c0 c1 c2 c3
    have c1 := block_cell b1 1 _ rfl
    have R1 := R.ext X1
    clear x1 b1
    by_cases hl : xs.length = s.notes.length
    · have e1 : ((xs.length : Int) != (s.notes.length : Int)) = false := by rw [bne_eq_false_iff_eq]; omega
      have HL := Lib.hid hl
      clear hl
      go_wp2
      clear c1 e1
      go_loopw [5] (fun i wr => ∃ k : Nat, k ≤ xs.length ∧ i = .int .i64 k ∧ (∀ j (h : j < xs.length), j < k → within xs[j] 48 = true) ∧ Ext w1 wr) (fun i _ => xs.length - (intOf i).toNat)
      case atStart => exact ⟨0, by omega, rfl, fun j h1 h2 => absurd h2 (Nat.not_lt_zero _), Ext.refl _⟩
      case round =>
        obtain ⟨k, hk, rfl, hall, X⟩ := hrel
        have HA := Lib.hid hall
        clear hall
        by_cases hlt' : k < xs.length
        · obtain ⟨bb, oo, rfl, a0, a1, a2, a3, a4, a5⟩ := Sl.vec (R1.ext X) k hlt'
          obtain ⟨z, hz⟩ : ∃ z, xs[k] = z := ⟨_, rfl⟩
          rw [hz] at a0 a1 a2 a3 a4 a5
          have HZ := Lib.hid hz
          have i1 : (0 : Int) ≤ (k : Int) := by omega
          have i2 : (k : Int) < (xs.length : Int) := by omega
          clear hz
          go_wp2_with fail
          refine (rinterval_walk z _).mono ?_
          cases hs : within z 48 with
          | true =>
            have HS := Lib.hid hs
            clear hs
            rintro e w2 ⟨rfl, x2⟩
            have y2 : Ext wr w2 := Ext.trans (by repeat (first | with_reducible exact Ext.refl _ | with_reducible assumption | with_reducible apply Ext.alloc | with_reducible apply Ext.drew | (with_reducible refine Ext.setCell ?_ (by (try simp) <;> omega) _))) x2
            clear a0 a1 a2 a3 a4 a5 x2
            go_wp2
            go_roundw
            case rel => exact ⟨k + 1, by omega, by go_num, fun j h1 h2 => by
              by_cases e : j = k
              · subst e; rw [HZ.out]; exact HS.out
              · exact HA.out j h1 (by omega), X.trans y2⟩
            case measure => simp [intOf] <;> omega
          | false =>
            have HR : Hid (hallB s xs = false) := Lib.hid (hall_no fun h => by
              have := h.2.2 _ (List.getElem_mem hlt')
              rw [HZ.out, hs] at this; cases this)
            clear hs
            rintro e w2 ⟨rfl, x2⟩
            have y2 : Ext wr w2 := Ext.trans (by repeat (first | with_reducible exact Ext.refl _ | with_reducible assumption | with_reducible apply Ext.alloc | with_reducible apply Ext.drew | (with_reducible refine Ext.setCell ?_ (by (try simp) <;> omega) _))) x2
            clear a0 a1 a2 a3 a4 a5 x2
            go_wp2
            go_ret
            exact ⟨by rw [HR.out] <;> rfl, X1.trans (X.trans y2)⟩
        · obtain rfl : k = xs.length := by omega
          have HR : Hid (hallB s xs = true) := Lib.hid (hallB_iff.2 ⟨scB_iff.1 HO.out, HL.out, fun z hz => by
            obtain ⟨j, hj, rfl⟩ := List.getElem_of_mem hz
            exact HA.out j hj hj⟩)
          go_wp2
          go_ret
          exact ⟨by rw [HR.out] <;> rfl, X1.trans X⟩
    · have e1 : ((xs.length : Int) != (s.notes.length : Int)) = true := by rw [bne_iff_ne]; omega
      have HR : Hid (hallB s xs = false) := Lib.hid (hall_no fun h => hl h.2.1)
      clear hl
      go_wp2
      go_ret
      exact ⟨by rw [HR.out] <;> rfl, X1⟩

theorem entry_all' {s : Sc} (hok : ScOk s) {n : Nat} (hn : n < s.notes.length) (ht : (s.N n).tied = false) (h : ∀ j, j < s.notes.length → (s.N j).v = (s.N n).v → sndB s n j = false) : entryN s n = true := by
  refine entry_all ht fun j hj hv => ?_
  have hm := List.getElem_mem hj
  obtain ⟨i, hi⟩ : ∃ i, (sndL s n)[j] = i := ⟨_, rfl⟩
  rw [hi] at hm hv
  rw [snd_all hok.nt hn, List.mem_filter, List.mem_range] at hm
  have := h _ hm.1 hv
  rw [this] at hm; cases hm.2
theorem entry_not' {s : Sc} (hok : ScOk s) {n j : Nat} (hn : n < s.notes.length) (hj : j < s.notes.length) (hv : (s.N j).v = (s.N n).v) (h : sndB s n j = true) : entryN s n = false := by
  have hm : j ∈ sndL s n := by rw [snd_all hok.nt hn, List.mem_filter, List.mem_range]; exact ⟨hj, h⟩
  obtain ⟨i, hi, e⟩ := List.getElem_of_mem hm
  exact entry_not hi (by rw [e]; exact hv)

set_option maxRecDepth 100000 in
set_option maxHeartbeats 4000000 in
theorem rentry_walk (vn vp vc : Value) (s : Sc) (hok : ScOk s) (n : Int) (w : World) (S : ScR w vn vp vc s) : Calls Tryd.prog 28 #[.agg #[.int .i64 s.voices, vn, vp, vc], .int .i64 n] w fun e w' => e = .returned (.bool (entryB s n)) ∧ Ext w w' := by
  have SL := S.nt
  obtain ⟨an, cn, rfl, -, -, hln⟩ := S.nt.len
  obtain ⟨ap, cp, rfl, -, -, hlp⟩ := S.pr.len
  obtain ⟨ac, cc, rfl, -, -, hlc⟩ := S.cd.len
  have X0 : Ext w (w.alloc (.cells #[.int .i64 s.voices, .slice an s.notes.length cn, .slice ap s.pairs.length cp, .slice ac s.cads.length cc] 26)) := (by repeat (first | with_reducible exact Ext.refl _ | with_reducible assumption | with_reducible apply Ext.alloc | with_reducible apply Ext.drew | (with_reducible refine Ext.setCell ?_ (by (try simp) <;> omega) _)))
  have b0_0 := block_new w (.cells #[.int .i64 s.voices, .slice an s.notes.length cn, .slice ap s.pairs.length cp, .slice ac s.cads.length cc] 26)
  obtain ⟨W0, hW0⟩ : ∃ W, (w.alloc (.cells #[.int .i64 s.voices, .slice an s.notes.length cn, .slice ap s.pairs.length cp, .slice ac s.cads.length cc] 26)) = W := ⟨_, rfl⟩
  obtain ⟨B0, hB0⟩ : ∃ B, w.heap.size = B := ⟨_, rfl⟩
  rw [hW0] at X0 b0_0
  rw [hB0] at b0_0
  have HZ0 : Hid (w.heap.size ≤ B0) := Lib.hid (by omega)
  have HW0 := Lib.hid hW0; have HB0 := Lib.hid hB0
  clear hW0 hB0
  have c1 := block_cell b0_0 1 _ rfl
  have HB := Lib.hid b0_0
  clear b0_0
  have hnn := hok.sz.2.1
  have HOK := Lib.hid hok
  by_cases hr : 0 ≤ n ∧ n < s.notes.length
  case neg =>
    have HE : Hid (entryB s n = false) := Lib.hid (by unfold entryB; rw [decide_eq_false hr]; rfl)
    rw [HE.out]
    by_cases h0 : n < 0
    all_goals
      (try (have h1 : (s.notes.length : Int) ≤ n := by omega))
      clear hr hok
      go_enter Tryd.func28, Tryd.ntmps28
      go_wp2_with fail
      rw [HW0.out]
      go_ret
      exact ⟨rfl, X0⟩
  obtain ⟨k, rfl⟩ : ∃ k : Nat, n = (k : Int) := ⟨n.toNat, by omega⟩
  have hk : k < s.notes.length := by omega
  have HEN : Hid (entryB s k = entryN s k) := Lib.hid (by unfold entryB; rw [decide_eq_true hr, Bool.true_and, Int.toNat_natCast])
  rw [HEN.out]
  obtain ⟨b, o, e', A⟩ := Sl.nt (SL.ext X0) k hk
  subst e'
  rw [← Sc.N_eq hk] at A
  have q9 := A.c9
  have i1 : (0 : Int) ≤ (k : Int) := by omega
  have i2 : (k : Int) < (s.notes.length : Int) := by omega
  have f1 : decide ((k : Int) < 0) = false := decide_eq_false (by omega)
  have f2 : decide (s.notes.length ≤ k) = false := decide_eq_false (by omega)
  clear A hr hok
  cases htd : (s.N k).tied with
  | true =>
    have HE : Hid (entryN s k = false) := Lib.hid (by unfold entryN; rw [htd]; rfl)
    rw [htd] at q9
    clear htd
    go_enter Tryd.func28, Tryd.ntmps28
    go_upto_region 1 with fail
    rw [HW0.out, HB0.out]
    go_wp2
    go_ret
    exact ⟨by rw [HE.out] <;> rfl, X0⟩
  | false =>
    have HT := Lib.hid htd
    rw [htd] at q9
    clear htd
    go_enter Tryd.func28, Tryd.ntmps28
    go_upto_region 1 with fail
    rw [HW0.out, HB0.out]
    go_wp2
    clear c1 q9 f1 f2
    go_loopw [5] (fun i wr => ∃ j : Nat, j ≤ s.notes.length ∧ i = .int .i64 j ∧ (∀ m, m < s.notes.length → m < j → (s.N m).v = (s.N k).v → sndB s k m = false) ∧ Ext W0 wr) (fun i _ => s.notes.length - (intOf i).toNat)
    case atStart => exact ⟨0, by omega, rfl, fun m _ h => absurd h (Nat.not_lt_zero _), Ext.refl _⟩
    case round =>
      obtain ⟨j, hj, rfl, hall, X⟩ := hrel
      have hb := block_ext X HB.out
      have HALL := Lib.hid hall
      have XX := X0.trans X
      have c1 := block_cell hb 1 _ rfl
      by_cases hlt : j < s.notes.length
      · obtain ⟨b', o', e', A⟩ := Sl.nt (SL.ext XX) j hlt
        obtain ⟨rfl, rfl⟩ : b = b' ∧ o = o' := by simpa using e'
        rw [← Sc.N_eq hlt] at A
        obtain ⟨b', o', e', A2⟩ := Sl.nt (SL.ext XX) k hk
        obtain ⟨rfl, rfl⟩ : b = b' ∧ o = o' := by simpa using e'
        rw [← Sc.N_eq hk] at A2
        have hno := entry_not' HOK.out hk hlt
        have hft := (HOK.out.nt.note hk).2.1
        have hut := (HOK.out.nt.note hk).2.2.1
        have hsn : sndB s k j = sndP ((s.N k).f - 1) (s.N j) := rfl
        obtain ⟨vk, hvk⟩ : ∃ v, (s.N k).v = v := ⟨_, rfl⟩
        obtain ⟨fk, hfk⟩ : ∃ v, (s.N k).f = v := ⟨_, rfl⟩
        have p0 := A2.c0; have p1 := A2.c1
        rw [hvk] at p0 hno
        rw [hfk] at p1 hft hsn
        obtain ⟨x, hx⟩ : ∃ x, s.N j = x := ⟨_, rfl⟩
        rw [hx] at A hno hsn
        obtain ⟨c, hc⟩ : ∃ c, sndB s k j = c := ⟨_, rfl⟩
        rw [hc] at hno hsn
        have SW := Lib.hid fun w' => sounds_walk x (fk - 1) w'
        rw [← hsn] at SW
        have HX := Lib.hid hx; have HC := Lib.hid hc; have HVK := Lib.hid hvk; have HNO := Lib.hid hno
        have E1 : IntKind.i64.wrap (fk - 1) = fk - 1 := IntWalk.i64_in _ (by omega)
        have j1 : (0 : Int) ≤ (j : Int) := by omega
        have j2 : (j : Int) < (s.notes.length : Int) := by omega
        obtain ⟨q0, q1, q2, q3, q4, q5, q6, q7, q8, q9⟩ := A
        obtain ⟨wo, rfl⟩ : ∃ wo : World, wo = wr := ⟨_, rfl⟩
        have c1' := ext_cells c1
        have p0 := ext_cells p0; have p1 := ext_cells p1
        have q0 := ext_cells q0; have q1 := ext_cells q1; have q2 := ext_cells q2; have q3 := ext_cells q3; have q4 := ext_cells q4; have q5 := ext_cells q5; have q6 := ext_cells q6; have q7 := ext_cells q7; have q8 := ext_cells q8; have q9 := ext_cells q9
        clear hx hc hvk hfk hno hsn hb A2 e' hall
        by_cases hv : x.v = vk
        · have e1 : (x.v == vk) = true := beq_iff_eq.2 hv
          have HV := Lib.hid hv
          clear hv
          go_upto_region 6 with fail
          refine wp_region_ord [(0,true), (1,true), (2,true), (3,true), (4,true), (5,true), (6,true), (7,true), (8,true), (9,true), (10,true), (11,true), (12,true), (13,true), (14,true), (15,true), (16,true), (17,true), (18,true), (19,true), (20,true), (21,true), (22,true), (23,true), (24,true), (25,true), (26,true), (27,true)] 28 Ext (Ext wo) wide (by kernel_rfl) (stable_ext _) (Ext.drawn _ _) ?_
          iterate 26 (first | (apply wpOrd_no rfl; rfl; (simp only [List.getElem_toArray, List.getElem_cons_succ, List.getElem_cons_zero, Act.put, List.setIfInBounds_toArray, List.set_cons_succ, List.set_cons_zero]; rfl)) | (apply wpOrd_yes rfl; rfl; (intro w' hw'; unfold opR; go_simp; exact ⟨Ext.refl _, rfl⟩); (simp only [List.getElem_toArray, List.getElem_cons_succ, List.getElem_cons_zero, Act.put, List.setIfInBounds_toArray, List.set_cons_succ, List.set_cons_zero]; rfl)))
          (apply wpOrd_yes rfl (by rfl); (intro w' hw'; refine opR_call rfl (Go.Proofs.enters_of Tryd.func47 (by kernel_rfl) rfl) (by simp only [List.map_toArray, List.map_cons, List.map_nil, Act.eval, Array.getD_eq_getD_getElem?, List.getElem?_toArray, List.getElem?_cons_succ, List.getElem?_cons_zero, Option.getD_some]; rfl) ?_; refine (SW.out _).mono ?_; rintro e w'' ⟨rfl, hx⟩; exact ⟨_, rfl, hx, rfl⟩); (simp only [List.getElem_toArray, List.getElem_cons_succ, List.getElem_cons_zero, Act.put, List.setIfInBounds_toArray, List.set_cons_succ, List.set_cons_zero]; rfl))
          iterate 1 (first | (apply wpOrd_no rfl; rfl; (simp only [List.getElem_toArray, List.getElem_cons_succ, List.getElem_cons_zero, Act.put, List.setIfInBounds_toArray, List.set_cons_succ, List.set_cons_zero]; rfl)) | (apply wpOrd_yes rfl; rfl; (intro w' hw'; unfold opR; go_simp; exact ⟨Ext.refl _, rfl⟩); (simp only [List.getElem_toArray, List.getElem_cons_succ, List.getElem_cons_zero, Act.put, List.setIfInBounds_toArray, List.set_cons_succ, List.set_cons_zero]; rfl)))
          refine wpOrd_nil rfl ?_
          intro w9 x9
          clear q0 q1 q2 q3 q4 q5 q6 q7 q8 q9 p0 p1 c1 c1'
          cases c with
          | true =>
            have HE := Lib.hid (HNO.out HV.out rfl)
            go_wp2
            go_ret
            exact ⟨by rw [HE.out] <;> rfl, XX.trans x9⟩
          | false =>
            go_wp2
            go_roundw
            case rel => exact ⟨j + 1, by omega, by go_num, fun m hm hmj hmv => by
              by_cases e : m = j
              · subst e; exact HC.out
              · exact HALL.out m hm (by omega) hmv, X.trans x9⟩
            case measure => simp [intOf]; omega
        · have e1 : (x.v == vk) = false := by rw [beq_eq_false_iff_ne]; exact hv
          have HV := Lib.hid hv
          clear hv
          go_upto_region 6 with fail
          refine wp_region_ord [(0,true), (1,true), (2,true), (3,true), (4,true), (5,true), (6,true), (7,true), (8,true), (9,true), (10,true), (11,true), (12,true), (13,true), (14,true), (15,true), (16,true), (17,true), (18,true), (19,true), (20,true), (21,true), (22,true), (23,true), (24,true), (25,true), (26,true), (27,true)] 28 Ext (Ext wo) wide (by kernel_rfl) (stable_ext _) (Ext.drawn _ _) ?_
          iterate 28 (first | (apply wpOrd_no rfl; rfl; (simp only [List.getElem_toArray, List.getElem_cons_succ, List.getElem_cons_zero, Act.put, List.setIfInBounds_toArray, List.set_cons_succ, List.set_cons_zero]; rfl)) | (apply wpOrd_yes rfl; rfl; (intro w' hw'; unfold opR; go_simp; exact ⟨Ext.refl _, rfl⟩); (simp only [List.getElem_toArray, List.getElem_cons_succ, List.getElem_cons_zero, Act.put, List.setIfInBounds_toArray, List.set_cons_succ, List.set_cons_zero]; rfl)))
          refine wpOrd_nil rfl ?_
          intro w9 x9
          clear q0 q1 q2 q3 q4 q5 q6 q7 q8 q9 p0 p1 c1 c1'
          go_wp2
          go_roundw
          case rel => exact ⟨j + 1, by omega, by go_num, fun m hm hmj hmv => by
            by_cases e : m = j
            · subst e; rw [HX.out, HVK.out] at hmv; exact absurd hmv HV.out
            · exact HALL.out m hm (by omega) hmv, X.trans x9⟩
          case measure => simp [intOf]; omega
      · obtain rfl : j = s.notes.length := by omega
        have HE := Lib.hid (entry_all' HOK.out hk HT.out fun m hm hv => hall m hm hm hv)
        clear hall hb
        go_wp2
        go_ret
        exact ⟨by rw [HE.out] <;> rfl, XX⟩
end Go.Proofs.YtigigcbondhmmaaDoor
