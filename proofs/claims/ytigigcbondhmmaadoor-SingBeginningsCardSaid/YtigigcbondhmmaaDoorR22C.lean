/-
  Walks: schismaref22.Heard, Entries, From.
-/
import Derived.Test.YtigigcbondhmmaaDoorR22B
set_option linter.unusedVariables false
namespace Go.Proofs.YtigigcbondhmmaaDoor
open Go.RowKit Go.Sx Go.Sx.Sz Go.Sx.Sc Go.Sx.Sg Go.Sx.Au

def othB (s : Sc) (n i : Nat) : Bool := decide ((s.N i).v ≠ (s.N n).v) && sndB s n i
theorem oth_pick {s : Sc} (hok : ScOk s) {n : Nat} (hn : n < s.notes.length) : (othL s n).map (fun i : Nat => (i : Int)) = pickL (othB s n) s.notes.length := by
  unfold othL pickL othB
  rw [snd_all hok.nt hn, List.filter_filter]

set_option maxRecDepth 100000 in
set_option maxHeartbeats 4000000 in
theorem rheard_walk (vn vp vc : Value) (s : Sc) (hok : ScOk s) (k : Nat) (hk : k < s.notes.length) (w : World) (S : ScR w vn vp vc s) : Calls Tryd.prog 32 #[.agg #[.int .i64 s.voices, vn, vp, vc], .int .i64 k] w fun e w' => ∃ v, e = .returned v ∧ Sl w' 1 encZ v (heardL s k) ∧ Ext w w' := by
  have SL := S.nt
  obtain ⟨an, cn, rfl, -, -, hln⟩ := S.nt.len
  obtain ⟨ap, cp, rfl, -, -, hlp⟩ := S.pr.len
  obtain ⟨ac, cc, rfl, -, -, hlc⟩ := S.cd.len
  have X0 : Ext w (w.alloc (.cells #[.int .i64 s.voices, .slice an s.notes.length cn, .slice ap s.pairs.length cp, .slice ac s.cads.length cc] 26)) := (by repeat (first | with_reducible exact Ext.refl _ | with_reducible assumption | with_reducible apply Ext.alloc | with_reducible apply Ext.drew | (with_reducible refine Ext.setCell ?_ (by (try simp) <;> omega) _)))
  have b0_0 := block_new w (.cells #[.int .i64 s.voices, .slice an s.notes.length cn, .slice ap s.pairs.length cp, .slice ac s.cads.length cc] 26)
  obtain ⟨W0, hW0⟩ : ∃ W, (w.alloc (.cells #[.int .i64 s.voices, .slice an s.notes.length cn, .slice ap s.pairs.length cp, .slice ac s.cads.length cc] 26)) = W := ⟨_, rfl⟩
  obtain ⟨B0, hB0⟩ : ∃ B, w.heap.size = B := ⟨_, rfl⟩
  rw [hW0] at X0 b0_0
  rw [hB0] at b0_0
  have HZ0 : Hid (w.heap.size ≤ B0) := Lib.hid (by omega)
  have HW0 := Lib.hid hW0; have HB0 := Lib.hid hB0
  clear hW0 hB0
  have HB := Lib.hid b0_0
  clear b0_0
  have hnn := hok.sz.2.1
  have HOK := Lib.hid hok
  have HP := Lib.hid (oth_pick hok hk)
  clear hok
  obtain ⟨b, o, e', -⟩ := Sl.nt (SL.ext X0) k hk
  subst e'
  have i1 : (0 : Int) ≤ (k : Int) := by omega
  have i2 : (k : Int) < (s.notes.length : Int) := by omega
  go_enter Tryd.func32, Tryd.ntmps32
  go_upto_region 1 with fail
  rw [HW0.out, HB0.out]
  go_wp2
  go_loopw [5, 6] (fun v i wr => ∃ j : Nat, j ≤ s.notes.length ∧ i = .int .i64 j ∧ OwnR wr W0.heap.size 3 1 encZ v (pickL (othB s k) j) ∧ Ext W0 wr) (fun _ i _ => s.notes.length - (intOf i).toNat)
  case atStart => exact ⟨0, by omega, rfl, OwnR.nil, Ext.refl _⟩
  case round =>
    obtain ⟨j, hj, rfl, own, X⟩ := hrel
    have hb := block_ext X HB.out
    have XX := X0.trans X
    have c1 := block_cell hb 1 _ rfl
    by_cases hlt : j < s.notes.length
    · have HT := Lib.hid (pickL_succ (othB s k) j)
      have hlen := pickL_len (othB s k) j
      obtain ⟨b', o', e', A⟩ := Sl.nt (SL.ext XX) j hlt
      obtain ⟨rfl, rfl⟩ : b = b' ∧ o = o' := by simpa using e'
      rw [← Sc.N_eq hlt] at A
      obtain ⟨b', o', e', A2⟩ := Sl.nt (SL.ext XX) k hk
      obtain ⟨rfl, rfl⟩ : b = b' ∧ o = o' := by simpa using e'
      rw [← Sc.N_eq hk] at A2
      have hft := (HOK.out.nt.note hk).2.1
      have hut := (HOK.out.nt.note hk).2.2.1
      have hsn : sndB s k j = sndP ((s.N k).f - 1) (s.N j) := rfl
      have hob : othB s k j = (decide ((s.N j).v ≠ (s.N k).v) && sndB s k j) := rfl
      obtain ⟨vk, hvk⟩ : ∃ v, (s.N k).v = v := ⟨_, rfl⟩
      obtain ⟨fk, hfk⟩ : ∃ v, (s.N k).f = v := ⟨_, rfl⟩
      have p0 := A2.c0; have p1 := A2.c1
      rw [hvk] at p0 hob
      rw [hfk] at p1 hft hsn
      obtain ⟨x, hx⟩ : ∃ x, s.N j = x := ⟨_, rfl⟩
      rw [hx] at A hsn hob
      obtain ⟨c, hc⟩ : ∃ c, sndB s k j = c := ⟨_, rfl⟩
      rw [hc] at hob hsn
      have SW := Lib.hid fun w' => sounds_walk x (fk - 1) w'
      rw [← hsn] at SW
      have HOB := Lib.hid hob
      have E1 : IntKind.i64.wrap (fk - 1) = fk - 1 := IntWalk.i64_in _ (by omega)
      have j1 : (0 : Int) ≤ (j : Int) := by omega
      have j2 : (j : Int) < (s.notes.length : Int) := by omega
      obtain ⟨q0, q1, q2, q3, q4, q5, q6, q7, q8, q9⟩ := A
      obtain ⟨wo, rfl⟩ : ∃ wo : World, wo = wr := ⟨_, rfl⟩
      have c1' := ext_cells c1
      have p0 := ext_cells p0; have p1 := ext_cells p1
      have q0 := ext_cells q0; have q1 := ext_cells q1; have q2 := ext_cells q2; have q3 := ext_cells q3; have q4 := ext_cells q4; have q5 := ext_cells q5; have q6 := ext_cells q6; have q7 := ext_cells q7; have q8 := ext_cells q8; have q9 := ext_cells q9
      clear hx hc hvk hfk hob hsn hb A2 e'
      by_cases hv : x.v = vk
      · have e1 : (x.v != vk) = false := by rw [bne_eq_false_iff_eq]; exact hv
        have HV : Hid (othB s k j = false) := Lib.hid (by rw [HOB.out, decide_eq_false (by simp [hv])]; rfl)
        clear hv
        go_upto_region 5 with fail
        refine wp_region_ord [(0,true), (1,true), (2,true), (3,true), (4,true), (5,true), (6,true), (7,true), (8,true), (9,true), (10,true), (11,true), (12,true), (13,true), (14,true), (15,true), (16,true), (17,true), (18,true), (19,true), (20,true), (21,true), (22,true), (23,true), (24,true), (25,true), (26,true), (27,true)] 28 Ext (Ext wo) wide (by kernel_rfl) (stable_ext _) (Ext.drawn _ _) ?_
        iterate 28 (first | (apply wpOrd_no rfl; rfl; (simp only [List.getElem_toArray, List.getElem_cons_succ, List.getElem_cons_zero, Act.put, List.setIfInBounds_toArray, List.set_cons_succ, List.set_cons_zero]; rfl)) | (apply wpOrd_yes rfl; rfl; (intro w' hw'; unfold opR; go_simp; exact ⟨Ext.refl _, rfl⟩); (simp only [List.getElem_toArray, List.getElem_cons_succ, List.getElem_cons_zero, Act.put, List.setIfInBounds_toArray, List.set_cons_succ, List.set_cons_zero]; rfl)))
        refine wpOrd_nil rfl ?_
        intro w9 x9
        have own9 := own.ext x9
        clear q0 q1 q2 q3 q4 q5 q6 q7 q8 q9 p0 p1 c1 c1' own
        go_wp2
        go_roundw
        case rel => exact ⟨j + 1, by omega, by go_num, by rw [HT.out, HV.out]; simpa using own9, X.trans x9⟩
        case measure => simp [intOf]; omega
      · have e1 : (x.v != vk) = true := by rw [bne_iff_ne]; exact hv
        have HV : Hid (othB s k j = c) := Lib.hid (by rw [HOB.out, decide_eq_true hv]; rfl)
        clear hv
        go_upto_region 5 with fail
        refine wp_region_ord [(0,true), (1,true), (2,true), (3,true), (4,true), (5,true), (6,true), (7,true), (8,true), (9,true), (10,true), (11,true), (12,true), (13,true), (14,true), (15,true), (16,true), (17,true), (18,true), (19,true), (20,true), (21,true), (22,true), (23,true), (24,true), (25,true), (26,true), (27,true)] 28 Ext (Ext wo) wide (by kernel_rfl) (stable_ext _) (Ext.drawn _ _) ?_
        iterate 26 (first | (apply wpOrd_no rfl; rfl; (simp only [List.getElem_toArray, List.getElem_cons_succ, List.getElem_cons_zero, Act.put, List.setIfInBounds_toArray, List.set_cons_succ, List.set_cons_zero]; rfl)) | (apply wpOrd_yes rfl; rfl; (intro w' hw'; unfold opR; go_simp; exact ⟨Ext.refl _, rfl⟩); (simp only [List.getElem_toArray, List.getElem_cons_succ, List.getElem_cons_zero, Act.put, List.setIfInBounds_toArray, List.set_cons_succ, List.set_cons_zero]; rfl)))
        (apply wpOrd_yes rfl (by rfl); (intro w' hw'; refine opR_call rfl (Go.Proofs.enters_of Tryd.func47 (by kernel_rfl) rfl) (by simp only [List.map_toArray, List.map_cons, List.map_nil, Act.eval, Array.getD_eq_getD_getElem?, List.getElem?_toArray, List.getElem?_cons_succ, List.getElem?_cons_zero, Option.getD_some]; rfl) ?_; refine (SW.out _).mono ?_; rintro e w'' ⟨rfl, hx⟩; exact ⟨_, rfl, hx, rfl⟩); (simp only [List.getElem_toArray, List.getElem_cons_succ, List.getElem_cons_zero, Act.put, List.setIfInBounds_toArray, List.set_cons_succ, List.set_cons_zero]; rfl))
        iterate 1 (first | (apply wpOrd_no rfl; rfl; (simp only [List.getElem_toArray, List.getElem_cons_succ, List.getElem_cons_zero, Act.put, List.setIfInBounds_toArray, List.set_cons_succ, List.set_cons_zero]; rfl)) | (apply wpOrd_yes rfl; rfl; (intro w' hw'; unfold opR; go_simp; exact ⟨Ext.refl _, rfl⟩); (simp only [List.getElem_toArray, List.getElem_cons_succ, List.getElem_cons_zero, Act.put, List.setIfInBounds_toArray, List.set_cons_succ, List.set_cons_zero]; rfl)))
        refine wpOrd_nil rfl ?_
        intro w9 x9
        have own9 := own.ext x9
        have X9 := X.trans x9
        have hsz := X9.size
        clear q0 q1 q2 q3 q4 q5 q6 q7 q8 q9 p0 p1 c1 c1' own
        cases c with
        | true =>
          go_wp2_with (at_builtin; go_must (refine wpList_own1 etz_sg rfl _ _ rfl own9 rfl (j : Int) rfl rfl rfl (by simp [encZ, Value.oneCell']) (by omega) hsz ?_; intro v' w4 hown' hb' happ _))
          go_roundw
          case rel => exact ⟨j + 1, by omega, by go_num, by rw [HT.out, HV.out]; exact hown', Below.trans X9 hb'⟩
          case measure => simp [intOf]; omega
        | false =>
          go_wp2
          go_roundw
          case rel => exact ⟨j + 1, by omega, by go_num, by rw [HT.out, HV.out]; simpa using own9, X9⟩
          case measure => simp [intOf]; omega
    · obtain rfl : j = s.notes.length := by omega
      have hlen := pickL_len (othB s k) s.notes.length
      rw [← HP.out, List.length_map] at hlen
      rw [← HP.out] at own
      have hsz := X.size
      by_cases hz : othL s k = []
      · have HH := Lib.hid (heard_alone hz)
        rw [hz, List.map_nil] at own
        obtain ⟨oa, oc, rfl⟩ := own.len
        have XX' := XX
        clear hz hlen HP
        simp only [List.length_nil] at own ⊢
        go_wp2_with (at_builtin; go_must (refine wpList_own1 etz_sg rfl _ _ rfl own rfl (-1 : Int) rfl rfl rfl (by simp [encZ, Value.oneCell']) (by simp) hsz ?_; intro v' w4 hown' hb' happ _))
        refine bodyPost_ret (v := v') (by simp [results, Tryd.results32, go_sem]) rfl ⟨_, rfl, ?_, X0.trans (Below.trans X hb')⟩
        rw [HH.out]
        exact hown'.sl (fun _ _ => rfl) (by simp)
      · have HH : Hid (heardL s k = (othL s k).map fun i : Nat => (i : Int)) := Lib.hid (by unfold heardL; rw [if_neg hz])
        have hpos : 0 < (othL s k).length := List.length_pos_iff.2 hz
        obtain ⟨oa, oc, rfl⟩ := own.len
        have S7 := own.sl (fun _ _ => rfl) (by rw [List.length_map]; omega)
        rw [List.length_map] at S7 own ⊢
        obtain ⟨m, hm⟩ : ∃ m, (othL s k).length = m := ⟨_, rfl⟩
        rw [hm] at S7 own hpos ⊢
        have e1 : ((m : Int) == 0) = false := by rw [beq_eq_false_iff_ne]; omega
        clear hz own hm hlen
        go_wp2
        refine bodyPost_ret (v := .slice oa m oc) (by simp [results, Tryd.results32, go_sem]) rfl ⟨_, rfl, ?_, XX⟩
        rw [HH.out]
        exact S7

set_option maxRecDepth 100000 in
set_option maxHeartbeats 4000000 in
theorem rentries_walk (vn vp vc : Value) (s : Sc) (w : World) (S : ScR w vn vp vc s) : Calls Tryd.prog 13 #[.agg #[.int .i64 s.voices, vn, vp, vc]] w fun e w' => ∃ v, e = .returned (.tuple #[v, .int .i64 (entriesR s).2]) ∧ Sl w' 1 encZ v (entriesR s).1 ∧ Ext w w' := by
  have VW := Lib.hid fun w' (y : Ext w w') => rvalid19_walk vn vp vc s w' (S.ext y)
  have EN := Lib.hid fun (hok : ScOk s) k w' (y : Ext w w') => rentry_walk vn vp vc s hok k w' (S.ext y)
  obtain ⟨an, cn, rfl, -, -, hln⟩ := S.nt.len
  obtain ⟨ap, cp, rfl, -, -, hlp⟩ := S.pr.len
  obtain ⟨ac, cc, rfl, -, -, hlc⟩ := S.cd.len
  have X0 : Ext w (w.alloc (.cells #[.int .i64 s.voices, .slice an s.notes.length cn, .slice ap s.pairs.length cp, .slice ac s.cads.length cc] 26)) := (by repeat (first | with_reducible exact Ext.refl _ | with_reducible assumption | with_reducible apply Ext.alloc | with_reducible apply Ext.drew | (with_reducible refine Ext.setCell ?_ (by (try simp) <;> omega) _)))
  have b0_0 := block_new w (.cells #[.int .i64 s.voices, .slice an s.notes.length cn, .slice ap s.pairs.length cp, .slice ac s.cads.length cc] 26)
  obtain ⟨W0, hW0⟩ : ∃ W, (w.alloc (.cells #[.int .i64 s.voices, .slice an s.notes.length cn, .slice ap s.pairs.length cp, .slice ac s.cads.length cc] 26)) = W := ⟨_, rfl⟩
  obtain ⟨B0, hB0⟩ : ∃ B, w.heap.size = B := ⟨_, rfl⟩
  rw [hW0] at X0 b0_0
  rw [hB0] at b0_0
  have HZ0 : Hid (w.heap.size ≤ B0) := Lib.hid (by omega)
  have HW0 := Lib.hid hW0; have HB0 := Lib.hid hB0
  clear hW0 hB0
  have HB := Lib.hid fun w' (y : Ext W0 w') => block_ext y b0_0
  clear b0_0
  cases hok : scB s with
  | false =>
    have HR : Hid (entriesR s = ([], 1)) := Lib.hid (by unfold entriesR; rw [hok]; rfl)
    have HO := Lib.hid hok
    clear hok
    rw [HR.out]
    go_enter Tryd.func13, Tryd.ntmps13
    go_wp2_with fail
    refine (VW.out _ (by repeat (first | with_reducible exact Ext.refl _ | with_reducible assumption | with_reducible apply Ext.alloc | with_reducible apply Ext.drew | (with_reducible refine Ext.setCell ?_ (by (try simp) <;> omega) _)))).mono ?_
    rw [HO.out]
    rintro e w1 ⟨rfl, x1⟩
    have X1 : Ext w w1 := Ext.trans (by repeat (first | with_reducible exact Ext.refl _ | with_reducible assumption | with_reducible apply Ext.alloc | with_reducible apply Ext.drew | (with_reducible refine Ext.setCell ?_ (by (try simp) <;> omega) _))) x1
    go_wp2
    refine bodyPost_ret (v := .tuple #[.slice none 0 0, .int .i64 1]) (by simp [results, Tryd.results13, go_sem]) rfl ⟨_, rfl, Sl.nil _ _ _, X1⟩
  | true =>
    have HR : Hid (entriesR s = (pickL (entryN s) s.notes.length, 0)) := Lib.hid (by unfold entriesR; rw [hok]; rfl)
    have HO := Lib.hid hok
    have HOK := Lib.hid (scB_iff.1 hok)
    have hnn := (scB_iff.1 hok).sz.2.1
    clear hok
    rw [HR.out]
    go_enter Tryd.func13, Tryd.ntmps13
    go_wp2_with fail
    rw [HW0.out, HB0.out]
    refine (VW.out _ X0).mono ?_
    rw [HO.out]
    rintro e W1 ⟨rfl, x1⟩
    have X1 := X0.trans x1
    clear HW0 HB0
    go_wp2
    go_loopw [4, 5] (fun v i wr => ∃ k : Nat, k ≤ s.notes.length ∧ i = .int .i64 k ∧ OwnR wr W1.heap.size 3 1 encZ v (pickL (entryN s) k) ∧ Ext W1 wr) (fun _ i _ => s.notes.length - (intOf i).toNat)
    case atStart => exact ⟨0, by omega, rfl, OwnR.nil, Ext.refl _⟩
    case round =>
      obtain ⟨k, hk, rfl, own, X⟩ := hrel
      have hb := HB.out _ (x1.trans X)
      by_cases hlt : k < s.notes.length
      · have HT := Lib.hid (pickL_succ (entryN s) k)
        have hlen := pickL_len (entryN s) k
        have c0 := block_cell hb 0 _ rfl; have c1 := block_cell hb 1 _ rfl; have c2 := block_cell hb 2 _ rfl; have c3 := block_cell hb 3 _ rfl
        clear hb
        have EW := Lib.hid (EN.out HOK.out k wr (X1.trans X))
        have HEN := Lib.hid (entry_nat hlt)
        go_wp2_with fail
        refine EW.out.mono ?_
        rw [HEN.out]
        obtain ⟨c, hc⟩ : ∃ c, entryN s k = c := ⟨_, rfl⟩
        rw [hc] at HT ⊢
        clear hc EW HEN
        rintro e w3 ⟨rfl, x3⟩
        have own1 := own.ext x3
        have X3 := X.trans x3
        have hsz := X3.size
        clear c0 c1 c2 c3 own x3
        cases c with
        | true =>
          go_wp2_with (at_builtin; go_must (refine wpList_own1 etz_sg rfl _ _ rfl own1 rfl (k : Int) rfl rfl rfl (by simp [encZ, Value.oneCell']) (by omega) hsz ?_; intro v' w4 hown' hb' happ _))
          go_roundw
          case rel => exact ⟨k + 1, by omega, by go_num, by rw [HT.out]; exact hown', Below.trans X3 hb'⟩
          case measure => simp [intOf]; omega
        | false =>
          go_wp2
          go_roundw
          case rel => exact ⟨k + 1, by omega, by go_num, by rw [HT.out]; simpa using own1, X3⟩
          case measure => simp [intOf]; omega
      · obtain rfl : k = s.notes.length := by omega
        have hlen := pickL_len (entryN s) s.notes.length
        have S7 := own.sl (fun _ _ => rfl) (by omega)
        have XX := X1.trans X
        have c1 := block_cell hb 1 _ rfl
        clear own hb
        go_wp2
        exact bodyPost_ret (v := .tuple #[u4, .int .i64 0]) (by simp [results, Tryd.results13, go_sem]) rfl ⟨u4, rfl, S7, XX⟩

set_option maxRecDepth 100000 in
set_option maxHeartbeats 4000000 in
theorem rfrom_walk (vn vp vc vx : Value) (s : Sc) (xs : List V6) (n st : Int) (w : World) (S : ScR w vn vp vc s) (R : Sl w 6 V6.list vx xs) : Calls Tryd.prog 16 #[.agg #[.int .i64 s.voices, vn, vp, vc], vx, .int .i64 n, .int .i64 st] w fun e w' => e = .returned (.tuple #[.int .i64 (fromR s xs n st).1, .int .i64 (fromR s xs n st).2]) ∧ Ext w w' := by
  have VW := Lib.hid fun w' (y : Ext w w') => rpitches_walk vn vp vc vx s xs w' (S.ext y) (R.ext y)
  have EN := Lib.hid fun (hok : ScOk s) k w' (y : Ext w w') => rentry_walk vn vp vc s hok k w' (S.ext y)
  have HE' := Lib.hid fun (hok : ScOk s) k hk w' (y : Ext w w') => rheard_walk vn vp vc s hok k hk w' (S.ext y)
  obtain ⟨an, cn, rfl, -, -, hln⟩ := S.nt.len
  obtain ⟨ap, cp, rfl, -, -, hlp⟩ := S.pr.len
  obtain ⟨ac, cc, rfl, -, -, hlc⟩ := S.cd.len
  obtain ⟨ax, cx, rfl, -, -, hlx⟩ := R.len
  have X0 : Ext w (w.alloc (.cells #[.int .i64 s.voices, .slice an s.notes.length cn, .slice ap s.pairs.length cp, .slice ac s.cads.length cc] 26)) := (by repeat (first | with_reducible exact Ext.refl _ | with_reducible assumption | with_reducible apply Ext.alloc | with_reducible apply Ext.drew | (with_reducible refine Ext.setCell ?_ (by (try simp) <;> omega) _)))
  have b0_0 := block_new w (.cells #[.int .i64 s.voices, .slice an s.notes.length cn, .slice ap s.pairs.length cp, .slice ac s.cads.length cc] 26)
  obtain ⟨W0, hW0⟩ : ∃ W, (w.alloc (.cells #[.int .i64 s.voices, .slice an s.notes.length cn, .slice ap s.pairs.length cp, .slice ac s.cads.length cc] 26)) = W := ⟨_, rfl⟩
  obtain ⟨B0, hB0⟩ : ∃ B, w.heap.size = B := ⟨_, rfl⟩
  rw [hW0] at X0 b0_0
  rw [hB0] at b0_0
  have HZ0 : Hid (w.heap.size ≤ B0) := Lib.hid (by omega)
  have HW0 := Lib.hid hW0; have HB0 := Lib.hid hB0
  clear hW0 hB0
  have HB := Lib.hid fun w' (y : Ext W0 w') => block_ext y b0_0
  have c0 := block_cell b0_0 0 _ rfl; have c1 := block_cell b0_0 1 _ rfl; have c2 := block_cell b0_0 2 _ rfl; have c3 := block_cell b0_0 3 _ rfl
  clear b0_0
  go_enter Tryd.func16, Tryd.ntmps16
  go_wp2_with fail
  rw [HW0.out, HB0.out]
  clear HW0 HB0
  refine (VW.out _ X0).mono ?_
  cases hv : hallB s xs with
  | false =>
    have HR : Hid (fromR s xs n st = (0, 1)) := Lib.hid (from_bad fun h => by rw [hv] at h; cases h.1)
    clear hv
    rintro e w1 ⟨rfl, x1⟩
    have X1 := X0.trans x1
    clear c0 c1 c2 c3
    go_wp2
    exact bodyPost_ret (v := .tuple #[.int .i64 0, .int .i64 1]) (by simp [results, Tryd.results16, go_sem]) rfl ⟨by rw [HR.out] <;> rfl, X1⟩
  | true =>
  have HV := Lib.hid (hallB_iff.1 hv)
  have HV1 := Lib.hid hv
  clear hv
  rintro e w1 ⟨rfl, x1⟩
  have X1 := X0.trans x1
  clear c0 c1 c2 c3
  have b1 := HB.out _ x1
  have c0 := block_cell b1 0 _ rfl; have c1 := block_cell b1 1 _ rfl; have c2 := block_cell b1 2 _ rfl; have c3 := block_cell b1 3 _ rfl
  clear b1
  go_wp2_with fail
  refine (EN.out HV.out.1 n _ X1).mono ?_
  cases he : entryB s n with
  | false =>
    have HR : Hid (fromR s xs n st = (0, 1)) := Lib.hid (from_bad fun h => by rw [he] at h; cases h.2.1)
    clear he
    rintro e w2 ⟨rfl, x2⟩
    have X2 := X1.trans x2
    clear c0 c1 c2 c3
    go_wp2
    exact bodyPost_ret (v := .tuple #[.int .i64 0, .int .i64 1]) (by simp [results, Tryd.results16, go_sem]) rfl ⟨by rw [HR.out] <;> rfl, X2⟩
  | true =>
  have HE := Lib.hid he
  clear he
  rintro e w2 ⟨rfl, x2⟩
  have X2 := X1.trans x2
  clear c0 c1 c2 c3
  have b2 := HB.out _ (x1.trans x2)
  have c0 := block_cell b2 0 _ rfl; have c1 := block_cell b2 1 _ rfl; have c2 := block_cell b2 2 _ rfl; have c3 := block_cell b2 3 _ rfl
  clear b2
  by_cases hst : 0 ≤ st ∧ st ≤ 2400000
  case neg =>
    have HR : Hid (fromR s xs n st = (0, 1)) := Lib.hid (from_bad fun h => hst h.2.2)
    by_cases h0 : st < 0
    all_goals
      (try (have h1 : 2400000 < st := by omega))
      clear hst
      go_wp2
      exact bodyPost_ret (v := .tuple #[.int .i64 0, .int .i64 1]) (by simp [results, Tryd.results16, go_sem]) rfl ⟨by rw [HR.out] <;> rfl, X2⟩
  have HR : Hid (fromR s xs n st = findR s xs n.toNat st) := Lib.hid (by unfold fromR; rw [if_pos ⟨HV1.out, HE.out, hst⟩])
  obtain ⟨k, rfl, hk, hek⟩ := entry_in HE.out
  rw [Int.toNat_natCast] at HR
  have f1 : decide (st < 0) = false := decide_eq_false (by omega)
  have f2 : decide (2400000 < st) = false := decide_eq_false (by omega)
  clear hek
  go_wp2_with fail
  refine (HE'.out HV.out.1 k hk _ X2).mono ?_
  rintro e W3 ⟨v, rfl, L3, x3⟩
  have X3 := X2.trans x3
  obtain ⟨al, cl, rfl, -, -, hl2⟩ := L3.len
  clear c0 c1 c2 c3 f1 f2
  go_wp2
  go_loopw [11] (fun i wr => ∃ j : Nat, j ≤ (heardL s k).length ∧ i = .int .i64 j ∧ (∀ m, (hm : m < (heardL s k).length) → m < j → ¬ needF xs k (heardL s k)[m] ≤ st) ∧ Ext W3 wr) (fun i _ => (heardL s k).length - (intOf i).toNat)
  case atStart => exact ⟨0, by omega, rfl, fun m _ h => absurd h (Nat.not_lt_zero _), Ext.refl _⟩
  case round =>
    obtain ⟨j, hj, rfl, hall, X⟩ := hrel
    by_cases hlt : j < (heardL s k).length
    · obtain ⟨bb, oo, rfl, a0⟩ := Sl.num (L3.ext X) j hlt
      have hir := heard_range hk hlt
      have hat := fun h => find_at hlt h hall
      obtain ⟨i, hi⟩ : ∃ i, (heardL s k)[j] = i := ⟨_, rfl⟩
      rw [hi] at hir hat a0
      obtain ⟨r, hr⟩ : ∃ r, needF xs k i = r := ⟨_, rfl⟩
      have NI := Lib.hid (rneed_walk _ xs HV.out.2.2 k (by rw [HV.out.2.1]; exact hk) i (by rcases hir with h | h; exact .inl h; exact .inr (by have := HV.out.2.1; omega)) wr (R.ext (X3.trans X)))
      rw [hr] at NI hat
      have HI := Lib.hid hi; have HR' := Lib.hid hr; have HAT := Lib.hid hat; have HALL := Lib.hid hall
      have i1 : (0 : Int) ≤ (j : Int) := by omega
      have i2 : (j : Int) < ((heardL s k).length : Int) := by omega
      clear hat hall hi hir hr
      go_wp2_with fail
      refine NI.out.mono ?_
      rintro e w5 ⟨rfl, x5⟩
      have XX := X3.trans (X.trans x5)
      have a5 := x5.cell a0
      clear a0
      by_cases hv : r ≤ st
      · have HF := Lib.hid (HAT.out hv)
        go_wp2
        exact bodyPost_ret (v := .tuple #[.int .i64 i, .int .i64 0]) (by simp [results, Tryd.results16, go_sem]) rfl ⟨by rw [HR.out, HF.out] <;> rfl, XX⟩
      · have HV2 := Lib.hid hv
        go_wp2
        go_roundw
        case rel =>
          have hjj := hlt
          exact ⟨j + 1, by omega, by go_num, fun m hm hmj => by
            by_cases e : m = j
            · subst e; rw [HI.out, HR'.out]; exact Int.not_le.2 HV2.out
            · exact Int.not_le.2 (HALL.out m hm (by omega)), X.trans x5⟩
        case measure => simp [intOf]; omega
    · obtain rfl : j = (heardL s k).length := by omega
      have HF := Lib.hid (find_no fun m hm => hall m hm hm)
      have XX := X3.trans X
      clear hall
      go_wp2
      exact bodyPost_ret (v := .tuple #[.int .i64 0, .int .i64 4]) (by simp [results, Tryd.results16, go_sem]) rfl ⟨by rw [HR.out, HF.out] <;> rfl, XX⟩
end Go.Proofs.YtigigcbondhmmaaDoor
