/-
  Proved: 'SingHeard' returns true for every input and leaves its arguments as they were. No condition.
-/
import Derived.Test.YtigigcbondhmmaaDoorSgNear
set_option linter.unusedVariables false
namespace Go.Proofs.YtigigcbondhmmaaDoor
open Go.RowKit Go.Sx Go.Sx.Sz Go.Sx.Sc Go.Sx.Sg Go.ChangeShapes Go.WideShapes Go.ChangeAt

/-- The first of the first k notes of other voices that is near, or -2. -/
def frsF (s : Sc) (xs : List V6) (n : Nat) (st : Int) (k : Nat) : Int := ((pickL (othB s n) k).find? fun i => decide (needF xs n i ≤ st)).getD (-2)
def aloneB (s : Sc) (n k : Nat) : Bool := (List.range k).all fun i => !othB s n i
theorem alone_succ (s : Sc) (n k : Nat) : aloneB s n (k + 1) = (aloneB s n k && !othB s n k) := by unfold aloneB; rw [List.range_succ, List.all_append]; simp
theorem frs_ge (s : Sc) (xs : List V6) (n : Nat) (st : Int) (k : Nat) : frsF s xs n st k = -2 ∨ 0 ≤ frsF s xs n st k := by
  unfold frsF
  cases h : (pickL (othB s n) k).find? fun i => decide (needF xs n i ≤ st) with
  | none => exact .inl rfl
  | some i =>
    obtain ⟨j, rfl, -⟩ := mem_pickL.1 (List.mem_of_find?_eq_some h)
    right
    simp
theorem frs_succ (s : Sc) (xs : List V6) (n : Nat) (st : Int) (k : Nat) : frsF s xs n st (k + 1) = if frsF s xs n st k = -2 ∧ othB s n k = true ∧ needF xs n k ≤ st then (k : Int) else frsF s xs n st k := by
  have hg := frs_ge s xs n st k
  unfold frsF at hg ⊢
  rw [pickL_succ, List.find?_append]
  cases h : (pickL (othB s n) k).find? fun i => decide (needF xs n i ≤ st) with
  | some i =>
    rw [h] at hg
    obtain ⟨j, rfl, -⟩ := mem_pickL.1 (List.mem_of_find?_eq_some h)
    simp only [Option.getD_some, Option.some_or] at hg ⊢
    rw [if_neg (fun hc => absurd hc.1 (by omega))]
  | none =>
    simp only [Option.none_or, Option.getD_none, true_and]
    by_cases ho : othB s n k = true
    · rw [if_pos ho]
      by_cases hn : needF xs n k ≤ st
      · rw [if_pos ⟨ho, hn⟩]
        simp [hn]
      · rw [if_neg (fun h => hn h.2)]
        simp [hn]
    · rw [if_neg ho, if_neg (fun h => ho h.1)]
      rfl
theorem alone_iff {s : Sc} (hok : ScOk s) {n : Nat} (hn : n < s.notes.length) : aloneB s n s.notes.length = true ↔ othL s n = [] := by
  have hp := oth_pick hok hn
  unfold aloneB
  rw [List.all_eq_true]
  constructor
  · intro h
    have : pickL (othB s n) s.notes.length = [] := by
      rw [List.eq_nil_iff_forall_not_mem]
      intro x hx
      obtain ⟨i, rfl, h1, h2⟩ := mem_pickL.1 hx
      have := h i (List.mem_range.2 h1)
      rw [h2] at this; cases this
    rw [this] at hp
    exact List.map_eq_nil_iff.1 hp
  · intro h i hi
    rw [h] at hp
    cases ho : othB s n i with
    | false => rfl
    | true =>
      have : (i : Int) ∈ pickL (othB s n) s.notes.length := mem_pickL.2 ⟨i, rfl, List.mem_range.1 hi, ho⟩
      rw [← hp] at this; cases this
/-- What the law finds is what From finds. -/
theorem frs_find {s : Sc} (hok : ScOk s) {xs : List V6} {n : Nat} (hn : n < s.notes.length) {st : Int} :
    (aloneB s n s.notes.length = false → findR s xs n st = if frsF s xs n st s.notes.length = -2 then (0, 4) else (frsF s xs n st s.notes.length, 0)) ∧
    (aloneB s n s.notes.length = true → frsF s xs n st s.notes.length = -2 ∧ findR s xs n st = if needF xs n (-1) ≤ st then (-1, 0) else (0, 4)) := by
  have hp := oth_pick hok hn
  constructor
  · intro ha
    have hne : othL s n ≠ [] := fun e => by rw [(alone_iff hok hn).2 e] at ha; cases ha
    have hl : heardL s n = pickL (othB s n) s.notes.length := by unfold heardL; rw [if_neg hne, hp]
    unfold findR frsF
    rw [hl]
    cases h : (pickL (othB s n) s.notes.length).find? fun i => decide (needF xs n i ≤ st) with
    | none => rfl
    | some i =>
      obtain ⟨j, rfl, -⟩ := mem_pickL.1 (List.mem_of_find?_eq_some h)
      simp only [Option.getD_some]
      rw [if_neg (by omega)]
  · intro ha
    have he := (alone_iff hok hn).1 ha
    have hl := heard_alone he
    rw [he] at hp
    refine ⟨by unfold frsF; rw [← hp]; rfl, ?_⟩
    unfold findR
    rw [hl]
    by_cases h : needF xs n (-1) ≤ st
    · rw [if_pos h]; simp [h]
    · rw [if_neg h]; simp [h]

set_option maxRecDepth 100000 in
set_option maxHeartbeats 16000000 in
theorem sghrd_law (vn vp vc vx : Value) (s : Sc) (xs : List V6) (n st : Int) (w : World) (G0 : Gl 0 w) (S : ScR w vn vp vc s) (V : Sl w 6 V6.list vx xs) :
    Calls Tryd.prog 10 #[.agg #[.int .i64 s.voices, vn, vp, vc], vx, .int .i64 n, .int .i64 st] w fun e w' => e = .returned (.bool true) ∧ Ext w w' := by
  obtain ⟨an, cn, rfl, -, -, hln⟩ := S.nt.len
  obtain ⟨ap, cp, rfl, -, -, hlp⟩ := S.pr.len
  obtain ⟨ac, cc, rfl, -, -, hlc⟩ := S.cd.len
  obtain ⟨ax, cx, rfl, -, -, hlx⟩ := V.len
  have X0 : Ext w (w.alloc (.cells #[.int .i64 s.voices, .slice an s.notes.length cn, .slice ap s.pairs.length cp, .slice ac s.cads.length cc] 26)) := (by repeat (first | with_reducible exact Ext.refl _ | with_reducible assumption | with_reducible apply Ext.alloc | with_reducible apply Ext.drew | (with_reducible refine Ext.setCell ?_ (by (try simp) <;> omega) _)))
  have b0_0 := block_new w (.cells #[.int .i64 s.voices, .slice an s.notes.length cn, .slice ap s.pairs.length cp, .slice ac s.cads.length cc] 26)
  obtain ⟨W0, hW0⟩ : ∃ W, (w.alloc (.cells #[.int .i64 s.voices, .slice an s.notes.length cn, .slice ap s.pairs.length cp, .slice ac s.cads.length cc] 26)) = W := ⟨_, rfl⟩
  obtain ⟨B0, hB0⟩ : ∃ B, w.heap.size = B := ⟨_, rfl⟩
  rw [hW0] at X0 b0_0
  rw [hB0] at b0_0
  have HZ0 : Hid (w.heap.size ≤ B0) := Lib.hid (by omega)
  have HW0 := Lib.hid hW0; have HB0 := Lib.hid hB0
  clear hW0 hB0
  have CB := Lib.hid (boxS b0_0)
  have S1 := S.ext X0; have V1 := V.ext X0; have G1 := G0.ext X0
  clear S V G0 b0_0
  go_enter Tryd.func10, Tryd.ntmps10
  go_wp2_with fail
  rw [HW0.out, HB0.out]
  clear HW0 HB0
  refine (head_walk _ G1).mono ?_
  rintro e w1 ⟨rfl, x1⟩
  obtain ⟨c0, c1, c2, c3⟩ := CB.out _ x1
  go_wp2_with fail
  refine (from_walk _ _ _ _ s xs n st _ (G1.ext x1) (S1.ext x1) (V1.ext x1)).mono ?_
  by_cases hb : hallB s xs = true ∧ entryB s n = true ∧ 0 ≤ st ∧ st ≤ 2400000
  case neg =>
    have HF : Hid (fromR s xs n st = (0, 1)) := Lib.hid (from_bad hb)
    rw [HF.out]
    clear hb
    rintro e w2 ⟨rfl, y2⟩
    clear c0 c1 c2 c3
    go_wp2
    go_ret
    exact ⟨by first | rfl | simp, X0.trans (x1.trans y2)⟩
  have hff := from_eq hb.1 hb.2.1 hb.2.2
  obtain ⟨k, rfl, hk, hek⟩ := entry_in hb.2.1
  have HALL := Lib.hid (hallB_iff.1 hb.1)
  have hsb : scB s = true := scB_iff.2 HALL.out.1
  have HSB := Lib.hid hsb
  have hst := hb.2.2
  have hnn := HALL.out.1.sz.2.1
  have FR := Lib.hid (frs_find HALL.out.1 (xs := xs) hk (st := st))
  rw [Int.toNat_natCast] at hff
  have h4 := find_cases s xs k st
  rw [← hff] at FR h4
  obtain ⟨⟨fa, fe⟩, hf⟩ : ∃ r, fromR s xs k st = r := ⟨_, rfl⟩
  rw [hf] at FR h4 ⊢
  have h5 : fe = 0 ∨ fe = 4 := by
    rcases h4 with ⟨i, h⟩ | h
    · simp at h; exact .inl h.2
    · simp at h; exact .inr h.2
  have HFE := Lib.hid h5
  clear hb hff hek hsb hf h4
  rintro e w2 ⟨rfl, y2⟩
  have x2 := x1.trans y2
  clear c0 c1 c2 c3
  obtain ⟨c0, c1, c2, c3⟩ := CB.out _ x2
  have NWK := Lib.hid fun (i : Int) hi w' (y : Ext W0 w') => lnear_walk (.slice ax xs.length cx) xs HALL.out.2.2 k (by rw [HALL.out.2.1]; exact hk) i hi st hst w' (G1.ext y) (V1.ext y)
  have e1 : ((xs.length : Int) != (s.notes.length : Int)) = false := by rw [bne_eq_false_iff_eq]; have := HALL.out.2.1; omega
  have f1 : decide ((k : Int) < 0) = false := decide_eq_false (by omega)
  have f2 : decide (s.notes.length ≤ k) = false := decide_eq_false (by omega)
  obtain ⟨hst1, hst2⟩ := hst
  clear h5
  go_upto_region 3 with fail
  go_cut [30] (fun s30 wx => s30 = .bool false ∧ w2 = wx)
  case first =>
    rcases HFE.out with h | h
    all_goals
      subst h
      go_wp2_with fail
      go_meet
      exact ⟨rfl, rfl⟩
  obtain ⟨rfl, hww⟩ := hcut
  subst hww
  go_wp2_with fail
  refine (scvalid_walk _ _ _ s _ (S1.ext x2)).mono ?_
  rw [HSB.out]
  rintro e W3 ⟨rfl, y3⟩
  have x3 := x2.trans y3
  clear c0 c1 c2 c3
  obtain ⟨c0, c1, c2, c3⟩ := CB.out _ x3
  obtain ⟨b, o, rfl, -⟩ := Sl.nt (S1.nt.ext x3) k hk
  go_wp2
  clear c0 c1 c2 c3 e1 f1 f2
  go_loopw [12, 13, 14] (fun a f i wr => ∃ j : Nat, j ≤ s.notes.length ∧ i = .int .i64 j ∧ a = .bool (aloneB s k j) ∧ f = .int .i64 (frsF s xs k st j) ∧ Ext W3 wr) (fun _ _ i _ => s.notes.length - (intOf i).toNat)
  case atStart => exact ⟨0, by omega, by first | rfl | trivial, by first | rfl | trivial, by first | rfl | trivial, Ext.refl _⟩
  case round =>
    obtain ⟨j, hj, rfl, rfl, rfl, X⟩ := hrel
    have xx := x3.trans X
    obtain ⟨c0, c1, c2, c3⟩ := CB.out _ xx
    by_cases hlt : j < s.notes.length
    · obtain ⟨b', o', e', A⟩ := Sl.nt (S1.nt.ext xx) j hlt
      obtain ⟨rfl, rfl⟩ : b = b' ∧ o = o' := by simpa using e'
      rw [← Sc.N_eq hlt] at A
      have al := alone_succ s k j
      have fs := frs_succ s xs k st j
      have hg := frs_ge s xs k st j
      have hob : othB s k j = (decide ((s.N j).v ≠ (s.N k).v) && (decide ((s.N j).f ≤ (s.N k).f - 1) && decide ((s.N k).f - 1 < (s.N j).u))) := rfl
      have hft := (HALL.out.1.nt.note hk).2.1
      have hut := (HALL.out.1.nt.note hk).2.2.1
      obtain ⟨ba, hba⟩ : ∃ q, aloneB s k j = q := ⟨_, rfl⟩
      obtain ⟨fr, hfr⟩ : ∃ q, frsF s xs k st j = q := ⟨_, rfl⟩
      rw [hba] at al ⊢; rw [hfr] at fs hg ⊢
      obtain ⟨ob, hob'⟩ : ∃ q, othB s k j = q := ⟨_, rfl⟩
      rw [hob'] at al fs hob
      obtain ⟨y, hy⟩ : ∃ y, s.N j = y := ⟨_, rfl⟩
      rw [hy] at A hob
      obtain ⟨q0, q1, q2, q3, q4, q5, q6, q7, q8, q9⟩ := A
      have j1 : (0 : Int) ≤ (j : Int) := by omega
      have j2 : (j : Int) < (s.notes.length : Int) := by omega
      have k1 : (0 : Int) ≤ (k : Int) := by omega
      have k2 : (k : Int) < (s.notes.length : Int) := by omega
      have X5 : Ext wr (wr.alloc (.cells #[.int .i64 y.v, .int .i64 y.f, .int .i64 y.u, .int .i64 y.x.a, .int .i64 y.x.b, .int .i64 y.x.c, .int .i64 y.x.d, .int .i64 y.x.e, .int .i64 y.x.f, .bool y.tied] 43)) := (by repeat (first | with_reducible exact Ext.refl _ | with_reducible assumption | with_reducible apply Ext.alloc | with_reducible apply Ext.drew | (with_reducible refine Ext.setCell ?_ (by (try simp) <;> omega) _)))
      have b5_0 := block_new wr (.cells #[.int .i64 y.v, .int .i64 y.f, .int .i64 y.u, .int .i64 y.x.a, .int .i64 y.x.b, .int .i64 y.x.c, .int .i64 y.x.d, .int .i64 y.x.e, .int .i64 y.x.f, .bool y.tied] 43)
      obtain ⟨W5, hW5⟩ : ∃ W, (wr.alloc (.cells #[.int .i64 y.v, .int .i64 y.f, .int .i64 y.u, .int .i64 y.x.a, .int .i64 y.x.b, .int .i64 y.x.c, .int .i64 y.x.d, .int .i64 y.x.e, .int .i64 y.x.f, .bool y.tied] 43)) = W := ⟨_, rfl⟩
      obtain ⟨B5, hB5⟩ : ∃ B, wr.heap.size = B := ⟨_, rfl⟩
      rw [hW5] at X5 b5_0
      rw [hB5] at b5_0
      have HZ5 : Hid (wr.heap.size ≤ B5) := Lib.hid (by omega)
      have HW5 := Lib.hid hW5; have HB5 := Lib.hid hB5
      clear hW5 hB5
      have X' := X.trans X5
      obtain ⟨b', o', e'', A2⟩ := Sl.nt (S1.nt.ext (x3.trans X')) k hk
      obtain ⟨rfl, rfl⟩ : b = b' ∧ o = o' := by simpa using e''
      rw [← Sc.N_eq hk] at A2
      have p0 := A2.c0; have p1 := A2.c1
      obtain ⟨vk, hvk⟩ : ∃ v, (s.N k).v = v := ⟨_, rfl⟩
      obtain ⟨fk, hfk⟩ : ∃ v, (s.N k).f = v := ⟨_, rfl⟩
      rw [hvk] at p0 hob; rw [hfk] at p1 hob hft
      have E1 : IntKind.i64.wrap (fk - 1) = fk - 1 := IntWalk.i64_in _ (by omega)
      have g0 := ext_cells (block_cell b5_0 0 _ rfl); have g1 := ext_cells (block_cell b5_0 1 _ rfl); have g2 := ext_cells (block_cell b5_0 2 _ rfl)
      have p0 := ext_cells p0; have p1 := ext_cells p1
      obtain ⟨-, d1, -, -⟩ := CB.out _ (x3.trans X')
      have d1 := ext_cells d1
      have NJ := Lib.hid fun w' (y : Ext W5 w') => NWK.out j (.inr (by have := HALL.out.2.1; omega)) w' ((x3.trans X').trans y)
      have HAL := Lib.hid al; have HFS := Lib.hid fs; have HG := Lib.hid hg; have HOB := Lib.hid hob
      clear al fs hg hob hba hfr hob' hy b5_0 A2 e' e'' hvk hfk
      go_upto_region 13 with fail
      rw [HW5.out, HB5.out]
      clear q0 q1 q2 q3 q4 q5 q6 q7 q8 q9 c0 c1 c2 c3 HW5 HB5
      by_cases hv : y.v = vk
      · have e1 : (y.v == vk) = true := by rw [beq_iff_eq]; exact hv
        obtain rfl : ob = false := by rw [HOB.out, decide_eq_false (by simp [hv])]; rfl
        have HT1 : Hid (aloneB s k (j + 1) = ba) := Lib.hid (by rw [HAL.out]; simp)
        have HT2 : Hid (frsF s xs k st (j + 1) = fr) := Lib.hid (by rw [HFS.out, if_neg (fun h => by cases h.2.1)])
        clear hv
        refine wp_region_ord [(0,true), (1,true), (2,true), (3,true), (4,true), (5,true), (6,true), (7,true), (8,true), (9,true), (10,true), (11,true), (12,true), (13,true), (14,true), (15,true), (16,true), (17,true), (18,true), (19,true), (20,true), (21,true), (22,true), (23,true), (24,true), (25,true), (26,true), (27,true), (28,true), (29,true), (30,true), (31,true), (32,true)] 33 Ext (Ext W5) wide (by kernel_rfl) (stable_ext _) (Ext.drawn _ _) ?_
        iterate 33 (first | (apply wpOrd_no rfl; rfl; (simp only [List.getElem_toArray, List.getElem_cons_succ, List.getElem_cons_zero, Act.put, List.setIfInBounds_toArray, List.set_cons_succ, List.set_cons_zero]; rfl)) | (apply wpOrd_yes rfl; rfl; (intro w' hw'; unfold opR; go_simp; exact ⟨Ext.refl _, rfl⟩); (simp only [List.getElem_toArray, List.getElem_cons_succ, List.getElem_cons_zero, Act.put, List.setIfInBounds_toArray, List.set_cons_succ, List.set_cons_zero]; rfl)))
        refine wpOrd_nil rfl ?_
        intro w9 x9
        have X9 := X'.trans x9
        clear g0 g1 g2 p0 p1 d1 E1
        go_wp2
        go_roundw
        case rel => exact ⟨j + 1, by omega, by go_num, by first | trivial | rw [HT1.out], by first | trivial | rw [HT2.out], X9⟩
        case measure => simp [intOf]; omega
      have e1 : (y.v == vk) = false := by rw [beq_eq_false_iff_ne]; exact hv
      by_cases hf : y.f ≤ fk - 1
      case neg =>
        have e2 : decide (fk - 1 < y.f) = true := decide_eq_true (by omega)
        obtain rfl : ob = false := by rw [HOB.out, decide_eq_false hf, Bool.false_and, Bool.and_false]
        have HT1 : Hid (aloneB s k (j + 1) = ba) := Lib.hid (by rw [HAL.out]; simp)
        have HT2 : Hid (frsF s xs k st (j + 1) = fr) := Lib.hid (by rw [HFS.out, if_neg (fun h => by cases h.2.1)])
        clear hv hf
        refine wp_region_ord [(0,true), (1,true), (2,true), (3,true), (4,true), (5,true), (6,true), (7,true), (8,true), (9,true), (10,true), (11,true), (12,true), (13,true), (14,true), (15,true), (16,true), (17,true), (18,true), (19,true), (20,true), (21,true), (22,true), (23,true), (24,true), (25,true), (26,true), (27,true), (28,true), (29,true), (30,true), (31,true), (32,true)] 33 Ext (Ext W5) wide (by kernel_rfl) (stable_ext _) (Ext.drawn _ _) ?_
        iterate 33 (first | (apply wpOrd_no rfl; rfl; (simp only [List.getElem_toArray, List.getElem_cons_succ, List.getElem_cons_zero, Act.put, List.setIfInBounds_toArray, List.set_cons_succ, List.set_cons_zero]; rfl)) | (apply wpOrd_yes rfl; rfl; (intro w' hw'; unfold opR; go_simp; exact ⟨Ext.refl _, rfl⟩); (simp only [List.getElem_toArray, List.getElem_cons_succ, List.getElem_cons_zero, Act.put, List.setIfInBounds_toArray, List.set_cons_succ, List.set_cons_zero]; rfl)))
        refine wpOrd_nil rfl ?_
        intro w9 x9
        have X9 := X'.trans x9
        clear g0 g1 g2 p0 p1 d1 E1
        go_wp2
        go_roundw
        case rel => exact ⟨j + 1, by omega, by go_num, by first | trivial | rw [HT1.out], by first | trivial | rw [HT2.out], X9⟩
        case measure => simp [intOf]; omega
      have e2 : decide (fk - 1 < y.f) = false := decide_eq_false (by omega)
      by_cases hu : fk - 1 < y.u
      case neg =>
        have e3 : decide (y.u ≤ fk - 1) = true := decide_eq_true (by omega)
        obtain rfl : ob = false := by rw [HOB.out, decide_eq_false hu, Bool.and_false, Bool.and_false]
        have HT1 : Hid (aloneB s k (j + 1) = ba) := Lib.hid (by rw [HAL.out]; simp)
        have HT2 : Hid (frsF s xs k st (j + 1) = fr) := Lib.hid (by rw [HFS.out, if_neg (fun h => by cases h.2.1)])
        clear hv hf hu
        refine wp_region_ord [(0,true), (1,true), (2,true), (3,true), (4,true), (5,true), (6,true), (7,true), (8,true), (9,true), (10,true), (11,true), (12,true), (13,true), (14,true), (15,true), (16,true), (17,true), (18,true), (19,true), (20,true), (21,true), (22,true), (23,true), (24,true), (25,true), (26,true), (27,true), (28,true), (29,true), (30,true), (31,true), (32,true)] 33 Ext (Ext W5) wide (by kernel_rfl) (stable_ext _) (Ext.drawn _ _) ?_
        iterate 33 (first | (apply wpOrd_no rfl; rfl; (simp only [List.getElem_toArray, List.getElem_cons_succ, List.getElem_cons_zero, Act.put, List.setIfInBounds_toArray, List.set_cons_succ, List.set_cons_zero]; rfl)) | (apply wpOrd_yes rfl; rfl; (intro w' hw'; unfold opR; go_simp; exact ⟨Ext.refl _, rfl⟩); (simp only [List.getElem_toArray, List.getElem_cons_succ, List.getElem_cons_zero, Act.put, List.setIfInBounds_toArray, List.set_cons_succ, List.set_cons_zero]; rfl)))
        refine wpOrd_nil rfl ?_
        intro w9 x9
        have X9 := X'.trans x9
        clear g0 g1 g2 p0 p1 d1 E1
        go_wp2
        go_roundw
        case rel => exact ⟨j + 1, by omega, by go_num, by first | trivial | rw [HT1.out], by first | trivial | rw [HT2.out], X9⟩
        case measure => simp [intOf]; omega
      have e3 : decide (y.u ≤ fk - 1) = false := decide_eq_false (by omega)
      obtain rfl : ob = true := by rw [HOB.out, decide_eq_true hv, decide_eq_true hf, decide_eq_true hu]; rfl
      have HT1 : Hid (aloneB s k (j + 1) = false) := Lib.hid (by rw [HAL.out]; simp)
      clear hv hf hu
      refine wp_region_ord [(0,true), (1,true), (2,true), (3,true), (4,true), (5,true), (6,true), (7,true), (8,true), (9,true), (10,true), (11,true), (12,true), (13,true), (14,true), (15,true), (16,true), (17,true), (18,true), (19,true), (20,true), (21,true), (22,true), (23,true), (24,true), (25,true), (26,true), (27,true), (28,true), (29,true), (30,true), (31,true), (32,true)] 33 Ext (Ext W5) wide (by kernel_rfl) (stable_ext _) (Ext.drawn _ _) ?_
      iterate 33 (first | (apply wpOrd_no rfl; rfl; (simp only [List.getElem_toArray, List.getElem_cons_succ, List.getElem_cons_zero, Act.put, List.setIfInBounds_toArray, List.set_cons_succ, List.set_cons_zero]; rfl)) | (apply wpOrd_yes rfl; rfl; (intro w' hw'; unfold opR; go_simp; exact ⟨Ext.refl _, rfl⟩); (simp only [List.getElem_toArray, List.getElem_cons_succ, List.getElem_cons_zero, Act.put, List.setIfInBounds_toArray, List.set_cons_succ, List.set_cons_zero]; rfl)))
      refine wpOrd_nil rfl ?_
      intro w9 x9
      have X9 := X'.trans x9
      clear g0 g1 g2 p0 p1 d1 E1 e1 e2 e3
      by_cases hfr2 : fr = -2
      · subst hfr2
        go_wp2_with fail
        refine (NJ.out _ x9).mono ?_
        rintro e w10 ⟨rfl, y10⟩
        have X10 := X9.trans y10
        by_cases hnd : needF xs k j ≤ st
        · have e1 : decide (needF xs k j ≤ st) = true := decide_eq_true hnd
          have HT2 : Hid (frsF s xs k st (j + 1) = j) := Lib.hid (by rw [HFS.out, if_pos ⟨by first | rfl | trivial, by first | rfl | trivial, hnd⟩])
          clear hnd
          go_wp2
          go_roundw
          case rel => exact ⟨j + 1, by omega, by go_num, by first | trivial | rw [HT1.out], by first | trivial | rw [HT2.out], X10⟩
          case measure => simp [intOf]; omega
        · have e1 : decide (needF xs k j ≤ st) = false := decide_eq_false hnd
          have HT2 : Hid (frsF s xs k st (j + 1) = -2) := Lib.hid (by rw [HFS.out, if_neg (fun h => hnd h.2.2)])
          clear hnd
          go_wp2
          go_roundw
          case rel => exact ⟨j + 1, by omega, by go_num, by first | trivial | rw [HT1.out], by first | trivial | rw [HT2.out], X10⟩
          case measure => simp [intOf]; omega
      · have e1 : (fr == -2) = false := by rw [beq_eq_false_iff_ne]; exact hfr2
        have HT2 : Hid (frsF s xs k st (j + 1) = fr) := Lib.hid (by rw [HFS.out, if_neg (fun h => hfr2 h.1)])
        clear hfr2
        go_wp2
        go_roundw
        case rel => exact ⟨j + 1, by omega, by go_num, by first | trivial | rw [HT1.out], by first | trivial | rw [HT2.out], X9⟩
        case measure => simp [intOf]; omega
    · obtain rfl : j = s.notes.length := by omega
      obtain ⟨F1, F2⟩ := FR.out
      obtain ⟨ba, hba⟩ : ∃ q, aloneB s k s.notes.length = q := ⟨_, rfl⟩
      obtain ⟨fr, hfr⟩ : ∃ q, frsF s xs k st s.notes.length = q := ⟨_, rfl⟩
      rw [hba, hfr] at F1 F2
      rw [hba, hfr]
      have F1' := Lib.hid F1; have F2' := Lib.hid F2
      clear F1 F2 hba hfr FR
      have NJ := Lib.hid fun w' (y : Ext wr w') => NWK.out (-1) (.inl rfl) w' (xx.trans y)
      have HX := X0.trans xx
      clear c0 c2 c3
      cases ba with
      | false =>
        have h := F1'.out rfl
        clear F1' F2' NWK
        by_cases h2 : fr = -2
        · rw [if_pos h2] at h
          simp at h
          obtain ⟨rfl, rfl⟩ := h
          subst h2
          go_wp2
          go_ret
          exact ⟨by first | rfl | simp, HX⟩
        · rw [if_neg h2] at h
          simp at h
          obtain ⟨rfl, rfl⟩ := h
          clear h2
          have e1 : (fa == fa) = true := beq_self_eq_true _
          go_wp2
          go_ret
          exact ⟨by first | rfl | simp, HX⟩
      | true =>
        obtain ⟨rfl, h⟩ := F2'.out rfl
        clear F1' F2' NWK
        go_wp2_with fail
        refine (NJ.out _ (Ext.refl _)).mono ?_
        rintro e w10 ⟨rfl, y10⟩
        have HX := HX.trans y10
        by_cases hnd : needF xs k (-1) ≤ st
        · have e1 : decide (needF xs k (-1) ≤ st) = true := decide_eq_true hnd
          rw [if_pos hnd] at h
          simp at h
          obtain ⟨rfl, rfl⟩ := h
          clear hnd
          go_wp2
          go_ret
          exact ⟨by first | rfl | simp, HX⟩
        · have e1 : decide (needF xs k (-1) ≤ st) = false := decide_eq_false hnd
          rw [if_neg hnd] at h
          simp at h
          obtain ⟨rfl, rfl⟩ := h
          clear hnd
          go_wp2
          go_ret
          exact ⟨by first | rfl | simp, HX⟩

theorem singHeard_args (H : Type) (enc : TypeId × Value → H) (W : World) (base : Nat) (vs : List Value) (ds : List (DataW H)) (_ : ∀ k, (OpenSpec.ofChange Rows.singHeardSpec).cond = some k → k H ds = true) (hL : laidMetH Tryd.prog Rows.singHeardRow.laid W) (hA : Args enc Tryd.prog W base Tryd.f10.params.toList vs ds) :
    Calls Tryd.prog 10 vs.toArray W fun e W' => e = .returned (.bool true) ∧ Ext W W' := by
  rw [Tryd.params10] at hA
  obtain ⟨v0, _, d0, _, rfl, rfl, h0, hA⟩ := hA.cons
  obtain ⟨v1, _, d1, _, rfl, rfl, h1, hA⟩ := hA.cons
  obtain ⟨v2, _, d2, _, rfl, rfl, h2, hA⟩ := hA.cons
  obtain ⟨v3, _, d3, _, rfl, rfl, h3, hA⟩ := hA.cons
  obtain ⟨rfl, rfl⟩ := hA.nil
  obtain ⟨s0, vn0, vp0, vc0, rfl, S0⟩ := arg_score h0
  obtain ⟨l1, S1, n1⟩ := arg_vecs h1
  obtain ⟨k2, rfl, b2⟩ := h2.int Tryd.underlying3
  obtain ⟨k3, rfl, b3⟩ := h3.int Tryd.underlying3
  exact sghrd_law _ _ _ _ s0 l1 k2 k3 W (gv_of hL) S0 S1

theorem singHeard_met (os : Os) : laidMet Tryd.prog Rows.singHeardRow.laid ((laidWorld os).forCall (fun _ _ => 0) ⟨#[], #[.agg #[.int .i64 0, .slice none 0 0, .slice none 0 0, .slice none 0 0], .slice none 0 0, .int .i64 0, .int .i64 0], []⟩).memory := laidMet_of_run' 8 (by kernel_rfl) (by kernel_rfl)
theorem singHeard_reads (os : Os) {H : Type} (enc : TypeId × Value → H) : ∃ places, DataW.whole enc Tryd.prog ((laidWorld os).forCall (fun _ _ => 0) ⟨#[], #[.agg #[.int .i64 0, .slice none 0 0, .slice none 0 0, .slice none 0 0], .slice none 0 0, .int .i64 0, .int .i64 0], []⟩).memory Tryd.f10.params.toList Rows.singHeardSpec.vars false #[.agg #[.int .i64 0, .slice none 0 0, .slice none 0 0, .slice none 0 0], .slice none 0 0, .int .i64 0, .int .i64 0].toList 8 = some ([.agg [.lit (.int .i64 0), .nil, .nil, .nil], .nil, .lit (.int .i64 0), .lit (.int .i64 0)], [], places) := ⟨[], by kernel_rfl⟩
set_option maxRecDepth 100000 in
theorem singHeard_lifted (os : Os) (started : os.Started) (H : Type) (enc : TypeId × Value → H) (F : Stop.Interp) :
    ReturnsInHanded {} Tryd.checked os 10 .any ((OpenSpec.ofChange Rows.singHeardSpec).preRow enc Tryd.prog Tryd.f10 Rows.singHeardRow.domain false Rows.singHeardRow.laid) (((OpenSpec.ofChange Rows.singHeardSpec).at F).post enc Tryd.prog Tryd.f10 false true false false) := by
  obtain ⟨places, hx⟩ := singHeard_reads os enc
  exact law_row (C := Tryd.checked) (s := (OpenSpec.ofChange Rows.singHeardSpec)) (by kernel_rfl) started (by kernel_rfl) Tryd.func10
    (witness_row_at (enc := enc) (C := Tryd.checked) false (laidWorld os) #[.agg #[.int .i64 0, .slice none 0 0, .slice none 0 0, .slice none 0 0], .slice none 0 0, .int .i64 0, .int .i64 0] rfl (by kernel_rfl) (by kernel_rfl) (by kernel_rfl) (OpenSpec.preRow_of_cond 8 hx (by kernel_rfl) (fun k hk => by cases hk) (by kernel_rfl) (singHeard_met os)))
    (by kernel_rfl) (by kernel_rfl) (by kernel_rfl) rfl (fun ds h => by match ds, h with | [_, _, _, _], _ => rfl) (singHeard_args H enc)
theorem singHeard_said : Rows.SingHeardSaid :=
  OpenClaim.holds_of_cond 10 Tryd.f10 rfl rfl rfl rfl rfl rfl rfl ⟨rfl, rfl, rfl, rfl, rfl⟩ rfl rfl rfl rfl rfl (by kernel_rfl) Tryd.func10 (by kernel_rfl)
    (of_decide_eq_true (by kernel_rfl)) (by unfold Func.isWrapper; first | (rw [if_pos (by decide +kernel)]; kernel_rfl) | (rw [if_neg (by decide +kernel)]; exact ⟨rfl, rfl⟩))
    (fun os started H enc _ F => by rw [OpenClaim.pre_eq_preRow]; exact singHeard_lifted os started H enc F)
theorem singHeard_plain (f : FuncId) (fn : Func) (hf : Tryd.pinned.checked.prog.funcNamed "schisma/schismalaw22.SingHeard" = some f) (hfn : Tryd.pinned.checked.prog.funcs[f]? = some fn) :
    false = Tryd.pinned.checked.prog.looks [] ∧ ∀ (j : Nat) t, fn.params[j]? = some t → Tryd.pinned.checked.prog.wantsStandIn t = false := by
  obtain rfl : f = 10 := Option.some.inj ((show Tryd.prog.funcNamed "schisma/schismalaw22.SingHeard" = some 10 by kernel_rfl).symm.trans hf) |>.symm
  obtain rfl : fn = Tryd.f10 := (Option.some.inj (Tryd.func10.symm.trans hfn)).symm
  refine ⟨by kernel_rfl, fun j t ht => ?_⟩
  have hall : Tryd.f10.params.all (fun t => !Tryd.prog.wantsStandIn t) = true := by kernel_rfl
  have := (Array.all_eq_true'.1 hall) t (Array.mem_of_getElem? ht)
  have e : Tryd.prog.wantsStandIn t = false := by simpa using this
  exact e
/-- The card. -/
theorem singHeard_holds : Rows.SingHeardCardSaid :=
  Claim7.holds_tied_plain_at .later [] _ _ _ _ singHeard_said (fun _ h => by cases h) (by kernel_rfl) (fun _ h => by cases h) singHeard_row_tie rfl ⟨rfl, rfl⟩ (by kernel_rfl) rfl singHeard_plain (by kernel_rfl)
end Go.Proofs.YtigigcbondhmmaaDoor
