/-
  Proved: 'SingEntries' returns true for every input and leaves its arguments as they were. No condition.
-/
import Derived.Test.YtigigcbondhmmaaDoorSgStp0
set_option linter.unusedVariables false
namespace Go.Proofs.YtigigcbondhmmaaDoor
open Go.RowKit Go.Sx Go.Sx.Sz Go.Sx.Sc Go.Sx.Sg Go.ChangeShapes Go.WideShapes Go.ChangeAt

def firT (s : Sc) (n j : Nat) : Bool := !decide ((s.N j).v = (s.N n).v) || decide (n ≤ j)
def endT (s : Sc) (n j : Nat) : Bool := decide ((s.N j).v = (s.N n).v) && decide ((s.N j).u = (s.N n).f)
def souT (s : Sc) (n j : Nat) : Bool := decide ((s.N j).v = (s.N n).v) && (decide ((s.N j).f < (s.N n).f) && decide ((s.N n).f ≤ (s.N j).u))
def firB (s : Sc) (n k : Nat) : Bool := (List.range k).all (firT s n)
def endB (s : Sc) (n k : Nat) : Bool := (List.range k).any (endT s n)
def souB (s : Sc) (n k : Nat) : Bool := (List.range k).any (souT s n)
theorem firB_succ (s : Sc) (n k : Nat) : firB s n (k + 1) = (firB s n k && firT s n k) := by unfold firB; rw [List.range_succ, List.all_append]; simp
theorem endB_succ (s : Sc) (n k : Nat) : endB s n (k + 1) = (endB s n k || endT s n k) := by unfold endB; rw [List.range_succ, List.any_append]; simp
theorem souB_succ (s : Sc) (n k : Nat) : souB s n (k + 1) = (souB s n k || souT s n k) := by unfold souB; rw [List.range_succ, List.any_append]; simp
theorem fir_entry {s : Sc} (h : ScOk s) {n : Nat} (hn : n < s.notes.length) (hb : firB s n s.notes.length = true) : entryN s n = true := by
  refine entry_first h hn fun i hi hv => ?_
  unfold firB at hb
  have := List.all_eq_true.1 hb i (List.mem_range.2 hi)
  unfold firT at this
  rw [decide_eq_true hv] at this
  simpa using this
theorem sou_entry {s : Sc} (h : ScOk s) {n : Nat} (hn : n < s.notes.length) (he : entryN s n = true) : souB s n s.notes.length = false ∧ (s.N n).tied = false := by
  obtain ⟨h1, h2⟩ := (entry_iff h.nt hn).1 he
  refine ⟨?_, h1⟩
  cases hb : souB s n s.notes.length with
  | false => rfl
  | true =>
    exfalso
    unfold souB at hb
    obtain ⟨i, hi, ht⟩ := List.any_eq_true.1 hb
    unfold souT at ht
    simp only [Bool.and_eq_true, decide_eq_true_eq] at ht
    exact h2 ⟨i, List.mem_range.1 hi, ht.1, ht.2.1, ht.2.2⟩
theorem end_entry {s : Sc} (h : ScOk s) {n : Nat} (hn : n < s.notes.length) (he : entryN s n = false) : (s.N n).tied = true ∨ endB s n s.notes.length = true := by
  cases ht : (s.N n).tied with
  | true => exact .inl rfl
  | false =>
    right
    obtain ⟨i, hi, h1, h2⟩ := entry_ends h hn he ht
    unfold endB
    rw [List.any_eq_true]
    exact ⟨i, List.mem_range.2 hi, by unfold endT; rw [decide_eq_true h1, decide_eq_true h2]; rfl⟩
theorem mem_entry {s : Sc} {n : Nat} (hn : n < s.notes.length) : decide ((n : Int) ∈ pickL (entryN s) s.notes.length) = entryN s n := by
  cases h : entryN s n with
  | true => exact decide_eq_true (mem_pickL.2 ⟨n, rfl, hn, h⟩)
  | false =>
    refine decide_eq_false fun hm => ?_
    obtain ⟨i, hi, h1, h2⟩ := mem_pickL.1 hm
    obtain rfl : n = i := by omega
    rw [h] at h2; cases h2

set_option maxRecDepth 100000 in
set_option maxHeartbeats 16000000 in
theorem sgent_law (vn vp vc : Value) (s : Sc) (n : Int) (w : World) (G0 : Gl 0 w) (S : ScR w vn vp vc s) :
    Calls Tryd.prog 4 #[.agg #[.int .i64 s.voices, vn, vp, vc], .int .i64 n] w fun e w' => e = .returned (.bool true) ∧ Ext w w' := by
  obtain ⟨an, cn, rfl, -, -, hln⟩ := S.nt.len
  obtain ⟨ap, cp, rfl, -, -, hlp⟩ := S.pr.len
  obtain ⟨ac, cc, rfl, -, -, hlc⟩ := S.cd.len
  have X0 : Ext w (w.alloc (.cells #[.int .i64 s.voices, .slice an s.notes.length cn, .slice ap s.pairs.length cp, .slice ac s.cads.length cc] 26)) := (by repeat (first | with_reducible exact Ext.refl _ | with_reducible assumption | with_reducible apply Ext.alloc | with_reducible apply Ext.drew | (with_reducible refine Ext.setCell ?_ (by (try simp) <;> omega) _)))
  have b0_0 := block_new w (.cells #[.int .i64 s.voices, .slice an s.notes.length cn, .slice ap s.pairs.length cp, .slice ac s.cads.length cc] 26)
  obtain ⟨W0, hW0⟩ : ∃ W, (w.alloc (.cells #[.int .i64 s.voices, .slice an s.notes.length cn, .slice ap s.pairs.length cp, .slice ac s.cads.length cc] 26)) = W := ⟨_, rfl⟩
  obtain ⟨B0, hB0⟩ : ∃ B, w.heap.size = B := ⟨_, rfl⟩
  rw [hW0] at X0 b0_0
  rw [hB0] at b0_0
  have HZ0 : Hid (w.heap.size ≤ B0) := Lib.hid (by omega)
  have HW0 := Lib.hid hW0; have HB0 := Lib.hid hB0
  clear hW0 hB0
  have CB := Lib.hid (boxS b0_0)
  have S1 := S.ext X0; have G1 := G0.ext X0
  clear S G0 b0_0
  go_enter Tryd.func4, Tryd.ntmps4
  go_wp2_with fail
  rw [HW0.out, HB0.out]
  clear HW0 HB0
  refine (head_walk _ G1).mono ?_
  rintro e w1 ⟨rfl, x1⟩
  obtain ⟨c0, c1, c2, c3⟩ := CB.out _ x1
  go_wp2_with fail
  refine (scvalid_walk _ _ _ s _ (S1.ext x1)).mono ?_
  cases hok : scB s with
  | false =>
    clear hok
    rintro e w2 ⟨rfl, y2⟩
    clear c0 c1 c2 c3
    go_wp2
    go_ret
    exact ⟨rfl, X0.trans (x1.trans y2)⟩
  | true =>
  have HOK := Lib.hid (scB_iff.1 hok)
  have HER : Hid (entriesR s = (pickL (entryN s) s.notes.length, 0)) := Lib.hid (by unfold entriesR; rw [hok]; rfl)
  have hnn := (scB_iff.1 hok).sz.2.1
  clear hok
  rintro e w2 ⟨rfl, y2⟩
  have x2 := x1.trans y2
  clear c0 c1 c2 c3
  obtain ⟨c0, c1, c2, c3⟩ := CB.out _ x2
  by_cases hr : 0 ≤ n ∧ n < s.notes.length
  case neg =>
    by_cases h0 : n < 0
    all_goals
      (try (have h1 : (s.notes.length : Int) ≤ n := by omega))
      clear hr
      go_wp2
      go_ret
      exact ⟨rfl, X0.trans x2⟩
  obtain ⟨k, rfl⟩ : ∃ k : Nat, n = (k : Int) := ⟨n.toNat, by omega⟩
  have hk : k < s.notes.length := by omega
  have f1 : decide ((k : Int) < 0) = false := decide_eq_false (by omega)
  have f2 : decide (s.notes.length ≤ k) = false := decide_eq_false (by omega)
  clear hr
  go_wp2_with fail
  refine (entries_walk _ _ _ s _ (S1.ext x2)).mono ?_
  rw [HER.out]
  rintro e w3 ⟨v3, rfl, L3, y3⟩
  have x3 := x2.trans y3
  clear c0 c1 c2 c3
  obtain ⟨c0, c1, c2, c3⟩ := CB.out _ x3
  obtain ⟨b, o, rfl, A⟩ := Sl.nt (S1.nt.ext x3) k hk
  rw [← Sc.N_eq hk] at A
  have MEM := Lib.hid (mem_entry hk)
  have FE := Lib.hid (fir_entry HOK.out hk)
  have SE := Lib.hid (sou_entry HOK.out hk)
  have EE := Lib.hid (end_entry HOK.out hk)
  have FS := Lib.hid (firB_succ s k); have ES := Lib.hid (endB_succ s k); have SS := Lib.hid (souB_succ s k)
  have FT : Hid (∀ j, firT s k j = (!decide ((s.N j).v = (s.N k).v) || decide (k ≤ j))) := Lib.hid fun j => rfl
  have ET : Hid (∀ j, endT s k j = (decide ((s.N j).v = (s.N k).v) && decide ((s.N j).u = (s.N k).f))) := Lib.hid fun j => rfl
  have ST : Hid (∀ j, souT s k j = (decide ((s.N j).v = (s.N k).v) && (decide ((s.N j).f < (s.N k).f) && decide ((s.N k).f ≤ (s.N j).u)))) := Lib.hid fun j => rfl
  obtain ⟨x, hx⟩ : ∃ x, s.N k = x := ⟨_, rfl⟩
  simp only [hx] at FT ET ST SE EE
  rw [hx] at A
  clear hx
  obtain ⟨q0, q1, q2, q3, q4, q5, q6, q7, q8, q9⟩ := A
  have i1 : (0 : Int) ≤ (k : Int) := by omega
  have i2 : (k : Int) < (s.notes.length : Int) := by omega
  have X4 : Ext w3 (w3.alloc (.cells #[.int .i64 x.v, .int .i64 x.f, .int .i64 x.u, .int .i64 x.x.a, .int .i64 x.x.b, .int .i64 x.x.c, .int .i64 x.x.d, .int .i64 x.x.e, .int .i64 x.x.f, .bool x.tied] 43)) := (by repeat (first | with_reducible exact Ext.refl _ | with_reducible assumption | with_reducible apply Ext.alloc | with_reducible apply Ext.drew | (with_reducible refine Ext.setCell ?_ (by (try simp) <;> omega) _)))
  have b4_0 := block_new w3 (.cells #[.int .i64 x.v, .int .i64 x.f, .int .i64 x.u, .int .i64 x.x.a, .int .i64 x.x.b, .int .i64 x.x.c, .int .i64 x.x.d, .int .i64 x.x.e, .int .i64 x.x.f, .bool x.tied] 43)
  obtain ⟨W4, hW4⟩ : ∃ W, (w3.alloc (.cells #[.int .i64 x.v, .int .i64 x.f, .int .i64 x.u, .int .i64 x.x.a, .int .i64 x.x.b, .int .i64 x.x.c, .int .i64 x.x.d, .int .i64 x.x.e, .int .i64 x.x.f, .bool x.tied] 43)) = W := ⟨_, rfl⟩
  obtain ⟨B4, hB4⟩ : ∃ B, w3.heap.size = B := ⟨_, rfl⟩
  rw [hW4] at X4 b4_0
  rw [hB4] at b4_0
  have HZ4 : Hid (w3.heap.size ≤ B4) := Lib.hid (by omega)
  have HW4 := Lib.hid hW4; have HB4 := Lib.hid hB4
  clear hW4 hB4
  have XB := Lib.hid fun w' (y : Ext W4 w') => block_ext y b4_0
  have x4 := x3.trans X4
  have L4 := L3.ext X4
  obtain ⟨al, cl, rfl, -, -, hll⟩ := L4.len
  have hpl := pickL_len (entryN s) s.notes.length
  clear b4_0 L3
  go_upto_region 8 with fail
  rw [HW4.out, HB4.out]
  clear q0 q1 q2 q3 q4 q5 q6 q7 q8 q9 c0 c1 c2 c3 f1 f2 HW4 HB4
  go_wp2
  go_loopw [9, 10, 11, 12] (fun f9 f10 f11 i wr => ∃ j : Nat, j ≤ s.notes.length ∧ i = .int .i64 j ∧ f9 = .bool (firB s k j) ∧ f10 = .bool (endB s k j) ∧ f11 = .bool (souB s k j) ∧ Ext W4 wr) (fun _ _ _ i _ => s.notes.length - (intOf i).toNat)
  case atStart => exact ⟨0, by omega, rfl, rfl, rfl, rfl, Ext.refl _⟩
  case round =>
    obtain ⟨j, hj, rfl, rfl, rfl, rfl, X⟩ := hrel
    obtain ⟨c0, c1, c2, c3⟩ := CB.out _ (x4.trans X)
    by_cases hlt : j < s.notes.length
    · obtain ⟨b', o', e', A⟩ := Sl.nt (S1.nt.ext (x4.trans X)) j hlt
      obtain ⟨rfl, rfl⟩ : b = b' ∧ o = o' := by simpa using e'
      rw [← Sc.N_eq hlt] at A
      have fs := FS.out j; have es := ES.out j; have ss := SS.out j
      rw [FT.out j] at fs; rw [ET.out j] at es; rw [ST.out j] at ss
      obtain ⟨y, hy⟩ : ∃ y, s.N j = y := ⟨_, rfl⟩
      rw [hy] at A fs es ss
      obtain ⟨b9, h9⟩ : ∃ q, firB s k j = q := ⟨_, rfl⟩
      obtain ⟨b10, h10⟩ : ∃ q, endB s k j = q := ⟨_, rfl⟩
      obtain ⟨b11, h11⟩ : ∃ q, souB s k j = q := ⟨_, rfl⟩
      rw [h9] at fs ⊢; rw [h10] at es ⊢; rw [h11] at ss ⊢
      clear h9 h10 h11 hy
      obtain ⟨q0, q1, q2, q3, q4, q5, q6, q7, q8, q9⟩ := A
      have j1 : (0 : Int) ≤ (j : Int) := by omega
      have j2 : (j : Int) < (s.notes.length : Int) := by omega
      have X5 : Ext wr (wr.alloc (.cells #[.int .i64 y.v, .int .i64 y.f, .int .i64 y.u, .int .i64 y.x.a, .int .i64 y.x.b, .int .i64 y.x.c, .int .i64 y.x.d, .int .i64 y.x.e, .int .i64 y.x.f, .bool y.tied] 43)) := (by repeat (first | with_reducible exact Ext.refl _ | with_reducible assumption | with_reducible apply Ext.alloc | with_reducible apply Ext.drew | (with_reducible refine Ext.setCell ?_ (by (try simp) <;> omega) _)))
      have b5_0 := block_new wr (.cells #[.int .i64 y.v, .int .i64 y.f, .int .i64 y.u, .int .i64 y.x.a, .int .i64 y.x.b, .int .i64 y.x.c, .int .i64 y.x.d, .int .i64 y.x.e, .int .i64 y.x.f, .bool y.tied] 43)
      obtain ⟨W5, hW5⟩ : ∃ W, (wr.alloc (.cells #[.int .i64 y.v, .int .i64 y.f, .int .i64 y.u, .int .i64 y.x.a, .int .i64 y.x.b, .int .i64 y.x.c, .int .i64 y.x.d, .int .i64 y.x.e, .int .i64 y.x.f, .bool y.tied] 43)) = W := ⟨_, rfl⟩
      obtain ⟨B5, hB5⟩ : ∃ B, wr.heap.size = B := ⟨_, rfl⟩
      rw [hW5] at X5 b5_0
      rw [hB5] at b5_0
      have HZ5 : Hid (wr.heap.size ≤ B5) := Lib.hid (by omega)
      have HW5 := Lib.hid hW5; have HB5 := Lib.hid hB5
      clear hW5 hB5
      have X' := X.trans X5
      have hb := XB.out _ X'
      have d0 := block_cell hb 0 _ rfl; have d1 := block_cell hb 1 _ rfl
      have g0 := block_cell b5_0 0 _ rfl; have g1 := block_cell b5_0 1 _ rfl; have g2 := block_cell b5_0 2 _ rfl
      clear hb b5_0
      go_upto_region 15 with fail
      rw [HW5.out, HB5.out]
      clear q0 q1 q2 q3 q4 q5 q6 q7 q8 q9 c0 c1 c2 c3 HW5 HB5
      by_cases hv : y.v = x.v
      · have e1 : (y.v == x.v) = true := by rw [beq_iff_eq]; exact hv
        rw [decide_eq_true hv] at fs es ss
        simp only [Bool.not_true, Bool.false_or, Bool.true_and] at fs es ss
        clear hv
        obtain ⟨t1, ht1⟩ : ∃ t, decide (k ≤ j) = t := ⟨_, rfl⟩
        obtain ⟨t2, ht2⟩ : ∃ t, decide (y.u = x.f) = t := ⟨_, rfl⟩
        obtain ⟨t3, ht3⟩ : ∃ t, decide (y.f < x.f) = t := ⟨_, rfl⟩
        obtain ⟨t4, ht4⟩ : ∃ t, decide (x.f ≤ y.u) = t := ⟨_, rfl⟩
        have e2 : (y.u == x.f) = t2 := by rw [← ht2]; rfl
        rw [ht1] at fs; rw [ht2] at es; rw [ht3, ht4] at ss
        have FS' := Lib.hid fs; have ES' := Lib.hid es; have SS' := Lib.hid ss
        clear fs es ss ht2
        cases b9 <;> cases b10 <;> cases b11 <;> cases t3
        all_goals
          go_wp2
          go_roundw
          case rel => exact ⟨j + 1, by omega, by go_num, by rw [FS'.out] <;> first | rfl | simp, by rw [ES'.out] <;> first | rfl | simp, by rw [SS'.out] <;> first | rfl | simp, X'⟩
          case measure => simp [intOf]; omega
      · have e1 : (y.v == x.v) = false := by rw [beq_eq_false_iff_ne]; exact hv
        rw [decide_eq_false hv] at fs es ss
        simp only [Bool.not_false, Bool.true_or, Bool.and_true, Bool.false_and, Bool.or_false] at fs es ss
        have FS' := Lib.hid fs; have ES' := Lib.hid es; have SS' := Lib.hid ss
        clear fs es ss hv
        go_wp2
        go_roundw
        case rel => exact ⟨j + 1, by omega, by go_num, by rw [FS'.out], by rw [ES'.out], by rw [SS'.out], X'⟩
        case measure => simp [intOf]; omega
    · obtain rfl : j = s.notes.length := by omega
      have fe := FE.out; have se := SE.out; have ee := EE.out; have mem := MEM.out
      obtain ⟨b9, h9⟩ : ∃ q, firB s k s.notes.length = q := ⟨_, rfl⟩
      obtain ⟨b10, h10⟩ : ∃ q, endB s k s.notes.length = q := ⟨_, rfl⟩
      obtain ⟨b11, h11⟩ : ∃ q, souB s k s.notes.length = q := ⟨_, rfl⟩
      obtain ⟨en, hen⟩ : ∃ q, entryN s k = q := ⟨_, rfl⟩
      obtain ⟨td, htd⟩ : ∃ q, x.tied = q := ⟨_, rfl⟩
      rw [h9] at fe ⊢; rw [h10] at ee ⊢; rw [h11] at se ⊢
      rw [hen] at fe se ee mem; rw [htd] at se ee
      rw [htd] at XB
      have FE' := Lib.hid fe; have SE' := Lib.hid se; have EE' := Lib.hid ee; have MEM' := Lib.hid mem
      clear fe se ee mem h9 h10 h11 hen htd FE SE EE MEM FS ES SS FT ET ST
      obtain ⟨W5, rfl⟩ : ∃ z : World, z = wr := ⟨_, rfl⟩
      have x5 := x4.trans X
      have L5 := L4.ext X
      have XB5 := Lib.hid fun w' (y : Ext W5 w') => XB.out w' (X.trans y)
      clear XB L4 c0 c2 c3
      go_wp2
      clear c1
      go_loopw [14] (fun i wr => ∃ q : Nat, q ≤ (pickL (entryN s) s.notes.length).length ∧ i = .int .i64 q ∧ Ext W5 wr) (fun i _ => (pickL (entryN s) s.notes.length).length - (intOf i).toNat)
      case atStart => exact ⟨0, by omega, rfl, Ext.refl _⟩
      case round =>
        obtain ⟨q, hq, rfl, X⟩ := hrel
        have xx := x5.trans X
        by_cases hlt : q < (pickL (entryN s) s.notes.length).length
        · obtain ⟨bb, oo, e', a0⟩ := Sl.num (L5.ext X) q hlt
          subst e'
          obtain ⟨m, hm, hml, hmq⟩ := pickL_at hlt
          rw [hm] at a0
          have i3 : (0 : Int) ≤ (q : Int) := by omega
          have i4 : (q : Int) < ((pickL (entryN s) s.notes.length).length : Int) := by omega
          have f1 : decide ((m : Int) < 0) = false := decide_eq_false (by omega)
          have f2 : decide (s.notes.length ≤ m) = false := decide_eq_false (by omega)
          obtain ⟨c0, c1, c2, c3⟩ := CB.out _ xx
          have c1 := ext_cells c1
          obtain ⟨wo, rfl⟩ : ∃ wo : World, wo = wr := ⟨_, rfl⟩
          clear c0 c2 c3
          by_cases hk0 : q = 0
          · subst hk0
            rw [Nat.add_zero] at a0
            have a0 := ext_cells a0
            clear hm hmq
            go_upto_region 22 with fail
            refine wp_region_ord [(0,true), (1,true), (2,true), (3,true), (4,true), (5,true), (6,true), (7,true), (8,true), (9,true), (10,true), (11,true), (12,true), (13,true), (14,true), (15,true), (16,true), (17,true), (18,true), (19,true), (20,true), (21,true), (22,true), (23,true), (24,true), (25,true), (26,true), (27,true), (28,true), (29,true), (30,true)] 31 Ext (Ext wo) wide (by kernel_rfl) (stable_ext _) (Ext.drawn _ _) ?_
            iterate 31 (first | (apply wpOrd_no rfl; rfl; (simp only [List.getElem_toArray, List.getElem_cons_succ, List.getElem_cons_zero, Act.put, List.setIfInBounds_toArray, List.set_cons_succ, List.set_cons_zero]; rfl)) | (apply wpOrd_yes rfl; rfl; (intro w' hw'; unfold opR; go_simp; exact ⟨Ext.refl _, rfl⟩); (simp only [List.getElem_toArray, List.getElem_cons_succ, List.getElem_cons_zero, Act.put, List.setIfInBounds_toArray, List.set_cons_succ, List.set_cons_zero]; rfl)))
            refine wpOrd_nil rfl ?_
            intro w9 x9
            clear a0 c1
            go_wp2
            go_roundw
            case rel => exact ⟨1, by omega, by first | rfl | go_num, X.trans x9⟩
            case measure => simp [intOf]; omega
          · obtain ⟨p, rfl⟩ : ∃ p, q = p + 1 := ⟨q - 1, by omega⟩
            have hlt' := pickL_lt (entryN s) s.notes.length hlt
            obtain ⟨bb', oo', e', a1⟩ := Sl.num (L5.ext X) p (by omega)
            obtain ⟨rfl, rfl⟩ : bb = bb' ∧ oo = oo' := by simpa using e'
            rw [hm] at hlt'
            obtain ⟨z, hz⟩ : ∃ z, (pickL (entryN s) s.notes.length)[p] = z := ⟨_, rfl⟩
            rw [hz] at a1 hlt'
            obtain ⟨q, hqp⟩ : ∃ q, q = p + 1 := ⟨_, rfl⟩
            rw [← hqp] at a0 i3 i4 hlt hq ⊢
            have E1 : IntKind.i64.wrap ((q : Int) - 1) = (p : Int) := by rw [IntWalk.i64_in _ (by omega)]; omega
            have f0 : decide (0 < q) = true := decide_eq_true (by omega)
            have f3 : decide ((m : Int) ≤ z) = false := decide_eq_false (by omega)
            have i5 : (0 : Int) ≤ (p : Int) := by omega
            have i6 : (p : Int) < ((pickL (entryN s) s.notes.length).length : Int) := by omega
            have a0 := ext_cells a0
            have a1 := ext_cells a1
            clear hm hmq hz hlt' hqp hk0 e'
            go_upto_region 22 with fail
            refine wp_region_ord [(0,true), (1,true), (2,true), (3,true), (4,true), (5,true), (6,true), (7,true), (8,true), (9,true), (10,true), (11,true), (12,true), (13,true), (14,true), (15,true), (16,true), (17,true), (18,true), (19,true), (20,true), (21,true), (22,true), (23,true), (24,true), (25,true), (26,true), (27,true), (28,true), (29,true), (30,true)] 31 Ext (Ext wo) wide (by kernel_rfl) (stable_ext _) (Ext.drawn _ _) ?_
            iterate 31 (first | (apply wpOrd_no rfl; rfl; (simp only [List.getElem_toArray, List.getElem_cons_succ, List.getElem_cons_zero, Act.put, List.setIfInBounds_toArray, List.set_cons_succ, List.set_cons_zero]; rfl)) | (apply wpOrd_yes rfl; rfl; (intro w' hw'; unfold opR; go_simp; exact ⟨Ext.refl _, rfl⟩); (simp only [List.getElem_toArray, List.getElem_cons_succ, List.getElem_cons_zero, Act.put, List.setIfInBounds_toArray, List.set_cons_succ, List.set_cons_zero]; rfl)))
            refine wpOrd_nil rfl ?_
            intro w9 x9
            clear a0 a1 E1 f0 f1 c1
            go_wp2
            go_roundw
            case rel => exact ⟨q + 1, by omega, by go_num, X.trans x9⟩
            case measure => simp [intOf]; omega
        · obtain rfl : q = (pickL (entryN s) s.notes.length).length := by omega
          go_upto_region 24 with fail
          go_wp2_with fail
          refine (has_walk _ _ k _ (L5.ext X)).mono ?_
          rw [MEM'.out]
          rintro e w7 ⟨rfl, y7⟩
          have HX := Lib.hid (X0.trans (xx.trans y7))
          have hb := XB5.out _ (X.trans y7)
          have d9 := block_cell hb 9 (.bool td) rfl
          clear hb XB5
          cases en with
          | true =>
            obtain ⟨hs, ht⟩ := SE'.out rfl
            subst hs; subst ht
            clear FE' EE' SE' MEM'
            cases b9 <;> go_wp2 <;> go_ret <;> exact ⟨by first | rfl | simp, HX.out⟩
          | false =>
            have h9 : b9 = false := by cases b9 with | false => rfl | true => exact (FE'.out rfl).symm
            subst h9
            rcases EE'.out rfl with h | h
            all_goals
              subst h
              clear FE' EE' SE' MEM'
            · go_wp2
              go_ret
              exact ⟨by first | rfl | simp, HX.out⟩
            · cases td <;> go_wp2 <;> go_ret <;> exact ⟨by first | rfl | simp, HX.out⟩

theorem singEntries_args (H : Type) (enc : TypeId × Value → H) (W : World) (base : Nat) (vs : List Value) (ds : List (DataW H)) (_ : ∀ k, (OpenSpec.ofChange Rows.singEntriesSpec).cond = some k → k H ds = true) (hL : laidMetH Tryd.prog Rows.singEntriesRow.laid W) (hA : Args enc Tryd.prog W base Tryd.f4.params.toList vs ds) :
    Calls Tryd.prog 4 vs.toArray W fun e W' => e = .returned (.bool true) ∧ Ext W W' := by
  rw [Tryd.params4] at hA
  obtain ⟨v0, _, d0, _, rfl, rfl, h0, hA⟩ := hA.cons
  obtain ⟨v1, _, d1, _, rfl, rfl, h1, hA⟩ := hA.cons
  obtain ⟨rfl, rfl⟩ := hA.nil
  obtain ⟨s0, vn0, vp0, vc0, rfl, S0⟩ := arg_score h0
  obtain ⟨k1, rfl, b1⟩ := h1.int Tryd.underlying3
  exact sgent_law _ _ _ s0 k1 W (gv_of hL) S0

theorem singEntries_met (os : Os) : laidMet Tryd.prog Rows.singEntriesRow.laid ((laidWorld os).forCall (fun _ _ => 0) ⟨#[], #[.agg #[.int .i64 0, .slice none 0 0, .slice none 0 0, .slice none 0 0], .int .i64 0], []⟩).memory := laidMet_of_run' 8 (by kernel_rfl) (by kernel_rfl)
theorem singEntries_reads (os : Os) {H : Type} (enc : TypeId × Value → H) : ∃ places, DataW.whole enc Tryd.prog ((laidWorld os).forCall (fun _ _ => 0) ⟨#[], #[.agg #[.int .i64 0, .slice none 0 0, .slice none 0 0, .slice none 0 0], .int .i64 0], []⟩).memory Tryd.f4.params.toList Rows.singEntriesSpec.vars false #[.agg #[.int .i64 0, .slice none 0 0, .slice none 0 0, .slice none 0 0], .int .i64 0].toList 8 = some ([.agg [.lit (.int .i64 0), .nil, .nil, .nil], .lit (.int .i64 0)], [], places) := ⟨[], by kernel_rfl⟩
set_option maxRecDepth 100000 in
theorem singEntries_lifted (os : Os) (started : os.Started) (H : Type) (enc : TypeId × Value → H) (F : Stop.Interp) :
    ReturnsInHanded {} Tryd.checked os 4 .any ((OpenSpec.ofChange Rows.singEntriesSpec).preRow enc Tryd.prog Tryd.f4 Rows.singEntriesRow.domain false Rows.singEntriesRow.laid) (((OpenSpec.ofChange Rows.singEntriesSpec).at F).post enc Tryd.prog Tryd.f4 false true false false) := by
  obtain ⟨places, hx⟩ := singEntries_reads os enc
  exact law_row (C := Tryd.checked) (s := (OpenSpec.ofChange Rows.singEntriesSpec)) (by kernel_rfl) started (by kernel_rfl) Tryd.func4
    (witness_row_at (enc := enc) (C := Tryd.checked) false (laidWorld os) #[.agg #[.int .i64 0, .slice none 0 0, .slice none 0 0, .slice none 0 0], .int .i64 0] rfl (by kernel_rfl) (by kernel_rfl) (by kernel_rfl) (OpenSpec.preRow_of_cond 8 hx (by kernel_rfl) (fun k hk => by cases hk) (by kernel_rfl) (singEntries_met os)))
    (by kernel_rfl) (by kernel_rfl) (by kernel_rfl) rfl (fun ds h => by match ds, h with | [_, _], _ => rfl) (singEntries_args H enc)
theorem singEntries_said : Rows.SingEntriesSaid :=
  OpenClaim.holds_of_cond 4 Tryd.f4 rfl rfl rfl rfl rfl rfl rfl ⟨rfl, rfl, rfl, rfl, rfl⟩ rfl rfl rfl rfl rfl (by kernel_rfl) Tryd.func4 (by kernel_rfl)
    (of_decide_eq_true (by kernel_rfl)) (by unfold Func.isWrapper; first | (rw [if_pos (by decide +kernel)]; kernel_rfl) | (rw [if_neg (by decide +kernel)]; exact ⟨rfl, rfl⟩))
    (fun os started H enc _ F => by rw [OpenClaim.pre_eq_preRow]; exact singEntries_lifted os started H enc F)
theorem singEntries_plain (f : FuncId) (fn : Func) (hf : Tryd.pinned.checked.prog.funcNamed "schisma/schismalaw22.SingEntries" = some f) (hfn : Tryd.pinned.checked.prog.funcs[f]? = some fn) :
    false = Tryd.pinned.checked.prog.looks [] ∧ ∀ (j : Nat) t, fn.params[j]? = some t → Tryd.pinned.checked.prog.wantsStandIn t = false := by
  obtain rfl : f = 4 := Option.some.inj ((show Tryd.prog.funcNamed "schisma/schismalaw22.SingEntries" = some 4 by kernel_rfl).symm.trans hf) |>.symm
  obtain rfl : fn = Tryd.f4 := (Option.some.inj (Tryd.func4.symm.trans hfn)).symm
  refine ⟨by kernel_rfl, fun j t ht => ?_⟩
  have hall : Tryd.f4.params.all (fun t => !Tryd.prog.wantsStandIn t) = true := by kernel_rfl
  have := (Array.all_eq_true'.1 hall) t (Array.mem_of_getElem? ht)
  have e : Tryd.prog.wantsStandIn t = false := by simpa using this
  exact e
/-- The card. -/
theorem singEntries_holds : Rows.SingEntriesCardSaid :=
  Claim7.holds_tied_plain_at .later [] _ _ _ _ singEntries_said (fun _ h => by cases h) (by kernel_rfl) (fun _ h => by cases h) singEntries_row_tie rfl ⟨rfl, rfl⟩ (by kernel_rfl) rfl singEntries_plain (by kernel_rfl)
end Go.Proofs.YtigigcbondhmmaaDoor
