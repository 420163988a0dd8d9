/-
  Walks of schismaref23: Up, product.
-/
import Derived.Test.YtbemjekkojgbpaaGreatDoorR23A
import Derived.Test.YtbemjekkojgbpaaGreatDoorLibR
import Derived.Test.YtbemjekkojgbpaaGreatDoorLibC
set_option linter.unusedVariables false
namespace Go.Sx.Po
open Go.Sx.Sz Go.Sx.Sc
def wnP (a b : Int) (p : Pr) : Bool := decide (p.a = a) && decide (p.b = b)
/-- The interval of the pair of two notes, or the unison. -/
def wnF (s : Sc) (a b : Int) : V6 := match s.pairs.find? (wnP a b) with
  | some p => p.want
  | none => V6.zero
theorem wn_hit {s : Sc} {a b : Int} {k : Nat} (hk : k < s.pairs.length) (h1 : wnP a b s.pairs[k] = true) (h2 : ∀ x ∈ s.pairs.take k, wnP a b x = false) : wnF s a b = (s.P k).want := by
  have hf : s.pairs.find? (wnP a b) = some s.pairs[k] := List.find?_eq_some_iff_getElem.2 ⟨h1, k, hk, rfl, fun j hj => by
    have hm : s.pairs[j]'(by omega) ∈ s.pairs.take k := by
      rw [show s.pairs[j]'(by omega) = (s.pairs.take k)[j]'(by rw [List.length_take]; omega) by rw [List.getElem_take]]
      exact List.getElem_mem _
    rw [h2 _ hm]; rfl⟩
  unfold wnF; rw [hf, Sc.P_eq hk]
theorem wn_miss {s : Sc} {a b : Int} (h2 : ∀ x ∈ s.pairs.take s.pairs.length, wnP a b x = false) : wnF s a b = V6.zero := by
  unfold wnF
  rw [List.take_length] at h2
  rw [List.find?_eq_none.2 (fun x hx => by rw [h2 x hx]; simp)]
/-- Of a note whose parent step is a pair's: its interval. -/
theorem wn_up {s : Sc} (hok : ScOk s) {n : Nat} (h : (upF s n).k = 2) : wnF s (upF s n).a n = wantF s n := by
  have ht : ¬ (s.N n).tied = true := fun ht => by
    unfold upF at h; rw [if_pos ht] at h; simp at h
  cases hp : purF s n with
  | none => unfold upF at h; rw [if_neg ht, hp] at h; simp at h
  | some p =>
    obtain ⟨hm, hb, -⟩ := pur_some hp
    have hu : (upF s n).a = p.a := by unfold upF; rw [if_neg ht, hp]
    have hw : wantF s n = p.want := by unfold wantF; rw [if_neg ht, hp]
    rw [hu, hw]
    unfold wnF
    cases hf : s.pairs.find? (wnP p.a n) with
    | none =>
      have := List.find?_eq_none.1 hf p hm
      unfold wnP at this
      rw [decide_eq_true rfl, decide_eq_true hb] at this
      simp at this
    | some q =>
      have hq := List.mem_of_find?_eq_some hf
      have hq2 := List.find?_some hf
      unfold wnP at hq2
      rw [Bool.and_eq_true, decide_eq_true_eq, decide_eq_true_eq] at hq2
      simp only
      rw [pair_one hok hq hm hq2.1 (hq2.2.trans hb.symm)]
theorem up_hit {s : Sc} {n k : Nat} (ht : (s.N n).tied = false) (hk : k < s.pairs.length) (h1 : purP n s.pairs[k] = true) (h2 : ∀ x ∈ s.pairs.take k, purP n x = false) : upF s n = ⟨s.pairs[k].a, n, 2⟩ := by
  have hf : s.pairs.find? (purP n) = some s.pairs[k] := List.find?_eq_some_iff_getElem.2 ⟨h1, k, hk, rfl, fun j hj => by
    have hm : s.pairs[j]'(by omega) ∈ s.pairs.take k := by
      rw [show s.pairs[j]'(by omega) = (s.pairs.take k)[j]'(by rw [List.length_take]; omega) by rw [List.getElem_take]]
      exact List.getElem_mem _
    rw [h2 _ hm]; rfl⟩
  unfold upF purF; rw [if_neg (by rw [ht]; decide), hf]
theorem up_miss {s : Sc} {n : Nat} (ht : (s.N n).tied = false) (h2 : ∀ x ∈ s.pairs.take s.pairs.length, purP n x = false) : upF s n = ⟨-1, n, 3⟩ := by
  rw [List.take_length] at h2
  unfold upF purF; rw [if_neg (by rw [ht]; decide), List.find?_eq_none.2 (fun x hx => by rw [h2 x hx]; simp)]
theorem up_tie {s : Sc} {n : Nat} (ht : (s.N n).tied = true) : upF s n = ⟨findL s.notes (endP (s.N n).v (s.N n).f) 0, n, 1⟩ := by
  unfold upF; rw [if_pos ht]; rfl
end Go.Sx.Po
namespace Go.Proofs.YtbemjekkojgbpaaGreatDoor
open Go.RowKit Go.Sx Go.Sx.Sz Go.Sx.Sc Go.Sx.Po

set_option maxRecDepth 100000 in
set_option maxHeartbeats 4000000 in
theorem rup_walk (vn vp vc : Value) (s : Sc) (n : Nat) (hn : n < s.notes.length) (w : World) (S : ScR w vn vp vc s) :
    Calls Tryz.prog 58 #[.agg #[.int .i64 s.voices, vn, vp, vc], .int .i64 n] w fun e w' => e = .returned (.agg #[.int .i64 (upF s n).a, .int .i64 (upF s n).b, .int .i64 (upF s n).k]) ∧ Ext w w' := by
  obtain ⟨an, cn, rfl, -, -, hln⟩ := S.nt.len
  obtain ⟨ap, cp, rfl, -, -, hlp⟩ := S.pr.len
  obtain ⟨ac, cc, rfl, -, -, hlc⟩ := S.cd.len
  have X0 : Ext w ((w.alloc (.cells #[.int .i64 s.voices, .slice an s.notes.length cn, .slice ap s.pairs.length cp, .slice ac s.cads.length cc] 26)).alloc (.cells #[.int .i64 0, .int .i64 0, .int .i64 0] 113)) := (by repeat (first | with_reducible exact Ext.refl _ | with_reducible assumption | with_reducible apply Ext.alloc | with_reducible apply Ext.drew | (with_reducible refine Ext.setCell ?_ (by (try simp) <;> omega) _)))
  have b0_0 := block_alloc (block_new w (.cells #[.int .i64 s.voices, .slice an s.notes.length cn, .slice ap s.pairs.length cp, .slice ac s.cads.length cc] 26)) (.cells #[.int .i64 0, .int .i64 0, .int .i64 0] 113)
  have b0_1 := block_at (w := (w.alloc (.cells #[.int .i64 s.voices, .slice an s.notes.length cn, .slice ap s.pairs.length cp, .slice ac s.cads.length cc] 26))) (n := w.heap.size + 1) (by simp) (.cells #[.int .i64 0, .int .i64 0, .int .i64 0] 113)
  obtain ⟨W0, hW0⟩ : ∃ W, ((w.alloc (.cells #[.int .i64 s.voices, .slice an s.notes.length cn, .slice ap s.pairs.length cp, .slice ac s.cads.length cc] 26)).alloc (.cells #[.int .i64 0, .int .i64 0, .int .i64 0] 113)) = W := ⟨_, rfl⟩
  obtain ⟨B0, hB0⟩ : ∃ B, w.heap.size = B := ⟨_, rfl⟩
  rw [hW0] at X0 b0_0 b0_1
  rw [hB0] at b0_0 b0_1
  have HZ0 : Hid (w.heap.size ≤ B0) := Lib.hid (by omega)
  have HW0 := Lib.hid hW0; have HB0 := Lib.hid hB0
  clear hW0 hB0
  have CB := Lib.hid (boxS b0_0)
  have HR := Lib.hid b0_1
  have S1 := S.ext X0
  have HS1 := Lib.hid S1
  obtain ⟨bn, on, rfl, A⟩ := Sl.nt S1.nt n hn
  rw [← Sc.N_eq hn] at A
  have AW := Lib.hid fun v t w' (y : Ext W0 w') => ahead_walk _ _ _ s v t w' (S1.ext y)
  have hhit := fun k => @up_hit s n k
  have hmiss := @up_miss s n
  have htie := @up_tie s n
  obtain ⟨⟨ua, ub, uk⟩, hu⟩ : ∃ u, upF s n = u := ⟨_, rfl⟩
  rw [hu] at hmiss htie ⊢
  simp only [hu] at hhit
  obtain ⟨x, hx⟩ : ∃ x, s.N n = x := ⟨_, rfl⟩
  rw [hx] at A htie hmiss
  simp only [hx] at hhit
  have i1 : (0 : Int) ≤ (n : Int) := by omega
  have i2 : (n : Int) < (s.notes.length : Int) := by omega
  have q0 := A.c0; have q1 := A.c1; have q9 := A.c9
  have HHIT := Lib.hid hhit; have HMISS := Lib.hid hmiss
  obtain ⟨c0, c1, c2, c3⟩ := CB.out _ (Ext.refl _)
  clear A hu hx hhit hmiss S S1 b0_0 b0_1
  go_enter Tryz.func58, Tryz.ntmps58
  go_upto_region 1 with fail
  rw [HW0.out, HB0.out]
  clear HW0 HB0
  obtain ⟨tb, htb⟩ : ∃ b, x.tied = b := ⟨_, rfl⟩
  rw [htb] at q9 htie HHIT HMISS
  cases tb with
  | true =>
    have hu := htie rfl
    injection hu with e1 e2 e3
    subst e1 e2 e3
    clear htie
    go_upto_region 2 with fail
    have q0 := ext_cells q0; have q1 := ext_cells q1; have c0 := ext_cells c0; have c1 := ext_cells c1; have c2 := ext_cells c2; have c3 := ext_cells c3
    refine wp_region_ord [(0,true), (1,true), (2,true), (3,true), (4,true), (5,true), (6,true), (7,true), (8,true), (9,true), (10,true), (11,true), (12,true), (13,true), (14,true), (15,true)] 16 Ext (Ext W0) wide (by kernel_rfl) (stable_ext _) (Ext.drawn _ _) ?_
    iterate 13 (first | (apply wpOrd_no rfl; rfl; (simp only [List.getElem_toArray, List.getElem_cons_succ, List.getElem_cons_zero, Act.put, List.setIfInBounds_toArray, List.set_cons_succ, List.set_cons_zero]; rfl)) | (apply wpOrd_yes rfl; rfl; (intro w' hw'; unfold opR; go_simp; exact ⟨Ext.refl _, rfl⟩); (simp only [List.getElem_toArray, List.getElem_cons_succ, List.getElem_cons_zero, Act.put, List.setIfInBounds_toArray, List.set_cons_succ, List.set_cons_zero]; rfl)))
    (apply wpOrd_det rfl rfl; (intro w' hw'; refine opR_call rfl (Go.Proofs.enters_of Tryz.func93 (by kernel_rfl) rfl) (by simp only [List.map_toArray, List.map_cons, List.map_nil, Act.eval, Array.getD_eq_getD_getElem?, List.getElem?_toArray, List.getElem?_cons_succ, List.getElem?_cons_zero, Option.getD_some]; rfl) ?_; refine (AW.out _ _ w' hw').mono ?_; rintro e w'' ⟨rfl, hx⟩; exact ⟨_, rfl, hx, rfl⟩); (simp only [List.getElem_toArray, List.getElem_cons_succ, List.getElem_cons_zero, Act.put, List.setIfInBounds_toArray, List.set_cons_succ, List.set_cons_zero]; rfl))
    iterate 2 (first | (apply wpOrd_no rfl; rfl; (simp only [List.getElem_toArray, List.getElem_cons_succ, List.getElem_cons_zero, Act.put, List.setIfInBounds_toArray, List.set_cons_succ, List.set_cons_zero]; rfl)) | (apply wpOrd_yes rfl; rfl; (intro w' hw'; unfold opR; go_simp; exact ⟨Ext.refl _, rfl⟩); (simp only [List.getElem_toArray, List.getElem_cons_succ, List.getElem_cons_zero, Act.put, List.setIfInBounds_toArray, List.set_cons_succ, List.set_cons_zero]; rfl)))
    refine wpOrd_nil (l := [_]) rfl ?_
    intro w9 x9
    have H9 := Lib.hid (block_ext x9 HR.out)
    have n2 := setRow_at H9.out #[.int .i64 (findL s.notes (endP x.v x.f) 0), .int .i64 (n : Int), .int .i64 1]
    have XX := (X0.trans x9).setRow (g := B0 + 1) (by have := HZ0.out; omega) #[.int .i64 (findL s.notes (endP x.v x.f) 0), .int .i64 (n : Int), .int .i64 1]
    have e0 := block_cell n2 0 _ rfl; have e1 := block_cell n2 1 _ rfl; have e2 := block_cell n2 2 _ rfl
    clear q0 q1 c0 c1 c2 c3 n2
    go_wp2_with (first | (refine wpList_store_row rfl _ _ _ rfl (B0 + 1) _ rfl rfl _ _ H9.out (by kernel_rfl) rfl (by simp [Value.oneCell']) ?_) | fail)
    exact bodyPost_ret (v := .agg #[.int .i64 (findL s.notes (endP x.v x.f) 0), .int .i64 (n : Int), .int .i64 1]) (by simp [results, Tryz.results58, go_sem, e0, e1, e2]) rfl ⟨rfl, XX⟩
  | false =>
  clear htie q0 q1
  go_wp2
  clear q9 c0 c1 c2 c3
  go_loopw [5] (fun i wr => ∃ k : Nat, k ≤ s.pairs.length ∧ i = .int .i64 k ∧ Hid (∀ x ∈ s.pairs.take k, purP n x = false) ∧ Ext W0 wr) (fun i _ => s.pairs.length - (intOf i).toNat)
  case atStart => exact ⟨0, by omega, by first | rfl | trivial, Lib.hid (fun x hx => by simp at hx), Ext.refl _⟩
  case round =>
    obtain ⟨k, hk, rfl, HT, X⟩ := hrel
    obtain ⟨c0, c1, c2, c3⟩ := CB.out _ X
    have HRX := Lib.hid (block_ext X HR.out)
    by_cases hlt : k < s.pairs.length
    case neg =>
      obtain rfl : k = s.pairs.length := by omega
      have hu := HMISS.out (by first | rfl | trivial) HT.out
      injection hu with e1 e2 e3
      subst e1 e2 e3
      have n2 := setRow_at HRX.out #[.int .i64 (-1), .int .i64 (n : Int), .int .i64 3]
      have XX := (X0.trans X).setRow (g := B0 + 1) (by have := HZ0.out; omega) #[.int .i64 (-1), .int .i64 (n : Int), .int .i64 3]
      have e0 := block_cell n2 0 _ rfl; have e1 := block_cell n2 1 _ rfl; have e2 := block_cell n2 2 _ rfl
      clear n2
      go_wp2_with (first | (refine wpList_store_row rfl _ _ _ rfl (B0 + 1) _ rfl rfl _ _ HRX.out (by kernel_rfl) rfl (by simp [Value.oneCell']) ?_) | fail)
      exact bodyPost_ret (v := .agg #[.int .i64 (-1), .int .i64 (n : Int), .int .i64 3]) (by simp [results, Tryz.results58, go_sem, e0, e1, e2]) rfl ⟨rfl, XX⟩
    case pos =>
    obtain ⟨bp, op, rfl, A⟩ := Sl.pr (HS1.out.pr.ext X) k hlt
    have hhk := HHIT.out k (by first | rfl | trivial) hlt
    have htk := List.take_succ_eq_append_getElem hlt
    obtain ⟨p, hp⟩ : ∃ p, s.pairs[k] = p := ⟨_, rfl⟩
    rw [hp] at A htk hhk
    obtain ⟨q0, q1, -, -, -, -, -, -, q8⟩ := A
    have hpp : purP n p = (decide (p.b = n) && decide (p.bound = 0)) := rfl
    have HHK := Lib.hid hhk; have HTK := Lib.hid htk; have HPP := Lib.hid hpp
    have j1 : (0 : Int) ≤ (k : Int) := by omega
    have j2 : (k : Int) < (s.pairs.length : Int) := by omega
    clear hhk htk hp hpp
    by_cases ha : p.b = n
    · have e1 : (p.b == (n : Int)) = true := beq_iff_eq.2 ha
      by_cases hb : p.bound = 0
      · have e2 : (p.bound == 0) = true := beq_iff_eq.2 hb
        have hu := HHK.out (by rw [HPP.out, decide_eq_true ha, decide_eq_true hb]; rfl) HT.out
        injection hu with f1 f2 f3
        subst f1 f2 f3
        have n2 := setRow_at HRX.out #[.int .i64 p.a, .int .i64 (n : Int), .int .i64 2]
        have XX := (X0.trans X).setRow (g := B0 + 1) (by have := HZ0.out; omega) #[.int .i64 p.a, .int .i64 (n : Int), .int .i64 2]
        have g0 := block_cell n2 0 _ rfl; have g1 := block_cell n2 1 _ rfl; have g2 := block_cell n2 2 _ rfl
        clear n2 ha hb
        go_wp2_with (first | (refine wpList_store_row rfl _ _ _ rfl (B0 + 1) _ rfl rfl _ _ HRX.out (by kernel_rfl) rfl (by simp [Value.oneCell']) ?_) | fail)
        exact bodyPost_ret (v := .agg #[.int .i64 p.a, .int .i64 (n : Int), .int .i64 2]) (by simp [results, Tryz.results58, go_sem, g0, g1, g2]) rfl ⟨rfl, XX⟩
      · have e2 : (p.bound == 0) = false := beq_eq_false_iff_ne.2 hb
        have HT2 : Hid (∀ y ∈ s.pairs.take (k + 1), purP n y = false) := Lib.hid (fun y hy => by
          rw [HTK.out] at hy
          rcases List.mem_append.1 hy with h | h
          · exact HT.out y h
          · rw [List.mem_singleton.1 h, HPP.out, decide_eq_false hb, Bool.and_false])
        clear ha hb
        go_wp2
        go_roundw
        case rel => exact ⟨k + 1, by omega, by go_num, HT2, X⟩
        case measure => simp [intOf] <;> omega
    · have e1 : (p.b == (n : Int)) = false := beq_eq_false_iff_ne.2 ha
      have HT2 : Hid (∀ y ∈ s.pairs.take (k + 1), purP n y = false) := Lib.hid (fun y hy => by
        rw [HTK.out] at hy
        rcases List.mem_append.1 hy with h | h
        · exact HT.out y h
        · rw [List.mem_singleton.1 h, HPP.out, decide_eq_false ha, Bool.false_and])
      clear ha
      go_wp2
      go_roundw
      case rel => exact ⟨k + 1, by omega, by go_num, HT2, X⟩
      case measure => simp [intOf] <;> omega
end Go.Proofs.YtbemjekkojgbpaaGreatDoor
