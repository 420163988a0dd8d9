/-
  Walks of audit: findings (a range over a function), Audit.
-/
import Derived.Test.YthpfalbeieloaaaGreatDoorLibA
import Derived.Test.YthpfalbeieloaaaGreatDoorAuD
import Derived.Test.YthpfalbeieloaaaGreatDoorR39G
set_option linter.unusedVariables false
namespace Go.Proofs.YthpfalbeieloaaaGreatDoor
open Go.RowKit Go.Sx Go.Sx.Sz Go.Sx.Sc Go.Sx.Au
attribute [local go_sem] Oper.semAt_some wide_fn wide_depth

def encFd (f : Fnd) : Array Value := #[.agg #[.int .i64 f.i, .int .i64 f.verdict, .int .i64 f.bound]]
set_option maxRecDepth 100000 in
theorem fdsL_get {s : Sc} {l : List S2} {n k : Nat} (h : k < n) (h' : k < (fdsL s l n).length) : (fdsL s l n)[k] = fdOf s l k := by simp [fdsL]

set_option maxRecDepth 100000 in
set_option maxHeartbeats 4000000 in
theorem fnd_iter (b0 b1 : Nat) (vp vt : Value) (s : Sc) (l : List S2) (hok : tonesOk s l) (Need : World → Prop)
    (hN : ∀ W, Need W → W.cell? ⟨b0, 2, none⟩ = some vp ∧ W.cell? ⟨b1, 0, none⟩ = some vt ∧ Sl W 9 encP vp s.pairs ∧ Sl W 2 encS vt l ∧ Gl 1 W) :
    IterC Tryz.prog 92 #[.pointer (some ⟨b0, 0, none⟩), .pointer (some ⟨b1, 0, none⟩)] encFd (fdsL s l s.pairs.length) Need := by
  intro y J Jx W hJ hJx hNe hY h0
  rw [fdsL_len]
  obtain ⟨c0, c1, S0, R0, G0⟩ := hN _ (hNe _ _ h0)
  obtain ⟨ap, cp, rfl, -, -, hlp⟩ := S0.len
  obtain ⟨at', ct, rfl, -, -, hlt⟩ := R0.len
  clear S0 R0 G0 c1
  refine callsIn_of_wp Tryz.func92 rfl trivial ?_ rfl
  simp only [Tryz.ntmps92, List.size_toArray, List.length_cons, List.length_nil, Nat.reduceAdd, Nat.reduceSub, Array.replicate_succ, Array.replicate_zero, List.push_toArray, List.append_toArray, List.nil_append, List.cons_append]
  gi_wp2
  gi_loopw [9] (fun i wr => ∃ k : Nat, k ≤ s.pairs.length ∧ i = .int .i64 k ∧ J k wr) (fun i _ => s.pairs.length - (intOf i).toNat)
  case atStart => exact ⟨0, Nat.zero_le _, rfl, h0⟩
  case round =>
    obtain ⟨k, hk, rfl, hJk⟩ := hrel
    clear c0
    obtain ⟨c0, c1, S, R, G⟩ := hN _ (hNe _ _ hJk)
    by_cases hlt : k < s.pairs.length
    · obtain ⟨hdk, hw, ⟨A, C, hA, hC, hA', hC'⟩, hbd, -⟩ := pairD_ok hok hlt
      have hzz := hok.2.2
      have HJ : Hid (fdOf s l k = findZ k (diffS (T l A) (T l C) (wantS (s.P k).want)) (s.P k).bound) := Lib.hid (by
        unfold fdOf pairD; rw [hA, hC, Int.toNat_natCast, Int.toNat_natCast])
      have hdk' : dOk (diffS (T l A) (T l C) (wantS (s.P k).want)) := by
        unfold pairD at hdk; rw [hA, hC, Int.toNat_natCast, Int.toNat_natCast] at hdk; exact hdk
      obtain ⟨bp, op, rfl, q⟩ := Sl.pr S k hlt
      rw [← Sc.P_eq hlt] at q
      obtain ⟨p, hp⟩ : ∃ p, s.P k = p := ⟨_, rfl⟩
      rw [hp] at q hw hA hC hbd HJ hdk'
      obtain ⟨q0, q1, q2, q3, q4, q5, q6, q7, q8⟩ := q
      have X2 : Ext wr (wr.alloc (.cells #[.int .i64 p.a, .int .i64 p.b, .int .i64 p.want.a, .int .i64 p.want.b, .int .i64 p.want.c, .int .i64 p.want.d, .int .i64 p.want.e, .int .i64 p.want.f, .int .i64 p.bound] 117)) := (by repeat (first | with_reducible exact Ext.refl _ | with_reducible assumption | with_reducible apply Ext.alloc | with_reducible apply Ext.drew | (with_reducible refine Ext.setCell ?_ (by (try simp) <;> omega) _)))
      have b2_0 := block_new wr (.cells #[.int .i64 p.a, .int .i64 p.b, .int .i64 p.want.a, .int .i64 p.want.b, .int .i64 p.want.c, .int .i64 p.want.d, .int .i64 p.want.e, .int .i64 p.want.f, .int .i64 p.bound] 117)
      obtain ⟨W2, hW2⟩ : ∃ W, (wr.alloc (.cells #[.int .i64 p.a, .int .i64 p.b, .int .i64 p.want.a, .int .i64 p.want.b, .int .i64 p.want.c, .int .i64 p.want.d, .int .i64 p.want.e, .int .i64 p.want.f, .int .i64 p.bound] 117)) = W := ⟨_, rfl⟩
      obtain ⟨B2, hB2⟩ : ∃ B, wr.heap.size = B := ⟨_, rfl⟩
      rw [hW2] at X2 b2_0
      rw [hB2] at b2_0
      have HZ2 : Hid (wr.heap.size ≤ B2) := Lib.hid (by omega)
      have HW2 := Lib.hid hW2; have HB2 := Lib.hid hB2
      clear hW2 hB2
      obtain ⟨d, hd⟩ : ∃ d, diffS (T l A) (T l C) (wantS p.want) = d := ⟨_, rfl⟩
      have ND := Lib.hid fun w' (y : Ext W2 w') => newdiff_walk (.slice at' l.length ct) l p A C hA hC hA' hC' hzz hw w' (G.ext (X2.trans y)) (R.ext (X2.trans y))
      rw [hd] at HJ ND hdk'
      have FN := Lib.hid fun w' => finding_walk d hdk' k p (by omega) w'
      have i1 : (0 : Int) ≤ (k : Int) := by omega
      have i2 : (k : Int) < (s.pairs.length : Int) := by omega
      have f0 := ext_cells (block_cell b2_0 0 _ rfl); have f1 := ext_cells (block_cell b2_0 1 _ rfl); have f2 := ext_cells (block_cell b2_0 2 _ rfl); have f3 := ext_cells (block_cell b2_0 3 _ rfl); have f4 := ext_cells (block_cell b2_0 4 _ rfl); have f5 := ext_cells (block_cell b2_0 5 _ rfl); have f6 := ext_cells (block_cell b2_0 6 _ rfl); have f7 := ext_cells (block_cell b2_0 7 _ rfl); have f8 := ext_cells (block_cell b2_0 8 _ rfl)
      have g1 := ext_cells (X2.cell c1)
      have HYY := Lib.hid fun w' (x : Ext W2 w') => hY k w' (by rw [fdsL_len]; exact hlt) (hJ _ _ _ hJk (X2.trans x))
      clear hp hdk hdk' hw hA hC hA' hC' hzz b2_0 hd c0 c1 S R G
      gi_wp2_with fail
      rw [HW2.out, HB2.out]
      clear q0 q1 q2 q3 q4 q5 q6 q7 q8
      refine wpIn_region_ordT (free_wide _) [(0,true), (1,true), (2,true), (3,true), (4,true), (5,true), (6,true)] 7 Ext (Ext W2) wide (by kernel_rfl) (stable_ext _) (Ext.drawn _ _) ?_
      iterate 3 (first | (apply ordT_no rfl; rfl; (simp only [List.getElem_toArray, List.getElem_cons_succ, List.getElem_cons_zero, Act.put, List.setIfInBounds_toArray, List.set_cons_succ, List.set_cons_zero]; rfl)) | (apply ordT_yes rfl; rfl; (intro w' hw'; unfold opR; go_simp; exact ⟨Ext.refl _, rfl⟩); (simp only [List.getElem_toArray, List.getElem_cons_succ, List.getElem_cons_zero, Act.put, List.setIfInBounds_toArray, List.set_cons_succ, List.set_cons_zero]; rfl)))
      (apply ordT_det rfl rfl; (intro w' hw'; refine opR_call rfl (Go.Proofs.enters_of Tryz.func93 (by kernel_rfl) rfl) (by simp only [List.map_toArray, List.map_cons, List.map_nil, Act.eval, Array.getD_eq_getD_getElem?, List.getElem?_toArray, List.getElem?_cons_succ, List.getElem?_cons_zero, Option.getD_some]; rfl) ?_; refine (ND.out _ hw').mono ?_; rintro e w'' ⟨rfl, hx⟩; exact ⟨_, rfl, hx, rfl⟩); (simp only [List.getElem_toArray, List.getElem_cons_succ, List.getElem_cons_zero, Act.put, List.setIfInBounds_toArray, List.set_cons_succ, List.set_cons_zero]; rfl))
      iterate 2 (first | (apply ordT_no rfl; rfl; (simp only [List.getElem_toArray, List.getElem_cons_succ, List.getElem_cons_zero, Act.put, List.setIfInBounds_toArray, List.set_cons_succ, List.set_cons_zero]; rfl)) | (apply ordT_yes rfl; rfl; (intro w' hw'; unfold opR; go_simp; exact ⟨Ext.refl _, rfl⟩); (simp only [List.getElem_toArray, List.getElem_cons_succ, List.getElem_cons_zero, Act.put, List.setIfInBounds_toArray, List.set_cons_succ, List.set_cons_zero]; rfl)))
      (apply ordT_det rfl rfl; (intro w' hw'; refine opR_call rfl (Go.Proofs.enters_of Tryz.func94 (by kernel_rfl) rfl) (by simp only [List.map_toArray, List.map_cons, List.map_nil, Act.eval, Array.getD_eq_getD_getElem?, List.getElem?_toArray, List.getElem?_cons_succ, List.getElem?_cons_zero, Option.getD_some]; rfl) ?_; refine (FN.out _).mono ?_; rintro e w'' ⟨rfl, hx⟩; exact ⟨_, rfl, hx, rfl⟩); (simp only [List.getElem_toArray, List.getElem_cons_succ, List.getElem_cons_zero, Act.put, List.setIfInBounds_toArray, List.set_cons_succ, List.set_cons_zero]; rfl))
      refine ordT_nil rfl ?_
      intro w9 x9
      obtain ⟨fn, tmps, assign, body, hy, hR⟩ := HYY.out w9 x9
      rw [fdsL_get hlt, HJ.out] at hy
      simp only [encFd, findZ] at hy
      clear f0 f1 f2 f3 f4 f5 f6 f7 f8 g1
      gi_wp2
      refine hR.mono ?_
      rintro e W3 (⟨rfl, hJ3⟩ | ⟨rfl, hJx3⟩)
      · gi_wp2
        go_roundw
        case rel => exact ⟨k + 1, by omega, by go_num, hJ3⟩
        case measure => simp [intOf] <;> omega
      · gi_wp2
        refine bodyPost_ret (results_none rfl _ _ _) rfl ?_
        exact ⟨⟨_, rfl⟩, .inr hJx3⟩
    · obtain rfl : k = s.pairs.length := by omega
      clear S R G
      gi_wp2
      refine bodyPost_end (results_none rfl _ _ _) rfl ?_
      exact ⟨⟨_, rfl⟩, .inl hJk⟩

set_option maxRecDepth 100000 in
theorem findings_walk (v0 vn vp vc vt : Value) (a? : Option Addr) (n c : Nat) (hv : vt = .slice a? n c) (w : World) :
    Calls Tryz.prog 74 #[.agg #[v0, vn, vp, vc], vt] w fun e w' => e = .returned (.func (.func 92) #[] #[.pointer (some ⟨w.heap.size, 0, none⟩), .pointer (some ⟨w.heap.size + 1, 0, none⟩)]) ∧ (w.alloc (.cells #[v0, vn, vp, vc] 26)).alloc (.cells #[vt] 36) = w' := by
  subst hv
  go_enter Tryz.func74, Tryz.ntmps74
  go_wp2
  go_ret
  exact ⟨rfl, rfl⟩

set_option maxRecDepth 100000 in
set_option maxHeartbeats 4000000 in
theorem audit_walk (vn vp vc vt : Value) (s : Sc) (l : List S2) (w : World) (G : Gl 1 w) (S : ScR w vn vp vc s) (R : Sl w 2 encS vt l) : Calls Tryz.prog 53 #[.agg #[.int .i64 s.voices, vn, vp, vc], vt] w fun e w' =>
    ∃ v, e = .returned (.tuple #[v, .int .i64 (auditR s l).2]) ∧ Sl w' 3 encF v (auditR s l).1 ∧ Ext w w' := by
  obtain ⟨an, cn, rfl, -, -, hln⟩ := S.nt.len
  obtain ⟨ap, cp, rfl, -, -, hlp⟩ := S.pr.len
  obtain ⟨ac, cc, rfl, -, -, hlc⟩ := S.cd.len
  obtain ⟨at', ct, rfl, -, -, hlt⟩ := R.len
  have X0 : Ext w (w.alloc (.cells #[.int .i64 s.voices, .slice an s.notes.length cn, .slice ap s.pairs.length cp, .slice ac s.cads.length cc] 26)) := (by repeat (first | with_reducible exact Ext.refl _ | with_reducible assumption | with_reducible apply Ext.alloc | with_reducible apply Ext.drew | (with_reducible refine Ext.setCell ?_ (by (try simp) <;> omega) _)))
  have b0_0 := block_new w (.cells #[.int .i64 s.voices, .slice an s.notes.length cn, .slice ap s.pairs.length cp, .slice ac s.cads.length cc] 26)
  obtain ⟨W0, hW0⟩ : ∃ W, (w.alloc (.cells #[.int .i64 s.voices, .slice an s.notes.length cn, .slice ap s.pairs.length cp, .slice ac s.cads.length cc] 26)) = W := ⟨_, rfl⟩
  obtain ⟨B0, hB0⟩ : ∃ B, w.heap.size = B := ⟨_, rfl⟩
  rw [hW0] at X0 b0_0
  rw [hB0] at b0_0
  have HZ0 : Hid (w.heap.size ≤ B0) := Lib.hid (by omega)
  have HW0 := Lib.hid hW0; have HB0 := Lib.hid hB0
  clear hW0 hB0
  have S1 := S.ext X0; have R1 := R.ext X0; have G1 := G.ext X0
  clear S R G
  have VW := Lib.hid fun w' (y : Ext W0 w') => auvalid_walk (.slice an s.notes.length cn) (.slice ap s.pairs.length cp) (.slice ac s.cads.length cc) (.slice at' l.length ct) s l w' (S1.ext y) (R1.ext y)
  refine (callsIn_wide (n := 0)).1 ?_
  refine callsIn_of_wp_marks Tryz.func53 rfl trivial ?_ rfl
  simp only [Tryz.ntmps53, List.size_toArray, List.length_cons, List.length_nil, Nat.reduceAdd, Nat.reduceSub, Array.replicate_succ, Array.replicate_zero, List.push_toArray, List.append_toArray, List.nil_append, List.cons_append]
  refine wpIn_wide.2 ?_
  go_wp2_with fail
  rw [HW0.out, HB0.out]
  clear HW0 HB0
  refine (VW.out _ (Ext.refl _)).mono ?_
  cases hok : tonesB s l with
  | false =>
    have HJ : Hid (auditR s l = ([], 1)) := Lib.hid (by unfold auditR; rw [hok, if_neg (by simp)])
    clear hok
    rintro e w1 ⟨rfl, x1⟩
    go_wp2
    exact bodyPostM_ret0 (v := .tuple #[.slice none 0 0, .int .i64 1]) rfl (by simp [results, Tryz.results53, go_sem]) ⟨.slice none 0 0, by rw [HJ.out] <;> rfl, by rw [HJ.out]; exact Sl.nil _ _ _, X0.trans x1⟩
  | true =>
    have HO := Lib.hid (tonesB_iff.1 hok)
    have hpl : s.pairs.length ≤ 400 := (tonesB_iff.1 hok).1.sz.2.2.1
    have HJ : Hid (auditR s l = (fdsL s l s.pairs.length, 0)) := Lib.hid (if_pos hok)
    clear hok
    rintro e w1 ⟨rfl, x1⟩
    have e2 := Ext.alloc' w1 (.cells #[.slice none 0 0] 103)
    have q0 := block_ext (x1.trans e2) b0_0
    have c0 := block_cell q0 0 _ rfl; have c1 := block_cell q0 1 _ rfl; have c2 := block_cell q0 2 _ rfl; have c3 := block_cell q0 3 _ rfl
    go_wp2_with fail
    refine (findings_walk _ _ _ _ _ at' l.length ct rfl _).mono ?_
    rintro e w3 ⟨rfl, rfl⟩
    clear q0 c0 c1 c2 c3 e2
    have X3 : Ext w1 (((w1.alloc (.cells #[.slice none 0 0] 103)).alloc (.cells #[.int .i64 s.voices, .slice an s.notes.length cn, .slice ap s.pairs.length cp, .slice ac s.cads.length cc] 26)).alloc (.cells #[.slice at' l.length ct] 36)) := (by repeat (first | with_reducible exact Ext.refl _ | with_reducible assumption | with_reducible apply Ext.alloc | with_reducible apply Ext.drew | (with_reducible refine Ext.setCell ?_ (by (try simp) <;> omega) _)))
    have b3_0 := block_alloc (block_alloc (block_new w1 (.cells #[.slice none 0 0] 103)) (.cells #[.int .i64 s.voices, .slice an s.notes.length cn, .slice ap s.pairs.length cp, .slice ac s.cads.length cc] 26)) (.cells #[.slice at' l.length ct] 36)
    have b3_1 := block_alloc (block_at (w := (w1.alloc (.cells #[.slice none 0 0] 103))) (n := w1.heap.size + 1) (by simp) (.cells #[.int .i64 s.voices, .slice an s.notes.length cn, .slice ap s.pairs.length cp, .slice ac s.cads.length cc] 26)) (.cells #[.slice at' l.length ct] 36)
    have b3_2 := block_at (w := ((w1.alloc (.cells #[.slice none 0 0] 103)).alloc (.cells #[.int .i64 s.voices, .slice an s.notes.length cn, .slice ap s.pairs.length cp, .slice ac s.cads.length cc] 26))) (n := w1.heap.size + 1 + 1) (by simp) (.cells #[.slice at' l.length ct] 36)
    obtain ⟨W3, hW3⟩ : ∃ W, (((w1.alloc (.cells #[.slice none 0 0] 103)).alloc (.cells #[.int .i64 s.voices, .slice an s.notes.length cn, .slice ap s.pairs.length cp, .slice ac s.cads.length cc] 26)).alloc (.cells #[.slice at' l.length ct] 36)) = W := ⟨_, rfl⟩
    obtain ⟨B3, hB3⟩ : ∃ B, w1.heap.size = B := ⟨_, rfl⟩
    rw [hW3] at X3 b3_0 b3_1 b3_2
    rw [hB3] at b3_0 b3_1 b3_2
    have HZ3 : Hid (w1.heap.size ≤ B3) := Lib.hid (by omega)
    have HW3 := Lib.hid hW3; have HB3 := Lib.hid hB3
    clear hW3 hB3
    simp only [World.size_alloc]
    rw [HW3.out, HB3.out]
    have hB3 : w1.heap.size = B3 := HB3.out
    have EW := Lib.hid fun W (y : Kb (some B3) W3 W) => show Ext w1 W from Below.trans X3 (y.below X3.size (fun b e => by cases e; omega))
    have X01 := X0.trans x1
    have hw01 := X01.size
    have hz3 := X3.size
    have HN := Lib.hid fun W (y : Kb (some B3) W3 W) => show W.cell? ⟨B3 + 1, 2, none⟩ = some (.slice ap s.pairs.length cp) ∧ W.cell? ⟨B3 + 1 + 1, 0, none⟩ = some (.slice at' l.length ct) ∧ Sl W 9 encP (.slice ap s.pairs.length cp) s.pairs ∧ Sl W 2 encS (.slice at' l.length ct) l ∧ Gl 1 W from
      ⟨block_cell (y.block b3_1 (by omega)) 2 _ rfl, block_cell (y.block b3_2 (by omega)) 0 _ rfl, S1.pr.ext (x1.trans (EW.out W y)), R1.ext (x1.trans (EW.out W y)), G1.ext (x1.trans (EW.out W y))⟩
    have hbx0 : Boxed W3 B3 103 (.slice none 0 0) := b3_0
    clear HW3 HB3 S1 R1 G1 VW x1 X3 b0_0 b3_0 b3_1 b3_2
    go_wp2_with fail
    refine (wpIn_wide (n := 0)).1 ?_
    refine wpIn_range (gf := 92) (lb := #[.pointer (some ⟨B3 + 1, 0, none⟩), .pointer (some ⟨B3 + 1 + 1, 0, none⟩)]) rfl (enters_of Tryz.func92 (by kernel_rfl) rfl) (fnd_iter (B3 + 1) (B3 + 1 + 1) _ _ s l HO.out (fun W => Kb (some B3) W3 W) HN.out) (fun _ => rfl)
      (fun k W => Kb (some B3) W3 W ∧ ∃ v, Boxed W B3 103 v ∧ OwnR W W3.heap.size 120 3 encF v (fdsL s l k))
      (fun _ _ => False)
      (fun k => .and (.kb (Nat.le_refl _)) (.exi fun v => .and .boxed .own)) (fun c => .false) (fun k W h => h.1) ⟨Kb.refl _ _, _, hbx0, OwnR.nil⟩ ?round ?done ?stop
    case stop => intro D c W _ h; exact h.elim
    case done =>
      rintro D W hD ⟨hkb, v, hbx, hown⟩ hdef
      rw [fdsL_len] at hown
      have hc := hbx.cell
      have XF := X01.trans (EW.out W hkb)
      have S7 := hown.sl (fun _ _ => rfl) (by rw [fdsL_len]; omega)
      have HDEF := Lib.hid hdef
      clear hown hbx hdef
      go_wp2
      refine bodyPostM_ret (v := .tuple #[v, .int .i64 0]) rfl HDEF.out (fun W' _ => by simp [results, Tryz.results53, go_sem]) (fun W' hs' => ⟨v, by rw [HJ.out] <;> rfl, by rw [HJ.out]; exact hs'.sl S7, Below.trans XF (hs'.below (by omega))⟩)
    case round =>
      rintro lr k W hk ⟨hkb, v, hbx, hown⟩ hle hlt'
      have hk' : k < s.pairs.length := by rw [fdsL_len] at hk; exact hk
      rw [fdsL_get hk' hk]
      have hf := Lib.hid (fdsL_succ s l k)
      have hlen := fdsL_len s l k
      obtain ⟨⟨fi, fv, fb⟩, hfd⟩ : ∃ f, fdOf s l k = f := ⟨_, rfl⟩
      rw [hfd] at hf ⊢
      simp only [encFd]
      clear hfd
      gi_wp2
      refine ⟨KeepsOthers.alloc _ _, fun W2 hs2 => ?_⟩
      have e1 := Ext.alloc' W (.cells #[.int .i64 fi, .int .i64 fv, .int .i64 fb] 120)
      have c0 := (hs2.cell _).trans (alloc_cell W #[.int .i64 fi, .int .i64 fv, .int .i64 fb] 120 0 _ rfl)
      have c1 := (hs2.cell _).trans (alloc_cell W #[.int .i64 fi, .int .i64 fv, .int .i64 fb] 120 1 _ rfl)
      have c2 := (hs2.cell _).trans (alloc_cell W #[.int .i64 fi, .int .i64 fv, .int .i64 fb] 120 2 _ rfl)
      have hbx2 := hs2.boxed (hbx.ext e1)
      have hown2 := hs2.own (hown.ext e1)
      have hkb2 := (Abide.kb (g := B3) (Nat.le_refl W3.heap.size)).put _ _ lr ((Abide.kb (g := B3) (Nat.le_refl W3.heap.size)).ext _ _ hkb e1) hle hs2
      have hz2 := hkb2.size
      have hcb := hbx2.cell
      clear e1 hkb hbx hown hs2
      obtain ⟨oa, on, oc, rfl⟩ := hown2.shape
      gi_wp2_with (gi_at_builtin; go_must (refine wpListIn_of (free_round _ _) (by rintro ⟨_, _, h⟩; exact h) _ _ _ (by first | kernel_rfl | simp [noDefer]) ?_))
      go_wp2_with (at_builtin; go_must (refine wpList_own1 et_fd rfl _ _ rfl hown2 rfl (⟨fi, fv, fb⟩ : Fnd) rfl rfl rfl (by simp [encF, Value.oneCell']) (by omega) hz2 ?_; intro v' w5 hown5 hb5 happ _; obtain ⟨a', n', c', rfl⟩ := hown5.shape; obtain ⟨k1, k2, k3, k4⟩ := box_app hbx2 (by decide) hown2 hown5 happ; have hcl := k1.cell; have hfr := k1.frozen))
      exact ⟨k4, (hkb2.on hb5 (Nat.le_refl _)).setCell _ _, _, k2, by rw [hf.out]; exact k3⟩
end Go.Proofs.YthpfalbeieloaaaGreatDoor
