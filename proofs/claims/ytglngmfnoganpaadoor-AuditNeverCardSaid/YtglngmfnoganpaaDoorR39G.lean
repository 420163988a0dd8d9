/-
  Walks: schismaref39.Audit, Ideal.
-/
import Derived.Test.YtglngmfnoganpaaDoorR39F
import Derived.Test.YtglngmfnoganpaaDoorR39B
set_option linter.unusedVariables false
namespace Go.Proofs.YtglngmfnoganpaaDoor
open Go.RowKit Go.Sx Go.Sx.Sz Go.Sx.Sc Go.Sx.Au

theorem et_fd : ET Tryd.prog 36 32 3 24 := .mk' (z := .agg #[.int .i64 0, .int .i64 0, .int .i64 0]) Tryd.underlying36 (by kernel_rfl) rfl (by decide) (by decide)

def fdsL (s : Sc) (l : List S2) (k : Nat) : List Fnd := (List.range k).map (fdOf s l)
theorem fdsL_succ (s : Sc) (l : List S2) (k : Nat) : fdsL s l (k + 1) = fdsL s l k ++ [fdOf s l k] := by unfold fdsL; rw [List.range_succ, List.map_append]; rfl
theorem fdsL_len (s : Sc) (l : List S2) (k : Nat) : (fdsL s l k).length = k := by simp [fdsL]
theorem judgeR_at {s : Sc} {l : List S2} {k : Nat} (h : tonesB s l = true) (hk : k < s.pairs.length) : judgeR s l (k : Int) = (fdOf s l k, 0) := by
  unfold judgeR; rw [if_pos ⟨h, by omega, by omega⟩]; rfl

set_option maxRecDepth 100000 in
set_option maxHeartbeats 4000000 in
theorem raudit_walk (vn vp vc vt : Value) (s : Sc) (l : List S2) (w : World) (S : ScR w vn vp vc s) (R : Sl w 2 encS vt l) : Calls Tryd.prog 16 #[.agg #[.int .i64 s.voices, vn, vp, vc], vt] w fun e w' =>
    ∃ v, e = .returned (.tuple #[v, .int .i64 (auditR s l).2]) ∧ Sl w' 3 encF v (auditR s l).1 ∧ Ext w w' := by
  obtain ⟨an, cn, rfl, -, -, hln⟩ := S.nt.len
  obtain ⟨ap, cp, rfl, -, -, hlp⟩ := S.pr.len
  obtain ⟨ac, cc, rfl, -, -, hlc⟩ := S.cd.len
  obtain ⟨at', ct, rfl, -, -, hlt⟩ := R.len
  have X0 : Ext w (w.alloc (.cells #[.int .i64 s.voices, .slice an s.notes.length cn, .slice ap s.pairs.length cp, .slice ac s.cads.length cc] 26)) := (by repeat (first | with_reducible exact Ext.refl _ | with_reducible assumption | with_reducible apply Ext.alloc | with_reducible apply Ext.drew | (with_reducible refine Ext.setCell ?_ (by (try simp) <;> omega) _)))
  have b0_0 := block_new w (.cells #[.int .i64 s.voices, .slice an s.notes.length cn, .slice ap s.pairs.length cp, .slice ac s.cads.length cc] 26)
  obtain ⟨W0, hW0⟩ : ∃ W, (w.alloc (.cells #[.int .i64 s.voices, .slice an s.notes.length cn, .slice ap s.pairs.length cp, .slice ac s.cads.length cc] 26)) = W := ⟨_, rfl⟩
  obtain ⟨B0, hB0⟩ : ∃ B, w.heap.size = B := ⟨_, rfl⟩
  rw [hW0] at X0 b0_0
  rw [hB0] at b0_0
  have HZ0 : Hid (w.heap.size ≤ B0) := Lib.hid (by omega)
  have HW0 := Lib.hid hW0; have HB0 := Lib.hid hB0
  clear hW0 hB0
  have S1 := S.ext X0; have R1 := R.ext X0
  clear S R
  have VW := Lib.hid fun w' (y : Ext W0 w') => rtones_walk (.slice an s.notes.length cn) (.slice ap s.pairs.length cp) (.slice ac s.cads.length cc) (.slice at' l.length ct) s l w' (S1.ext y) (R1.ext y)
  have JW := Lib.hid fun w' (k : Nat) (y : Ext W0 w') => rjudge_walk (.slice an s.notes.length cn) (.slice ap s.pairs.length cp) (.slice ac s.cads.length cc) (.slice at' l.length ct) s l k w' (S1.ext y) (R1.ext y)
  go_enter Tryd.func16, Tryd.ntmps16
  go_wp2_with fail
  rw [HW0.out, HB0.out]
  clear HW0 HB0
  refine (VW.out _ (Ext.refl _)).mono ?_
  cases hok : tonesB s l with
  | false =>
    have HJ : Hid (auditR s l = ([], 1)) := Lib.hid (by unfold auditR; rw [hok, if_neg (by simp)])
    clear hok
    rintro e w1 ⟨rfl, x1⟩
    go_wp2
    exact bodyPost_ret (v := .tuple #[.slice none 0 0, .int .i64 1]) (by simp [results, Tryd.results16, go_sem]) rfl ⟨.slice none 0 0, by rw [HJ.out] <;> rfl, by rw [HJ.out]; exact Sl.nil _ _ _, X0.trans x1⟩
  | true =>
    have HO := Lib.hid hok
    have hpl : s.pairs.length ≤ 400 := (tonesB_iff.1 hok).1.sz.2.2.1
    have HJ : Hid (auditR s l = (fdsL s l s.pairs.length, 0)) := Lib.hid (if_pos hok)
    clear hok
    rintro e w1 ⟨rfl, x1⟩
    have bs := block_ext x1 b0_0
    clear b0_0
    have XW := Lib.hid (X0.trans x1)
    have hwz := (X0.trans x1).size
    clear X0
    go_wp2
    go_loopw [7, 8] (fun v i wr => ∃ k : Nat, k ≤ s.pairs.length ∧ i = .int .i64 k ∧ OwnR wr w1.heap.size 32 3 encF v (fdsL s l k) ∧ Ext w1 wr) (fun _ i _ => s.pairs.length - (intOf i).toNat)
    case atStart => exact ⟨0, by omega, rfl, OwnR.nil, Ext.refl _⟩
    case round =>
      obtain ⟨k, hk, rfl, own, X⟩ := hrel
      have c2 := block_cell (block_ext X bs) 2 _ rfl
      have b2 := block_ext X bs
      obtain ⟨r2, s2⟩ := block_rules b2
      by_cases hlt : k < s.pairs.length
      · have hj := Lib.hid (judgeR_at HO.out hlt)
        have hf := Lib.hid (fdsL_succ s l k)
        have hlen := fdsL_len s l k
        clear b2 r2 s2
        have d0 := block_cell (block_ext X bs) 0 _ rfl; have d1 := block_cell (block_ext X bs) 1 _ rfl; have d3 := block_cell (block_ext X bs) 3 _ rfl
        go_wp2_with fail
        refine (JW.out _ k (x1.trans X)).mono ?_
        rw [hj.out]
        obtain ⟨⟨fi, fv, fb⟩, hfd⟩ : ∃ f, fdOf s l k = f := ⟨_, rfl⟩
        have HF := Lib.hid hfd
        rw [hfd]
        rintro e w2 ⟨rfl, x2⟩
        have own2 := (own.ext x2).alloc (.cells #[.int .i64 fi, .int .i64 fv, .int .i64 fb] 32)
        have X2 := X.trans (x2.trans (Ext.alloc' w2 (.cells #[.int .i64 fi, .int .i64 fv, .int .i64 fb] 32)))
        have hsz2 := X2.size
        clear own c2 d0 d1 d3 hfd
        go_wp2_with (at_builtin; go_must (refine wpList_own1 et_fd rfl _ _ rfl own2 rfl (⟨fi, fv, fb⟩ : Fnd) rfl rfl rfl (by simp [encF, Value.oneCell']) (by omega) hsz2 ?_; intro v' w5 hown' hb' happ _))
        go_roundw
        case rel => exact ⟨k + 1, by omega, by go_num, by rw [hf.out, HF.out]; exact hown', Below.trans X2 hb'⟩
        case measure => simp [intOf] <;> omega
      · obtain rfl : k = s.pairs.length := by omega
        have S7 := own.sl (fun _ _ => rfl) (by rw [fdsL_len]; omega)
        have XX := XW.out.trans X
        clear own r2 s2 b2
        go_wp2
        exact bodyPost_ret (v := .tuple #[u7, .int .i64 0]) (by simp [results, Tryd.results16, go_sem]) rfl ⟨u7, by rw [HJ.out] <;> rfl, by rw [HJ.out]; exact S7, XX⟩
end Go.Proofs.YtglngmfnoganpaaDoor
