/-
  Walks of sing: Entries, Missing.
-/
import Derived.Test.YtigigcbondhmmaaDoorSgG
set_option linter.unusedVariables false
namespace Go.Proofs.YtigigcbondhmmaaDoor
open Go.RowKit Go.Sx Go.Sx.Sz Go.Sx.Sc Go.Sx.Sg

theorem etz_sg : ET Tryd.prog 24 3 1 8 := .mk' (z := .int .i64 0) Tryd.underlying24 (by kernel_rfl) rfl (by decide) (by decide)
/-- Those of the first k that a test accepts, as integers. -/
def pickL (q : Nat → Bool) (k : Nat) : List Int := ((List.range k).filter q).map fun i : Nat => (i : Int)
theorem pickL_succ (q : Nat → Bool) (k : Nat) : pickL q (k + 1) = pickL q k ++ if q k = true then [(k : Int)] else [] := by
  unfold pickL
  rw [List.range_succ, List.filter_append, List.map_append]
  congr 1
  by_cases h : q k = true
  · rw [List.filter_cons_of_pos h, if_pos h]; rfl
  · rw [List.filter_cons_of_neg h, if_neg h]; rfl
theorem pickL_len (q : Nat → Bool) (k : Nat) : (pickL q k).length ≤ k := by
  unfold pickL
  rw [List.length_map]
  exact Nat.le_trans (List.length_filter_le _ _) (by simp)
theorem entry_nat {s : Sc} {k : Nat} (h : k < s.notes.length) : entryB s k = entryN s k := by
  unfold entryB; rw [decide_eq_true (by omega), Bool.true_and, Int.toNat_natCast]

set_option maxRecDepth 100000 in
set_option maxHeartbeats 4000000 in
theorem entries_walk (vn vp vc : Value) (s : Sc) (w : World) (S : ScR w vn vp vc s) : Calls Tryd.prog 12 #[.agg #[.int .i64 s.voices, vn, vp, vc]] w fun e w' => ∃ v, e = .returned (.tuple #[v, .int .i64 (entriesR s).2]) ∧ Sl w' 1 encZ v (entriesR s).1 ∧ Ext w w' := by
  have SL := S.nt
  have VW := Lib.hid fun w' (y : Ext w w') => scvalid_walk vn vp vc s w' (S.ext y)
  obtain ⟨an, cn, rfl, -, -, hln⟩ := S.nt.len
  obtain ⟨ap, cp, rfl, -, -, hlp⟩ := S.pr.len
  obtain ⟨ac, cc, rfl, -, -, hlc⟩ := S.cd.len
  cases hok : scB s with
  | false =>
    have HR : Hid (entriesR s = ([], 1)) := Lib.hid (by unfold entriesR; rw [hok]; rfl)
    have HO := Lib.hid hok
    clear hok
    rw [HR.out]
    go_enter Tryd.func12, Tryd.ntmps12
    go_wp2_with fail
    refine (VW.out _ (by repeat (first | with_reducible exact Ext.refl _ | with_reducible assumption | with_reducible apply Ext.alloc | with_reducible apply Ext.drew | (with_reducible refine Ext.setCell ?_ (by (try simp) <;> omega) _)))).mono ?_
    rw [HO.out]
    rintro e w1 ⟨rfl, x1⟩
    have X1 : Ext w w1 := Ext.trans (by repeat (first | with_reducible exact Ext.refl _ | with_reducible assumption | with_reducible apply Ext.alloc | with_reducible apply Ext.drew | (with_reducible refine Ext.setCell ?_ (by (try simp) <;> omega) _))) x1
    go_wp2
    refine bodyPost_ret (v := .tuple #[.slice none 0 0, .int .i64 1]) (by simp [results, Tryd.results12, go_sem]) rfl ⟨_, rfl, Sl.nil _ _ _, X1⟩
  | true =>
    have HR : Hid (entriesR s = (pickL (entryN s) s.notes.length, 0)) := Lib.hid (by unfold entriesR; rw [hok]; rfl)
    have HO := Lib.hid hok
    have hnn := (scB_iff.1 hok).sz.2.1
    clear hok
    rw [HR.out]
    have X0 : Ext w (w.alloc (.cells #[.int .i64 s.voices, .slice an s.notes.length cn, .slice ap s.pairs.length cp, .slice ac s.cads.length cc] 26)) := (by repeat (first | with_reducible exact Ext.refl _ | with_reducible assumption | with_reducible apply Ext.alloc | with_reducible apply Ext.drew | (with_reducible refine Ext.setCell ?_ (by (try simp) <;> omega) _)))
    have b0_0 := block_new w (.cells #[.int .i64 s.voices, .slice an s.notes.length cn, .slice ap s.pairs.length cp, .slice ac s.cads.length cc] 26)
    obtain ⟨W0, hW0⟩ : ∃ W, (w.alloc (.cells #[.int .i64 s.voices, .slice an s.notes.length cn, .slice ap s.pairs.length cp, .slice ac s.cads.length cc] 26)) = W := ⟨_, rfl⟩
    obtain ⟨B0, hB0⟩ : ∃ B, w.heap.size = B := ⟨_, rfl⟩
    rw [hW0] at X0 b0_0
    rw [hB0] at b0_0
    have HZ0 : Hid (w.heap.size ≤ B0) := Lib.hid (by omega)
    have HW0 := Lib.hid hW0; have HB0 := Lib.hid hB0
    clear hW0 hB0
    go_enter Tryd.func12, Tryd.ntmps12
    go_wp2_with fail
    rw [HW0.out, HB0.out]
    refine (VW.out _ X0).mono ?_
    rw [HO.out]
    rintro e w1 ⟨rfl, x1⟩
    have b1 := block_ext x1 b0_0
    have c0 := block_cell b1 0 _ rfl; have c1 := block_cell b1 1 _ rfl; have c2 := block_cell b1 2 _ rfl; have c3 := block_cell b1 3 _ rfl
    have X1 := X0.trans x1
    have X2 : Ext w1 (w1.alloc (.cells #[.int .i64 s.voices, .slice an s.notes.length cn, .slice ap s.pairs.length cp, .slice ac s.cads.length cc, .slice none 0 0] 58)) := (by repeat (first | with_reducible exact Ext.refl _ | with_reducible assumption | with_reducible apply Ext.alloc | with_reducible apply Ext.drew | (with_reducible refine Ext.setCell ?_ (by (try simp) <;> omega) _)))
    have b2_0 := block_new w1 (.cells #[.int .i64 s.voices, .slice an s.notes.length cn, .slice ap s.pairs.length cp, .slice ac s.cads.length cc, .slice none 0 0] 58)
    obtain ⟨W2, hW2⟩ : ∃ W, (w1.alloc (.cells #[.int .i64 s.voices, .slice an s.notes.length cn, .slice ap s.pairs.length cp, .slice ac s.cads.length cc, .slice none 0 0] 58)) = W := ⟨_, rfl⟩
    obtain ⟨B2, hB2⟩ : ∃ B, w1.heap.size = B := ⟨_, rfl⟩
    rw [hW2] at X2 b2_0
    rw [hB2] at b2_0
    have HZ2 : Hid (w1.heap.size ≤ B2) := Lib.hid (by omega)
    have HW2 := Lib.hid hW2; have HB2 := Lib.hid hB2
    clear hW2 hB2
    have d1 := X2.cell c1
    have X12 := X1.trans X2
    have HB := Lib.hid fun w' (y : Ext W2 w') => block_ext y b2_0
    clear b1 x1 b0_0 b2_0 HW0 HB0
    go_upto_region 5 with fail
    rw [HW2.out, HB2.out]
    go_wp2
    clear c0 c1 c2 c3 d1 HW2 HB2
    go_loopw [4, 15] (fun v i wr => ∃ k : Nat, k ≤ s.notes.length ∧ i = .int .i64 k ∧ OwnR wr W2.heap.size 3 1 encZ v (pickL (entryN s) k) ∧ Ext W2 wr) (fun _ i _ => s.notes.length - (intOf i).toNat)
    case atStart => exact ⟨0, by omega, rfl, OwnR.nil, Ext.refl _⟩
    case round =>
      obtain ⟨k, hk, rfl, own, X⟩ := hrel
      by_cases hlt : k < s.notes.length
      · have HT := Lib.hid (pickL_succ (entryN s) k)
        have hlen := pickL_len (entryN s) k
        have hb := HB.out _ X
        have c0 := block_cell hb 0 _ rfl; have c1 := block_cell hb 1 _ rfl; have c2 := block_cell hb 2 _ rfl; have c3 := block_cell hb 3 _ rfl; have c4 := block_cell hb 4 _ rfl
        clear hb
        have EW := Lib.hid (entry_walk (.int .i64 s.voices) (.slice an s.notes.length cn) (.slice ap s.pairs.length cp) (.slice ac s.cads.length cc) (.slice none 0 0) ⟨_, _, _, rfl⟩ s (scB_iff.1 HO.out) k wr (SL.ext (X12.trans X)))
        have HEN := Lib.hid (entry_nat hlt)
        go_wp2_with fail
        refine EW.out.mono ?_
        rw [HEN.out]
        obtain ⟨c, hc⟩ : ∃ c, entryN s k = c := ⟨_, rfl⟩
        rw [hc] at HT ⊢
        clear hc EW HEN
        rintro e w3 ⟨rfl, x3⟩
        have own1 := own.ext x3
        have X3 := X.trans x3
        have hsz := X3.size
        clear c0 c1 c2 c3 c4 own x3
        cases c with
        | true =>
          go_wp2_with (at_builtin; go_must (refine wpList_own1 etz_sg rfl _ _ rfl own1 rfl (k : Int) rfl rfl rfl (by simp [encZ, Value.oneCell']) (by omega) hsz ?_; intro v' w4 hown' hb' happ _))
          go_roundw
          case rel => exact ⟨k + 1, by omega, by go_num, by rw [HT.out]; exact hown', Below.trans X3 hb'⟩
          case measure => simp [intOf]; omega
        | false =>
          go_wp2
          go_roundw
          case rel => exact ⟨k + 1, by omega, by go_num, by rw [HT.out]; simpa using own1, X3⟩
          case measure => simp [intOf]; omega
      · obtain rfl : k = s.notes.length := by omega
        have hlen := pickL_len (entryN s) s.notes.length
        have S7 := own.sl (fun _ _ => rfl) (by omega)
        have XX := X12.trans X
        clear own
        go_wp2
        exact bodyPost_ret (v := .tuple #[u4, .int .i64 0]) (by simp [results, Tryd.results12, go_sem]) rfl ⟨u4, rfl, S7, XX⟩
end Go.Proofs.YtigigcbondhmmaaDoor
