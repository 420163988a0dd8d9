/-
  Walk: score.Valid.
-/
import Derived.Test.YtdpegkkbhanjkaaDoorScE
set_option linter.unusedVariables false
namespace Go.Proofs.YtdpegkkbhanjkaaDoor
open Go.RowKit Go.Sx Go.Sx.Sz Go.Sx.Sc

def chk (s : Sc) : Nat → Prop
  | 0 => szOk' s
  | 1 => ntOk s
  | 2 => vcOk s
  | 3 => prsOk s
  | _ => cadOk s

set_option maxRecDepth 100000 in
set_option maxHeartbeats 4000000 in
theorem scvalid_walk (vn vp vc : Value) (s : Sc) (w : World) (S : ScR w vn vp vc s) : Calls Tryd.prog 29 #[.agg #[.int .i64 s.voices, vn, vp, vc]] w fun e w' => e = .returned (.bool (scB s)) ∧ Ext w w' := by
  obtain ⟨an, cn, rfl, -, -, hln⟩ := S.nt.len
  obtain ⟨ap, cp, rfl, -, -, hlp⟩ := S.pr.len
  obtain ⟨ac, cc, rfl, -, -, -⟩ := S.cd.len
  go_enter Tryd.func29, Tryd.ntmps29
  go_wp2
  have b0 : ((w.alloc (.cells #[.int .i64 s.voices, .slice an s.notes.length cn, .slice ap s.pairs.length cp, .slice ac s.cads.length cc] 26)).alloc (.cells #[.func (.func 50) #[] #[], .func (.func 51) #[] #[], .func (.func 52) #[] #[], .func (.func 53) #[] #[], .func (.func 54) #[] #[]] 29)).heap[w.heap.size]? = some (.cells #[.int .i64 s.voices, .slice an s.notes.length cn, .slice ap s.pairs.length cp, .slice ac s.cads.length cc] 26 (0, 0)) := block_alloc (block_new w _) _
  have b1 : ((w.alloc (.cells #[.int .i64 s.voices, .slice an s.notes.length cn, .slice ap s.pairs.length cp, .slice ac s.cads.length cc] 26)).alloc (.cells #[.func (.func 50) #[] #[], .func (.func 51) #[] #[], .func (.func 52) #[] #[], .func (.func 53) #[] #[], .func (.func 54) #[] #[]] 29)).heap[w.heap.size + 1]? = some (.cells #[.func (.func 50) #[] #[], .func (.func 51) #[] #[], .func (.func 52) #[] #[], .func (.func 53) #[] #[], .func (.func 54) #[] #[]] 29 (0, 0)) := block_at (by simp) _
  have XW : Ext w ((w.alloc (.cells #[.int .i64 s.voices, .slice an s.notes.length cn, .slice ap s.pairs.length cp, .slice ac s.cads.length cc] 26)).alloc (.cells #[.func (.func 50) #[] #[], .func (.func 51) #[] #[], .func (.func 52) #[] #[], .func (.func 53) #[] #[], .func (.func 54) #[] #[]] 29)) := (by repeat (first | with_reducible exact Ext.refl _ | with_reducible assumption | with_reducible apply Ext.alloc | with_reducible apply Ext.drew | (with_reducible refine Ext.setCell ?_ (by (try simp) <;> omega) _)))
  obtain ⟨B, hB⟩ : ∃ B, w.heap.size = B := ⟨_, rfl⟩
  obtain ⟨W, hW⟩ : ∃ W, (w.alloc (.cells #[.int .i64 s.voices, .slice an s.notes.length cn, .slice ap s.pairs.length cp, .slice ac s.cads.length cc] 26)).alloc (.cells #[.func (.func 50) #[] #[], .func (.func 51) #[] #[], .func (.func 52) #[] #[], .func (.func 53) #[] #[], .func (.func 54) #[] #[]] 29) = W := ⟨_, rfl⟩
  rw [hB] at b0 b1 ⊢
  rw [hW] at b0 b1 XW ⊢
  clear hB hW
  go_loopw [7] (fun i wr => ∃ k : Nat, k ≤ 5 ∧ i = .int .i64 k ∧ (∀ j, j < k → chk s j) ∧ Ext W wr) (fun i _ => 5 - (intOf i).toNat)
  case atStart => exact ⟨0, by omega, rfl, fun j h => by omega, Ext.refl _⟩
  case round =>
    obtain ⟨k, hk, rfl, hall, X⟩ := hrel
    have HA := Lib.hid hall
    have SR := (S.ext XW).ext X
    have s0 := block_cell (block_ext X b0) 0 (.int .i64 s.voices) rfl
    have s1 := block_cell (block_ext X b0) 1 (.slice an s.notes.length cn) rfl
    have s2 := block_cell (block_ext X b0) 2 (.slice ap s.pairs.length cp) rfl
    have s3 := block_cell (block_ext X b0) 3 (.slice ac s.cads.length cc) rfl
    have f0 := block_cell (block_ext X b1) 0 _ rfl
    have f1 := block_cell (block_ext X b1) 1 _ rfl
    have f2 := block_cell (block_ext X b1) 2 _ rfl
    have f3 := block_cell (block_ext X b1) 3 _ rfl
    have f4 := block_cell (block_ext X b1) 4 _ rfl
    obtain ⟨wo, rfl⟩ : ∃ wo : World, wo = wr := ⟨_, rfl⟩
    clear hall
    by_cases hlt : k < 5
    · clear hk
      obtain rfl | rfl | rfl | rfl | rfl : k = 0 ∨ k = 1 ∨ k = 2 ∨ k = 3 ∨ k = 4 := by omega
      all_goals clear hlt
      · -- check 0
        have CK := Lib.hid fun w' (x : Ext wo w') => sizes_walk _ _ _ s w' (SR.ext x)
        by_cases hc : szOk' s
        · have hd := decide_eq_true hc
          have HD := Lib.hid hd
          have HC := Lib.hid hc
          clear hd hc
          go_wp2_with fail
          refine (CK.out _ (by repeat (first | with_reducible exact Ext.refl _ | with_reducible assumption | with_reducible apply Ext.alloc | with_reducible apply Ext.drew | (with_reducible refine Ext.setCell ?_ (by (try simp) <;> omega) _)))).mono ?_
          rw [HD.out]
          rintro e w1 ⟨rfl, x1⟩
          have X1 : Ext W wo := X
          go_wp2
          go_roundw
          case rel => exact ⟨1, by omega, rfl, fun j hj => by
            rcases Nat.lt_or_ge j 0 with h | h
            · exact HA.out j h
            · obtain rfl : j = 0 := by omega
              exact HC.out, X.trans x1⟩
          case measure => simp [intOf]
        · have hd := decide_eq_false hc
          have hb : scB s = false := scB_false fun h => hc h.sz
          have HD := Lib.hid hd
          have HB := Lib.hid hb
          clear hd hc hb
          go_wp2_with fail
          refine (CK.out _ (by repeat (first | with_reducible exact Ext.refl _ | with_reducible assumption | with_reducible apply Ext.alloc | with_reducible apply Ext.drew | (with_reducible refine Ext.setCell ?_ (by (try simp) <;> omega) _)))).mono ?_
          rw [HD.out]
          rintro e w1 ⟨rfl, x1⟩
          go_wp2
          go_ret
          exact ⟨by rw [HB.out] <;> rfl, (XW.trans X).trans x1⟩
      · -- check 1
        have CK := Lib.hid fun w' (x : Ext wo w') => notes_walk _ _ _ s w' (SR.ext x)
        by_cases hc : ntOk s
        · have hd := decide_eq_true hc
          have HD := Lib.hid hd
          have HC := Lib.hid hc
          clear hd hc
          go_wp2_with fail
          refine (CK.out _ (by repeat (first | with_reducible exact Ext.refl _ | with_reducible assumption | with_reducible apply Ext.alloc | with_reducible apply Ext.drew | (with_reducible refine Ext.setCell ?_ (by (try simp) <;> omega) _)))).mono ?_
          rw [HD.out]
          rintro e w1 ⟨rfl, x1⟩
          have X1 : Ext W wo := X
          go_wp2
          go_roundw
          case rel => exact ⟨2, by omega, rfl, fun j hj => by
            rcases Nat.lt_or_ge j 1 with h | h
            · exact HA.out j h
            · obtain rfl : j = 1 := by omega
              exact HC.out, X.trans x1⟩
          case measure => simp [intOf]
        · have hd := decide_eq_false hc
          have hb : scB s = false := scB_false fun h => hc h.nt
          have HD := Lib.hid hd
          have HB := Lib.hid hb
          clear hd hc hb
          go_wp2_with fail
          refine (CK.out _ (by repeat (first | with_reducible exact Ext.refl _ | with_reducible assumption | with_reducible apply Ext.alloc | with_reducible apply Ext.drew | (with_reducible refine Ext.setCell ?_ (by (try simp) <;> omega) _)))).mono ?_
          rw [HD.out]
          rintro e w1 ⟨rfl, x1⟩
          go_wp2
          go_ret
          exact ⟨by rw [HB.out] <;> rfl, (XW.trans X).trans x1⟩
      · -- check 2
        have CK := Lib.hid fun w' (x : Ext wo w') => voices_walk _ _ _ s (HA.out 0 (by omega)).1.2 (HA.out 1 (by omega)) w' (SR.ext x)
        by_cases hc : vcOk s
        · have hd := decide_eq_true hc
          have HD := Lib.hid hd
          have HC := Lib.hid hc
          clear hd hc
          go_wp2_with fail
          refine (CK.out _ (by repeat (first | with_reducible exact Ext.refl _ | with_reducible assumption | with_reducible apply Ext.alloc | with_reducible apply Ext.drew | (with_reducible refine Ext.setCell ?_ (by (try simp) <;> omega) _)))).mono ?_
          rw [HD.out]
          rintro e w1 ⟨rfl, x1⟩
          have X1 : Ext W wo := X
          go_wp2
          go_roundw
          case rel => exact ⟨3, by omega, rfl, fun j hj => by
            rcases Nat.lt_or_ge j 2 with h | h
            · exact HA.out j h
            · obtain rfl : j = 2 := by omega
              exact HC.out, X.trans x1⟩
          case measure => simp [intOf]
        · have hd := decide_eq_false hc
          have hb : scB s = false := scB_false fun h => hc h.vc
          have HD := Lib.hid hd
          have HB := Lib.hid hb
          clear hd hc hb
          go_wp2_with fail
          refine (CK.out _ (by repeat (first | with_reducible exact Ext.refl _ | with_reducible assumption | with_reducible apply Ext.alloc | with_reducible apply Ext.drew | (with_reducible refine Ext.setCell ?_ (by (try simp) <;> omega) _)))).mono ?_
          rw [HD.out]
          rintro e w1 ⟨rfl, x1⟩
          go_wp2
          go_ret
          exact ⟨by rw [HB.out] <;> rfl, (XW.trans X).trans x1⟩
      · -- check 3
        have CK := Lib.hid fun w' (x : Ext wo w') => pairs_walk _ _ _ s w' (SR.ext x)
        by_cases hc : prsOk s
        · have hd := decide_eq_true hc
          have HD := Lib.hid hd
          have HC := Lib.hid hc
          clear hd hc
          go_wp2_with fail
          refine (CK.out _ (by repeat (first | with_reducible exact Ext.refl _ | with_reducible assumption | with_reducible apply Ext.alloc | with_reducible apply Ext.drew | (with_reducible refine Ext.setCell ?_ (by (try simp) <;> omega) _)))).mono ?_
          rw [HD.out]
          rintro e w1 ⟨rfl, x1⟩
          have X1 : Ext W wo := X
          go_wp2
          go_roundw
          case rel => exact ⟨4, by omega, rfl, fun j hj => by
            rcases Nat.lt_or_ge j 3 with h | h
            · exact HA.out j h
            · obtain rfl : j = 3 := by omega
              exact HC.out, X.trans x1⟩
          case measure => simp [intOf]
        · have hd := decide_eq_false hc
          have hb : scB s = false := scB_false fun h => hc h.pr
          have HD := Lib.hid hd
          have HB := Lib.hid hb
          clear hd hc hb
          go_wp2_with fail
          refine (CK.out _ (by repeat (first | with_reducible exact Ext.refl _ | with_reducible assumption | with_reducible apply Ext.alloc | with_reducible apply Ext.drew | (with_reducible refine Ext.setCell ?_ (by (try simp) <;> omega) _)))).mono ?_
          rw [HD.out]
          rintro e w1 ⟨rfl, x1⟩
          go_wp2
          go_ret
          exact ⟨by rw [HB.out] <;> rfl, (XW.trans X).trans x1⟩
      · -- check 4
        have CK := Lib.hid fun w' (x : Ext wo w') => cads_walk _ _ _ s w' (SR.ext x)
        by_cases hc : cadOk s
        · have hd := decide_eq_true hc
          have HD := Lib.hid hd
          have HC := Lib.hid hc
          clear hd hc
          go_wp2_with fail
          refine (CK.out _ (by repeat (first | with_reducible exact Ext.refl _ | with_reducible assumption | with_reducible apply Ext.alloc | with_reducible apply Ext.drew | (with_reducible refine Ext.setCell ?_ (by (try simp) <;> omega) _)))).mono ?_
          rw [HD.out]
          rintro e w1 ⟨rfl, x1⟩
          have X1 : Ext W wo := X
          go_wp2
          go_roundw
          case rel => exact ⟨5, by omega, rfl, fun j hj => by
            rcases Nat.lt_or_ge j 4 with h | h
            · exact HA.out j h
            · obtain rfl : j = 4 := by omega
              exact HC.out, X.trans x1⟩
          case measure => simp [intOf]
        · have hd := decide_eq_false hc
          have hb : scB s = false := scB_false fun h => hc h.cd
          have HD := Lib.hid hd
          have HB := Lib.hid hb
          clear hd hc hb
          go_wp2_with fail
          refine (CK.out _ (by repeat (first | with_reducible exact Ext.refl _ | with_reducible assumption | with_reducible apply Ext.alloc | with_reducible apply Ext.drew | (with_reducible refine Ext.setCell ?_ (by (try simp) <;> omega) _)))).mono ?_
          rw [HD.out]
          rintro e w1 ⟨rfl, x1⟩
          go_wp2
          go_ret
          exact ⟨by rw [HB.out] <;> rfl, (XW.trans X).trans x1⟩
    · obtain rfl : k = 5 := by omega
      have hg : scB s = true := scB_iff.2 ⟨HA.out 0 (by omega), HA.out 1 (by omega), HA.out 2 (by omega), HA.out 3 (by omega), HA.out 4 (by omega)⟩
      have HG := Lib.hid hg
      clear hg
      go_wp2
      go_ret
      exact ⟨by rw [HG.out] <;> rfl, XW.trans X⟩
end Go.Proofs.YtdpegkkbhanjkaaDoor
