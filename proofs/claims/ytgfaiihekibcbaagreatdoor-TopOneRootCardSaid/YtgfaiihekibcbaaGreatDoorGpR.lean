/-
  Walks: schismaref21's Few and SameSteps, the triad of the non-vacuity check.
-/
import Derived.Test.YtgfaiihekibcbaaGreatDoorLibO
import Derived.Test.YtgfaiihekibcbaaGreatDoorPlN
import Derived.Test.YtgfaiihekibcbaaGreatDoorLibK
set_option maxRecDepth 100000
set_option linter.unusedVariables false
namespace Go.Proofs.YtgfaiihekibcbaaGreatDoor
open Go.RowKit Go.Sx Go.Sx.Sz Go.Sx.Sc Go.Sx.Po Go.Sx.Ch

set_option maxRecDepth 100000 in
set_option maxHeartbeats 1000000 in
theorem few21_walk (vn vp vc : Value) (s : Sc) (w : World) (S : ScR w vn vp vc s) : Calls Tryz.prog 5 #[.agg #[.int .i64 s.voices, vn, vp, vc]] w fun e w' => e = .returned (.bool (decide (s.notes.length ≤ 24) && decide (s.pairs.length ≤ 40))) ∧ Ext w w' := by
  obtain ⟨an, cn, rfl, -, -, hln⟩ := S.nt.len
  obtain ⟨ap, cp, rfl, -, -, hlp⟩ := S.pr.len
  obtain ⟨ac, cc, rfl, -, -, hlc⟩ := S.cd.len
  have X0 : Ext w (w.alloc (.cells #[.int .i64 s.voices, .slice an s.notes.length cn, .slice ap s.pairs.length cp, .slice ac s.cads.length cc] 26)) := (by repeat (first | with_reducible exact Ext.refl _ | with_reducible assumption | with_reducible apply Ext.alloc | with_reducible apply Ext.drew | (with_reducible refine Ext.setCell ?_ (by (try simp) <;> omega) _)))
  have b0_0 := block_new w (.cells #[.int .i64 s.voices, .slice an s.notes.length cn, .slice ap s.pairs.length cp, .slice ac s.cads.length cc] 26)
  obtain ⟨W0, hW0⟩ : ∃ W, (w.alloc (.cells #[.int .i64 s.voices, .slice an s.notes.length cn, .slice ap s.pairs.length cp, .slice ac s.cads.length cc] 26)) = W := ⟨_, rfl⟩
  obtain ⟨B0, hB0⟩ : ∃ B, w.heap.size = B := ⟨_, rfl⟩
  rw [hW0] at X0 b0_0
  rw [hB0] at b0_0
  have HZ0 : Hid (w.heap.size ≤ B0) := Lib.hid (by omega)
  have HW0 := Lib.hid hW0; have HB0 := Lib.hid hB0
  clear hW0 hB0
  have c1 := block_cell b0_0 1 _ rfl
  have c2 := block_cell b0_0 2 _ rfl
  clear b0_0 S
  obtain ⟨r, hr⟩ : ∃ r, (decide (s.notes.length ≤ 24) && decide (s.pairs.length ≤ 40)) = r := ⟨_, rfl⟩
  rw [hr]
  have HR := Lib.hid hr
  clear hr
  by_cases h1 : s.notes.length ≤ 24
  · by_cases h2 : s.pairs.length ≤ 40
    · have t1 : decide (s.notes.length ≤ 24) = true := decide_eq_true h1
      have t2 : decide (s.pairs.length ≤ 40) = true := decide_eq_true h2
      have HQ : Hid (r = true) := Lib.hid (by rw [← HR.out, t1, t2]; rfl)
      have u1 : decide ((s.notes.length : Int) ≤ 24) = true := decide_eq_true (by omega)
      have u2 : decide ((s.pairs.length : Int) ≤ 40) = true := decide_eq_true (by omega)
      clear h1 h2
      go_enter Tryz.func5, Tryz.ntmps5
      go_wp2
      go_ret
      exact ⟨by rw [HQ.out] <;> rfl, by rw [HW0.out]; exact X0⟩
    · have t1 : decide (s.notes.length ≤ 24) = true := decide_eq_true h1
      have t2 : decide (s.pairs.length ≤ 40) = false := decide_eq_false h2
      have HQ : Hid (r = false) := Lib.hid (by rw [← HR.out, t1, t2]; rfl)
      have u1 : decide ((s.notes.length : Int) ≤ 24) = true := decide_eq_true (by omega)
      have u2 : decide ((s.pairs.length : Int) ≤ 40) = false := decide_eq_false (by omega)
      clear h1 h2
      go_enter Tryz.func5, Tryz.ntmps5
      go_wp2
      go_ret
      exact ⟨by rw [HQ.out] <;> rfl, by rw [HW0.out]; exact X0⟩
  · have t1 : decide (s.notes.length ≤ 24) = false := decide_eq_false h1
    have HQ : Hid (r = false) := Lib.hid (by rw [← HR.out, t1]; rfl)
    have u1 : decide ((s.notes.length : Int) ≤ 24) = false := decide_eq_false (by omega)
    clear h1
    go_enter Tryz.func5, Tryz.ntmps5
    go_wp2
    go_ret
    exact ⟨by rw [HQ.out] <;> rfl, by rw [HW0.out]; exact X0⟩

set_option maxHeartbeats 1000000 in
theorem steps21_walk (va vb : Value) (xs : List St) (w : World) (S : Sl w 3 encSt va xs) (T : Sl w 3 encSt vb xs) :
    Calls Tryz.prog 12 #[va, vb] w fun e w' => e = .returned (.bool true) ∧ Ext w w' := by
  obtain ⟨a?, ca, rfl, -, -, h3⟩ := S.len
  obtain ⟨b?, cb, rfl, -, -, h4⟩ := T.len
  have hl' : ((xs.length : Int) != xs.length) = false := by rw [bne_eq_false_iff_eq]
  go_enter Tryz.func12, Tryz.ntmps12
  go_wp2
  go_loopw [5] (fun i wr => ∃ k : Nat, k ≤ xs.length ∧ i = .int .i64 k ∧ Ext w wr) (fun i _ => xs.length - (intOf i).toNat)
  case atStart => exact ⟨0, by omega, rfl, Ext.refl _⟩
  case round =>
    obtain ⟨k, hk, rfl, hx⟩ := hrel
    clear hl'
    by_cases hlt : k < xs.length
    · obtain ⟨b0, o0, rfl, c0, c1, c2⟩ := Sl.stp (S.ext hx) k hlt
      obtain ⟨b1, o1, rfl, d0, d1, d2⟩ := Sl.stp (T.ext hx) k hlt
      obtain ⟨x, hxx⟩ : ∃ x, xs[k] = x := ⟨_, rfl⟩
      rw [hxx] at c0 c1 c2 d0 d1 d2
      have ea : (x.a == x.a) = true := beq_self_eq_true _
      have eb : (x.b == x.b) = true := beq_self_eq_true _
      have ek : (x.k == x.k) = true := beq_self_eq_true _
      have i1 : (0 : Int) ≤ (k : Int) := by omega
      have i2 : (k : Int) < (xs.length : Int) := by omega
      clear S T hxx
      obtain ⟨wo, rfl⟩ : ∃ wo : World, wo = wr := ⟨_, rfl⟩
      go_wp2
      go_quiet (fail)
      go_wp2
      go_roundw
      case rel => exact ⟨k + 1, by omega, by go_num, hx.drewN _⟩
      case measure => simp [intOf] <;> omega
    · obtain rfl : k = xs.length := by omega
      clear S T
      go_wp2
      go_ret
      exact ⟨rfl, hx⟩


theorem et_note : ET Tryz.prog 22 69 10 80 := .mk' (z := .agg #[.int .i64 0, .int .i64 0, .int .i64 0, .int .i64 0, .int .i64 0, .int .i64 0, .int .i64 0, .int .i64 0, .int .i64 0, .bool false]) Tryz.underlying22 (by kernel_rfl) rfl (by decide) (by decide)
def triN (k : Nat) : List Nt := (List.range k).map fun (v : Nat) => (⟨v, 0, 10, V6.zero, false⟩ : Nt)
theorem triN_succ (k : Nat) : triN (k + 1) = triN k ++ [⟨k, 0, 10, V6.zero, false⟩] := by unfold triN; rw [List.range_succ, List.map_append]; rfl
theorem triN_len (k : Nat) : (triN k).length = k := by simp [triN]
set_option maxHeartbeats 4000000 in
theorem triad_walk (x : V6) (w : World) : Calls Tryz.prog 11 #[.agg #[.int .i64 x.a, .int .i64 x.b, .int .i64 x.c, .int .i64 x.d, .int .i64 x.e, .int .i64 x.f]] w fun e w' => ∃ vn vp vc, e = .returned (.agg #[.int .i64 3, vn, vp, vc]) ∧ ScR w' vn vp vc (triS x) ∧ Ext w w' := by
  have X0 : Ext w ((w.alloc (.cells (#[.int .i64 x.a, .int .i64 x.b, .int .i64 x.c, .int .i64 x.d, .int .i64 x.e, .int .i64 x.f] : Array Value) 32)).alloc (.cells #[.int .i64 0, .slice none 0 0, .slice none 0 0, .slice none 0 0] 26)) := (by repeat (first | with_reducible exact Ext.refl _ | with_reducible assumption | with_reducible apply Ext.alloc | with_reducible apply Ext.drew | (with_reducible refine Ext.setCell ?_ (by (try simp) <;> omega) _)))
  have b0_0 := block_alloc (block_new w (.cells (#[.int .i64 x.a, .int .i64 x.b, .int .i64 x.c, .int .i64 x.d, .int .i64 x.e, .int .i64 x.f] : Array Value) 32)) (.cells #[.int .i64 0, .slice none 0 0, .slice none 0 0, .slice none 0 0] 26)
  have b0_1 := block_at (w := (w.alloc (.cells (#[.int .i64 x.a, .int .i64 x.b, .int .i64 x.c, .int .i64 x.d, .int .i64 x.e, .int .i64 x.f] : Array Value) 32))) (n := w.heap.size + 1) (by simp) (.cells #[.int .i64 0, .slice none 0 0, .slice none 0 0, .slice none 0 0] 26)
  obtain ⟨W0, hW0⟩ : ∃ W, ((w.alloc (.cells (#[.int .i64 x.a, .int .i64 x.b, .int .i64 x.c, .int .i64 x.d, .int .i64 x.e, .int .i64 x.f] : Array Value) 32)).alloc (.cells #[.int .i64 0, .slice none 0 0, .slice none 0 0, .slice none 0 0] 26)) = W := ⟨_, rfl⟩
  obtain ⟨B0, hB0⟩ : ∃ B, w.heap.size = B := ⟨_, rfl⟩
  rw [hW0] at X0 b0_0 b0_1
  rw [hB0] at b0_0 b0_1
  have HZ0 : Hid (w.heap.size ≤ B0) := Lib.hid (by omega)
  have HW0 := Lib.hid hW0; have HB0 := Lib.hid hB0
  clear hW0 hB0
  have HQ0 := Lib.hid b0_0; have HQ1 := Lib.hid b0_1
  clear b0_0 b0_1
  go_enter Tryz.func11, Tryz.ntmps11
  go_upto_region 1 with fail
  rw [HW0.out, HB0.out]
  clear HW0 HB0
  have X1 : Ext W0 (W0.alloc (.cells #[.int .i64 3, .slice none 0 0, .slice none 0 0, .slice none 0 0] 26)) := (by repeat (first | with_reducible exact Ext.refl _ | with_reducible assumption | with_reducible apply Ext.alloc | with_reducible apply Ext.drew | (with_reducible refine Ext.setCell ?_ (by (try simp) <;> omega) _)))
  have b1_0 := block_new W0 (.cells #[.int .i64 3, .slice none 0 0, .slice none 0 0, .slice none 0 0] 26)
  obtain ⟨W1, hW1⟩ : ∃ W, (W0.alloc (.cells #[.int .i64 3, .slice none 0 0, .slice none 0 0, .slice none 0 0] 26)) = W := ⟨_, rfl⟩
  obtain ⟨B1, hB1⟩ : ∃ B, W0.heap.size = B := ⟨_, rfl⟩
  rw [hW1] at X1 b1_0
  rw [hB1] at b1_0
  have HZ1 : Hid (W0.heap.size ≤ B1) := Lib.hid (by omega)
  have HW1 := Lib.hid hW1; have HB1 := Lib.hid hB1
  clear hW1 hB1
  have H1 := Lib.hid (block_ext X1 HQ0.out); have H2 := Lib.hid (block_ext X1 HQ1.out); have H3 := Lib.hid b1_0
  have hz : B0 + 1 < B1 := by have := (Array.getElem?_eq_some_iff.1 HQ1.out).1; have := HZ1.out; omega
  have HX1 := Lib.hid (X0.trans X1)
  have hz1 : W1.heap.size = B1 + 1 := by have h1 := HW1.out; have h2 := HB1.out; rw [← h1, World.size_alloc, h2]
  have HZ := Lib.hid hz1
  have hz0 := HZ0.out
  clear b1_0 X1 hz1
  go_wp2
  rw [HW1.out, HB1.out]
  clear HW1 HB1
  go_loopw [6] (fun i wr => ∃ (k : Nat) (v : Value), k ≤ 3 ∧ i = .int .i64 k ∧ wr.heap[B1]? = some (.cells #[.int .i64 3, v, .slice none 0 0, .slice none 0 0] 26 (0, 0)) ∧ OwnR wr (B1 + 1) 69 10 encN v (triN k) ∧ Kb (some B1) W1 wr) (fun i _ => 3 - (intOf i).toNat)
  case atStart => exact ⟨0, _, by omega, rfl, H3.out, OwnR.nil, Kb.refl _ _⟩
  case round =>
    obtain ⟨k, v, hk, rfl, hb, own, K⟩ := hrel
    clear H3
    by_cases hlt : k < 3
    · have c1 := block_cell hb 1 _ rfl
      have f1 := block_free hb 1
      have hzk : B1 + 1 ≤ wr.heap.size := by have := K.size; have := HZ.out; omega
      obtain ⟨av, cv, ev⟩ := own.len
      rw [triN_len] at ev
      have HB := Lib.hid hb; have HO := Lib.hid own; have HK := Lib.hid K
      have hkl : (triN k).length ≤ 3 := by rw [triN_len]; omega
      subst ev
      clear hb K
      go_wp2_with (first | (at_builtin; go_must (refine wpList_own1 et_note rfl _ _ rfl own rfl (⟨k, 0, 10, V6.zero, false⟩ : Nt) rfl rfl rfl (by simp [encN, Value.oneCell']) (by omega) hzk ?_; intro v' w5 own5 hb5 happ _; (obtain ⟨a5, n5, c5, rfl⟩ := own5.shape); have hb9 := happ.block HB.out (fun e => by have := (World.ownsRow.lt HO.out B1 e).1; omega); have c9 := block_cell hb9 1 _ rfl; have f9 := block_free hb9 1; have HF1 := Lib.hid (block_set hb9 1 (.slice a5 n5 c5)); have HF2 := Lib.hid (own5.stay (g := B1) (j := 1) (fun e => by have := (World.ownsRow.lt own5 B1 e).1; omega) (.slice a5 n5 c5)); have HF3 := Lib.hid (show Kb (some B1) W1 (w5.setCell ⟨B1, 1, none⟩ (.slice a5 n5 c5)) from (HK.out.on hb5 (by have := HZ.out; omega)).setCell 1 (.slice a5 n5 c5)); clear own5 hb5 happ hb9)) | fail)
      go_roundw
      case rel => exact ⟨k + 1, _, by omega, by go_num, HF1.out, by rw [triN_succ]; exact HF2.out, HF3.out⟩
      case measure => simp [intOf] <;> omega
    · obtain rfl : k = 3 := by omega
      obtain ⟨av, nv, cv, rfl⟩ := own.shape
      have HO := Lib.hid own; have HK := Lib.hid K; have HB := Lib.hid hb
      have Q0 := K.block H1.out (by omega)
      have e0 := block_cell Q0 0 _ rfl; have e1 := block_cell Q0 1 _ rfl; have e2 := block_cell Q0 2 _ rfl; have e3 := block_cell Q0 3 _ rfl; have e4 := block_cell Q0 4 _ rfl; have e5 := block_cell Q0 5 _ rfl
      have X2 : Ext wr (wr.alloc (.cells #[.int .i64 0, .int .i64 1, .int .i64 (-2), .int .i64 0, .int .i64 1, .int .i64 0, .int .i64 0, .int .i64 0, .int .i64 0, .int .i64 0, .int .i64 2, .int .i64 x.a, .int .i64 x.b, .int .i64 x.c, .int .i64 x.d, .int .i64 x.e, .int .i64 x.f, .int .i64 0, .int .i64 1, .int .i64 2, .int .i64 1, .int .i64 1, .int .i64 (-1), .int .i64 0, .int .i64 0, .int .i64 0, .int .i64 0] 48)) := (by repeat (first | with_reducible exact Ext.refl _ | with_reducible assumption | with_reducible apply Ext.alloc | with_reducible apply Ext.drew | (with_reducible refine Ext.setCell ?_ (by (try simp) <;> omega) _)))
      have b2_0 := block_new wr (.cells #[.int .i64 0, .int .i64 1, .int .i64 (-2), .int .i64 0, .int .i64 1, .int .i64 0, .int .i64 0, .int .i64 0, .int .i64 0, .int .i64 0, .int .i64 2, .int .i64 x.a, .int .i64 x.b, .int .i64 x.c, .int .i64 x.d, .int .i64 x.e, .int .i64 x.f, .int .i64 0, .int .i64 1, .int .i64 2, .int .i64 1, .int .i64 1, .int .i64 (-1), .int .i64 0, .int .i64 0, .int .i64 0, .int .i64 0] 48)
      obtain ⟨W2, hW2⟩ : ∃ W, (wr.alloc (.cells #[.int .i64 0, .int .i64 1, .int .i64 (-2), .int .i64 0, .int .i64 1, .int .i64 0, .int .i64 0, .int .i64 0, .int .i64 0, .int .i64 0, .int .i64 2, .int .i64 x.a, .int .i64 x.b, .int .i64 x.c, .int .i64 x.d, .int .i64 x.e, .int .i64 x.f, .int .i64 0, .int .i64 1, .int .i64 2, .int .i64 1, .int .i64 1, .int .i64 (-1), .int .i64 0, .int .i64 0, .int .i64 0, .int .i64 0] 48)) = W := ⟨_, rfl⟩
      obtain ⟨B2, hB2⟩ : ∃ B, wr.heap.size = B := ⟨_, rfl⟩
      rw [hW2] at X2 b2_0
      rw [hB2] at b2_0
      have HZ2 : Hid (wr.heap.size ≤ B2) := Lib.hid (by omega)
      have HW2 := Lib.hid hW2; have HB2 := Lib.hid hB2
      clear hW2 hB2
      have n1 := block_ext X2 hb
      have cx := block_cell n1 2 _ rfl; have fx := block_free n1 2
      rw [← HW2.out] at cx fx
      have HN := Lib.hid n1; have H20 := Lib.hid b2_0
      have hzr : B1 < wr.heap.size := (Array.getElem?_eq_some_iff.1 hb).1
      have HX2 := Lib.hid X2; have HP2 := Lib.hid hzr
      clear hb K own Q0 n1 b2_0 X2 hzr
      go_upto_region 8 with fail
      rw [HW2.out, HB2.out]
      clear HW2 HB2 cx fx e0 e1 e2 e3 e4 e5
      have n5 := block_set HN.out 2 (.slice (some ⟨B2, 0, none⟩) 3 3)
      have m5 : (W2.setCell ⟨B1, 2, none⟩ (.slice (some ⟨B2, 0, none⟩) 3 3)).heap[B2]? = _ := (Kb.setCell (Kb.refl (some B1) W2) 2 (.slice (some ⟨B2, 0, none⟩) 3 3)).block H20.out (by have := HZ2.out; have := HP2.out; omega)
      have q5 := (Kb.setCell (Kb.refl (some B1) W2) 2 (.slice (some ⟨B2, 0, none⟩) 3 3)).block (block_ext HX2.out (HK.out.block H2.out (by omega))) (by omega)
      have k5 : Kb (some B1) W1 (W2.setCell ⟨B1, 2, none⟩ (.slice (some ⟨B2, 0, none⟩) 3 3)) := (HK.out.trans (HX2.out.kb _)).setCell 2 _
      have o5 : OwnR (W2.setCell ⟨B1, 2, none⟩ (.slice (some ⟨B2, 0, none⟩) 3 3)) (B1 + 1) 69 10 encN (.slice av nv cv) (triN 3) :=
        (HO.out.ext HX2.out).stay (g := B1) (j := 2) (fun e => by have := (World.ownsRow.lt HO.out B1 e).1; omega) _
      obtain ⟨w5, hw5⟩ : ∃ w5, W2.setCell ⟨B1, 2, none⟩ (.slice (some ⟨B2, 0, none⟩) 3 3) = w5 := ⟨_, rfl⟩
      rw [hw5] at n5 m5 q5 k5 o5 ⊢
      clear hw5
      have XB := Lib.hid (⟨k5.os.trans HX1.out.os, k5.tape.trans HX1.out.tape, k5.output.trans HX1.out.output, Nat.le_trans HX1.out.size k5.size, fun b hb => (k5.kept b (Nat.lt_of_lt_of_le hb HX1.out.size) (fun e => by injection e with e; omega)).trans (HX1.out.block b hb)⟩ : Ext w w5)
      have c0 := block_cell n5 0 _ rfl; have c1 := block_cell n5 1 _ rfl; have c2 := block_cell n5 2 _ rfl; have c3 := block_cell n5 3 _ rfl
      have HQ5 := Lib.hid q5
      have o6 := Lib.hid (o5.setRow (o5.apart_below (g := B0 + 1) (by omega)) #[.int .i64 3, .slice av nv cv, .slice (some ⟨B2, 0, none⟩) 3 3, .slice none 0 0])
      have m6 := Lib.hid (setRow_ne m5 (k := B2) (g := B0 + 1) (by have := HZ2.out; have := HP2.out; omega) #[.int .i64 3, .slice av nv cv, .slice (some ⟨B2, 0, none⟩) 3 3, .slice none 0 0])
      have X6 := Lib.hid (Ext.setRow (a := w) XB.out (g := B0 + 1) (by have := HZ0.out; omega) #[.int .i64 3, .slice av nv cv, .slice (some ⟨B2, 0, none⟩) 3 3, .slice none 0 0])
      clear n5 m5 q5 k5 o5
      go_wp2_with (first | (refine wpList_store_row rfl _ _ _ rfl (B0 + 1) _ rfl rfl _ _ HQ5.out (by kernel_rfl) rfl (by simp [Value.oneCell']) ?_) | fail)
      have q6 := setRow_at HQ5.out #[.int .i64 3, .slice av nv cv, .slice (some ⟨B2, 0, none⟩) 3 3, .slice none 0 0]
      have d0 := block_cell q6 0 _ rfl; have d1 := block_cell q6 1 _ rfl; have d2 := block_cell q6 2 _ rfl; have d3 := block_cell q6 3 _ rfl
      refine bodyPost_ret (v := .agg #[.int .i64 3, .slice av nv cv, .slice (some ⟨B2, 0, none⟩) 3 3, .slice none 0 0]) (by simp [results, Tryz.results11, go_sem, d0, d1, d2, d3]) rfl ⟨_, _, _, rfl, ⟨?_, ?_, Sl.nil _ _ _⟩, X6.out⟩
      · exact OwnR.sl o6.out (fun _ _ => rfl) (by simp [triS])
      · exact Bk.sl (e := 48) (enc := encP) (xs := (triS x).pairs) (sz := 9) ⟨_, m6.out, rfl⟩ (fun _ _ => rfl) rfl (by simp [triS])

theorem tri_short (x y : V6) (c : Int) (hb : scB (triS x) = true) (hsrt : srt3 (triS x) = true) (hres : resR (rowF (allE (triS x))) 3 ((shortR (rowF (allE (triS x))) 3).1.map Ed.st) = (y, c)) (vn vp vc : Value) (w : World) (S : ScR w vn vp vc (triS x)) :
    Calls Tryz.prog 7 #[.agg #[.int .i64 3, vn, vp, vc]] w fun e w' => ∃ v, e = .returned (.tuple #[v, .agg #[.int .i64 y.a, .int .i64 y.b, .int .i64 y.c, .int .i64 y.d, .int .i64 y.e, .int .i64 y.f], .int .i64 c]) ∧ Ext w w' := by
  refine (shortest_walk vn vp vc (triS x) hb w S).mono ?_
  rintro e w' ⟨v, rows, rfl, hr, hso, hx⟩
  obtain rfl := tri_rows (scB_iff.1 hb) rfl (srt3_ok hsrt) hr hso
  rw [show (triS x).notes.length = 3 from rfl, hres]
  exact ⟨v, rfl, hx⟩

set_option maxHeartbeats 8000000 in
theorem head24_walk (w : World) (GL : Gl 0 w) : Calls Tryz.prog 4 #[] w fun e w' => e = .returned (.bool true) ∧ Ext w w' := by
  have GW := Lib.hid fun w' (x : Ext w w') => GL.ext x
  clear GL
  go_enter Tryz.func4, Tryz.ntmps4
  go_wp2_with fail
  refine (triad_walk triU _).mono ?_
  rintro e w1 ⟨vn, vp, vc, rfl, S1, x1⟩
  go_wp2_with fail
  have X2 : Ext w1 (w1.alloc (.cells #[.int .i64 0, .int .i64 0, .int .i64 0, .int .i64 0, .int .i64 0, .int .i64 0] 32)) := (by repeat (first | with_reducible exact Ext.refl _ | with_reducible assumption | with_reducible apply Ext.alloc | with_reducible apply Ext.drew | (with_reducible refine Ext.setCell ?_ (by (try simp) <;> omega) _)))
  have b2_0 := block_new w1 (.cells #[.int .i64 0, .int .i64 0, .int .i64 0, .int .i64 0, .int .i64 0, .int .i64 0] 32)
  obtain ⟨W2, hW2⟩ : ∃ W, (w1.alloc (.cells #[.int .i64 0, .int .i64 0, .int .i64 0, .int .i64 0, .int .i64 0, .int .i64 0] 32)) = W := ⟨_, rfl⟩
  obtain ⟨B2, hB2⟩ : ∃ B, w1.heap.size = B := ⟨_, rfl⟩
  rw [hW2] at X2 b2_0
  rw [hB2] at b2_0
  have HZ2 : Hid (w1.heap.size ≤ B2) := Lib.hid (by omega)
  have HW2 := Lib.hid hW2; have HB2 := Lib.hid hB2
  clear hW2 hB2
  rw [HW2.out, HB2.out]
  have x2 := x1.trans X2
  refine (broken0_walk _ _ _ _ (triS triU) [V6.zero] _ (GW.out _ x2) (S1.ext X2) (Bk.sl (e := 32) (enc := V6.list) (xs := [V6.zero]) (sz := 6) ⟨_, b2_0, rfl⟩ (fun _ _ => rfl) rfl (by simp))).mono ?_
  rw [triU_brk]
  rintro e w3 ⟨v3, rfl, V3, y3⟩
  have x3 := x2.trans y3
  clear b2_0 HW2 HB2 S1 X2 x1 x2
  go_wp2_with fail
  refine (triad_walk triU _).mono ?_
  rintro e w4 ⟨vn, vp, vc, rfl, S4, y4⟩
  have x4 := x3.trans y4
  go_wp2_with fail
  refine (tri_short triU _ _ triU_ok triU_srt triU_res _ _ _ _ S4).mono ?_
  rintro e w5 ⟨v5, rfl, y5⟩
  have x5 := x4.trans y5
  dsimp only
  have X6 : Ext w5 (w5.alloc (.cells #[.int .i64 (-4), .int .i64 4, .int .i64 (-1), .int .i64 0, .int .i64 0, .int .i64 0] 32)) := (by repeat (first | with_reducible exact Ext.refl _ | with_reducible assumption | with_reducible apply Ext.alloc | with_reducible apply Ext.drew | (with_reducible refine Ext.setCell ?_ (by (try simp) <;> omega) _)))
  have b6_0 := block_new w5 (.cells #[.int .i64 (-4), .int .i64 4, .int .i64 (-1), .int .i64 0, .int .i64 0, .int .i64 0] 32)
  obtain ⟨W6, hW6⟩ : ∃ W, (w5.alloc (.cells #[.int .i64 (-4), .int .i64 4, .int .i64 (-1), .int .i64 0, .int .i64 0, .int .i64 0] 32)) = W := ⟨_, rfl⟩
  obtain ⟨B6, hB6⟩ : ∃ B, w5.heap.size = B := ⟨_, rfl⟩
  rw [hW6] at X6 b6_0
  rw [hB6] at b6_0
  have HZ6 : Hid (w5.heap.size ≤ B6) := Lib.hid (by omega)
  have HW6 := Lib.hid hW6; have HB6 := Lib.hid hB6
  clear hW6 hB6
  have x6 := x5.trans X6
  have HO6 := Lib.hid b6_0
  have HV3 := Lib.hid fun w' (x : Ext W6 w') => show ChR w' v3 [triC] from V3.ext ((y4.trans (y5.trans X6)).trans x)
  clear S4 V3 b6_0 y3 y4 y5 X6 x3 x4 x5
  go_upto_region 3 with fail
  rw [HW6.out, HB6.out]
  clear HW6 HB6
  go_wp2_with fail
  refine (triad_walk triV _).mono ?_
  rintro e w7 ⟨vn, vp, vc, rfl, S7, y7⟩
  have x7 := x6.trans y7
  go_wp2_with fail
  have X8 : Ext w7 (w7.alloc (.cells #[.int .i64 0, .int .i64 0, .int .i64 0, .int .i64 0, .int .i64 0, .int .i64 0] 32)) := (by repeat (first | with_reducible exact Ext.refl _ | with_reducible assumption | with_reducible apply Ext.alloc | with_reducible apply Ext.drew | (with_reducible refine Ext.setCell ?_ (by (try simp) <;> omega) _)))
  have b8_0 := block_new w7 (.cells #[.int .i64 0, .int .i64 0, .int .i64 0, .int .i64 0, .int .i64 0, .int .i64 0] 32)
  obtain ⟨W8, hW8⟩ : ∃ W, (w7.alloc (.cells #[.int .i64 0, .int .i64 0, .int .i64 0, .int .i64 0, .int .i64 0, .int .i64 0] 32)) = W := ⟨_, rfl⟩
  obtain ⟨B8, hB8⟩ : ∃ B, w7.heap.size = B := ⟨_, rfl⟩
  rw [hW8] at X8 b8_0
  rw [hB8] at b8_0
  have HZ8 : Hid (w7.heap.size ≤ B8) := Lib.hid (by omega)
  have HW8 := Lib.hid hW8; have HB8 := Lib.hid hB8
  clear hW8 hB8
  rw [HW8.out, HB8.out]
  have x8 := x7.trans X8
  refine (broken0_walk _ _ _ _ (triS triV) [V6.zero] _ (GW.out _ x8) (S7.ext X8) (Bk.sl (e := 32) (enc := V6.list) (xs := [V6.zero]) (sz := 6) ⟨_, b8_0, rfl⟩ (fun _ _ => rfl) rfl (by simp))).mono ?_
  rw [triV_brk]
  rintro e w9 ⟨v9, rfl, V9, y9⟩
  have x9 := x8.trans y9
  obtain ⟨a9, c9, rfl, -, -⟩ := V9.at
  have z9 := (y7.trans X8).trans y9
  clear b8_0 HW8 HB8 S7 X8 y7 y9 x7 x8 V9
  go_wp2_with fail
  refine (triad_walk triV _).mono ?_
  rintro e w10 ⟨vn, vp, vc, rfl, S10, y10⟩
  go_wp2_with fail
  refine (tri_short triV _ _ triV_ok triV_srt triV_res _ _ _ _ S10).mono ?_
  rintro e w11 ⟨v11, rfl, y11⟩
  have X12 : Ext w11 (w11.alloc (.cells #[.int .i64 0, .int .i64 0, .int .i64 0, .int .i64 0, .int .i64 0, .int .i64 0] 32)) := (by repeat (first | with_reducible exact Ext.refl _ | with_reducible assumption | with_reducible apply Ext.alloc | with_reducible apply Ext.drew | (with_reducible refine Ext.setCell ?_ (by (try simp) <;> omega) _)))
  have b12_0 := block_new w11 (.cells #[.int .i64 0, .int .i64 0, .int .i64 0, .int .i64 0, .int .i64 0, .int .i64 0] 32)
  obtain ⟨W12, hW12⟩ : ∃ W, (w11.alloc (.cells #[.int .i64 0, .int .i64 0, .int .i64 0, .int .i64 0, .int .i64 0, .int .i64 0] 32)) = W := ⟨_, rfl⟩
  obtain ⟨B12, hB12⟩ : ∃ B, w11.heap.size = B := ⟨_, rfl⟩
  rw [hW12] at X12 b12_0
  rw [hB12] at b12_0
  have HZ12 : Hid (w11.heap.size ≤ B12) := Lib.hid (by omega)
  have HW12 := Lib.hid hW12; have HB12 := Lib.hid hB12
  clear hW12 hB12
  have z12 := z9.trans ((y10.trans y11).trans X12)
  simp only [V6.zero]
  clear S10 y10 y11 X12 x9 z9 b12_0
  go_upto_region 5 with fail
  rw [HW12.out, HB12.out]
  clear HW12 HB12
  obtain ⟨a3, c3, rfl, h3, SA⟩ := ChR.at (HV3.out _ z12)
  go_upto_region 7 with fail
  have X13 : Ext W12 (W12.alloc (.cells #[.int .i64 1, .int .i64 0, .int .i64 2, .int .i64 0, .int .i64 2, .int .i64 2] 39)) := (by repeat (first | with_reducible exact Ext.refl _ | with_reducible assumption | with_reducible apply Ext.alloc | with_reducible apply Ext.drew | (with_reducible refine Ext.setCell ?_ (by (try simp) <;> omega) _)))
  have b13_0 := block_new W12 (.cells #[.int .i64 1, .int .i64 0, .int .i64 2, .int .i64 0, .int .i64 2, .int .i64 2] 39)
  obtain ⟨W13, hW13⟩ : ∃ W, (W12.alloc (.cells #[.int .i64 1, .int .i64 0, .int .i64 2, .int .i64 0, .int .i64 2, .int .i64 2] 39)) = W := ⟨_, rfl⟩
  obtain ⟨B13, hB13⟩ : ∃ B, W12.heap.size = B := ⟨_, rfl⟩
  rw [hW13] at X13 b13_0
  rw [hB13] at b13_0
  have HZ13 : Hid (W12.heap.size ≤ B13) := Lib.hid (by omega)
  have HW13 := Lib.hid hW13; have HB13 := Lib.hid hB13
  clear hW13 hB13
  obtain ⟨b, o, sv, rfl, p0, p1, p2, p3, p4, p5, p6, p7, St⟩ := SA _ X13 0 (by simp)
  have z13 := z12.trans X13
  go_upto_region 8 with fail
  rw [HW13.out, HB13.out]
  clear HW13 HB13
  simp only [triC, List.getElem_cons_zero, Nat.zero_mul, Nat.add_zero] at p0 p1 p2 p3 p4 p5 p6 p7 St
  have HST := Lib.hid St
  have HS2 := Lib.hid (Bk.sl (w := W13) (e := 39) (enc := encSt) (xs := triC.steps) (sz := 3) ⟨_, b13_0, rfl⟩ (fun _ _ => rfl) rfl (by simp [triC]))
  have n6 := block_ext z13 HO6.out
  have q0 := ext_cells (show W13.cell? ⟨B6, 0, none⟩ = some (.int .i64 (-4)) from block_cell n6 0 _ rfl); have q1 := ext_cells (show W13.cell? ⟨B6, 1, none⟩ = some (.int .i64 4) from block_cell n6 1 _ rfl); have q2 := ext_cells (show W13.cell? ⟨B6, 2, none⟩ = some (.int .i64 (-1)) from block_cell n6 2 _ rfl); have q3 := ext_cells (show W13.cell? ⟨B6, 3, none⟩ = some (.int .i64 0) from block_cell n6 3 _ rfl); have q4 := ext_cells (show W13.cell? ⟨B6, 4, none⟩ = some (.int .i64 0) from block_cell n6 4 _ rfl); have q5 := ext_cells (show W13.cell? ⟨B6, 5, none⟩ = some (.int .i64 0) from block_cell n6 5 _ rfl)
  have HXA := Lib.hid (x6.trans z13)
  have VQ1 : ∀ w', (Op.equalIn 10000 32 (.agg #[.int .i64 4, .int .i64 (-4), .int .i64 1, .int .i64 0, .int .i64 0, .int .i64 0]) (.agg #[.int .i64 4, .int .i64 (-4), .int .i64 1, .int .i64 0, .int .i64 0, .int .i64 0])).run Tryz.prog w' = .ok true w' :=
    run_eq_v6 (P := Tryz.prog) Tryz.underlying32 Tryz.underlying3 (by kernel_rfl) (⟨4, -4, 1, 0, 0, 0⟩ : V6) ⟨4, -4, 1, 0, 0, 0⟩ 9998
  have VQ2 : ∀ w', (Op.equalIn 10000 32 (.agg #[.int .i64 (-4), .int .i64 4, .int .i64 (-1), .int .i64 0, .int .i64 0, .int .i64 0]) (.agg #[.int .i64 (-4), .int .i64 4, .int .i64 (-1), .int .i64 0, .int .i64 0, .int .i64 0])).run Tryz.prog w' = .ok true w' :=
    run_eq_v6 (P := Tryz.prog) Tryz.underlying32 Tryz.underlying3 (by kernel_rfl) (⟨-4, 4, -1, 0, 0, 0⟩ : V6) ⟨-4, 4, -1, 0, 0, 0⟩ 9998
  clear St b13_0 n6 X13 z12 z13 x6 SA h3
  go_wp2_with fail
  refine (steps21_walk _ _ _ _ HST.out HS2.out).mono ?_
  rintro e w14 ⟨rfl, y14⟩
  go_wp2
  go_ret
  exact ⟨by first | rfl | simp, HXA.out.trans y14⟩
end Go.Proofs.YtgfaiihekibcbaaGreatDoor
