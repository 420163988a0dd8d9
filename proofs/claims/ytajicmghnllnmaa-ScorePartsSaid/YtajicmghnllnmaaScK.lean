/-
  Walks: schismaref19.Same, schismalaw19.has, sample, head.
-/
import Derived.Test.YtajicmghnllnmaaScJ
set_option linter.unusedVariables false
namespace Go.Proofs.Ytajicmghnllnmaa
open Go.RowKit Go.Sx Go.Sx.Sz Go.Sx.Sc

set_option maxHeartbeats 1000000 in
theorem same_walk (va vb : Value) (xs ys : List Int) (w : World) (S : Sl w 1 encZ va xs) (T : Sl w 1 encZ vb ys) :
    Calls Try.prog 22 #[va, vb] w fun e w' => e = .returned (.bool (decide (xs = ys))) ∧ Ext w w' := by
  obtain ⟨a?, ca, rfl, -, -, h3⟩ := S.len
  obtain ⟨b?, cb, rfl, -, -, h4⟩ := T.len
  by_cases hl : xs.length = ys.length
  · have hl' : ((xs.length : Int) != ys.length) = false := by rw [bne_eq_false_iff_eq]; omega
    have HL := Lib.hid hl
    clear hl
    go_enter Try.func22, Try.ntmps22
    go_wp2
    go_loopw [5] (fun i wr => ∃ k : Nat, k ≤ xs.length ∧ i = .int .i64 k ∧ Hid (xs.take k = ys.take k) ∧ Ext w wr) (fun i _ => xs.length - (intOf i).toNat)
    case atStart => exact ⟨0, by omega, rfl, Lib.hid rfl, Ext.refl _⟩
    case round =>
      obtain ⟨k, hk, rfl, HT, hx⟩ := hrel
      clear hl'
      by_cases hlt : k < xs.length
      · have hlt2 : k < ys.length := by rw [← HL.out]; exact hlt
        obtain ⟨b0, o0, rfl, c0⟩ := Sl.num (S.ext hx) k hlt
        obtain ⟨b1, o1, rfl, d0⟩ := Sl.num (T.ext hx) k hlt2
        obtain ⟨x, hxx⟩ : ∃ x, xs[k] = x := ⟨_, rfl⟩
        obtain ⟨y, hyy⟩ : ∃ y, ys[k] = y := ⟨_, rfl⟩
        rw [hxx] at c0; rw [hyy] at d0
        have t1 := Lib.hid (List.take_succ_eq_append_getElem hlt)
        have t2 := Lib.hid (List.take_succ_eq_append_getElem hlt2)
        have HX := Lib.hid hxx; have HY := Lib.hid hyy
        have i1 : (0 : Int) ≤ (k : Int) := by omega
        have i2 : (k : Int) < (xs.length : Int) := by omega
        have i3 : (k : Int) < (ys.length : Int) := by omega
        clear S T hxx hyy
        obtain ⟨wo, rfl⟩ : ∃ wo : World, wo = wr := ⟨_, rfl⟩
        by_cases hxy : x = y
        · have e1 : (x != y) = false := by rw [bne_eq_false_iff_eq]; exact hxy
          have HXY := Lib.hid hxy
          clear hxy
          go_wp2
          go_quiet (fail)
          go_wp2
          go_roundw
          case rel => exact ⟨k + 1, by omega, by go_num, Lib.hid (by rw [t1.out, t2.out, HT.out, HX.out, HY.out, HXY.out]), hx.drewN _⟩
          case measure => simp [intOf] <;> omega
        · have e1 : (x != y) = true := by rw [bne_iff_ne]; exact hxy
          have HXY := Lib.hid hxy
          clear hxy
          go_wp2
          go_quiet (fail)
          go_wp2
          go_ret
          exact ⟨by rw [decide_eq_false (fun h => HXY.out (by rw [← HX.out, ← HY.out]; subst h; rfl))]; rfl, hx.drewN _⟩
      · obtain rfl : k = xs.length := by omega
        clear S T
        go_wp2
        go_ret
        refine ⟨?_, hx⟩
        have h := HT.out
        rw [List.take_length, HL.out, List.take_length] at h
        rw [decide_eq_true h]; rfl
  · have hl' : ((xs.length : Int) != ys.length) = true := by rw [bne_iff_ne]; omega
    have HL := Lib.hid hl
    clear hl S T
    go_enter Try.func22, Try.ntmps22
    go_wp2
    go_ret
    exact ⟨by rw [decide_eq_false (fun h => HL.out (by rw [h]))]; rfl, Ext.refl _⟩
set_option maxHeartbeats 1000000 in
theorem has_walk (v : Value) (l : List Int) (n : Int) (w : World) (S : Sl w 1 encZ v l) :
    Calls Try.prog 25 #[v, .int .i64 n] w fun e w' => e = .returned (.bool (decide (n ∈ l))) ∧ Ext w w' := by
  obtain ⟨a?, ca, rfl, -, -, h3⟩ := S.len
  go_enter Try.func25, Try.ntmps25
  go_wp2
  go_loopw [5] (fun i wr => ∃ k : Nat, k ≤ l.length ∧ i = .int .i64 k ∧ (∀ q (h : q < l.length), q < k → l[q] ≠ n) ∧ Ext w wr) (fun i _ => l.length - (intOf i).toNat)
  case atStart => exact ⟨0, by omega, rfl, fun q h1 h2 => by omega, Ext.refl _⟩
  case round =>
    obtain ⟨k, hk, rfl, hno, X⟩ := hrel
    have HN := Lib.hid hno
    clear hno
    by_cases hlt : k < l.length
    · obtain ⟨b, o, rfl, q0⟩ := Sl.num (S.ext X) k hlt
      obtain ⟨x, hx⟩ : ∃ x, l[k] = x := ⟨_, rfl⟩
      rw [hx] at q0
      have hm : x = n → decide (n ∈ l) = true := fun h => decide_eq_true (by rw [← h, ← hx]; exact List.getElem_mem hlt)
      have HM := Lib.hid hm; have HX := Lib.hid hx
      clear hm hx S
      by_cases hxn : x = n
      · have e1 : (x == n) = true := by rw [beq_iff_eq]; exact hxn
        have HD := Lib.hid (HM.out hxn)
        clear hxn
        go_wp2
        go_ret
        exact ⟨by rw [HD.out] <;> rfl, X⟩
      · have e1 : (x == n) = false := by rw [beq_eq_false_iff_ne]; exact hxn
        have HNE := Lib.hid hxn
        clear hxn
        go_wp2
        go_roundw
        case rel => exact ⟨k + 1, by omega, by go_num, fun q h1 h2 => by
          rcases Nat.lt_or_ge q k with h | h
          · exact HN.out q h1 h
          · obtain rfl : q = k := by omega
            rw [HX.out]; exact HNE.out, X⟩
        case measure => simp [intOf] <;> omega
    · obtain rfl : k = l.length := by omega
      have hd : decide (n ∈ l) = false := decide_eq_false fun h => by
        obtain ⟨q, hq, e⟩ := List.getElem_of_mem h
        exact HN.out q hq hq e
      have HD := Lib.hid hd
      clear S hd
      go_wp2
      go_ret
      exact ⟨by rw [HD.out] <;> rfl, X⟩
def exS : Sc := ⟨2, [⟨0, 0, 10, ⟨0, 0, 0, 0, 0, 0⟩, false⟩, ⟨1, 0, 15, ⟨-1, 1, 0, 0, 0, 0⟩, false⟩, ⟨0, 10, 20, ⟨0, 0, 0, 0, 0, 0⟩, true⟩, ⟨1, 15, 20, ⟨-2, 0, 1, 0, 0, 0⟩, false⟩],
  [⟨0, 1, ⟨-1, 1, 0, 0, 0, 0⟩, 0⟩, ⟨1, 2, ⟨1, -1, 0, 0, 0, 0⟩, 0⟩, ⟨2, 3, ⟨-2, 0, 1, 0, 0, 0⟩, 2000⟩], [10]⟩
theorem exS_ok : scB exS = true := by kernel_rfl
theorem exS_1 : secR exS 9 = (0, 0) := by kernel_rfl
theorem exS_2 : secR exS 10 = (1, 0) := by kernel_rfl
theorem exS_3 : befR exS 2 = (0, 0) := by kernel_rfl
theorem exS_4 : befR exS 3 = (-1, 0) := by kernel_rfl
theorem exS_5 : sndR exS 10 = ([1, 2], 0) := by kernel_rfl
theorem exS_6 : sndR exS 20 = ([], 0) := by kernel_rfl
theorem exS_7 : heldR exS 1 = ([1, 2], 0) := by kernel_rfl
theorem exS_8 : fstR exS 1 = (2, 0) := by kernel_rfl
theorem exS_9 : fstR exS 2 = (4, 0) := by kernel_rfl
theorem exS_10 : heldR exS 2 = ([], 1) := by kernel_rfl

set_option maxRecDepth 100000 in
set_option maxHeartbeats 4000000 in
theorem sample_walk (w : World) : Calls Try.prog 29 #[] w fun e w' => ∃ vn vp vc, e = .returned (.agg #[.int .i64 2, vn, vp, vc]) ∧ ScR w' vn vp vc exS ∧ Ext w w' := by
  go_enter Try.func29, Try.ntmps29
  go_wp2
  refine bodyPost_ret (v := .agg #[.int .i64 2, .slice (some ⟨w.heap.size + 1 + 1 + 1, 0, none⟩) 4 4, .slice (some ⟨w.heap.size + 1 + 1 + 1 + 1, 0, none⟩) 3 3, .slice (some ⟨w.heap.size + 1 + 1 + 1 + 1 + 1, 0, none⟩) 1 1]) (by simp [results, Try.results29, go_sem]) rfl ⟨_, _, _, rfl, ⟨?_, ?_, ?_⟩, (by repeat (first | with_reducible exact Ext.refl _ | with_reducible assumption | with_reducible apply Ext.alloc | with_reducible apply Ext.drew | (with_reducible refine Ext.setCell ?_ (by (try simp) <;> omega) _)))⟩
  · exact Bk.sl (e := 40) (enc := encN) (xs := exS.notes) (sz := 10) ⟨_, block_alloc (block_alloc (block_at (by simp) _) _) _, rfl⟩ (fun _ _ => rfl) rfl (by simp [exS])
  · exact Bk.sl (e := 49) (enc := encP) (xs := exS.pairs) (sz := 9) ⟨_, block_alloc (block_at (by simp) _) _, rfl⟩ (fun _ _ => rfl) rfl (by simp [exS])
  · exact Bk.sl (e := 3) (enc := encZ) (xs := exS.cads) (sz := 1) ⟨_, block_at (by simp) _, rfl⟩ (fun _ _ => rfl) rfl (by simp [exS])

set_option maxRecDepth 100000 in
set_option maxHeartbeats 4000000 in
theorem head_walk (w : World) : Calls Try.prog 11 #[] w fun e w' => e = .returned (.bool true) ∧ Ext w w' := by
  go_enter Try.func11, Try.ntmps11
  go_wp2_with fail
  refine (sample_walk _).mono ?_
  rintro e w0 ⟨vn, vp, vc, rfl, S0, x0⟩
  obtain ⟨an, cn, rfl, -, -, -⟩ := S0.nt.len
  obtain ⟨ap, cp, rfl, -, -, -⟩ := S0.pr.len
  obtain ⟨ac, cc, rfl, -, -, -⟩ := S0.cd.len
  simp only [exS, List.length_cons, List.length_nil, Nat.reduceAdd] at S0 ⊢
  obtain ⟨W, hW⟩ : ∃ W, w0.alloc (.cells #[.int .i64 2, .slice an 4 cn, .slice ap 3 cp, .slice ac 1 cc] 26) = W := ⟨_, rfl⟩
  have S : ScR W (.slice an 4 cn) (.slice ap 3 cp) (.slice ac 1 cc) exS := by rw [← hW]; exact ScR.ext S0 (Ext.alloc' _ _)
  have bW : W.heap[w0.heap.size]? = some (.cells #[.int .i64 2, .slice an 4 cn, .slice ap 3 cp, .slice ac 1 cc] 26 (0, 0)) := by rw [← hW]; exact block_new _ _
  have X0 : Ext w W := by rw [← hW]; exact x0.trans (Ext.alloc' _ _)
  have HW := Lib.hid hW
  obtain ⟨B, hB⟩ : ∃ B, w0.heap.size = B := ⟨_, rfl⟩
  rw [hB] at bW
  have HB := Lib.hid hB
  have CS := Lib.hid fun w' (x : Ext W w') => (⟨block_cell (block_ext x bW) 0 (.int .i64 2) rfl, block_cell (block_ext x bW) 1 (.slice an 4 cn) rfl, block_cell (block_ext x bW) 2 (.slice ap 3 cp) rfl, block_cell (block_ext x bW) 3 (.slice ac 1 cc) rfl⟩ :
    w'.cell? ⟨B, 0, none⟩ = some (.int .i64 2) ∧ w'.cell? ⟨B, 1, none⟩ = some (.slice an 4 cn) ∧ w'.cell? ⟨B, 2, none⟩ = some (.slice ap 3 cp) ∧ w'.cell? ⟨B, 3, none⟩ = some (.slice ac 1 cc))
  clear hW hB bW S0 x0
  obtain ⟨c0, c1, c2, c3⟩ := CS.out W (Ext.refl _)
  go_wp2_with fail
  rw [HW.out, HB.out]
  refine (section_walk _ _ _ exS 9 _ (S.ext (Ext.refl W))).mono ?_
  rw [exS_1]
  rintro e w1 ⟨rfl, x1⟩
  have y1 := (Ext.refl W).trans x1
  clear c0 c1 c2 c3
  obtain ⟨c0, c1, c2, c3⟩ := CS.out w1 y1
  go_wp2_with fail
  refine (section_walk _ _ _ exS 10 _ (S.ext (y1))).mono ?_
  rw [exS_2]
  rintro e w2 ⟨rfl, x2⟩
  have y2 := (y1).trans x2
  clear c0 c1 c2 c3
  obtain ⟨c0, c1, c2, c3⟩ := CS.out w2 y2
  go_wp2_with fail
  refine (before_walk _ _ _ exS 2 _ (S.ext (y2))).mono ?_
  rw [exS_3]
  rintro e w3 ⟨rfl, x3⟩
  have y3 := (y2).trans x3
  clear c0 c1 c2 c3
  obtain ⟨c0, c1, c2, c3⟩ := CS.out w3 y3
  go_wp2_with fail
  refine (before_walk _ _ _ exS 3 _ (S.ext (y3))).mono ?_
  rw [exS_4]
  rintro e w4 ⟨rfl, x4⟩
  have y4 := (y3).trans x4
  clear c0 c1 c2 c3
  obtain ⟨c0, c1, c2, c3⟩ := CS.out w4 y4
  go_wp2_with fail
  refine (sound_walk _ _ _ exS 10 _ (S.ext (y4))).mono ?_
  rw [exS_5]
  rintro e w5 ⟨v5, rfl, V5, x5⟩
  have y5 := (y4).trans x5
  clear c0 c1 c2 c3
  obtain ⟨c0, c1, c2, c3⟩ := CS.out w5 y5
  go_wp2_with fail
  refine (sound_walk _ _ _ exS 20 _ (S.ext (y5))).mono ?_
  rw [exS_6]
  rintro e w6 ⟨v6, rfl, V6, x6⟩
  obtain ⟨a6, q6, rfl, -, -, -⟩ := V6.len
  have y6 := (y5).trans x6
  clear c0 c1 c2 c3
  obtain ⟨c0, c1, c2, c3⟩ := CS.out w6 y6
  go_wp2_with fail
  refine (held_walk _ _ _ exS 1 _ (S.ext (y6))).mono ?_
  rw [exS_7]
  rintro e w7 ⟨v7, rfl, V7, x7⟩
  have y7 := (y6).trans x7
  clear c0 c1 c2 c3
  obtain ⟨c0, c1, c2, c3⟩ := CS.out w7 y7
  go_wp2_with fail
  refine (first_walk _ _ _ exS 1 _ (S.ext (y7))).mono ?_
  rw [exS_8]
  rintro e w8 ⟨rfl, x8⟩
  have y8 := (y7).trans x8
  clear c0 c1 c2 c3
  obtain ⟨c0, c1, c2, c3⟩ := CS.out w8 y8
  go_wp2_with fail
  refine (first_walk _ _ _ exS 2 _ (S.ext (y8))).mono ?_
  rw [exS_9]
  rintro e w9 ⟨rfl, x9⟩
  have y9 := (y8).trans x9
  clear c0 c1 c2 c3
  obtain ⟨c0, c1, c2, c3⟩ := CS.out w9 y9
  go_wp2_with fail
  refine (held_walk _ _ _ exS 2 _ (S.ext (y9))).mono ?_
  rw [exS_10]
  rintro e w10 ⟨v10, rfl, V10, x10⟩
  have y10 := (y9).trans x10
  clear c0 c1 c2 c3
  obtain ⟨c0, c1, c2, c3⟩ := CS.out w10 y10
  go_wp2_with fail
  have L1 := Sl.lit2 w10 1 2
  refine (same_walk _ _ [1, 2] [1, 2] _ ((V5.ext ((((x6.trans x7).trans x8).trans x9).trans x10)).ext (by repeat (first | with_reducible exact Ext.refl _ | with_reducible assumption | with_reducible apply Ext.alloc | with_reducible apply Ext.drew | (with_reducible refine Ext.setCell ?_ (by (try simp) <;> omega) _)))) L1).mono ?_
  rw [decide_eq_true rfl]
  rintro e w11 ⟨rfl, x11⟩
  have z11 : Ext w10 w11 := Ext.trans (by repeat (first | with_reducible exact Ext.refl _ | with_reducible assumption | with_reducible apply Ext.alloc | with_reducible apply Ext.drew | (with_reducible refine Ext.setCell ?_ (by (try simp) <;> omega) _))) x11
  have y11 := y10.trans z11
  clear c0 c1 c2 c3 L1
  obtain ⟨c0, c1, c2, c3⟩ := CS.out w11 y11
  go_wp2_with fail
  have L2 := Sl.lit2 w11 1 2
  refine (same_walk _ _ [1, 2] [1, 2] _ ((V7.ext (((x8.trans x9).trans x10).trans z11)).ext (by repeat (first | with_reducible exact Ext.refl _ | with_reducible assumption | with_reducible apply Ext.alloc | with_reducible apply Ext.drew | (with_reducible refine Ext.setCell ?_ (by (try simp) <;> omega) _)))) L2).mono ?_
  rw [decide_eq_true rfl]
  rintro e w12 ⟨rfl, x12⟩
  have z12 : Ext w11 w12 := Ext.trans (by repeat (first | with_reducible exact Ext.refl _ | with_reducible assumption | with_reducible apply Ext.alloc | with_reducible apply Ext.drew | (with_reducible refine Ext.setCell ?_ (by (try simp) <;> omega) _))) x12
  have y12 := y11.trans z12
  clear c0 c1 c2 c3 L2
  obtain ⟨c0, c1, c2, c3⟩ := CS.out w12 y12
  go_wp2_with fail
  refine (scvalid_walk _ _ _ exS _ (S.ext y12)).mono ?_
  rw [exS_ok]
  rintro e w13 ⟨rfl, x13⟩
  clear c0 c1 c2 c3
  go_wp2
  go_ret
  exact ⟨rfl, X0.trans (y12.trans x13)⟩
end Go.Proofs.Ytajicmghnllnmaa
