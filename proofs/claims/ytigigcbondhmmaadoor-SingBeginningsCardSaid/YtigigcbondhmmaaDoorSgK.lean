/-
  Walks: schismalaw22.has, sample, head, near.
-/
import Derived.Test.YtigigcbondhmmaaDoorR22D
import Derived.Test.YtigigcbondhmmaaDoorSam
set_option linter.unusedVariables false
namespace Go.Proofs.YtigigcbondhmmaaDoor
open Go.RowKit Go.Sx Go.Sx.Sz Go.Sx.Sc Go.Sx.Sg Go.Sx.Au

set_option maxHeartbeats 1000000 in
theorem has_walk (v : Value) (l : List Int) (n : Int) (w : World) (S : Sl w 1 encZ v l) :
    Calls Tryd.prog 22 #[v, .int .i64 n] w fun e w' => e = .returned (.bool (decide (n ∈ l))) ∧ Ext w w' := by
  obtain ⟨a?, ca, rfl, -, -, h3⟩ := S.len
  go_enter Tryd.func22, Tryd.ntmps22
  go_wp2
  go_loopw [5] (fun i wr => ∃ k : Nat, k ≤ l.length ∧ i = .int .i64 k ∧ (∀ q (h : q < l.length), q < k → l[q] ≠ n) ∧ Ext w wr) (fun i _ => l.length - (intOf i).toNat)
  case atStart => exact ⟨0, by omega, rfl, fun q h1 h2 => by omega, Ext.refl _⟩
  case round =>
    obtain ⟨k, hk, rfl, hno, X⟩ := hrel
    have HN := Lib.hid hno
    clear hno
    by_cases hlt : k < l.length
    · obtain ⟨b, o, rfl, q0⟩ := Sl.num (S.ext X) k hlt
      obtain ⟨x, hx⟩ : ∃ x, l[k] = x := ⟨_, rfl⟩
      rw [hx] at q0
      have hm : x = n → decide (n ∈ l) = true := fun h => decide_eq_true (by rw [← h, ← hx]; exact List.getElem_mem hlt)
      have HM := Lib.hid hm; have HX := Lib.hid hx
      clear hm hx S
      by_cases hxn : x = n
      · have e1 : (x == n) = true := by rw [beq_iff_eq]; exact hxn
        have HD := Lib.hid (HM.out hxn)
        clear hxn
        go_wp2
        go_ret
        exact ⟨by rw [HD.out] <;> rfl, X⟩
      · have e1 : (x == n) = false := by rw [beq_eq_false_iff_ne]; exact hxn
        have HNE := Lib.hid hxn
        clear hxn
        go_wp2
        go_roundw
        case rel => exact ⟨k + 1, by omega, by go_num, fun q h1 h2 => by
          rcases Nat.lt_or_ge q k with h | h
          · exact HN.out q h1 h
          · obtain rfl : q = k := by omega
            rw [HX.out]; exact HNE.out, X⟩
        case measure => simp [intOf] <;> omega
    · obtain rfl : k = l.length := by omega
      have hd : decide (n ∈ l) = false := decide_eq_false fun h => by
        obtain ⟨q, hq, e⟩ := List.getElem_of_mem h
        exact HN.out q hq hq e
      have HD := Lib.hid hd
      clear S hd
      go_wp2
      go_ret
      exact ⟨by rw [HD.out] <;> rfl, X⟩

def exG : Sc := ⟨2, [⟨0, 0, 10, ⟨0, 0, 0, 0, 0, 0⟩, false⟩, ⟨1, 5, 8, ⟨0, 0, 0, 0, 0, 0⟩, false⟩, ⟨1, 12, 14, ⟨0, 0, 0, 0, 0, 0⟩, false⟩, ⟨0, 14, 16, ⟨0, 0, 0, 0, 0, 0⟩, false⟩, ⟨0, 16, 18, ⟨0, 0, 0, 0, 0, 0⟩, false⟩], [], []⟩
def exX : List V6 := [⟨0, 0, 0, 0, 0, 0⟩, ⟨-1, 1, 0, 0, 0, 0⟩, ⟨1, 0, 0, 0, 0, 0⟩, ⟨-1, 1, 0, 0, 0, 0⟩, ⟨0, 0, 0, 0, 0, 0⟩]
theorem exG_1 : entriesR exG = ([0, 1, 2, 3], 0) := by kernel_rfl
theorem exG_2 : fromR exG exX 1 702000 = (0, 0) := by kernel_rfl
theorem exG_3 : fromR exG exX 1 701955 = (0, 4) := by kernel_rfl
theorem exG_4 : fromR exG exX 2 1200000 = (-1, 0) := by kernel_rfl
theorem exG_5 : leastR exG exX 3 = (498045, 2, 0) := by kernel_rfl
theorem exG_6 : missingR exG exX [600000, 1199999] = ([2], 0) := by kernel_rfl
theorem exG_7 : missingR exG exX [400000, 1200000] = ([3], 0) := by kernel_rfl
theorem exG_8 : fromR exG exX 4 0 = (0, 1) := by kernel_rfl

set_option maxRecDepth 100000 in
set_option maxHeartbeats 4000000 in
theorem sample_walk (w : World) : Calls Tryd.prog 25 #[] w fun e w' => ∃ vn vp vc vx, e = .returned (.tuple #[.agg #[.int .i64 2, vn, vp, vc], vx]) ∧ ScR w' vn vp vc exG ∧ Sl w' 6 V6.list vx exX ∧ Ext w w' := by
  go_enter Tryd.func25, Tryd.ntmps25
  go_wp2
  refine bodyPost_ret (v := .tuple #[.agg #[.int .i64 2, .slice (some ⟨w.heap.size + 1, 0, none⟩) 5 5, .slice none 0 0, .slice none 0 0], .slice (some ⟨w.heap.size + 1 + 1 + 1, 0, none⟩) 5 5]) (by simp [results, Tryd.results25, go_sem]) rfl ⟨_, _, _, _, rfl, ⟨?_, ?_, ?_⟩, ?_, (by repeat (first | with_reducible exact Ext.refl _ | with_reducible assumption | with_reducible apply Ext.alloc | with_reducible apply Ext.drew | (with_reducible refine Ext.setCell ?_ (by (try simp) <;> omega) _)))⟩
  · exact Bk.sl (e := 43) (enc := encN) (xs := exG.notes) (sz := 10) ⟨_, block_alloc (block_alloc (block_at (by simp) _) _) _, rfl⟩ (fun _ _ => rfl) rfl (by simp [exG])
  · exact Sl.nil _ _ _
  · exact Sl.nil _ _ _
  · exact Bk.sl (e := 41) (enc := V6.list) (xs := exX) (sz := 6) ⟨_, block_at (by simp) _, rfl⟩ (fun _ _ => rfl) rfl (by simp [exX])

set_option maxRecDepth 100000 in
set_option maxHeartbeats 8000000 in
theorem head_walk (w : World) (G0 : Gl 0 w) : Calls Tryd.prog 11 #[] w fun e w' => e = .returned (.bool true) ∧ Ext w w' := by
  go_enter Tryd.func11, Tryd.ntmps11
  go_wp2_with fail
  refine (sample_walk _).mono ?_
  rintro e w0 ⟨vn, vp, vc, vx, rfl, S0, V0, x0⟩
  obtain ⟨an, cn, rfl, -, -, -⟩ := S0.nt.len
  obtain ⟨ap, cp, rfl, -, -, -⟩ := S0.pr.len
  obtain ⟨ac, cc, rfl, -, -, -⟩ := S0.cd.len
  obtain ⟨ax, cx, rfl, -, -, -⟩ := V0.len
  simp only [exG, exX, List.length_cons, List.length_nil, Nat.reduceAdd] at S0 V0 ⊢
  obtain ⟨W, hW⟩ : ∃ W, w0.alloc (.cells #[.int .i64 2, .slice an 5 cn, .slice ap 0 cp, .slice ac 0 cc] 26) = W := ⟨_, rfl⟩
  have S : ScR W (.slice an 5 cn) (.slice ap 0 cp) (.slice ac 0 cc) exG := by rw [← hW]; exact ScR.ext S0 (Ext.alloc' _ _)
  have V : Sl W 6 V6.list (.slice ax 5 cx) exX := by rw [← hW]; exact V0.ext (Ext.alloc' _ _)
  have bW : W.heap[w0.heap.size]? = some (.cells #[.int .i64 2, .slice an 5 cn, .slice ap 0 cp, .slice ac 0 cc] 26 (0, 0)) := by rw [← hW]; exact block_new _ _
  have X0 : Ext w W := by rw [← hW]; exact x0.trans (Ext.alloc' _ _)
  have G := G0.ext X0
  have HW := Lib.hid hW
  obtain ⟨B, hB⟩ : ∃ B, w0.heap.size = B := ⟨_, rfl⟩
  rw [hB] at bW
  have HB := Lib.hid hB
  have CS := Lib.hid fun w' (x : Ext W w') => (⟨block_cell (block_ext x bW) 0 (.int .i64 2) rfl, block_cell (block_ext x bW) 1 (.slice an 5 cn) rfl, block_cell (block_ext x bW) 2 (.slice ap 0 cp) rfl, block_cell (block_ext x bW) 3 (.slice ac 0 cc) rfl⟩ :
    w'.cell? ⟨B, 0, none⟩ = some (.int .i64 2) ∧ w'.cell? ⟨B, 1, none⟩ = some (.slice an 5 cn) ∧ w'.cell? ⟨B, 2, none⟩ = some (.slice ap 0 cp) ∧ w'.cell? ⟨B, 3, none⟩ = some (.slice ac 0 cc))
  clear hW hB bW S0 V0 x0 G0
  obtain ⟨c0, c1, c2, c3⟩ := CS.out W (Ext.refl _)
  go_wp2_with fail
  rw [HW.out, HB.out]
  refine (entries_walk _ _ _ exG _ (S.ext (Ext.refl W))).mono ?_
  rw [exG_1]
  rintro e w1 ⟨v1, rfl, L1, x1⟩
  have y1 : Ext W w1 := (Ext.refl W).trans x1
  clear c0 c1 c2 c3
  obtain ⟨c0, c1, c2, c3⟩ := CS.out w1 y1
  go_wp2_with fail
  refine (from_walk _ _ _ _ exG exX 1 702000 _ (G.ext y1) (S.ext y1) (V.ext y1)).mono ?_
  rw [exG_2]
  rintro e w2 ⟨rfl, x2⟩
  have y2 : Ext W w2 := y1.trans x2
  clear c0 c1 c2 c3
  obtain ⟨c0, c1, c2, c3⟩ := CS.out w2 y2
  go_wp2_with fail
  refine (from_walk _ _ _ _ exG exX 1 701955 _ (G.ext y2) (S.ext y2) (V.ext y2)).mono ?_
  rw [exG_3]
  rintro e w3 ⟨rfl, x3⟩
  have y3 : Ext W w3 := y2.trans x3
  clear c0 c1 c2 c3
  obtain ⟨c0, c1, c2, c3⟩ := CS.out w3 y3
  go_wp2_with fail
  refine (from_walk _ _ _ _ exG exX 2 1200000 _ (G.ext y3) (S.ext y3) (V.ext y3)).mono ?_
  rw [exG_4]
  rintro e w4 ⟨rfl, x4⟩
  have y4 : Ext W w4 := y3.trans x4
  clear c0 c1 c2 c3
  obtain ⟨c0, c1, c2, c3⟩ := CS.out w4 y4
  go_wp2_with fail
  refine (least_walk _ _ _ _ exG exX 3 _ (G.ext y4) (S.ext y4) (V.ext y4)).mono ?_
  rw [exG_5]
  rintro e w5 ⟨rfl, x5⟩
  have y5 : Ext W w5 := y4.trans x5
  clear c0 c1 c2 c3
  obtain ⟨c0, c1, c2, c3⟩ := CS.out w5 y5
  have r6 : Sl (w5.alloc (.cells #[.int .i64 600000, .int .i64 1199999] 3)) 1 encZ (.slice (some ⟨w5.heap.size, 0, none⟩) 2 2) [600000, 1199999] := Bk.sl (e := 3) (enc := encZ) (sz := 1) (xs := [600000, 1199999]) ⟨_, block_new _ _, rfl⟩ (fun _ _ => rfl) rfl (by simp)
  have e6 : Ext W (w5.alloc (.cells #[.int .i64 600000, .int .i64 1199999] 3)) := y5.trans (Ext.alloc' _ _)
  go_wp2_with fail
  refine (missing_walk _ _ _ _ _ exG exX _ _ (G.ext e6) (S.ext e6) (V.ext e6) r6).mono ?_
  rw [exG_6]
  rintro e w6 ⟨v6, rfl, L6, x6⟩
  have y6 : Ext W w6 := e6.trans x6
  clear c0 c1 c2 c3
  obtain ⟨c0, c1, c2, c3⟩ := CS.out w6 y6
  have r7 : Sl (w6.alloc (.cells #[.int .i64 400000, .int .i64 1200000] 3)) 1 encZ (.slice (some ⟨w6.heap.size, 0, none⟩) 2 2) [400000, 1200000] := Bk.sl (e := 3) (enc := encZ) (sz := 1) (xs := [400000, 1200000]) ⟨_, block_new _ _, rfl⟩ (fun _ _ => rfl) rfl (by simp)
  have e7 : Ext W (w6.alloc (.cells #[.int .i64 400000, .int .i64 1200000] 3)) := y6.trans (Ext.alloc' _ _)
  go_wp2_with fail
  refine (missing_walk _ _ _ _ _ exG exX _ _ (G.ext e7) (S.ext e7) (V.ext e7) r7).mono ?_
  rw [exG_7]
  rintro e w7 ⟨v7, rfl, L7, x7⟩
  have y7 : Ext W w7 := e7.trans x7
  clear c0 c1 c2 c3
  obtain ⟨c0, c1, c2, c3⟩ := CS.out w7 y7
  go_wp2_with fail
  refine (from_walk _ _ _ _ exG exX 4 0 _ (G.ext y7) (S.ext y7) (V.ext y7)).mono ?_
  rw [exG_8]
  rintro e w8 ⟨rfl, x8⟩
  have y8 : Ext W w8 := y7.trans x8
  clear c0 c1 c2 c3
  obtain ⟨c0, c1, c2, c3⟩ := CS.out w8 y8
  clear c0 c1 c2 c3 r6 r7
  have L1 := L1.ext (x2.trans (x3.trans (x4.trans (x5.trans ((Ext.alloc' _ _).trans (x6.trans ((Ext.alloc' _ _).trans (x7.trans x8))))))))
  have L6 := L6.ext ((Ext.alloc' _ _).trans (x7.trans x8))
  have L7 := L7.ext x8
  clear x1 x2 x3 x4 x5 x6 x7 x8 e6 e7
  have r9 : Sl (w8.alloc (.cells #[.int .i64 0, .int .i64 1, .int .i64 2, .int .i64 3] 3)) 1 encZ (.slice (some ⟨w8.heap.size, 0, none⟩) 4 4) [0, 1, 2, 3] := Bk.sl (e := 3) (enc := encZ) (sz := 1) (xs := [0, 1, 2, 3]) ⟨_, block_new _ _, rfl⟩ (fun _ _ => rfl) rfl (by simp)
  have e9 := Ext.alloc' w8 (.cells #[.int .i64 0, .int .i64 1, .int .i64 2, .int .i64 3] 3)
  go_wp2_with fail
  refine (same_walk _ _ _ _ _ (L1.ext e9) r9).mono ?_
  rw [decide_eq_true rfl]
  rintro e w9 ⟨rfl, x9⟩
  have Y9 := y8.trans (e9.trans x9)
  have L6 := L6.ext (e9.trans x9); have L7 := L7.ext (e9.trans x9)
  clear r9 e9 x9 L1
  have r10 : Sl (w9.alloc (.cells #[.int .i64 2] 3)) 1 encZ (.slice (some ⟨w9.heap.size, 0, none⟩) 1 1) [2] := Bk.sl (e := 3) (enc := encZ) (sz := 1) (xs := [2]) ⟨_, block_new _ _, rfl⟩ (fun _ _ => rfl) rfl (by simp)
  have e10 := Ext.alloc' w9 (.cells #[.int .i64 2] 3)
  go_wp2_with fail
  refine (same_walk _ _ _ _ _ (L6.ext e10) r10).mono ?_
  rw [decide_eq_true rfl]
  rintro e w10 ⟨rfl, x10⟩
  have Y10 := Y9.trans (e10.trans x10)
  have L7 := L7.ext (e10.trans x10)
  clear r10 e10 x10 L6
  have r11 : Sl (w10.alloc (.cells #[.int .i64 3] 3)) 1 encZ (.slice (some ⟨w10.heap.size, 0, none⟩) 1 1) [3] := Bk.sl (e := 3) (enc := encZ) (sz := 1) (xs := [3]) ⟨_, block_new _ _, rfl⟩ (fun _ _ => rfl) rfl (by simp)
  have e11 := Ext.alloc' w10 (.cells #[.int .i64 3] 3)
  go_wp2_with fail
  refine (same_walk _ _ _ _ _ (L7.ext e11) r11).mono ?_
  rw [decide_eq_true rfl]
  rintro e w11 ⟨rfl, x11⟩
  have HX := Lib.hid (X0.trans (Y10.trans (e11.trans x11)))
  clear L7 r11
  go_wp2
  go_ret
  exact ⟨rfl, HX.out⟩
end Go.Proofs.YtigigcbondhmmaaDoor
