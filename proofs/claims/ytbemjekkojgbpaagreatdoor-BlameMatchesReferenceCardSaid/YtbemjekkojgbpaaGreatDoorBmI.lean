/-
  Walks: schismalaw40.sample, head.
-/
import Derived.Test.YtbemjekkojgbpaaGreatDoorLibK
import Derived.Test.YtbemjekkojgbpaaGreatDoorAuE
import Derived.Test.YtbemjekkojgbpaaGreatDoorLibC
import Derived.Deep.MidRow
set_option linter.unusedVariables false
namespace Go.Sx.Bl
open Go.Sx.Sz Go.Sx.Sc Go.Sx.Au Go.Sx.Po
def exBs : Sc := ⟨2, [⟨0, 0, 8, ⟨0, 0, 0, 0, 0, 0⟩, false⟩, ⟨1, 0, 4, ⟨-2, 0, 1, 0, 0, 0⟩, false⟩, ⟨1, 4, 8, ⟨-1, 1, 0, 0, 0, 0⟩, false⟩],
  [⟨0, 1, ⟨-2, 0, 1, 0, 0, 0⟩, 0⟩, ⟨0, 2, ⟨3, -3, 1, 0, 0, 0⟩, 1000⟩], [4]⟩
def exBh : List V6 := [⟨0, 0, 0, 0, 0, 0⟩, ⟨-4, 4, -1, 0, 0, 0⟩]
def exBy : List V6 := [⟨0, 0, 0, 0, 0, 0⟩, ⟨-2, 0, 1, 0, 0, 0⟩, ⟨-5, 5, -1, 0, 0, 0⟩]
def exBt : List S2 := exBy.map wantS
def exBo : List S2 := exBt.set 0 ⟨100000, 200000⟩
def exBw : List S2 := exBt.set 1 ⟨3800000000, 3900000000⟩
end Go.Sx.Bl
namespace Go.Proofs.YtbemjekkojgbpaaGreatDoor
open Go.RowKit Go.Sx Go.Sx.Sz Go.Sx.Sc Go.Sx.Au Go.Sx.Po Go.Sx.Bl
theorem exB_1 : idealR exBs exBy = (exBt, 0) := by kernel_rfl
theorem exB_2 : devR exBs exBh exBt = ([], 0) := by kernel_rfl
theorem exB_3 : chgR exBs exBh exBt = ([⟨1, 2, -1⟩], 0) := by kernel_rfl
theorem exB_4 : devR exBs exBh exBo = ([0], 0) := by kernel_rfl
theorem exB_5 : chgR exBs exBh exBo = ([⟨0, 1, 0⟩, ⟨1, 1, 0⟩], 0) := by kernel_rfl
theorem exB_6 : chgR exBs exBh exBw = ([⟨1, 2, -1⟩], 0) := by kernel_rfl
theorem exB_7 : voiR exBs exBh exBo = ([1, 0], 0) := by kernel_rfl

theorem OwnR.putS {w : World} {B : Nat} {e : TypeId} {g n cap : Nat} {xs : List S2} (h : OwnR w B e 2 encS (.slice (some ⟨g, 0, none⟩) n cap) xs) (k : Nat) (hk : k < xs.length) (z : S2) :
    OwnR (w.setCells g (k * 2) [.int .i64 z.lo, .int .i64 z.hi]) B e 2 encS (.slice (some ⟨g, 0, none⟩) n cap) (xs.set k z) := by
  obtain ⟨p, hp⟩ : ∃ p, xs[k] = p := ⟨_, rfl⟩
  have h1 := OwnR.store h (fun _ _ => rfl) k 0 hk (by omega) ⟨z.lo, p.hi⟩ (.int .i64 z.lo) (by rw [hp]; rfl)
  have h2 := OwnR.store h1 (fun _ _ => rfl) k 1 (by rw [List.length_set]; exact hk) (by omega) z (.int .i64 z.hi) (by rw [List.getElem_set_self]; rfl)
  rw [List.set_set] at h2
  exact h2
theorem OwnR.thereS {w : World} {B : Nat} {e : TypeId} {g n cap : Nat} {xs : List S2} (h : OwnR w B e 2 encS (.slice (some ⟨g, 0, none⟩) n cap) xs) (k : Nat) (hk : k < xs.length) : w.there g (k * 2) 2 := by
  intro j hj
  obtain ⟨g', cap', e1, -, -, hf⟩ := h.block (by rintro rfl; exact absurd hk (Nat.not_lt_zero _))
  obtain ⟨rfl, -⟩ : g = g' ∧ _ := by simpa using e1
  have := h.cell (fun _ _ => rfl) k j hk (by omega)
  exact ⟨by rw [this]; rfl, hf _⟩

set_option maxRecDepth 100000 in
set_option maxHeartbeats 4000000 in
theorem bsample_walk (w : World) : Calls Tryz.prog 14 #[] w fun e w' => ∃ vn vp vc vx, e = .returned (.tuple #[.agg #[.int .i64 2, vn, vp, vc], vx]) ∧ ScR w' vn vp vc exBs ∧ Sl w' 6 V6.list vx exBh ∧ Ext w w' := by
  go_enter Tryz.func14, Tryz.ntmps14
  go_wp2
  refine bodyPost_ret (v := .tuple #[.agg #[.int .i64 2, .slice (some ⟨w.heap.size + 1, 0, none⟩) 3 3, .slice (some ⟨w.heap.size + 1 + 1, 0, none⟩) 2 2, .slice (some ⟨w.heap.size + 1 + 1 + 1, 0, none⟩) 1 1], .slice (some ⟨w.heap.size + 1 + 1 + 1 + 1 + 1, 0, none⟩) 2 2]) (by simp [results, Tryz.results14, go_sem]) rfl ⟨_, _, _, _, rfl, ⟨?_, ?_, ?_⟩, ?_, (by repeat (first | with_reducible exact Ext.refl _ | with_reducible assumption | with_reducible apply Ext.alloc | with_reducible apply Ext.drew | (with_reducible refine Ext.setCell ?_ (by (try simp) <;> omega) _)))⟩
  · exact Bk.sl (e := 78) (enc := encN) (xs := exBs.notes) (sz := 10) ⟨_, block_alloc (block_alloc (block_alloc (block_alloc (block_at (by simp) _) _) _) _) _, rfl⟩ (fun _ _ => rfl) rfl (by simp [exBs])
  · exact Bk.sl (e := 69) (enc := encP) (xs := exBs.pairs) (sz := 9) ⟨_, block_alloc (block_alloc (block_alloc (block_at (by simp) _) _) _) _, rfl⟩ (fun _ _ => rfl) rfl (by simp [exBs])
  · exact Bk.sl (e := 3) (enc := encZ) (xs := exBs.cads) (sz := 1) ⟨_, block_alloc (block_alloc (block_at (by simp) _) _) _, rfl⟩ (fun _ _ => rfl) rfl (by simp [exBs])
  · exact Bk.sl (e := 45) (enc := V6.list) (xs := exBh) (sz := 6) ⟨_, block_at (by simp) _, rfl⟩ (fun _ _ => rfl) rfl (by simp [exBh])

set_option maxRecDepth 100000 in
set_option maxHeartbeats 8000000 in
theorem bhead_walk (w : World) (G0 : Gl 0 w) : Calls Tryz.prog 4 #[] w fun e w' => e = .returned (.bool true) ∧ Ext w w' := by
  go_enter Tryz.func4, Tryz.ntmps4
  go_wp2_with fail
  refine (bsample_walk _).mono ?_
  rintro e w0 ⟨vn, vp, vc, vx, rfl, S0, V0, x0⟩
  obtain ⟨an, cn, rfl, -, -, -⟩ := S0.nt.len
  obtain ⟨ap, cp, rfl, -, -, -⟩ := S0.pr.len
  obtain ⟨ac, cc, rfl, -, -, -⟩ := S0.cd.len
  obtain ⟨ax, cx, rfl, -, -, -⟩ := V0.len
  have X1 : Ext w0 ((w0.alloc (.cells #[.int .i64 exBs.voices, .slice an exBs.notes.length cn, .slice ap exBs.pairs.length cp, .slice ac exBs.cads.length cc] 26)).alloc (.cells #[.int .i64 0, .int .i64 0, .int .i64 0, .int .i64 0, .int .i64 0, .int .i64 0, .int .i64 (-2), .int .i64 0, .int .i64 1, .int .i64 0, .int .i64 0, .int .i64 0, .int .i64 (-5), .int .i64 5, .int .i64 (-1), .int .i64 0, .int .i64 0, .int .i64 0] 45)) := (by repeat (first | with_reducible exact Ext.refl _ | with_reducible assumption | with_reducible apply Ext.alloc | with_reducible apply Ext.drew | (with_reducible refine Ext.setCell ?_ (by (try simp) <;> omega) _)))
  have b1_0 := block_alloc (block_new w0 (.cells #[.int .i64 exBs.voices, .slice an exBs.notes.length cn, .slice ap exBs.pairs.length cp, .slice ac exBs.cads.length cc] 26)) (.cells #[.int .i64 0, .int .i64 0, .int .i64 0, .int .i64 0, .int .i64 0, .int .i64 0, .int .i64 (-2), .int .i64 0, .int .i64 1, .int .i64 0, .int .i64 0, .int .i64 0, .int .i64 (-5), .int .i64 5, .int .i64 (-1), .int .i64 0, .int .i64 0, .int .i64 0] 45)
  have b1_1 := block_at (w := (w0.alloc (.cells #[.int .i64 exBs.voices, .slice an exBs.notes.length cn, .slice ap exBs.pairs.length cp, .slice ac exBs.cads.length cc] 26))) (n := w0.heap.size + 1) (by simp) (.cells #[.int .i64 0, .int .i64 0, .int .i64 0, .int .i64 0, .int .i64 0, .int .i64 0, .int .i64 (-2), .int .i64 0, .int .i64 1, .int .i64 0, .int .i64 0, .int .i64 0, .int .i64 (-5), .int .i64 5, .int .i64 (-1), .int .i64 0, .int .i64 0, .int .i64 0] 45)
  obtain ⟨W1, hW1⟩ : ∃ W, ((w0.alloc (.cells #[.int .i64 exBs.voices, .slice an exBs.notes.length cn, .slice ap exBs.pairs.length cp, .slice ac exBs.cads.length cc] 26)).alloc (.cells #[.int .i64 0, .int .i64 0, .int .i64 0, .int .i64 0, .int .i64 0, .int .i64 0, .int .i64 (-2), .int .i64 0, .int .i64 1, .int .i64 0, .int .i64 0, .int .i64 0, .int .i64 (-5), .int .i64 5, .int .i64 (-1), .int .i64 0, .int .i64 0, .int .i64 0] 45)) = W := ⟨_, rfl⟩
  obtain ⟨B1, hB1⟩ : ∃ B, w0.heap.size = B := ⟨_, rfl⟩
  rw [hW1] at X1 b1_0 b1_1
  rw [hB1] at b1_0 b1_1
  have HZ1 : Hid (w0.heap.size ≤ B1) := Lib.hid (by omega)
  have HW1 := Lib.hid hW1; have HB1 := Lib.hid hB1
  clear hW1 hB1
  have CB := Lib.hid (boxS b1_0)
  have S : ScR W1 _ _ _ exBs := S0.ext X1
  have V := V0.ext X1
  have G := G0.ext (x0.trans X1)
  have Y := Bk.sl (w := W1) (e := 45) (enc := V6.list) (xs := exBy) (sz := 6) ⟨_, b1_1, rfl⟩ (fun _ _ => rfl) rfl (by simp [exBy])
  have HX0 := Lib.hid (x0.trans X1)
  simp only [exBs, exBh, exBy, List.length_cons, List.length_nil, Nat.reduceAdd] at CB S V Y HW1 HB1 ⊢
  clear S0 V0 G0 X1 x0 b1_0 b1_1
  go_wp2_with fail
  rw [HW1.out, HB1.out]
  clear HW1 HB1
  refine (ideal_walk _ _ _ _ exBs exBy _ G S Y).mono ?_
  rw [exB_1]
  rintro e w2 ⟨v2, rfl, T2, x2⟩
  obtain ⟨at', ct, rfl, -, -, -⟩ := T2.len
  have hl : exBt.length = 3 := rfl
  rw [hl]
  rw [hl] at T2
  have o0 : OwnR (w2.alloc (.cells #[] 47)) w2.heap.size 47 2 encS (.slice (some ⟨w2.heap.size, 0, none⟩) 0 0) [] := OwnR.lit w2 #[] [] 0 rfl (Nat.le_refl _) rfl rfl (by simp [maxLen])
  have e1 := Ext.alloc' w2 (.cells #[] 47)
  have T3 := T2.ext e1
  have hz1 := e1.size
  go_upto_region 7 with (first | (at_builtin; go_must (refine wpList_app0 et_sz rfl (.tmp 41) (.tmp 42) rfl o0 rfl exBt _ T3 rfl (fun _ _ => rfl) (by rw [hl]; omega) hz1 ?_; intro v3 w3 hown3 x3 _; (obtain ⟨g3, q3, rfl, hg3, -, -⟩ := hown3.block (by intro h9; rw [h9] at hl; cases hl)); have TT3 := OwnR.thereS hown3 0 (by rw [hl]; omega); have PP3 : OwnR (w3.setCells g3 0 [.int .i64 100000, .int .i64 200000]) _ _ _ _ _ exBo := OwnR.putS hown3 0 (by rw [hl]; omega) ⟨100000, 200000⟩; rw [hl] at PP3 ⊢)) | (refine wpList_store_mid rfl _ _ _ rfl g3 0 #[.int .i64 100000, .int .i64 200000] rfl rfl TT3 (by kernel_rfl) (by simp [Value.oneCell']) ?_) | fail)
  have x4 : Ext w2 (w3.setCells g3 0 [.int .i64 100000, .int .i64 200000]) := setCells_ext (e1.trans x3) hg3 _ _
  obtain ⟨w4, hw4⟩ : ∃ z, w3.setCells g3 0 [.int .i64 100000, .int .i64 200000] = z := ⟨_, rfl⟩
  rw [hw4] at PP3 x4 ⊢
  have O4 := PP3.sl (fun _ _ => rfl) (by simp [exBo, hl])
  have HO4 := Lib.hid O4
  have X4 := x2.trans x4
  clear o0 e1 T3 hz1 hown3 TT3 PP3 hw4 x3 hg3 O4
  have o0 : OwnR (w4.alloc (.cells #[] 47)) w4.heap.size 47 2 encS (.slice (some ⟨w4.heap.size, 0, none⟩) 0 0) [] := OwnR.lit w4 #[] [] 0 rfl (Nat.le_refl _) rfl rfl (by simp [maxLen])
  have e1 := Ext.alloc' w4 (.cells #[] 47)
  have T5 := T2.ext (x4.trans e1)
  have hz1 := e1.size
  go_upto_region 9 with (first | (at_builtin; go_must (refine wpList_app0 et_sz rfl (.tmp 47) (.tmp 48) rfl o0 rfl exBt _ T5 rfl (fun _ _ => rfl) (by rw [hl]; omega) hz1 ?_; intro v5 w5 hown5 x5 _; (obtain ⟨g5, q5, rfl, hg5, -, -⟩ := hown5.block (by intro h9; rw [h9] at hl; cases hl)); have TT5 := OwnR.thereS hown5 1 (by rw [hl]; omega); have PP5 : OwnR (w5.setCells g5 2 [.int .i64 3800000000, .int .i64 3900000000]) _ _ _ _ _ exBw := OwnR.putS hown5 1 (by rw [hl]; omega) ⟨3800000000, 3900000000⟩; rw [hl] at PP5 ⊢)) | (refine wpList_store_mid rfl _ _ _ rfl g5 2 #[.int .i64 3800000000, .int .i64 3900000000] rfl rfl TT5 (by kernel_rfl) (by simp [Value.oneCell']) ?_) | fail)
  have x6 : Ext w4 (w5.setCells g5 2 [.int .i64 3800000000, .int .i64 3900000000]) := setCells_ext (e1.trans x5) hg5 _ _
  obtain ⟨w6, hw6⟩ : ∃ z, w5.setCells g5 2 [.int .i64 3800000000, .int .i64 3900000000] = z := ⟨_, rfl⟩
  rw [hw6] at PP5 x6 ⊢
  have W6 := PP5.sl (fun _ _ => rfl) (by simp [exBw, hl])
  have O6 := HO4.out.ext x6
  have T6 := T2.ext (x4.trans x6)
  have X6 := X4.trans x6
  clear o0 e1 T5 hz1 hown5 TT5 PP5 hw6 x5 hg5 HO4 T2 x2 x4 x6 X4
  have HWW := Lib.hid fun w' (x : Ext w6 w') => W6.ext x
  have HOO := Lib.hid fun w' (x : Ext w6 w') => O6.ext x
  have HTT := Lib.hid fun w' (x : Ext w6 w') => T6.ext x
  have HSS := Lib.hid fun w' (x : Ext w6 w') => S.ext (X6.trans x)
  have HVV := Lib.hid fun w' (x : Ext w6 w') => V.ext (X6.trans x)
  have HGG := Lib.hid fun w' (x : Ext w6 w') => G.ext (X6.trans x)
  have HX6 := Lib.hid X6
  clear W6 O6 T6 S V G Y
  obtain ⟨c0, c1, c2, c3⟩ := CB.out _ X6
  go_wp2_with fail
  refine (deviants_walk _ _ _ _ _ exBs exBh exBt _ (HGG.out _ (Ext.refl _)) (HSS.out _ (Ext.refl _)) (HVV.out _ (Ext.refl _)) (HTT.out _ (Ext.refl _))).mono ?_
  rw [exB_2]
  rintro e w7 ⟨v7, rfl, L7, x7⟩
  obtain ⟨a7, q7, rfl, -, -, -⟩ := L7.len
  clear c0 c1 c2 c3
  obtain ⟨c0, c1, c2, c3⟩ := CB.out _ (HX6.out.trans x7)
  go_wp2_with fail
  refine (charges_walk _ _ _ _ _ exBs exBh exBt _ (HGG.out _ x7) (HSS.out _ x7) (HVV.out _ x7) (HTT.out _ x7)).mono ?_
  rw [exB_3]
  rintro e w8 ⟨v8, rfl, L8, y8⟩
  have x8 := x7.trans y8
  clear c0 c1 c2 c3
  obtain ⟨c0, c1, c2, c3⟩ := CB.out _ (HX6.out.trans x8)
  go_wp2_with fail
  refine (deviants_walk _ _ _ _ _ exBs exBh exBo _ (HGG.out _ x8) (HSS.out _ x8) (HVV.out _ x8) (HOO.out _ x8)).mono ?_
  rw [exB_4]
  rintro e w9 ⟨v9, rfl, L9, y9⟩
  have x9 := x8.trans y9
  clear c0 c1 c2 c3
  obtain ⟨c0, c1, c2, c3⟩ := CB.out _ (HX6.out.trans x9)
  go_wp2_with fail
  refine (charges_walk _ _ _ _ _ exBs exBh exBo _ (HGG.out _ x9) (HSS.out _ x9) (HVV.out _ x9) (HOO.out _ x9)).mono ?_
  rw [exB_5]
  rintro e w10 ⟨v10, rfl, L10, y10⟩
  have x10 := x9.trans y10
  clear c0 c1 c2 c3
  obtain ⟨c0, c1, c2, c3⟩ := CB.out _ (HX6.out.trans x10)
  go_wp2_with fail
  refine (charges_walk _ _ _ _ _ exBs exBh exBw _ (HGG.out _ x10) (HSS.out _ x10) (HVV.out _ x10) (HWW.out _ x10)).mono ?_
  rw [exB_6]
  rintro e w11 ⟨v11, rfl, L11, y11⟩
  have x11 := x10.trans y11
  clear c0 c1 c2 c3
  obtain ⟨c0, c1, c2, c3⟩ := CB.out _ (HX6.out.trans x11)
  go_wp2_with fail
  refine (bvoices_walk _ _ _ _ _ exBs exBh exBo _ (HGG.out _ x11) (HSS.out _ x11) (HVV.out _ x11) (HOO.out _ x11)).mono ?_
  rw [exB_7]
  rintro e w12 ⟨v12, rfl, L12, y12⟩
  have x12 := x11.trans y12
  clear c0 c1 c2 c3
  have HL7 := Lib.hid (L7.ext (y8.trans (y9.trans (y10.trans (y11.trans y12)))))
  have HL8 := Lib.hid fun w' (x : Ext w12 w') => L8.ext (y9.trans (y10.trans (y11.trans (y12.trans x))))
  have HL9 := Lib.hid fun w' (x : Ext w12 w') => L9.ext (y10.trans (y11.trans (y12.trans x)))
  have HL10 := Lib.hid fun w' (x : Ext w12 w') => L10.ext (y11.trans (y12.trans x))
  have HL11 := Lib.hid fun w' (x : Ext w12 w') => L11.ext (y12.trans x)
  have HL12 := Lib.hid fun w' (x : Ext w12 w') => L12.ext x
  have HX12 := Lib.hid (HX6.out.trans x12)
  clear L7 L8 L9 L10 L11 L12 y8 y9 y10 y11 y12 x7 x8 x9 x10 x11 HWW HOO HTT HSS HVV HGG CB x12
  have X13 : Ext w12 (w12.alloc (.cells #[.int .i64 1, .int .i64 2, .int .i64 (-1)] 49)) := (by repeat (first | with_reducible exact Ext.refl _ | with_reducible assumption | with_reducible apply Ext.alloc | with_reducible apply Ext.drew | (with_reducible refine Ext.setCell ?_ (by (try simp) <;> omega) _)))
  have b13_0 := block_new w12 (.cells #[.int .i64 1, .int .i64 2, .int .i64 (-1)] 49)
  obtain ⟨W13, hW13⟩ : ∃ W, (w12.alloc (.cells #[.int .i64 1, .int .i64 2, .int .i64 (-1)] 49)) = W := ⟨_, rfl⟩
  obtain ⟨B13, hB13⟩ : ∃ B, w12.heap.size = B := ⟨_, rfl⟩
  rw [hW13] at X13 b13_0
  rw [hB13] at b13_0
  have HZ13 : Hid (w12.heap.size ≤ B13) := Lib.hid (by omega)
  have HW13 := Lib.hid hW13; have HB13 := Lib.hid hB13
  clear hW13 hB13
  have CH := Lib.hid fun w' (x : Ext W13 w') => Sl.ext (Bk.sl (w := W13) (e := 49) (enc := encCg) (xs := [⟨1, 2, -1⟩]) (sz := 3) ⟨_, b13_0, rfl⟩ (fun _ _ => rfl) rfl (by simp)) x
  clear b13_0
  go_upto_region 17 with fail
  rw [HW13.out, HB13.out]
  clear HW13 HB13
  have t0 : decide ((([] : List Int).length : Int) = 0) = true := by decide
  go_wp2_with fail
  refine (samecg_walk _ _ _ _ _ (HL8.out _ X13) (CH.out _ (Ext.refl _))).mono ?_
  rw [decide_eq_true rfl]
  rintro e w14 ⟨rfl, x14⟩
  have r15 : Sl (w14.alloc (.cells #[.int .i64 0] 3)) 1 encZ (.slice (some ⟨w14.heap.size, 0, none⟩) 1 1) [0] := Bk.sl (e := 3) (enc := encZ) (sz := 1) (xs := [0]) ⟨_, block_new _ _, rfl⟩ (fun _ _ => rfl) rfl (by simp)
  have e15 := Ext.alloc' w14 (.cells #[.int .i64 0] 3)
  go_wp2_with fail
  refine (same16_walk _ _ _ _ _ (HL9.out _ (X13.trans (x14.trans e15))) r15).mono ?_
  rw [decide_eq_true rfl]
  rintro e w16 ⟨rfl, y16⟩
  have x16 := x14.trans (e15.trans y16)
  clear r15 e15 y16 x14
  go_wp2_with fail
  refine (samecg_walk _ _ _ _ _ (HL11.out _ (X13.trans x16)) (CH.out _ x16)).mono ?_
  rw [decide_eq_true rfl]
  rintro e w17 ⟨rfl, y17⟩
  have x17 := x16.trans y17
  have r15 : Sl (w17.alloc (.cells #[.int .i64 1, .int .i64 0] 3)) 1 encZ (.slice (some ⟨w17.heap.size, 0, none⟩) 2 2) [1, 0] := Bk.sl (e := 3) (enc := encZ) (sz := 1) (xs := [1, 0]) ⟨_, block_new _ _, rfl⟩ (fun _ _ => rfl) rfl (by simp)
  have e15 := Ext.alloc' w17 (.cells #[.int .i64 1, .int .i64 0] 3)
  go_wp2_with fail
  refine (same16_walk _ _ _ _ _ (HL12.out _ (X13.trans (x17.trans e15))) r15).mono ?_
  rw [decide_eq_true rfl]
  rintro e w18 ⟨rfl, y18⟩
  have x18 := x17.trans (e15.trans y18)
  clear r15 e15 y18 x17 x16
  have r15 : Sl (w18.alloc (.cells #[.int .i64 0, .int .i64 1, .int .i64 0, .int .i64 1, .int .i64 1, .int .i64 0] 49)) 3 encCg (.slice (some ⟨w18.heap.size, 0, none⟩) 2 2) [⟨0, 1, 0⟩, ⟨1, 1, 0⟩] := Bk.sl (e := 49) (enc := encCg) (sz := 3) (xs := [⟨0, 1, 0⟩, ⟨1, 1, 0⟩]) ⟨_, block_new _ _, rfl⟩ (fun _ _ => rfl) rfl (by simp)
  have e15 := Ext.alloc' w18 (.cells #[.int .i64 0, .int .i64 1, .int .i64 0, .int .i64 1, .int .i64 1, .int .i64 0] 49)
  go_wp2_with fail
  refine (samecg_walk _ _ _ _ _ (HL10.out _ (X13.trans (x18.trans e15))) r15).mono ?_
  rw [decide_eq_true rfl]
  rintro e w19 ⟨rfl, y19⟩
  have HX := Lib.hid ((HX0.out.trans HX12.out).trans (X13.trans (x18.trans (e15.trans y19))))
  clear r15
  go_wp2
  go_ret
  exact ⟨by first | rfl | simp, HX.out⟩
end Go.Proofs.YtbemjekkojgbpaaGreatDoor
