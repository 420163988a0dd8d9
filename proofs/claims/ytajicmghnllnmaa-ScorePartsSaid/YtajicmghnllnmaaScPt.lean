/-
  Proved: 'ScoreParts' returns true for every input and leaves its arguments as they were. No condition.
-/
import Derived.Test.YtajicmghnllnmaaScSec
import Derived.Test.YtajicmghnllnmaaScCp
import Derived.Test.YtajicmghnllnmaaScPtM
import Derived.Test.YtajicmghnllnmaaOw
import Derived.Deep.DeepCutAuto
set_option linter.unusedVariables false
namespace Go.Proofs.Ytajicmghnllnmaa
open Go.RowKit Go.Sx Go.Sx.Sz Go.Sx.Sc Go.ChangeShapes Go.WideShapes Go.ChangeAt

set_option maxRecDepth 100000 in
set_option maxHeartbeats 8000000 in
theorem parts_law (vn vp vc : Value) (s : Sc) (pair tick : Int) (w : World) (S : ScR w vn vp vc s) :
    Calls Try.prog 10 #[.agg #[.int .i64 s.voices, vn, vp, vc], .int .i64 pair, .int .i64 tick] w fun e w' => e = .returned (.bool true) ∧ Ext w w' := by
  obtain ⟨an, cn, rfl, hcn, hmn, hln⟩ := S.nt.len
  obtain ⟨ap, cp, rfl, hcp, hmp, hlp⟩ := S.pr.len
  obtain ⟨ac, cc, rfl, hcc, hmc, hlc⟩ := S.cd.len
  have XW := Ext.alloc' w (.cells #[.int .i64 s.voices, .slice an s.notes.length cn, .slice ap s.pairs.length cp, .slice ac s.cads.length cc] 26)
  have b1 := block_new w (.cells #[.int .i64 s.voices, .slice an s.notes.length cn, .slice ap s.pairs.length cp, .slice ac s.cads.length cc] 26)
  obtain ⟨W, hW⟩ : ∃ W, w.alloc (.cells #[.int .i64 s.voices, .slice an s.notes.length cn, .slice ap s.pairs.length cp, .slice ac s.cads.length cc] 26) = W := ⟨_, rfl⟩
  rw [hW] at XW b1
  have HW := Lib.hid hW
  obtain ⟨B, hB⟩ : ∃ B, w.heap.size = B := ⟨_, rfl⟩
  rw [hB] at b1
  have CB : Hid (∀ w', Ext W w' → BoxS B s.voices (.slice an s.notes.length cn) (.slice ap s.pairs.length cp) (.slice ac s.cads.length cc) w') := Lib.hid fun w' x => BoxS.of (block_ext x b1)
  have S1 := S.ext XW
  have HB := Lib.hid hB
  clear hW b1 S hB
  go_enter Try.func10, Try.ntmps10
  go_wp2_with fail
  rw [HW.out, HB.out]
  clear HW HB
  refine (head_walk _).mono ?_
  rintro e w1 ⟨rfl, x1⟩
  obtain ⟨c0, c1, c2, c3⟩ := CB.out w1 x1
  go_wp2_with fail
  refine (scvalid_walk _ _ _ s _ (S1.ext x1)).mono ?_
  cases hok : scB s with
  | false =>
    clear hok
    rintro e w2 ⟨rfl, x2⟩
    clear c0 c1 c2 c3
    go_wp2
    go_ret
    exact ⟨rfl, XW.trans (x1.trans x2)⟩
  | true =>
  rintro e w2 ⟨rfl, y2⟩
  have x2 := x1.trans y2
  have HO := Lib.hid hok
  have HV := Lib.hid (scB_iff.1 hok)
  have hnn := (scB_iff.1 hok).sz.2.1
  have hpn := (scB_iff.1 hok).sz.2.2.1
  have hdn := (scB_iff.1 hok).sz.2.2.2
  clear hok c0 c1 c2 c3 y2 x1
  obtain ⟨c0, c1, c2, c3⟩ := CB.out w2 x2
  have NEG : pair < 0 ∨ (s.pairs.length : Int) ≤ pair ∨ (0 ≤ pair ∧ pair < s.pairs.length) := by omega
  go_upto_region 4 with fail
  go_cut [31] (fun s31 wx => ∃ b : Bool, s31 = .bool b ∧ Hid (b = true → 0 ≤ pair ∧ pair < s.pairs.length) ∧ w2 = wx)
  case first =>
    rcases NEG with h | h | ⟨h1, h2⟩
    · have h' : decide (0 ≤ pair) = false := decide_eq_false (by omega)
      clear h
      go_wp2_with fail
      go_meet
      exact ⟨false, by first | rfl | simp, Lib.hid (fun h => by cases h), rfl⟩
    · have h0 : decide (0 ≤ pair) = true := decide_eq_true (by omega)
      have h' : decide (pair < (s.pairs.length : Int)) = false := decide_eq_false (by omega)
      clear h
      go_wp2_with fail
      go_meet
      exact ⟨false, by first | rfl | simp, Lib.hid (fun h => by cases h), rfl⟩
    · have h0 : decide (0 ≤ pair) = true := decide_eq_true h1
      have h' : decide (pair < (s.pairs.length : Int)) = true := decide_eq_true h2
      have HH := Lib.hid (And.intro h1 h2)
      clear h1 h2
      go_wp2_with fail
      go_meet
      exact ⟨true, by first | rfl | simp, Lib.hid (fun _ => HH.out), rfl⟩
  case rest =>
  obtain ⟨b, rfl, HPB, hww⟩ := hcut
  subst hww
  clear NEG
  go_upto_if 31 with (fail)
  go_cut [7] (fun s7 wx => s7 = .bool true ∧ Ext W wx)
  case first =>
    cases b with
    | false =>
      go_wp2_with fail
      go_meet
      exact ⟨rfl, x2⟩
    | true =>
      obtain ⟨p, hp⟩ : ∃ p : Nat, pair = p := ⟨pair.toNat, by have := HPB.out rfl; omega⟩
      subst hp
      have hpp : p < s.pairs.length := by have := HPB.out rfl; omega
      have HPP := Lib.hid hpp
      clear HPB
      go_wp2_with fail
      refine (copied_walk _ _ _ s ⟨hnn, hpn, by omega⟩ _ (S1.ext x2)).mono ?_
      rintro e w3 ⟨un, up, uc, rfl, on, op, oc, y3⟩
      have x3 := x2.trans y3
      have hnb : ∀ g, un.ownBlock = some g → g < w3.heap.size := fun g h => (World.ownsRow.lt on g h).2
      have hcb : ∀ g, uc.ownBlock = some g → g < w3.heap.size := fun g h => (World.ownsRow.lt oc g h).2
      have XD := Ext.alloc' w3 (.cells #[.int .i64 s.voices, un, up, uc] 26)
      have bD := block_new w3 (.cells #[.int .i64 s.voices, un, up, uc] 26)
      have on4 := on.ext XD; have oc4 := oc.ext XD
      have hz4 : w3.heap.size < (w3.alloc (.cells #[.int .i64 s.voices, un, up, uc] 26)).heap.size := by simp
      obtain ⟨W4, hW4⟩ : ∃ W, w3.alloc (.cells #[.int .i64 s.voices, un, up, uc] 26) = W := ⟨_, rfl⟩
      obtain ⟨D, hD⟩ : ∃ D, w3.heap.size = D := ⟨_, rfl⟩
      rw [hW4] at XD bD on4 oc4 hz4
      rw [hD] at bD hnb hcb hz4
      have x4 := x3.trans XD
      have HW4 := Lib.hid hW4; have HD := Lib.hid hD; have HZ4 := Lib.hid hz4
      have HDW : Hid (W.heap.size ≤ D) := Lib.hid (by rw [← hD]; exact x3.size)
      have HNB := Lib.hid hnb; have HCB := Lib.hid hcb
      obtain ⟨dn, en, hdn1⟩ := on.len
      obtain ⟨dp, ep, hdp1⟩ := op.len
      obtain ⟨dc, ec, hdc1⟩ := oc.len
      subst hdn1 hdp1 hdc1
      clear hW4 hD hnb hcb on op oc XD y3 x3 hz4 c0 c1 c2 c3
      obtain ⟨c0, c1, c2, c3⟩ := CB.out W4 x4
      go_upto_region 6 with fail
      rw [HW4.out, HD.out]
      have S4 := S1.ext x4
      have f0 := ext_cells c2
      have S0k := S4.pr.cut (by omega) 0 p (Nat.zero_le _) (by have := HPP.out; omega)
      have Skl := S4.pr.cut (by omega) (p + 1) s.pairs.length (by have := HPP.out; omega) (Nat.le_refl _)
      rw [List.drop_zero] at S0k
      rw [List.take_length] at Skl
      have i1 : (0 : Int) ≤ (p : Int) := by omega
      have i2 : (p : Int) ≤ (s.pairs.length : Int) := by have := HPP.out; omega
      have i3 : (p : Int) + 1 ≤ (s.pairs.length : Int) := by have := HPP.out; omega
      have i4 : (p : Int) ≤ (cp : Int) := by have := HPP.out; omega
      have i5 : (s.pairs.length : Int) ≤ (cp : Int) := by omega
      have i6 : (0 : Int) ≤ (p : Int) + 1 := by omega
      have e1 : IntKind.i64.wrap ((p : Int) + 1) = ((p + 1 : Nat) : Int) := by rw [IntWalk.i64_in _ (by have := HPP.out; omega)]; omega
      apply Y.wp_region_ordY [(0, .new Zero (Lit0 W4.heap.size 49) _ zero0), (1, .det _), (2, .det _), (3, .det _), (4, .det (sliced ap 0 p cp 9)), (6, .det _), (7, .det _), (8, .det _), (9, .det _), (10, .det (sliced ap (p + 1) s.pairs.length cp 9)),
        (5, .one (fun _ => True) (fun v w' => OwnR w' W4.heap.size 49 9 encP v (s.pairs.take p) ∧ (0 < p ∨ Zero v)) undef trivial [0]), (11, .one (fun _ => True) (fun v w' => OwnR w' W4.heap.size 49 9 encP v (s.pairs.take p ++ s.pairs.drop (p + 1))) undef trivial)]
        12 Ext (Keeps W4.heap.size 9) (Ext W4) (fun _ => True) wide
        [(0,true),(1,true),(2,true),(3,true),(4,true),(6,true),(7,true),(8,true),(9,true),(10,true),(5,false),(11,false)] [(0,[]),(1,[]),(2,[]),(3,[]),(4,[]),(6,[]),(7,[]),(8,[]),(9,[]),(10,[]),(5,[0]),(11,[])] (by kernel_rfl) (by kernel_rfl) rfl rfl (by simp [Y.Kd.new, Y.Kd.det, Y.Kd.one, Y.kdOf]) (by decide) (fun _ _ h => Keeps.of_ext h) (keeps_cd _ _) stable_true (Ext.drawn _ _) trivial ?main
      case main =>
        apply Y.ordX_new (fun v => Lit0.stableK _ _ _ _) rfl rfl
        · intro w' hw' _
          unfold opR
          go_simp
          exact ⟨Ext.alloc' _ _, ⟨_, rfl⟩, Lit0.new w' hw'.size _⟩
        · intro v; (simp only [List.getElem_toArray, List.getElem_cons_succ, List.getElem_cons_zero, Act.put, List.setIfInBounds_toArray, List.set_cons_succ, List.set_cons_zero]; rfl)
        rintro v0 ⟨g0, rfl⟩
        iterate 3 (apply Y.ordX_det rfl rfl; (intro w' hw'; unfold opR; go_simp; exact ⟨Ext.refl _, rfl⟩); (simp only [List.getElem_toArray, List.getElem_cons_succ, List.getElem_cons_zero, Act.put, List.setIfInBounds_toArray, List.set_cons_succ, List.set_cons_zero]; rfl))
        apply Y.ordX_det rfl rfl
        · intro w' hw'
          unfold opR
          go_simp
          exact ⟨Ext.refl _, rfl⟩
        · (simp only [List.getElem_toArray, List.getElem_cons_succ, List.getElem_cons_zero, Act.put, List.setIfInBounds_toArray, List.set_cons_succ, List.set_cons_zero]; rfl)
        iterate 4 (apply Y.ordX_det rfl rfl; (intro w' hw'; unfold opR; go_simp; exact ⟨Ext.refl _, rfl⟩); (simp only [List.getElem_toArray, List.getElem_cons_succ, List.getElem_cons_zero, Act.put, List.setIfInBounds_toArray, List.set_cons_succ, List.set_cons_zero]; rfl))
        apply Y.ordX_det rfl rfl
        · intro w' hw'
          unfold opR
          go_simp
          exact ⟨Ext.refl _, rfl⟩
        · (simp only [List.getElem_toArray, List.getElem_cons_succ, List.getElem_cons_zero, Act.put, List.setIfInBounds_toArray, List.set_cons_succ, List.set_cons_zero]; rfl)
        apply Y.ordX_one (fun v _ _ h k => ⟨h.1.ext k, h.2⟩) rfl rfl
        · intro w' hw' _ hN
          refine opR_app0 et_pr (.tmp 34) (.tmp 38) rfl (Lit0.own (hN 0 (by simp))) rfl (s.pairs.take p) _ (S0k.ext hw') rfl (fun _ _ => rfl) (by have := HPP.out; simp; omega) hw'.size ?_
          intro v' w4 h1 h2 h3
          refine ⟨Keeps.of_ext h2, trivial, h1, ?_⟩
          rcases Nat.eq_zero_or_pos p with h | h
          · exact .inr ⟨_, h3 (by simp [h])⟩
          · exact .inl h
        · intro v; (simp only [List.getElem_toArray, List.getElem_cons_succ, List.getElem_cons_zero, Act.put, List.setIfInBounds_toArray, List.set_cons_succ, List.set_cons_zero]; rfl)
        intro v4 _
        apply Y.ordX_one (fun v _ _ h k => h.ext k) rfl rfl
        · intro w' hw' hC _
          refine opR_app_keep et_pr (.tmp 39) (.tmp 44) rfl hC.1 (hC.2.imp (fun h => by have := HPP.out; simp; omega) id) rfl (s.pairs.drop (p + 1)) _ (Skl.ext hw') rfl (fun _ _ => rfl) (by simp [encP, Value.oneCell']) (fun _ _ => rfl) (by have := HPP.out; simp; omega) hw'.size ?_
          intro v' w4 h1 h2
          exact ⟨h2, trivial, h1⟩
        · intro v; (simp only [List.getElem_toArray, List.getElem_cons_succ, List.getElem_cons_zero, Act.put, List.setIfInBounds_toArray, List.set_cons_succ, List.set_cons_zero]; rfl)
        intro v5 _
        refine Y.ordX_nil rfl ?_
        rintro w9 hw9 o5 -
        obtain ⟨d5, e5, hd5⟩ := o5.len
        subst hd5
        have bD9 := block_ext hw9 bD
        have z1 := block_cell bD9 2 _ rfl
        have z2 := block_free bD9 2
        have n9 := ((on4.ext hw9).stay (g := D) (j := 2) (fun e => by have := HNB.out _ e; omega) (.slice d5 (s.pairs.take p ++ s.pairs.drop (p + 1)).length e5)).sl (fun _ _ => rfl) (by omega)
        have q9 := (o5.stay (g := D) (j := 2) (OwnR.apart_below o5 HZ4.out) (.slice d5 (s.pairs.take p ++ s.pairs.drop (p + 1)).length e5)).sl (fun _ _ => rfl) (by have := HPP.out; simp; omega)
        have m9 := ((oc4.ext hw9).stay (g := D) (j := 2) (fun e => by have := HCB.out _ e; omega) (.slice d5 (s.pairs.take p ++ s.pairs.drop (p + 1)).length e5)).sl (fun _ _ => rfl) (by omega)
        have HSR : Hid (ScR _ _ _ _ (noPair s p)) := Lib.hid ⟨n9, q9, m9⟩
        have b10 := block_set bD9 2 (.slice d5 (s.pairs.take p ++ s.pairs.drop (p + 1)).length e5)
        have t0 := block_cell b10 0 _ rfl; have t1 := block_cell b10 1 _ rfl; have t2 := block_cell b10 2 _ rfl; have t3 := block_cell b10 3 _ rfl
        have x9 := (x4.trans hw9).setCell (p := ⟨D, 2, none⟩) HDW.out (.slice d5 (s.pairs.take p ++ s.pairs.drop (p + 1)).length e5)
        have HX9 := Lib.hid x9
        have HVP := Lib.hid (scB_iff.2 (noPair_ok HV.out p))
        obtain ⟨LL, hLL⟩ : ∃ n, (s.pairs.take p ++ s.pairs.drop (p + 1)).length = n := ⟨_, rfl⟩
        rw [hLL] at HSR b10 t0 t1 t2 t3 HX9 ⊢
        clear Skl S0k
        generalize sliced ap (p + 1) s.pairs.length cp 9 = z44
        generalize sliced ap 0 p cp 9 = z38
        clear hLL n9 q9 m9 b10 x9 bD9 o5 hw9 on4 oc4 bD c0 c1 c2 c3 f0 e1 i1 i2 i3 i4 i5 i6 S4 x4
        go_wp2_with fail
        refine (scvalid_walk _ _ _ (noPair s p) _ HSR.out).mono ?_
        rw [HVP.out]
        rintro e w10 ⟨rfl, x10⟩
        go_wp2_with fail
        go_meet
        exact ⟨by first | rfl | trivial, HX9.out.trans x10⟩
  case rest =>
  obtain ⟨rfl, x3⟩ := hcut
  clear c0 c1 c2 c3 HPB x2
  obtain ⟨c0, c1, c2, c3⟩ := CB.out _ x3
  have e1 : IntKind.i64.wrap ((s.notes.length : Int) - 1) = (s.notes.length : Int) - 1 := IntWalk.i64_in _ (by omega)
  go_upto_if 57 with (fail)
  go_cut [7] (fun s7 wx => s7 = .bool true ∧ Ext W wx)
  case first =>
    by_cases hl : 0 < s.notes.length
    · obtain ⟨l, hll⟩ : ∃ l, s.notes.length = l + 1 := ⟨s.notes.length - 1, by omega⟩
      have hl1 : (s.notes.length : Int) - 1 = (l : Int) := by omega
      have HL := Lib.hid hll
      rw [hl1]
      have t57 : decide ((0 : Int) ≤ (l : Int)) = true := decide_eq_true (by omega)
      have t57a : (1 : Int) ≤ (s.notes.length : Int) := by omega
      have t57b : decide ((1 : Int) ≤ (s.notes.length : Int)) = true := decide_eq_true (by omega)
      clear hl hl1 e1 hll
      go_upto_region 10 with fail
      have HX3 := Lib.hid x3
      have S3 := S1.ext x3
      have f0 := ext_cells c0; have f1 := ext_cells c1; have f3 := ext_cells c3
      have hll := HL.out
      have SL := S3.nt.cut (by omega) 0 l (Nat.zero_le _) (by omega)
      rw [List.drop_zero] at SL
      have i1 : (0 : Int) ≤ (l : Int) := by omega
      have i2 : (l : Int) ≤ (s.notes.length : Int) := by omega
      have i3 : (l : Int) ≤ (cn : Int) := by omega
      clear hll t57 t57a t57b
      apply Y.wp_region_ordY [(0, .det _), (1, .det _), (2, .new Zero (fun v w' => OwnR w' W.heap.size 40 10 encN v []) _ zero0), (3, .det _), (4, .det _), (5, .det _), (6, .det (sliced an 0 l cn 10)), (7, .new (fun v => ∃ a n c, v = .slice a n c) (fun v w' => OwnR w' W.heap.size 40 10 encN v (s.notes.take l)) (.slice none 0 0) ⟨none, 0, 0, rfl⟩ [2]), (8, .det _), (9, .det _),
        (10, .new (fun v => ∃ a n c, v = .agg #[.int .i64 s.voices, .slice a n c, .slice none 0 0, .slice ac s.cads.length cc]) (fun v w' => ∃ a n c, v = .agg #[.int .i64 s.voices, .slice a n c, .slice none 0 0, .slice ac s.cads.length cc] ∧ OwnR w' W.heap.size 40 10 encN (.slice a n c) (s.notes.take l)) (.agg #[.int .i64 s.voices, .slice none 0 0, .slice none 0 0, .slice ac s.cads.length cc]) ⟨none, 0, 0, rfl⟩ [7]), (11, .new (fun v => ∃ g, v = .pointer (some ⟨g, 0, none⟩)) (fun v w' => ∃ g, v = .pointer (some ⟨g, 0, none⟩) ∧ W.heap.size ≤ g ∧ w'.heap[g]? = some (.cells #[.int .i64 0, .slice none 0 0, .slice none 0 0, .slice none 0 0] 26 (0, 0))) (.pointer (some ⟨0, 0, none⟩)) ⟨0, rfl⟩)]
        12 Ext Ext (Ext _) (fun _ => True) wide
        [(0,true),(1,true),(2,true),(3,true),(4,true),(5,true),(6,true),(7,true),(8,true),(9,true),(10,true),(11,true)] [(0,[]),(1,[]),(2,[]),(3,[]),(4,[]),(5,[]),(6,[]),(7,[2]),(8,[]),(9,[]),(10,[7]),(11,[])] (by kernel_rfl) (by kernel_rfl) rfl rfl (by simp [Y.Kd.new, Y.Kd.det, Y.Kd.one, Y.kdOf]) (by decide) (fun _ _ h => h) (stable_ext _) stable_true (Ext.drawn _ _) trivial ?main
      case main =>
        iterate 2 (apply Y.ordX_det rfl rfl; (intro w' hw'; unfold opR; go_simp; exact ⟨Ext.refl _, rfl⟩); (simp only [List.getElem_toArray, List.getElem_cons_succ, List.getElem_cons_zero, Act.put, List.setIfInBounds_toArray, List.set_cons_succ, List.set_cons_zero]; rfl))
        apply Y.ordX_new (fun v => stable_own' _ _ _ _ _ _) rfl rfl
        · intro w' hw' _
          unfold opR
          go_simp
          exact ⟨Ext.alloc' _ _, ⟨_, rfl⟩, OwnR.lit w' #[] [] 0 rfl (HX3.out.trans hw').size rfl rfl (by simp [maxLen])⟩
        · intro v; (simp only [List.getElem_toArray, List.getElem_cons_succ, List.getElem_cons_zero, Act.put, List.setIfInBounds_toArray, List.set_cons_succ, List.set_cons_zero]; rfl)
        rintro v0 ⟨g0, rfl⟩
        iterate 3 (apply Y.ordX_det rfl rfl; (intro w' hw'; unfold opR; go_simp; exact ⟨Ext.refl _, rfl⟩); (simp only [List.getElem_toArray, List.getElem_cons_succ, List.getElem_cons_zero, Act.put, List.setIfInBounds_toArray, List.set_cons_succ, List.set_cons_zero]; rfl))
        apply Y.ordX_det rfl rfl
        · intro w' hw'
          unfold opR
          go_simp
          exact ⟨Ext.refl _, rfl⟩
        · (simp only [List.getElem_toArray, List.getElem_cons_succ, List.getElem_cons_zero, Act.put, List.setIfInBounds_toArray, List.set_cons_succ, List.set_cons_zero]; rfl)
        apply Y.ordX_new (fun v => stable_own' _ _ _ _ _ _) rfl rfl
        · intro w' hw' hN
          refine opR_app0 et_nt (.tmp 60) (.tmp 64) rfl (hN 2 (by simp)) rfl (s.notes.take l) _ (SL.ext hw') rfl (fun _ _ => rfl) (by simp; omega) (HX3.out.trans hw').size ?_
          intro v' w4 h1 h2 _
          exact ⟨h2, h1.shape, h1⟩
        · intro v; (simp only [List.getElem_toArray, List.getElem_cons_succ, List.getElem_cons_zero, Act.put, List.setIfInBounds_toArray, List.set_cons_succ, List.set_cons_zero]; rfl)
        rintro v7 ⟨a8, n8, q8, rfl⟩
        iterate 2 (apply Y.ordX_det rfl rfl; (intro w' hw'; unfold opR; go_simp; exact ⟨Ext.refl _, rfl⟩); (simp only [List.getElem_toArray, List.getElem_cons_succ, List.getElem_cons_zero, Act.put, List.setIfInBounds_toArray, List.set_cons_succ, List.set_cons_zero]; rfl))
        apply Y.ordX_new (fun v w1 w2 h k => by obtain ⟨a, n, c, h1, h2⟩ := h; exact ⟨a, n, c, h1, h2.ext k⟩) rfl rfl
        · intro w' hw' hN
          have hO := hN 7 (by simp)
          unfold opR
          go_simp
          exact ⟨Ext.refl _, ⟨_, _, _, rfl⟩, _, _, _, rfl, hO⟩
        · intro v; (simp only [List.getElem_toArray, List.getElem_cons_succ, List.getElem_cons_zero, Act.put, List.setIfInBounds_toArray, List.set_cons_succ, List.set_cons_zero]; rfl)
        rintro v10 -
        apply Y.ordX_new (fun v w1 w2 h k => by obtain ⟨g, a, b, c⟩ := h; exact ⟨g, a, b, block_ext k c⟩) rfl rfl
        · intro w' hw' _
          unfold opR
          go_simp
          exact ⟨Ext.alloc' _ _, ⟨_, rfl⟩, _, rfl, (HX3.out.trans hw').size, block_new _ _⟩
        · intro v; (simp only [List.getElem_toArray, List.getElem_cons_succ, List.getElem_cons_zero, Act.put, List.setIfInBounds_toArray, List.set_cons_succ, List.set_cons_zero]; rfl)
        rintro v11 -
        refine Y.ordX_nil rfl ?_
        rintro w9 hw9 - ⟨⟨⟨⟨-, -⟩, -⟩, a7, n7, q7, rfl, o7⟩, D, rfl, hDW, bD⟩
        have X9 := HX3.out.trans hw9
        have hne : (Value.slice a7 n7 q7).ownBlock ≠ some D := fun e => by
          obtain ⟨cs, hcs⟩ := o7.kind e
          rw [hcs] at bD; cases bD
        have n9 := o7.setRow hne #[.int .i64 s.voices, .slice a7 n7 q7, .slice none 0 0, .slice ac s.cads.length cc]
        have d9 := setRow_at bD #[.int .i64 s.voices, .slice a7 n7 q7, .slice none 0 0, .slice ac s.cads.length cc]
        have x9 := X9.setRow hDW #[.int .i64 s.voices, .slice a7 n7 q7, .slice none 0 0, .slice ac s.cads.length cc]
        have HN9 := Lib.hid n9; have HD9 := Lib.hid d9; have HX9 := Lib.hid x9; have HDW := Lib.hid hDW
        clear hne n9 d9 x9 X9 o7 hw9 f0 f1 f3 c0 c1 c2 c3 i2 i3 S3 hDW SL HX3
        generalize sliced an 0 l cn 10 = z64
        refine wpList_store_row rfl _ _ _ rfl D _ rfl rfl _ _ bD (by kernel_rfl) rfl (by simp [Value.oneCell']) ?_
        go_wp2
        clear hnn hdn
        go_loopw [11] (fun i wr => ∃ (k : Nat) (vq : Value), k ≤ s.pairs.length ∧ i = .int .i64 k ∧ OwnR wr W.heap.size 49 9 encP vq ((s.pairs.take k).filter (fun p => p.b != (l : Int))) ∧ wr.heap[D]? = some (.cells #[.int .i64 s.voices, .slice a7 n7 q7, vq, .slice ac s.cads.length cc] 26 (0, 0)) ∧ OwnR wr W.heap.size 40 10 encN (.slice a7 n7 q7) (s.notes.take l) ∧ Ext W wr) (fun i _ => s.pairs.length - (intOf i).toNat)
        case atStart => exact ⟨0, .slice none 0 0, by omega, rfl, OwnR.nil, HD9.out, HN9.out, HX9.out⟩
        case round =>
          obtain ⟨k, vq, hk, rfl, oq, hbd, hno, X⟩ := hrel
          obtain ⟨c0, c1, c2, c3⟩ := CB.out wr X
          by_cases hlt : k < s.pairs.length
          · obtain ⟨bp, op, rfl, q⟩ := Sl.pr (S1.pr.ext X) k hlt
            obtain ⟨pr, hpr⟩ : ∃ p, s.pairs[k] = p := ⟨_, rfl⟩
            rw [hpr] at q
            obtain ⟨q0, q1, q2, q3, q4, q5, q6, q7', q8⟩ := q
            have HT : Hid ((s.pairs.take (k + 1)).filter (fun p => p.b != (l : Int)) = (s.pairs.take k).filter (fun p => p.b != (l : Int)) ++ if (pr.b != (l : Int)) = true then [pr] else []) := Lib.hid (by
              rw [List.take_succ_eq_append_getElem hlt, List.filter_append, hpr]
              by_cases e : (pr.b != (l : Int)) = true <;> simp [List.filter_cons, e])
            have hfl : ((s.pairs.take k).filter (fun p => p.b != (l : Int))).length ≤ k := Nat.le_trans (List.length_filter_le _ _) (by rw [List.length_take]; omega)
            have HFL := Lib.hid hfl
            have j1 : (0 : Int) ≤ (k : Int) := by omega
            have j2 : (k : Int) < (s.pairs.length : Int) := by omega
            clear hpr hfl c0 c1 c3
            by_cases hb : pr.b = (l : Int)
            · have hb' : (pr.b != (l : Int)) = false := by rw [bne_eq_false_iff_eq]; exact hb
              have HS : Hid ((s.pairs.take (k + 1)).filter (fun p => p.b != (l : Int)) = (s.pairs.take k).filter (fun p => p.b != (l : Int))) := Lib.hid (by rw [HT.out, hb']; simp)
              have HO2 := Lib.hid oq; have HB2 := Lib.hid hbd; have HN2 := Lib.hid hno
              clear hb oq hbd hno
              go_wp2
              go_roundw
              case rel => exact ⟨k + 1, vq, by omega, by go_num, by rw [HS.out]; exact HO2.out, HB2.out, HN2.out, X⟩
              case measure => simp [intOf] <;> omega
            · have hb' : (pr.b != (l : Int)) = true := by rw [bne_iff_ne]; exact hb
              have HS : Hid ((s.pairs.take (k + 1)).filter (fun p => p.b != (l : Int)) = (s.pairs.take k).filter (fun p => p.b != (l : Int)) ++ [pr]) := Lib.hid (by rw [HT.out, if_pos hb'])
              obtain ⟨va, vn, vc, hvq⟩ := oq.shape
              subst hvq
              have hc2 := block_cell hbd 2 _ rfl
              have g1 := ext_cells c2; have g2 := ext_cells hc2
              have f0 := ext_cells q0; have f1 := ext_cells q1; have f2 := ext_cells q2; have f3 := ext_cells q3; have f4 := ext_cells q4; have f5 := ext_cells q5; have f6 := ext_cells q6; have f7 := ext_cells q7'; have f8 := ext_cells q8
              have HO2 := Lib.hid oq; have HB2 := Lib.hid hbd; have HN2 := Lib.hid hno
              have HXr := Lib.hid X
              clear hb oq hbd hno
              obtain ⟨wo, rfl⟩ : ∃ wo : World, wo = wr := ⟨_, rfl⟩
              go_wp2
              apply Y.wp_region_ordY [(0, .det _), (1, .det _), (2, .det _), (3, .det _), (4, .det _), (5, .det _), (6, .det _), (7, .new (fun _ => True) (Sl1 W.heap.size 49 #[.int .i64 pr.a, .int .i64 pr.b, .int .i64 pr.want.a, .int .i64 pr.want.b, .int .i64 pr.want.c, .int .i64 pr.want.d, .int .i64 pr.want.e, .int .i64 pr.want.f, .int .i64 pr.bound]) undef trivial)]
                8 Ext Ext (Ext wo) (fun _ => True) wide
                [(0,true),(1,true),(2,true),(3,true),(4,true),(5,true),(6,true),(7,true)] [(0,[]),(1,[]),(2,[]),(3,[]),(4,[]),(5,[]),(6,[]),(7,[])] (by kernel_rfl) (by kernel_rfl) rfl rfl (by simp [Y.Kd.new, Y.Kd.det, Y.Kd.one, Y.kdOf]) (by decide) (fun _ _ h => h) (stable_ext _) stable_true (Ext.drawn _ _) trivial ?main3
              case main3 =>
                iterate 7 (apply Y.ordX_det rfl rfl; (intro w' hw'; unfold opR; go_simp; exact ⟨Ext.refl _, rfl⟩); (simp only [List.getElem_toArray, List.getElem_cons_succ, List.getElem_cons_zero, Act.put, List.setIfInBounds_toArray, List.set_cons_succ, List.set_cons_zero]; rfl))
                apply Y.ordX_new (Sl1.stable _ _ _) rfl rfl
                · intro w' hw' _
                  unfold opR
                  go_simp
                  exact ⟨Ext.alloc' _ _, Sl1.new w' _ _ (HXr.out.trans hw').size⟩
                · intro v; (simp only [List.getElem_toArray, List.getElem_cons_succ, List.getElem_cons_zero, Act.put, List.setIfInBounds_toArray, List.set_cons_succ, List.set_cons_zero]; rfl)
                intro v7 _
                refine Y.ordX_nil rfl ?_
                rintro w9 hw9 - ⟨-, g7, rfl, hg7, hrow⟩
                have X9 := HXr.out.trans hw9
                refine wpList_own_app et_pr rfl (.tmp 85) (.tmp 91) rfl (HO2.out.ext hw9) rfl [pr] ⟨g7, 0, none⟩ 1 rfl (fun _ _ => rfl) (fun j u hu => row_news hrow j u hu) (by simp [encP, Value.oneCell']) (by have := HFL.out; simp; omega) X9.size ?_
                intro v5 w5 o5 b5 a5 _
                have d9 := block_ext hw9 HB2.out
                have hne : (Value.slice va vn vc).ownBlock ≠ some D := fun e => by
                  obtain ⟨cs, hcs⟩ := (HO2.out.ext hw9).kind e
                  rw [hcs] at d9; cases d9
                have d5 := a5.block d9 hne
                have n5 := (HN2.out.ext hw9).appd a5 (fun g h1 h2 => by
                  obtain ⟨cs, hcs⟩ := (HN2.out.ext hw9).kind h1
                  obtain ⟨cs2, hcs2⟩ := (HO2.out.ext hw9).kind h2
                  rw [hcs] at hcs2; cases hcs2)
                have hne5 : v5.ownBlock ≠ some D := fun e => by
                  obtain ⟨cs, hcs⟩ := o5.kind e
                  rw [hcs] at d5; cases d5
                have hne6 : (Value.slice a7 n7 q7).ownBlock ≠ some D := fun e => by
                  obtain ⟨cs, hcs⟩ := n5.kind e
                  rw [hcs] at d5; cases d5
                have X5 : Ext W w5 := Below.trans X9 b5
                have z1 := block_cell d5 2 _ rfl
                have z2 := block_free d5 2
                have HB6 := Lib.hid (block_set d5 2 v5)
                have HO6 := Lib.hid (o5.stay (j := 2) hne5 v5)
                have HN6 := Lib.hid (n5.stay (j := 2) hne6 v5)
                have HX6 := Lib.hid (X5.setCell (p := ⟨D, 2, none⟩) HDW.out v5)
                obtain ⟨vb, vm, vd, hv5⟩ := o5.shape
                subst hv5
                clear d9 hne d5 n5 hne5 hne6 X5 o5 b5 a5 X9 hw9 hrow hg7 g1 g2 f0 f1 f2 f3 f4 f5 f6 f7 f8 c2 hc2 q0 q1 q2 q3 q4 q5 q6 q7' q8
                go_wp2
                go_roundw
                case rel => exact ⟨k + 1, _, by omega, by go_num, by rw [HS.out]; exact HO6.out, HB6.out, HN6.out, HX6.out⟩
                case measure => simp [intOf] <;> omega
          · obtain rfl : k = s.pairs.length := by omega
            rw [List.take_length] at oq
            have e0 := block_cell hbd 0 _ rfl; have e1 := block_cell hbd 1 _ rfl; have e2 := block_cell hbd 2 _ rfl; have e3 := block_cell hbd 3 _ rfl
            have HSR : Hid (ScR wr (.slice a7 n7 q7) vq (.slice ac s.cads.length cc) (noLast s)) := Lib.hid ⟨hno.sl (fun _ _ => rfl) (by simp; omega) |> (fun h => by show Sl _ _ _ _ (s.notes.take (s.notes.length - 1)); rw [HL.out, Nat.add_sub_cancel]; exact h), by
              show Sl _ _ _ _ (s.pairs.filter _)
              rw [HL.out, Nat.add_sub_cancel]
              exact oq.sl (fun _ _ => rfl) (Nat.le_trans (List.length_filter_le _ _) (by omega)), S1.cd.ext X⟩
            have HVL := Lib.hid (scB_iff.2 (noLast_ok HV.out))
            clear c0 c1 c3 oq hbd hno
            go_wp2_with fail
            refine (scvalid_walk _ _ _ (noLast s) _ HSR.out).mono ?_
            rw [HVL.out]
            rintro e w10 ⟨rfl, x10⟩
            go_wp2_with fail
            rw [show ((l : Nat) : Int) = (s.notes.length : Int) - 1 by have := HL.out; omega]
            go_meet
            exact ⟨by first | rfl | trivial, X.trans x10⟩
    · have t57 : decide ((0 : Int) ≤ (s.notes.length : Int) - 1) = false := decide_eq_false (by omega)
      go_wp2_with fail
      go_meet
      exact ⟨by first | rfl | trivial, x3⟩
  case rest =>
  obtain ⟨rfl, x4⟩ := hcut
  clear c0 c1 c2 c3 e1 x3
  obtain ⟨c0, c1, c2, c3⟩ := CB.out _ x4
  have e1 : IntKind.i64.wrap ((s.cads.length : Int) - 1) = (s.cads.length : Int) - 1 := IntWalk.i64_in _ (by omega)
  by_cases hl : s.cads.length = 0
  · have t1 : (s.cads.length : Int) - 1 < 0 := by omega
    have t2 : decide ((s.cads.length : Int) - 1 < 0) = true := decide_eq_true t1
    have t3 : (s.cads.length : Int) < 1 := by omega
    clear hl
    go_wp2
    go_ret
    exact ⟨by first | rfl | simp, XW.trans x4⟩
  obtain ⟨k, hkk⟩ : ∃ k, s.cads.length = k + 1 := ⟨s.cads.length - 1, by omega⟩
  have hk1 : (s.cads.length : Int) - 1 = (k : Int) := by omega
  have HK := Lib.hid hkk
  have HK1 := Lib.hid hk1
  have t1 : ¬ (s.cads.length : Int) - 1 < 0 := by omega
  have t2 : (1 : Int) ≤ (s.cads.length : Int) := by omega
  clear hl hkk hk1
  go_wp2_with fail
  rw [HK1.out]
  refine (copied_walk _ _ _ s ⟨hnn, hpn, by omega⟩ _ (S1.ext x4)).mono ?_
  rintro e w5 ⟨un, up, uc, rfl, on, op, oc, y5⟩
  have x5 := x4.trans y5
  have hnb : ∀ g, un.ownBlock = some g → g < w5.heap.size := fun g h => (World.ownsRow.lt on g h).2
  have hpb : ∀ g, up.ownBlock = some g → g < w5.heap.size := fun g h => (World.ownsRow.lt op g h).2
  obtain ⟨dn, en, hdn1⟩ := on.len
  obtain ⟨dp, ep, hdp1⟩ := op.len
  obtain ⟨dc, ec, hdc1⟩ := oc.len
  subst hdn1 hdp1 hdc1
  have XD := Ext.alloc' w5 (.cells #[.int .i64 s.voices, .slice dn s.notes.length en, .slice dp s.pairs.length ep, .slice dc s.cads.length ec] 26)
  have bD := block_new w5 (.cells #[.int .i64 s.voices, .slice dn s.notes.length en, .slice dp s.pairs.length ep, .slice dc s.cads.length ec] 26)
  have on6 := on.ext XD; have op6 := op.ext XD
  have hz6 : w5.heap.size < (w5.alloc (.cells #[.int .i64 s.voices, .slice dn s.notes.length en, .slice dp s.pairs.length ep, .slice dc s.cads.length ec] 26)).heap.size := by simp
  have hzB : (w5.alloc (.cells #[.int .i64 s.voices, .slice dn s.notes.length en, .slice dp s.pairs.length ep, .slice dc s.cads.length ec] 26)).heap.size = w5.heap.size + 1 := by simp
  obtain ⟨W6, hW6⟩ : ∃ W, w5.alloc (.cells #[.int .i64 s.voices, .slice dn s.notes.length en, .slice dp s.pairs.length ep, .slice dc s.cads.length ec] 26) = W := ⟨_, rfl⟩
  obtain ⟨D, hD⟩ : ∃ D, w5.heap.size = D := ⟨_, rfl⟩
  have HDW : Hid (W.heap.size ≤ D) := Lib.hid (by rw [← hD]; exact x5.size)
  rw [hW6] at XD bD on6 op6 hz6 hzB
  rw [hD] at bD hnb hpb hz6 hzB
  have x6 := x5.trans XD
  have HW6 := Lib.hid hW6; have HD := Lib.hid hD; have HZ6 := Lib.hid hz6; have HZB := Lib.hid hzB
  have HNB := Lib.hid hnb; have HPB := Lib.hid hpb
  clear hW6 hD hnb hpb on op oc XD y5 x5 hz6 hzB c0 c1 c2 c3
  go_upto_region 21 with fail
  rw [HW6.out, HD.out]
  obtain ⟨c0, c1, c2, c3⟩ := CB.out W6 x6
  have e6 := Ext.alloc' W6 (.cells #[] 3)
  have k3 := e6.cell c3
  have own0 : OwnR (W6.alloc (.cells #[] 3)) W6.heap.size 3 1 encZ (.slice (some ⟨W6.heap.size, 0, none⟩) 0 0) ([] : List Int) := OwnR.lit W6 #[] [] 0 rfl (Nat.le_refl _) rfl rfl (by simp [maxLen])
  have SL := ((S1.cd.ext x6).ext e6).front k (by have := HK.out; omega)
  have i1 : (0 : Int) ≤ (k : Int) := by omega
  have i2 : (k : Int) ≤ (s.cads.length : Int) := by have := HK.out; omega
  have i3 : (k : Int) ≤ (cc : Int) := by have := HK.out; omega
  have i4 : k ≤ cc := by have := HK.out; omega
  have hk15 : k ≤ 15 := by have := HK.out; omega
  have HOWN := Lib.hid own0
  have HBD := Lib.hid bD
  clear c0 c1 c2 c3 own0 t1 t2 e1 bD
  go_wp2_with (first | (at_builtin; go_must (refine wpList_own_sl et_z rfl _ _ rfl HOWN.out rfl (s.cads.take k) _ SL rfl (fun _ _ => rfl) (by simp [encZ, Value.oneCell']) (by simp; omega) (by simp) ?_; intro v' w7 o7 b7 a7; have X7 : Ext W6 w7 := Below.trans e6 b7; have d7 := block_ext X7 HBD.out; have z1 := block_cell d7 3 _ rfl; have z2 := block_free d7 3; have o8 := Lib.hid o7; obtain ⟨va, vm, vd, hv5⟩ := o7.shape; subst hv5; have d8 := block_set d7 3 (.slice va vm vd); have t0 := block_cell d8 0 _ rfl; have t1 := block_cell d8 1 _ rfl; have t2 := block_cell d8 2 _ rfl; have t3 := block_cell d8 3 _ rfl; have D8 := Lib.hid d8; clear d7 d8 o7)) | fail)
  have n8 := ((on6.ext X7).stay (g := D) (j := 3) (fun e => by have := HNB.out _ e; omega) (.slice va vm vd)).sl (fun _ _ => rfl) (by omega)
  have p8 := ((op6.ext X7).stay (g := D) (j := 3) (fun e => by have := HPB.out _ e; omega) (.slice va vm vd)).sl (fun _ _ => rfl) (by omega)
  have c8 := (o8.out.stay (g := D) (j := 3) (OwnR.apart_below o8.out HZ6.out) (.slice va vm vd)).sl (fun _ _ => rfl) (by simp; omega)
  rw [List.nil_append] at c8
  have T8 : ScR _ _ _ _ (noCad s k) := ⟨n8, p8, c8⟩
  have X8 := (x6.trans X7).setCell (p := ⟨D, 3, none⟩) HDW.out (.slice va vm vd)
  obtain ⟨W8, hW8⟩ : ∃ W8, w7.setCell ⟨D, 3, none⟩ (.slice va vm vd) = W8 := ⟨_, rfl⟩
  rw [hW8] at T8 X8 D8
  have CT : Hid (∀ w', Ext W8 w' → BoxS D s.voices (.slice dn s.notes.length en) (.slice dp s.pairs.length ep) (.slice va vm vd) w') := Lib.hid fun w' x => BoxS.of (block_ext x D8.out)
  have HW8 := Lib.hid hW8
  have HVC := Lib.hid (scB_iff.2 (noCad_ok HV.out (show k ≤ s.cads.length by have := HK.out; omega)))
  have HSC := Lib.hid fun t => noCad_sec HV.out t (show k + 1 = s.cads.length by have := HK.out; omega)
  clear n8 p8 c8 hW8 D8 t0 t1 t2 t3 z1 z2 X7 x6 k3 SL e6 on6 op6 x4 i2 i3 i4
  rw [HW8.out]
  refine (scvalid_walk _ _ _ (noCad s k) _ T8).mono ?_
  rw [HVC.out]
  rintro e w9 ⟨rfl, y9⟩
  have x9 := X8.trans y9
  by_cases h1 : tick < 0
  · go_wp2
    go_ret
    exact ⟨by first | rfl | simp, XW.trans x9⟩
  by_cases h2 : 100000 < tick
  · go_wp2
    go_ret
    exact ⟨by first | rfl | simp, XW.trans x9⟩
  have R1 : Hid (secR s tick = ((secF s tick : Int), 0)) := Lib.hid (by unfold secR; rw [if_pos ⟨HO.out, by omega, by omega⟩])
  have R2 : Hid (secR (noCad s k) tick = ((secF (noCad s k) tick : Int), 0)) := Lib.hid (by unfold secR; rw [if_pos ⟨HVC.out, by omega, by omega⟩])
  have hs := HSC.out tick
  obtain ⟨a, ha⟩ : ∃ a, secF s tick = a := ⟨_, rfl⟩
  obtain ⟨b, hb⟩ : ∃ b, secF (noCad s k) tick = b := ⟨_, rfl⟩
  rw [ha] at R1 hs; rw [hb] at R2 hs
  have HS := Lib.hid hs
  clear ha hb hs
  obtain ⟨c0, c1, c2, c3⟩ := CB.out w9 x9
  go_wp2_with fail
  refine (section_walk _ _ _ s tick _ (S1.ext x9)).mono ?_
  rw [R1.out]
  rintro e w10 ⟨rfl, y10⟩
  have x10 := x9.trans y10
  clear c0 c1 c2 c3
  obtain ⟨d0, d1, d2, d3⟩ := CT.out w10 (y9.trans y10)
  go_wp2_with fail
  refine (section_walk _ _ _ (noCad s k) tick _ (T8.ext (y9.trans y10))).mono ?_
  rw [R2.out]
  rintro e w11 ⟨rfl, y11⟩
  have x11 := x10.trans y11
  clear d0 d1 d2 d3
  rcases Nat.lt_trichotomy a k with m | m | m
  · have hbk : b = a := by have := HS.out; omega
    subst hbk
    have m' : (b : Int) < (k : Int) := by omega
    go_wp2
    go_ret
    exact ⟨by first | rfl | simp, XW.trans x11⟩
  · have hbk : b = k := by have := HS.out; omega
    subst hbk
    subst m
    go_wp2
    go_ret
    exact ⟨by first | rfl | simp, XW.trans x11⟩
  · have hbk : b = k := by have := HS.out; omega
    subst hbk
    have m' : (b : Int) < (a : Int) := by omega
    go_wp2
    go_ret
    exact ⟨by first | rfl | simp, XW.trans x11⟩

theorem scoreParts_args (H : Type) (enc : TypeId × Value → H) (W : World) (base : Nat) (vs : List Value) (ds : List (DataW H)) (hA : Args enc Try.prog W base Try.f10.params.toList vs ds) :
    Calls Try.prog 10 vs.toArray W fun e W' => e = .returned (.bool true) ∧ Ext W W' := by
  rw [Try.params10] at hA
  obtain ⟨v0, _, d0, _, rfl, rfl, h0, hA⟩ := hA.cons
  obtain ⟨v1, _, d1, _, rfl, rfl, h1, hA⟩ := hA.cons
  obtain ⟨v2, _, d2, _, rfl, rfl, h2, hA⟩ := hA.cons
  obtain ⟨rfl, rfl⟩ := hA.nil
  obtain ⟨s, vn, vp, vc, rfl, S⟩ := arg_score h0
  obtain ⟨a, rfl, _⟩ := h1.int Try.underlying3
  obtain ⟨b, rfl, _⟩ := h2.int Try.underlying3
  exact parts_law vn vp vc s a b W S

set_option maxRecDepth 100000 in
theorem scoreParts_lifted (os : Os) (started : os.Started) (H : Type) (enc : TypeId × Value → H) :
    ReturnsInHanded {} Try.checked os 10 .any (Rows.scorePartsSpec.pre6 enc Try.prog Try.f10 Rows.scorePartsRow.domain false) (Rows.scorePartsSpec.post enc Try.prog Try.f10 false true false false) :=
  law_said (C := Try.checked) (by kernel_rfl) started (by kernel_rfl) Try.func10
    (ChangeSpec.witness6 (enc := enc) (C := Try.checked) false ⟨#[], #[.agg #[.int .i64 0, .slice none 0 0, .slice none 0 0, .slice none 0 0], .int .i64 0, .int .i64 0], []⟩ 8 (by kernel_rfl) (by kernel_rfl) (by kernel_rfl) (by kernel_rfl))
    (by kernel_rfl) (by kernel_rfl) (by kernel_rfl) rfl (fun ds h => by match ds, h with | [_, _, _], _ => rfl) (scoreParts_args H enc)

theorem scoreParts_holds : Rows.ScorePartsSaid :=
  OpenClaim.holds_of_wide 10 Try.f10 rfl rfl rfl rfl rfl rfl rfl ⟨rfl, rfl, rfl, rfl, rfl⟩ rfl rfl rfl rfl rfl (by kernel_rfl) Try.func10 (by kernel_rfl)
    (of_decide_eq_true (by kernel_rfl)) (by unfold Func.isWrapper; first | (rw [if_pos (by decide +kernel)]; kernel_rfl) | (rw [if_neg (by decide +kernel)]; exact ⟨rfl, rfl⟩))
    (fun os started H enc _ => scoreParts_lifted os started H enc)
end Go.Proofs.Ytajicmghnllnmaa
