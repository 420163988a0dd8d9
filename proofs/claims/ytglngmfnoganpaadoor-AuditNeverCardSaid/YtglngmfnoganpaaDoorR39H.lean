/-
  Walks: schismaref39.Ideal, Narrow.
-/
import Derived.Test.YtglngmfnoganpaaDoorR39D
import Derived.Test.YtglngmfnoganpaaDoorR39G
import Derived.Test.YtglngmfnoganpaaDoorAuF
set_option linter.unusedVariables false
namespace Go.Proofs.YtglngmfnoganpaaDoor
open Go.RowKit Go.Sx Go.Sx.Sz Go.Sx.Sc Go.Sx.Au

set_option maxRecDepth 100000 in
set_option maxHeartbeats 4000000 in
theorem rideal_walk (vn vp vc vx : Value) (s : Sc) (xs : List V6) (w : World) (S : ScR w vn vp vc s) (R : Sl w 6 V6.list vx xs) : Calls Tryd.prog 22 #[.agg #[.int .i64 s.voices, vn, vp, vc], vx] w fun e w' => ∃ v, e = .returned (.tuple #[v, .int .i64 (idealR s xs).2]) ∧ Sl w' 2 encS v (idealR s xs).1 ∧ Ext w w' := by
  obtain ⟨an, cn, rfl, -, -, hln⟩ := S.nt.len
  obtain ⟨ap, cp, rfl, -, -, hlp⟩ := S.pr.len
  obtain ⟨ac, cc, rfl, -, -, hlc⟩ := S.cd.len
  obtain ⟨at', ct, rfl, -, -, hlt⟩ := R.len
  cases hok : scB s with
  | false =>
    have HR : Hid (idealR s xs = ([], 1)) := Lib.hid (idealR_bad fun h => by rw [hok] at h; cases h.1)
    have HO := Lib.hid hok
    rw [HR.out]
    clear hok
    go_enter Tryd.func22, Tryd.ntmps22
    go_wp2_with fail
    refine (rvalid19_walk _ _ _ s _ (S.ext (by repeat (first | with_reducible exact Ext.refl _ | with_reducible assumption | with_reducible apply Ext.alloc | with_reducible apply Ext.drew | (with_reducible refine Ext.setCell ?_ (by (try simp) <;> omega) _))))).mono ?_
    rw [HO.out]
    rintro e w1 ⟨rfl, x1⟩
    have X1 : Ext w w1 := Ext.trans (by repeat (first | with_reducible exact Ext.refl _ | with_reducible assumption | with_reducible apply Ext.alloc | with_reducible apply Ext.drew | (with_reducible refine Ext.setCell ?_ (by (try simp) <;> omega) _))) x1
    go_wp2
    refine bodyPost_ret (v := .tuple #[.slice none 0 0, .int .i64 1]) (by simp [results, Tryd.results22, go_sem]) rfl ⟨_, rfl, Sl.nil _ _ _, X1⟩
  | true =>
    have HO := Lib.hid hok
    have hnn := (scB_iff.1 hok).sz.2.1
    clear hok
    by_cases hl : xs.length = s.notes.length
    case neg =>
      have HR : Hid (idealR s xs = ([], 1)) := Lib.hid (idealR_bad fun h => hl h.2.1)
      rw [HR.out]
      have e1 : ((xs.length : Int) != (s.notes.length : Int)) = true := by rw [bne_iff_ne]; omega
      clear hl
      go_enter Tryd.func22, Tryd.ntmps22
      go_wp2_with fail
      refine (rvalid19_walk _ _ _ s _ (S.ext (by repeat (first | with_reducible exact Ext.refl _ | with_reducible assumption | with_reducible apply Ext.alloc | with_reducible apply Ext.drew | (with_reducible refine Ext.setCell ?_ (by (try simp) <;> omega) _))))).mono ?_
      rw [HO.out]
      rintro e w1 ⟨rfl, x1⟩
      have X1 : Ext w w1 := Ext.trans (by repeat (first | with_reducible exact Ext.refl _ | with_reducible assumption | with_reducible apply Ext.alloc | with_reducible apply Ext.drew | (with_reducible refine Ext.setCell ?_ (by (try simp) <;> omega) _))) x1
      have b1 := block_ext x1 (block_new w (.cells #[.int .i64 s.voices, .slice an s.notes.length cn, .slice ap s.pairs.length cp, .slice ac s.cads.length cc] 26))
      have c1 := block_cell b1 1 (.slice an s.notes.length cn) rfl
      clear x1 b1
      go_wp2
      refine bodyPost_ret (v := .tuple #[.slice none 0 0, .int .i64 1]) (by simp [results, Tryd.results22, go_sem]) rfl ⟨_, rfl, Sl.nil _ _ _, X1⟩
    have e1 : ((xs.length : Int) != (s.notes.length : Int)) = false := by rw [bne_eq_false_iff_eq]; omega
    have HL := Lib.hid hl
    have h200 : xs.length ≤ 200 := by omega
    clear hl
    go_enter Tryd.func22, Tryd.ntmps22
    go_wp2_with fail
    refine (rvalid19_walk _ _ _ s _ (S.ext (by repeat (first | with_reducible exact Ext.refl _ | with_reducible assumption | with_reducible apply Ext.alloc | with_reducible apply Ext.drew | (with_reducible refine Ext.setCell ?_ (by (try simp) <;> omega) _))))).mono ?_
    rw [HO.out]
    rintro e W ⟨rfl, x1⟩
    have XW : Ext w W := Ext.trans (by repeat (first | with_reducible exact Ext.refl _ | with_reducible assumption | with_reducible apply Ext.alloc | with_reducible apply Ext.drew | (with_reducible refine Ext.setCell ?_ (by (try simp) <;> omega) _))) x1
    have b1 := block_ext x1 (block_new w (.cells #[.int .i64 s.voices, .slice an s.notes.length cn, .slice ap s.pairs.length cp, .slice ac s.cads.length cc] 26))
    have c1 := block_cell b1 1 (.slice an s.notes.length cn) rfl
    have R1 := R.ext XW
    clear x1 b1 R S
    go_wp2
    clear c1 e1
    go_loopw [7, 8] (fun v i wr => ∃ k : Nat, k ≤ xs.length ∧ i = .int .i64 k ∧ (∀ j (h : j < xs.length), j < k → within xs[j] 48 = true) ∧ OwnR wr W.heap.size 56 2 encS v ((xs.take k).map wantS) ∧ Ext W wr) (fun _ i _ => xs.length - (intOf i).toNat)
    case atStart => exact ⟨0, by omega, rfl, fun j h1 h2 => absurd h2 (Nat.not_lt_zero _), OwnR.nil, Ext.refl _⟩
    case round =>
      obtain ⟨k, hk, rfl, hall, own, X⟩ := hrel
      have HA := Lib.hid hall
      clear hall
      by_cases hlt' : k < xs.length
      · obtain ⟨bb, oo, rfl, a0, a1, a2, a3, a4, a5⟩ := Sl.vec (R1.ext X) k hlt'
        obtain ⟨x, hx⟩ : ∃ z, xs[k] = z := ⟨_, rfl⟩
        rw [hx] at a0 a1 a2 a3 a4 a5
        have HX := Lib.hid hx
        have i1 : (0 : Int) ≤ (k : Int) := by omega
        have i2 : (k : Int) < (xs.length : Int) := by omega
        have HT : Hid ((xs.take (k + 1)).map wantS = (xs.take k).map wantS ++ [wantS x]) := Lib.hid (by rw [List.take_succ_eq_append_getElem hlt', hx, List.map_append]; rfl)
        clear hx
        go_wp2_with fail
        refine (rof_walk x _).mono ?_
        by_cases hw : within x 48 = true
        case neg =>
          have HR : Hid (idealR s xs = ([], 1)) := Lib.hid (idealR_bad fun h => hw (by
            have := List.all_eq_true.1 h.2.2 _ (List.getElem_mem hlt')
            rwa [HX.out] at this))
          have HOF : Hid (ofR x = (V6.zero, 1)) := Lib.hid (by unfold ofR; rw [if_neg hw])
          rw [HOF.out]
          clear hw
          rintro e w2 ⟨rfl, x2⟩
          have y2 : Ext wr w2 := Ext.trans (by repeat (first | with_reducible exact Ext.refl _ | with_reducible assumption | with_reducible apply Ext.alloc | with_reducible apply Ext.drew | (with_reducible refine Ext.setCell ?_ (by (try simp) <;> omega) _))) x2
          clear a0 a1 a2 a3 a4 a5 x2
          go_wp2
          refine bodyPost_ret (v := .tuple #[.slice none 0 0, .int .i64 1]) (by simp [results, Tryd.results22, go_sem]) rfl ⟨.slice none 0 0, by rw [HR.out] <;> rfl, by rw [HR.out]; exact Sl.nil _ _ _, ?_⟩
          exact XW.trans (X.trans (y2.trans (by repeat (first | with_reducible exact Ext.refl _ | with_reducible assumption | with_reducible apply Ext.alloc | with_reducible apply Ext.drew | (with_reducible refine Ext.setCell ?_ (by (try simp) <;> omega) _)))))
        have HWX := Lib.hid hw
        have HOF := Lib.hid (ofR_ok hw)
        have HSZ := Lib.hid (sizeR_ok (times_within hw))
        rw [HOF.out]
        clear hw
        rintro e w2 ⟨rfl, x2⟩
        have y2 : Ext wr w2 := Ext.trans (by repeat (first | with_reducible exact Ext.refl _ | with_reducible assumption | with_reducible apply Ext.alloc | with_reducible apply Ext.drew | (with_reducible refine Ext.setCell ?_ (by (try simp) <;> omega) _))) x2
        obtain ⟨y, hy⟩ : ∃ y, x.times 12 = y := ⟨_, rfl⟩
        rw [hy] at HSZ ⊢
        have HWS : Hid (wantS x = expo y) := Lib.hid (by rw [← hy]; rfl)
        clear a0 a1 a2 a3 a4 a5 x2 hy
        have e3 := Ext.alloc' w2 (.cells (#[.int .i64 y.a, .int .i64 y.b, .int .i64 y.c, .int .i64 y.d, .int .i64 y.e, .int .i64 y.f] : Array Value) 52)
        have X3 := X.trans (y2.trans e3)
        go_wp2_with fail
        refine (rsof_walk y _).mono ?_
        rw [HSZ.out]
        rintro e w3 ⟨rfl, x3⟩
        obtain ⟨⟨zl, zh⟩, hz⟩ : ∃ z, expo y = z := ⟨_, rfl⟩
        rw [hz] at HWS ⊢
        have e4 := Ext.alloc' w3 (.cells #[.int .i64 zl, .int .i64 zh] 56)
        have Y4 : Ext wr (w3.alloc (.cells #[.int .i64 zl, .int .i64 zh] 56)) := y2.trans (e3.trans (x3.trans e4))
        have own4 := own.ext Y4
        have X4 := X.trans Y4
        have hsz := X4.size
        have hlen : ((xs.take k).map wantS).length = k := by simp; omega
        clear e3 e4 own x3 X3 y2 hz
        go_wp2_with (at_builtin; go_must (refine wpList_own1 et_sz rfl _ _ rfl own4 rfl (⟨zl, zh⟩ : S2) rfl rfl rfl (by simp [encS, Value.oneCell']) (by omega) hsz ?_; intro v' w5 hown' hb' happ _))
        go_roundw
        case rel => exact ⟨k + 1, by omega, by go_num, fun j h1 h2 => by
          by_cases e : j = k
          · subst e; rw [HX.out]; exact HWX.out
          · exact HA.out j h1 (by omega), by rw [HT.out, HWS.out]; exact hown', Below.trans X4 hb'⟩
        case measure => simp [intOf] <;> omega
      · obtain rfl : k = xs.length := by omega
        rw [List.take_length] at own
        have HR : Hid (idealR s xs = (xs.map wantS, 0)) := Lib.hid (if_pos ⟨HO.out, HL.out, List.all_eq_true.2 fun x hx => by
          obtain ⟨j, hj, rfl⟩ := List.getElem_of_mem hx
          exact HA.out j hj hj⟩)
        have S7 := own.sl (fun _ _ => rfl) (by rw [List.length_map]; omega)
        have XX := XW.trans X
        clear own
        go_wp2
        exact bodyPost_ret (v := .tuple #[u7, .int .i64 0]) (by simp [results, Tryd.results22, go_sem]) rfl ⟨u7, by rw [HR.out] <;> rfl, by rw [HR.out]; exact S7, XX⟩

def lieB (a b : List S2) : Nat → Bool
  | 0 => false
  | k + 1 => lieB a b k || ((meetR (T a k) (T b k)).2 != 0)
theorem lie_worst (a b : List S2) : ∀ k, lieB a b k = (worstM a b k != 0)
  | 0 => rfl
  | k + 1 => by
    have h := worst_bd a b k
    have m := meetR_err (T a k) (T b k)
    rw [lieB, lie_worst a b k, worstM]
    obtain ⟨q, hq⟩ : ∃ q, worstM a b k = q := ⟨_, rfl⟩
    obtain ⟨r, hr⟩ : ∃ r, (meetR (T a k) (T b k)).2 = r := ⟨_, rfl⟩
    rw [hq] at h ⊢
    rw [hr] at m ⊢
    by_cases hr0 : r = 0
    · subst hr0; rw [if_neg (by omega)]; simp
    · have e : (r != 0) = true := bne_iff_ne.2 hr0
      rw [e, Bool.or_true]
      split
      · exact e.symm
      · exact (bne_iff_ne.2 (by omega)).symm

set_option maxRecDepth 100000 in
set_option maxHeartbeats 4000000 in
theorem rnarrow_walk (va vb : Value) (a b : List S2) (hsz : a.length = b.length → a.length ≤ 1000000000000) (w : World) (S : Sl w 2 encS va a) (R : Sl w 2 encS vb b) : Calls Tryd.prog 19 #[va, vb] w fun e w' => ∃ v, e = .returned (.tuple #[v, .int .i64 (narrowQ a b).2]) ∧ Sl w' 2 encS v (narrowQ a b).1 ∧ Ext w w' := by
  obtain ⟨aa, ca, rfl, -, -, hla⟩ := S.len
  obtain ⟨ab, cb, rfl, -, -, hlb⟩ := R.len
  by_cases hl : a.length = b.length
  case neg =>
    have HR : Hid (narrowQ a b = ([], 1)) := Lib.hid (if_pos hl)
    rw [HR.out]
    have e1 : ((a.length : Int) != (b.length : Int)) = true := by rw [bne_iff_ne]; omega
    clear hl
    go_enter Tryd.func19, Tryd.ntmps19
    go_wp2
    exact bodyPost_ret (v := .tuple #[.slice none 0 0, .int .i64 1]) (by simp [results, Tryd.results19, go_sem]) rfl ⟨.slice none 0 0, rfl, Sl.nil _ _ _, Ext.refl _⟩
  have e1 : ((a.length : Int) != (b.length : Int)) = false := by rw [bne_eq_false_iff_eq]; omega
  have HL := Lib.hid hl
  replace hsz := hsz hl
  clear hl
  go_enter Tryd.func19, Tryd.ntmps19
  go_wp2
  clear e1
  go_loopw [6, 7, 8] (fun q v i wr => ∃ k : Nat, k ≤ a.length ∧ i = .int .i64 k ∧ q = .bool (lieB a b k) ∧ Hid (¬ badM a b k) ∧ OwnR wr w.heap.size 56 2 encS v (zipM a b k) ∧ Ext w wr) (fun _ _ i _ => a.length - (intOf i).toNat)
  case atStart => exact ⟨0, by omega, rfl, rfl, Lib.hid (fun ⟨i, h, _⟩ => absurd h (Nat.not_lt_zero _)), OwnR.nil, Ext.refl _⟩
  case round =>
    obtain ⟨k, hk, rfl, rfl, HB, own, X⟩ := hrel
    by_cases hlt : k < a.length
    · obtain ⟨ba, oa, rfl, a0, a1⟩ := Sl.sz (S.ext X) k hlt
      obtain ⟨bb, ob, rfl, b0, b1⟩ := Sl.sz (R.ext X) k (by rw [← HL.out]; exact hlt)
      rw [← T_eq] at a0 a1 b0 b1
      obtain ⟨x, hx⟩ : ∃ z, T a k = z := ⟨_, rfl⟩
      obtain ⟨y, hy⟩ : ∃ z, T b k = z := ⟨_, rfl⟩
      rw [hx] at a0 a1; rw [hy] at b0 b1
      have i1 : (0 : Int) ≤ (k : Int) := by omega
      have i2 : (k : Int) < (a.length : Int) := by omega
      have i3 : (k : Int) < (b.length : Int) := by rw [← HL.out]; exact i2
      have MW := Lib.hid fun w' => rmeet_walk x y w'
      obtain ⟨⟨⟨zl, zh⟩, r⟩, hm⟩ : ∃ m, meetR x y = m := ⟨_, rfl⟩
      have HM := Lib.hid hm
      have HR2 : Hid ((meetR (T a k) (T b k)).2 = r) := Lib.hid (by rw [hx, hy, hm])
      have HR1 : Hid ((meetR (T a k) (T b k)).1 = ⟨zl, zh⟩) := Lib.hid (by rw [hx, hy, hm])
      clear hx hy hm
      obtain ⟨ls, hls⟩ : ∃ q, lieB a b k = q := ⟨_, rfl⟩
      have HLS := Lib.hid hls
      rw [hls]
      clear hls
      go_upto_region 8 with fail
      obtain ⟨wo, rfl⟩ : ∃ wo : World, wo = wr := ⟨_, rfl⟩
      have hd1 : ba < wo.heap.size := lt_of_cell a0
      have hd2 : bb < wo.heap.size := lt_of_cell b0
      have l1 : ¬ ba = wo.heap.size := by omega
      have l2 : ¬ bb = wo.heap.size := by omega
      have l3 : ¬ wo.heap.size = ba := by omega
      have l4 : ¬ wo.heap.size = bb := by omega
      go_cut [9, 10] (fun s9 s10 wx => ∃ g : Nat, s9 = .pointer (some ⟨g, 0, none⟩) ∧ s10 = .int .i64 r ∧ wx.cell? ⟨g, 0, none⟩ = some (.int .i64 zl) ∧ wx.cell? ⟨g, 1, none⟩ = some (.int .i64 zh) ∧ Ext wo wx)
      case first =>
        go_region_held3 (fun w' => w'.cell? ⟨ba, oa + k * 2, none⟩ = some (.int .i64 x.lo) ∧ w'.cell? ⟨ba, oa + k * 2 + 1, none⟩ = some (.int .i64 x.hi) ∧ w'.cell? ⟨bb, ob + k * 2, none⟩ = some (.int .i64 y.lo) ∧ w'.cell? ⟨bb, ob + k * 2 + 1, none⟩ = some (.int .i64 y.hi)) (go_keep)
          ((go_at_call 42; refine (MW.out _).mono ?_; rw [HM.out]; dsimp only; rintro e w5 ⟨rfl, hx5⟩; (try (have zb : w5.heap[wo.heap.size]? = some (.cells #[.int .i64 0, .int .i64 0] 56 (0, 0)) := block_ext hx5 (block_new wo _); have z0 := block_cell zb 0 _ rfl; have z1 := block_cell zb 1 _ rfl; have z2 := block_free zb 0; have z3 := block_free zb 1)); have y5 : Ext wo w5 := Ext.trans (by repeat (first | with_reducible exact Ext.refl _ | with_reducible assumption | with_reducible apply Ext.alloc | with_reducible apply Ext.drew | (with_reducible refine Ext.setCell ?_ (by (try simp) <;> omega) _))) hx5; have k0 := y5.cell a0; have k1 := y5.cell a1; have k2 := y5.cell b0; have k3 := y5.cell b1; clear hx5))
        · go_wp2_with fail
          go_meet
          exact ⟨_, rfl, rfl, alloc_cell _ _ _ 0 _ rfl, alloc_cell _ _ _ 1 _ rfl, y5.trans (Ext.alloc' _ _)⟩
        · have zb2 := block_set (block_set zb 0 (.int .i64 zl)) 1 (.int .i64 zh)
          have m0 := block_cell zb2 0 _ rfl
          have m1 := block_cell zb2 1 _ rfl
          have y6 : Ext wo ((w5.setCell ⟨wo.heap.size, 0, none⟩ (.int .i64 zl)).setCell ⟨wo.heap.size, 1, none⟩ (.int .i64 zh)) := (y5.setCell (Nat.le_refl _) _).setCell (Nat.le_refl _) _
          have M0 := Lib.hid m0; have M1 := Lib.hid m1; have Y6 := Lib.hid y6
          clear m0 m1 y6 zb2
          go_wp2_with fail
          go_meet
          exact ⟨_, rfl, rfl, M0.out, M1.out, Y6.out⟩
      case rest =>
        obtain ⟨g, rfl, rfl, m0, m1, y6⟩ := hcut
        have X6 := X.trans y6
        have own6 := own.ext y6
        have hz6 := X6.size
        have hlen : (zipM a b k).length = k := by unfold zipM; simp
        clear own a0 a1 b0 b1 y6
        by_cases h1 : r = 1
        · subst h1
          have HR : Hid (narrowQ a b = ([], 1)) := Lib.hid (by unfold narrowQ; rw [if_neg (by rw [HL.out]; simp), if_pos ⟨k, hlt, HR2.out⟩])
          go_wp2
          exact bodyPost_ret (v := .tuple #[.slice none 0 0, .int .i64 1]) (by simp [results, Tryd.results19, go_sem]) rfl ⟨.slice none 0 0, by rw [HR.out] <;> rfl, by rw [HR.out]; exact Sl.nil _ _ _, X6⟩
        · have hb1 : (r == 1) = false := by rw [beq_eq_false_iff_ne]; exact h1
          have HNB : Hid (¬ badM a b (k + 1)) := Lib.hid (fun ⟨i, hi, he⟩ => by
            by_cases e : i = k
            · subst e; rw [HR2.out] at he; exact h1 he
            · exact HB.out ⟨i, by omega, he⟩)
          have HZ : Hid (zipM a b (k + 1) = zipM a b k ++ [⟨zl, zh⟩]) := Lib.hid (by rw [zipM_succ, HR1.out])
          obtain ⟨rb, hrb⟩ : ∃ q, (r != 0) = q := ⟨_, rfl⟩
          have HLN : Hid (lieB a b (k + 1) = (ls || rb)) := Lib.hid (by rw [lieB, HLS.out, HR2.out, hrb])
          clear h1
          cases ls
          all_goals
            go_wp2_with (at_builtin; go_must (refine wpList_own1 et_sz rfl _ _ rfl own6 rfl (⟨zl, zh⟩ : S2) rfl rfl rfl (by simp [encS, Value.oneCell']) (by omega) hz6 ?_; intro v' w7 hown' hb' happ _))
            go_roundw
            case rel => exact ⟨k + 1, by omega, by go_num, by rw [HLN.out] <;> first | rfl | simp, Lib.hid HNB.out, by rw [HZ.out]; exact hown', Below.trans X6 hb'⟩
            case measure => simp [intOf] <;> omega
    · obtain rfl : k = a.length := by omega
      have hlen : (zipM a b a.length).length = a.length := by unfold zipM; simp
      have S7 := own.sl (fun _ _ => rfl) (by omega)
      have HS7 := Lib.hid S7
      have HN : Hid (narrowQ a b = if lieB a b a.length = true then ([], 23) else (zipM a b a.length, 0)) := Lib.hid (by
        unfold narrowQ
        rw [if_neg (by rw [HL.out]; simp), if_neg HB.out, lie_worst]
        by_cases h : worstM a b a.length = 0
        · rw [if_pos h, if_neg (by rw [h]; decide)]
        · rw [if_neg h, if_pos (bne_iff_ne.2 h)])
      clear own S7
      obtain ⟨ls, hls⟩ : ∃ q, lieB a b a.length = q := ⟨_, rfl⟩
      rw [hls] at HN ⊢
      clear hls
      cases ls
      · have HR : Hid (narrowQ a b = (zipM a b a.length, 0)) := Lib.hid (by rw [HN.out]; rfl)
        go_wp2
        exact bodyPost_ret (v := .tuple #[u7, .int .i64 0]) (by simp [results, Tryd.results19, go_sem]) rfl ⟨u7, by rw [HR.out] <;> rfl, by rw [HR.out]; exact HS7.out, X⟩
      · have HR : Hid (narrowQ a b = ([], 23)) := Lib.hid (by rw [HN.out]; rfl)
        go_wp2
        exact bodyPost_ret (v := .tuple #[.slice none 0 0, .int .i64 23]) (by simp [results, Tryd.results19, go_sem]) rfl ⟨.slice none 0 0, by rw [HR.out] <;> rfl, by rw [HR.out]; exact Sl.nil _ _ _, X⟩
end Go.Proofs.YtglngmfnoganpaaDoor
