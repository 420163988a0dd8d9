/-
  Walks of audit: combine at sizes, Narrow.
-/
import Derived.Test.YtbemjekkojgbpaaDoorAuE
import Derived.Test.YtbemjekkojgbpaaDoorLibM
import Derived.Deep.RegionHeld3
import Derived.Deep.DeepCutAuto
set_option linter.unusedVariables false
namespace Go.Proofs.YtbemjekkojgbpaaDoor
open Go.RowKit Go.Sx Go.Sx.Sz Go.Sx.Sc Go.Sx.Au

def zipM (a b : List S2) (k : Nat) : List S2 := (List.range k).map fun i => (meetR (T a i) (T b i)).1
def worstM (a b : List S2) : Nat → Int
  | 0 => 0
  | k + 1 => if worstM a b k < (meetR (T a k) (T b k)).2 then (meetR (T a k) (T b k)).2 else worstM a b k
set_option maxRecDepth 100000 in
theorem zipM_succ (a b : List S2) (k : Nat) : zipM a b (k + 1) = zipM a b k ++ [(meetR (T a k) (T b k)).1] := by
  unfold zipM; rw [List.range_succ, List.map_append]; rfl
set_option maxRecDepth 100000 in
theorem meetR_err (x y : S2) : (meetR x y).2 = 0 ∨ (meetR x y).2 = 1 ∨ (meetR x y).2 = 4 := by
  unfold meetR; repeat' split
  all_goals first | exact .inl rfl | exact .inr (.inl rfl) | exact .inr (.inr rfl)
set_option maxRecDepth 100000 in
theorem worst_bd (a b : List S2) : ∀ k, 0 ≤ worstM a b k ∧ worstM a b k ≤ 4
  | 0 => ⟨Int.le_refl _, by show (0 : Int) ≤ 4; omega⟩
  | k + 1 => by
    have h := worst_bd a b k
    have m := meetR_err (T a k) (T b k)
    unfold worstM
    split <;> omega
/-- What 'combine' returns. -/
def badM (a b : List S2) (k : Nat) : Prop := ∃ i, i < k ∧ (meetR (T a i) (T b i)).2 = 1

set_option maxRecDepth 100000 in
set_option maxHeartbeats 4000000 in
theorem combine_walk (va vb : Value) (a b : List S2) (hl : a.length = b.length) (hsz : a.length ≤ 8796093022208) (w : World) (S : Sl w 2 encS va a) (R : Sl w 2 encS vb b) : Calls Tryd.prog 44 #[va, vb, .func (.func 45) #[] #[]] w fun e w' =>
    ((∃ v, e = .returned (.tuple #[v, .int .i64 (worstM a b a.length)]) ∧ Sl w' 2 encS v (zipM a b a.length) ∧ ¬ badM a b a.length) ∨ (e = .returned (.tuple #[.slice none 0 0, .int .i64 1]) ∧ badM a b a.length)) ∧ Ext w w' := by
  obtain ⟨aa, ca, rfl, -, -, hla⟩ := S.len
  obtain ⟨ab, cb, rfl, -, -, hlb⟩ := R.len
  have HLL := Lib.hid hl
  clear hl
  go_enter Tryd.func44, Tryd.ntmps44
  go_wp2
  go_loopw [8, 9, 16] (fun v e i wr => ∃ k : Nat, k ≤ a.length ∧ i = .int .i64 k ∧ e = .int .i64 (worstM a b k) ∧ Hid (¬ badM a b k) ∧ OwnR wr w.heap.size 43 2 encS v (zipM a b k) ∧ Ext w wr) (fun _ _ i _ => a.length - (intOf i).toNat)
  case atStart => exact ⟨0, by omega, rfl, rfl, Lib.hid (fun ⟨i, h, _⟩ => absurd h (Nat.not_lt_zero _)), OwnR.nil, Ext.refl _⟩
  case round =>
    obtain ⟨k, hk, rfl, rfl, HB, own, X⟩ := hrel
    by_cases hlt : k < a.length
    · obtain ⟨ba, oa, rfl, a0, a1⟩ := Sl.sz (S.ext X) k hlt
      obtain ⟨bb, ob, rfl, b0, b1⟩ := Sl.sz (R.ext X) k (by rw [← HLL.out]; exact hlt)
      rw [← T_eq] at a0 a1 b0 b1
      obtain ⟨x, hx⟩ : ∃ z, T a k = z := ⟨_, rfl⟩
      obtain ⟨y, hy⟩ : ∃ z, T b k = z := ⟨_, rfl⟩
      rw [hx] at a0 a1; rw [hy] at b0 b1
      have i1 : (0 : Int) ≤ (k : Int) := by omega
      have i2 : (k : Int) < (a.length : Int) := by omega
      have i3 : (k : Int) < (b.length : Int) := by rw [← HLL.out]; exact i2
      have HX := Lib.hid hx; have HY := Lib.hid hy
      have e1 := Ext.alloc' wr (.cells (#[.int .i64 x.lo, .int .i64 x.hi] : Array Value) 43)
      have bx := block_new wr (.cells (#[.int .i64 x.lo, .int .i64 x.hi] : Array Value) 43)
      have MW := Lib.hid fun w' => meet_walk x y w'
      obtain ⟨⟨⟨zl, zh⟩, r⟩, hm⟩ : ∃ m, meetR x y = m := ⟨_, rfl⟩
      have HM := Lib.hid hm
      clear hx hy hm
      go_upto_region 6 with fail
      obtain ⟨W4, hW4⟩ : ∃ W, wr.alloc (.cells (#[.int .i64 x.lo, .int .i64 x.hi] : Array Value) 43) = W := ⟨_, rfl⟩
      obtain ⟨D, hD⟩ : ∃ D, wr.heap.size = D := ⟨_, rfl⟩
      rw [hW4, hD]
      rw [hW4] at e1 bx
      rw [hD] at bx
      have c0 := block_cell bx 0 _ rfl; have c1 := block_cell bx 1 _ rfl
      have p0 := e1.cell b0; have p1 := e1.cell b1
      clear a0 a1 b0 b1 hW4 hD bx
      obtain ⟨wo, rfl⟩ : ∃ wo : World, wo = W4 := ⟨_, rfl⟩
      have hd1 : D < wo.heap.size := lt_of_cell c0
      have hd2 : bb < wo.heap.size := lt_of_cell p0
      have l1 : ¬ D = wo.heap.size := by omega
      have l2 : ¬ bb = wo.heap.size := by omega
      have l3 : ¬ wo.heap.size = D := by omega
      have l4 : ¬ wo.heap.size = bb := by omega
      have hsw : wr.heap.size ≤ wo.heap.size := e1.size
      go_cut [12, 13] (fun s12 s13 wx => ∃ g : Nat, s12 = .pointer (some ⟨g, 0, none⟩) ∧ s13 = .int .i64 r ∧ wx.cell? ⟨g, 0, none⟩ = some (.int .i64 zl) ∧ wx.cell? ⟨g, 1, none⟩ = some (.int .i64 zh) ∧ Ext wo wx)
      case first =>
        go_region_held3 (fun w' => w'.cell? ⟨D, 0, none⟩ = some (.int .i64 x.lo) ∧ w'.cell? ⟨D, 1, none⟩ = some (.int .i64 x.hi) ∧ w'.cell? ⟨bb, ob + k * 2, none⟩ = some (.int .i64 y.lo) ∧ w'.cell? ⟨bb, ob + k * 2 + 1, none⟩ = some (.int .i64 y.hi)) (go_keep)
          ((go_at_call 45; refine (MW.out _).mono ?_; rw [HM.out]; dsimp only; rintro e w5 ⟨rfl, hx5⟩; (try (have zb : w5.heap[wo.heap.size]? = some (.cells #[.int .i64 0, .int .i64 0] 43 (0, 0)) := block_ext hx5 (block_new wo _); have z0 := block_cell zb 0 _ rfl; have z1 := block_cell zb 1 _ rfl; have z2 := block_free zb 0; have z3 := block_free zb 1)); have y5 : Ext wo w5 := Ext.trans (by repeat (first | with_reducible exact Ext.refl _ | with_reducible assumption | with_reducible apply Ext.alloc | with_reducible apply Ext.drew | (with_reducible refine Ext.setCell ?_ (by (try simp) <;> omega) _))) hx5; have k0 := y5.cell c0; have k1 := y5.cell c1; have k2 := y5.cell p0; have k3 := y5.cell p1; clear hx5))
        · go_wp2_with fail
          go_meet
          exact ⟨_, rfl, rfl, alloc_cell _ _ _ 0 _ rfl, alloc_cell _ _ _ 1 _ rfl, y5.trans (Ext.alloc' _ _)⟩
        · have zb2 := block_set (block_set zb 0 (.int .i64 zl)) 1 (.int .i64 zh)
          have m0 := block_cell zb2 0 _ rfl
          have m1 := block_cell zb2 1 _ rfl
          have y6 : Ext wo ((w5.setCell ⟨wo.heap.size, 0, none⟩ (.int .i64 zl)).setCell ⟨wo.heap.size, 1, none⟩ (.int .i64 zh)) := (y5.setCell (Nat.le_refl _) _).setCell (Nat.le_refl _) _
          have M0 := Lib.hid m0; have M1 := Lib.hid m1; have Y6 := Lib.hid y6
          clear m0 m1 y6 zb2
          go_wp2_with fail
          go_meet
          exact ⟨_, rfl, rfl, M0.out, M1.out, Y6.out⟩
      case rest =>
        obtain ⟨g, rfl, rfl, m0, m1, y6⟩ := hcut
        have Y6 := e1.trans y6
        have X6 := X.trans Y6
        have own6 := own.ext Y6
        have hz6 := X6.size
        have HR2 : Hid ((meetR (T a k) (T b k)).2 = r) := Lib.hid (by rw [HX.out, HY.out, HM.out])
        have HR1 : Hid ((meetR (T a k) (T b k)).1 = ⟨zl, zh⟩) := Lib.hid (by rw [HX.out, HY.out, HM.out])
        have hr3 := meetR_err (T a k) (T b k)
        rw [HR2.out] at hr3
        clear own c0 c1 p0 p1 y6 e1 hsw
        by_cases h1 : r = 1
        · subst h1
          have HBM : Hid (badM a b a.length) := Lib.hid ⟨k, hlt, HR2.out⟩
          go_wp2
          go_ret2
          exact ⟨.inr ⟨rfl, HBM.out⟩, X6⟩
        · have hb1 : (r == 1) = false := by rw [beq_eq_false_iff_ne]; exact h1
          have HNB : Hid (¬ badM a b (k + 1)) := Lib.hid (fun ⟨i, hi, he⟩ => by
            by_cases e : i = k
            · subst e; rw [HR2.out] at he; exact h1 he
            · exact HB.out ⟨i, by omega, he⟩)
          have hwb := worst_bd a b k
          obtain ⟨q, hq⟩ : ∃ q, worstM a b k = q := ⟨_, rfl⟩
          have HQ1 : Hid (worstM a b (k + 1) = if q < r then r else q) := Lib.hid (by rw [worstM, HR2.out, hq])
          rw [hq] at hwb ⊢
          have HZ : Hid (zipM a b (k + 1) = zipM a b k ++ [⟨zl, zh⟩]) := Lib.hid (by rw [zipM_succ, HR1.out])
          have hlen : (zipM a b k).length = k := by unfold zipM; simp
          have hr04 : 0 ≤ r ∧ r ≤ 4 := by omega
          clear hq h1 hr3
          rcases Int.lt_trichotomy q r with m | m | m
          · have HW : Hid (worstM a b (k + 1) = r) := Lib.hid (by rw [HQ1.out, if_pos m])
            go_wp2_with (at_builtin; go_must (refine wpList_own1 et_sz rfl _ _ rfl own6 rfl (⟨zl, zh⟩ : S2) rfl rfl rfl (by simp [encS, Value.oneCell']) (by omega) hz6 ?_; intro v' w7 hown' hb' happ _))
            go_roundw
            case rel => exact ⟨k + 1, by omega, by go_num, by rw [HW.out], Lib.hid HNB.out, by rw [HZ.out]; exact hown', Below.trans X6 hb'⟩
            case measure => simp [intOf] <;> omega
          · subst m
            have HW : Hid (worstM a b (k + 1) = q) := Lib.hid (by rw [HQ1.out, if_neg (by omega)])
            go_wp2_with (at_builtin; go_must (refine wpList_own1 et_sz rfl _ _ rfl own6 rfl (⟨zl, zh⟩ : S2) rfl rfl rfl (by simp [encS, Value.oneCell']) (by omega) hz6 ?_; intro v' w7 hown' hb' happ _))
            go_roundw
            case rel => exact ⟨k + 1, by omega, by go_num, by rw [HW.out], Lib.hid HNB.out, by rw [HZ.out]; exact hown', Below.trans X6 hb'⟩
            case measure => simp [intOf] <;> omega
          · have HW : Hid (worstM a b (k + 1) = q) := Lib.hid (by rw [HQ1.out, if_neg (by omega)])
            go_wp2_with (at_builtin; go_must (refine wpList_own1 et_sz rfl _ _ rfl own6 rfl (⟨zl, zh⟩ : S2) rfl rfl rfl (by simp [encS, Value.oneCell']) (by omega) hz6 ?_; intro v' w7 hown' hb' happ _))
            go_roundw
            case rel => exact ⟨k + 1, by omega, by go_num, by rw [HW.out], Lib.hid HNB.out, by rw [HZ.out]; exact hown', Below.trans X6 hb'⟩
            case measure => simp [intOf] <;> omega
    · obtain rfl : k = a.length := by omega
      have hlen : (zipM a b a.length).length = a.length := by unfold zipM; simp
      have S7 := own.sl (fun _ _ => rfl) (by omega)
      have HS7 := Lib.hid S7
      clear own S7
      go_wp2
      go_ret2
      exact ⟨.inl ⟨u8, rfl, HS7.out, HB.out⟩, X⟩

instance (a b : List S2) (k : Nat) : Decidable (badM a b k) := by unfold badM; infer_instance
/-- What Narrow returns. -/
def narrowQ (a b : List S2) : List S2 × Int :=
  if a.length ≠ b.length then ([], 1) else if badM a b a.length then ([], 1) else if worstM a b a.length = 0 then (zipM a b a.length, 0) else ([], 23)
set_option maxRecDepth 100000 in
theorem worst_ne1 (a b : List S2) : ∀ k, ¬ badM a b k → worstM a b k ≠ 1
  | 0, _ => by show (0 : Int) ≠ 1; omega
  | k + 1, h => by
    have h1 := worst_ne1 a b k (fun ⟨i, hi, he⟩ => h ⟨i, by omega, he⟩)
    have h2 : (meetR (T a k) (T b k)).2 ≠ 1 := fun he => h ⟨k, by omega, he⟩
    unfold worstM
    split
    · exact h2
    · exact h1

set_option maxRecDepth 100000 in
set_option maxHeartbeats 2000000 in
theorem narrow_walk (va vb : Value) (a b : List S2) (hsz : a.length = b.length → a.length ≤ 8796093022208) (w : World) (S : Sl w 2 encS va a) (R : Sl w 2 encS vb b) : Calls Tryd.prog 28 #[va, vb] w fun e w' => ∃ v, e = .returned (.tuple #[v, .int .i64 (narrowQ a b).2]) ∧ Sl w' 2 encS v (narrowQ a b).1 ∧ Ext w w' := by
  obtain ⟨aa, ca, rfl, -, -, hla⟩ := S.len
  obtain ⟨ab, cb, rfl, -, -, hlb⟩ := R.len
  by_cases hl : a.length = b.length
  case neg =>
    have HR : Hid (narrowQ a b = ([], 1)) := Lib.hid (if_pos hl)
    rw [HR.out]
    have e1 : ((a.length : Int) != (b.length : Int)) = true := by rw [bne_iff_ne]; omega
    clear hl
    go_enter Tryd.func28, Tryd.ntmps28
    go_wp2
    exact bodyPost_ret (v := .tuple #[.slice none 0 0, .int .i64 1]) (by simp [results, Tryd.results28, go_sem]) rfl ⟨.slice none 0 0, rfl, Sl.nil _ _ _, Ext.refl _⟩
  have e1 : ((a.length : Int) != (b.length : Int)) = false := by rw [bne_eq_false_iff_eq]; omega
  have HL := Lib.hid hl
  have CW := Lib.hid (combine_walk _ _ a b hl (hsz hl) w S R)
  clear hl
  go_enter Tryd.func28, Tryd.ntmps28
  go_wp2_with fail
  refine CW.out.mono ?_
  rintro e w1 ⟨⟨v, rfl, SV, hb⟩ | ⟨rfl, hb⟩, x1⟩
  · have hw1 := worst_ne1 a b _ hb
    have hq : narrowQ a b = if worstM a b a.length = 0 then (zipM a b a.length, 0) else ([], 23) := by unfold narrowQ; rw [if_neg (by rw [HL.out]; simp), if_neg hb]
    have HQ := Lib.hid hq
    obtain ⟨q, hq2⟩ : ∃ q, worstM a b a.length = q := ⟨_, rfl⟩
    have HQ2 := Lib.hid hq2
    rw [hq2] at hw1 ⊢
    clear hq hq2
    have z1 : (q == 1) = false := by rw [beq_eq_false_iff_ne]; exact hw1
    by_cases h0 : q = 0
    · have z0 : (q == 0) = true := by rw [beq_iff_eq]; exact h0
      have HR : Hid (narrowQ a b = (zipM a b a.length, 0)) := Lib.hid (by rw [HQ.out, HQ2.out, if_pos h0])
      clear h0 hw1
      go_wp2
      exact bodyPost_ret (v := .tuple #[v, .int .i64 0]) (by simp [results, Tryd.results28, go_sem]) rfl ⟨v, by rw [HR.out] <;> rfl, by rw [HR.out]; exact SV, x1⟩
    · have z0 : (q == 0) = false := by rw [beq_eq_false_iff_ne]; exact h0
      have HR : Hid (narrowQ a b = ([], 23)) := Lib.hid (by rw [HQ.out, HQ2.out, if_neg h0])
      clear h0 hw1
      go_wp2
      exact bodyPost_ret (v := .tuple #[.slice none 0 0, .int .i64 23]) (by simp [results, Tryd.results28, go_sem]) rfl ⟨.slice none 0 0, by rw [HR.out] <;> rfl, by rw [HR.out]; exact Sl.nil _ _ _, x1⟩
  · have HR : Hid (narrowQ a b = ([], 1)) := Lib.hid (by unfold narrowQ; rw [if_neg (by rw [HL.out]; simp), if_pos hb])
    clear hb
    go_wp2
    exact bodyPost_ret (v := .tuple #[.slice none 0 0, .int .i64 1]) (by simp [results, Tryd.results28, go_sem]) rfl ⟨.slice none 0 0, by rw [HR.out] <;> rfl, by rw [HR.out]; exact Sl.nil _ _ _, x1⟩
end Go.Proofs.YtbemjekkojgbpaaDoor
