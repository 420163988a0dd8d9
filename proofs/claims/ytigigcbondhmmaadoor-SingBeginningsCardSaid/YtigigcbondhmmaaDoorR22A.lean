/-
  Walks: schismaref04.Gap; schismaref22.Need, Pitches.
-/
import Derived.Test.YtigigcbondhmmaaDoorSzG
import Derived.Test.YtigigcbondhmmaaDoorR3A
import Derived.Test.YtigigcbondhmmaaDoorR19D
import Derived.Test.YtigigcbondhmmaaDoorSgJ
import Derived.Deep.DeepCutAuto
set_option linter.unusedVariables false
namespace Go.Proofs.YtigigcbondhmmaaDoor
open Go.RowKit Go.Sx Go.Sx.Sz Go.Sx.Sc Go.Sx.Sg Go.Sx.Au

set_option maxRecDepth 100000 in
set_option maxHeartbeats 4000000 in
theorem rgap_walk (a b : V6) (ha : within a 576 = true) (hb : within b 576 = true) (w : World) : Calls Tryd.prog 49 #[.agg #[.int .i64 a.a, .int .i64 a.b, .int .i64 a.c, .int .i64 a.d, .int .i64 a.e, .int .i64 a.f], .agg #[.int .i64 b.a, .int .i64 b.b, .int .i64 b.c, .int .i64 b.d, .int .i64 b.e, .int .i64 b.f]] w fun e w' => e = .returned (.tuple #[.agg #[.int .i64 (expo (a.sub b)).lo, .int .i64 (expo (a.sub b)).hi], .int .i64 0]) ∧ Ext w w' := by
  have hw4 : within (a.sub b) 4000 = true := within_mono (by omega) (sub_within ha hb)
  have hba := fun k (hk : k < 6) => Sz.within_iff.1 ha k hk
  have hbb := fun k (hk : k < 6) => Sz.within_iff.1 hb k hk
  have HA := Lib.hid ha; have HB := Lib.hid hb
  clear ha hb
  have X0 : Ext w (((w.alloc (.cells (#[.int .i64 a.a, .int .i64 a.b, .int .i64 a.c, .int .i64 a.d, .int .i64 a.e, .int .i64 a.f] : Array Value) 70)).alloc (.cells (#[.int .i64 b.a, .int .i64 b.b, .int .i64 b.c, .int .i64 b.d, .int .i64 b.e, .int .i64 b.f] : Array Value) 70)).alloc (.cells #[.int .i64 0, .int .i64 0] 79)) := (by repeat (first | with_reducible exact Ext.refl _ | with_reducible assumption | with_reducible apply Ext.alloc | with_reducible apply Ext.drew | (with_reducible refine Ext.setCell ?_ (by (try simp) <;> omega) _)))
  have b0_0 := block_alloc (block_alloc (block_new w (.cells (#[.int .i64 a.a, .int .i64 a.b, .int .i64 a.c, .int .i64 a.d, .int .i64 a.e, .int .i64 a.f] : Array Value) 70)) (.cells (#[.int .i64 b.a, .int .i64 b.b, .int .i64 b.c, .int .i64 b.d, .int .i64 b.e, .int .i64 b.f] : Array Value) 70)) (.cells #[.int .i64 0, .int .i64 0] 79)
  have b0_1 := block_alloc (block_at (w := (w.alloc (.cells (#[.int .i64 a.a, .int .i64 a.b, .int .i64 a.c, .int .i64 a.d, .int .i64 a.e, .int .i64 a.f] : Array Value) 70))) (n := w.heap.size + 1) (by simp) (.cells (#[.int .i64 b.a, .int .i64 b.b, .int .i64 b.c, .int .i64 b.d, .int .i64 b.e, .int .i64 b.f] : Array Value) 70)) (.cells #[.int .i64 0, .int .i64 0] 79)
  have b0_2 := block_at (w := ((w.alloc (.cells (#[.int .i64 a.a, .int .i64 a.b, .int .i64 a.c, .int .i64 a.d, .int .i64 a.e, .int .i64 a.f] : Array Value) 70)).alloc (.cells (#[.int .i64 b.a, .int .i64 b.b, .int .i64 b.c, .int .i64 b.d, .int .i64 b.e, .int .i64 b.f] : Array Value) 70))) (n := w.heap.size + 1 + 1) (by simp) (.cells #[.int .i64 0, .int .i64 0] 79)
  obtain ⟨W0, hW0⟩ : ∃ W, (((w.alloc (.cells (#[.int .i64 a.a, .int .i64 a.b, .int .i64 a.c, .int .i64 a.d, .int .i64 a.e, .int .i64 a.f] : Array Value) 70)).alloc (.cells (#[.int .i64 b.a, .int .i64 b.b, .int .i64 b.c, .int .i64 b.d, .int .i64 b.e, .int .i64 b.f] : Array Value) 70)).alloc (.cells #[.int .i64 0, .int .i64 0] 79)) = W := ⟨_, rfl⟩
  obtain ⟨B0, hB0⟩ : ∃ B, w.heap.size = B := ⟨_, rfl⟩
  rw [hW0] at X0 b0_0 b0_1 b0_2
  rw [hB0] at b0_0 b0_1 b0_2
  have HZ0 : Hid (w.heap.size ≤ B0) := Lib.hid (by omega)
  have HW0 := Lib.hid hW0; have HB0 := Lib.hid hB0
  clear hW0 hB0
  have HC0 := Lib.hid b0_0; have HC1 := Lib.hid b0_1; have HC2 := Lib.hid b0_2
  go_enter Tryd.func49, Tryd.ntmps49
  go_wp2_with fail
  rw [HW0.out, HB0.out]
  clear HW0 HB0 b0_0 b0_1 b0_2
  refine (rpvalid_walk a _).mono ?_
  rw [HA.out]
  rintro e w1 ⟨rfl, x1⟩
  have y1 := block_ext x1 HC1.out
  have p0 := block_cell y1 0 _ rfl; have p1 := block_cell y1 1 _ rfl; have p2 := block_cell y1 2 _ rfl; have p3 := block_cell y1 3 _ rfl; have p4 := block_cell y1 4 _ rfl; have p5 := block_cell y1 5 _ rfl
  clear y1
  go_wp2_with fail
  refine (rpvalid_walk b _).mono ?_
  rw [HB.out]
  rintro e w2 ⟨rfl, x2⟩
  clear p0 p1 p2 p3 p4 p5
  have X2 := X0.trans (x1.trans x2)
  have X4 : Ext w2 (w2.alloc (.cells #[.int .i64 0, .int .i64 0, .int .i64 0, .int .i64 0, .int .i64 0, .int .i64 0] 40)) := (by repeat (first | with_reducible exact Ext.refl _ | with_reducible assumption | with_reducible apply Ext.alloc | with_reducible apply Ext.drew | (with_reducible refine Ext.setCell ?_ (by (try simp) <;> omega) _)))
  have b4_0 := block_new w2 (.cells #[.int .i64 0, .int .i64 0, .int .i64 0, .int .i64 0, .int .i64 0, .int .i64 0] 40)
  obtain ⟨W4, hW4⟩ : ∃ W, (w2.alloc (.cells #[.int .i64 0, .int .i64 0, .int .i64 0, .int .i64 0, .int .i64 0, .int .i64 0] 40)) = W := ⟨_, rfl⟩
  obtain ⟨B4, hB4⟩ : ∃ B, w2.heap.size = B := ⟨_, rfl⟩
  rw [hW4] at X4 b4_0
  rw [hB4] at b4_0
  have HZ4 : Hid (w2.heap.size ≤ B4) := Lib.hid (by omega)
  have HW4 := Lib.hid hW4; have HB4 := Lib.hid hB4
  clear hW4 hB4
  have q0 := block_ext ((x1.trans x2).trans X4) HC0.out
  have q1 := block_ext ((x1.trans x2).trans X4) HC1.out
  have q2 := block_ext ((x1.trans x2).trans X4) HC2.out
  have X4' := X2.trans X4
  have hz2 := X2.size
  have hb4 : B0 + 1 + 1 < B4 := by
    have h1 := (Array.getElem?_eq_some_iff.1 (block_ext (x1.trans x2) HC2.out)).1
    have := HB4.out; omega
  have QQ := Lib.hid (show W4.heap[B4]? = some (.cells (V6.of fun j => if j < 0 then a.get j - b.get j else 0).cells 40 (0, 0)) ∧ W4.heap[B0]? = some (.cells a.cells 70 (0, 0)) ∧ W4.heap[B0 + 1]? = some (.cells b.cells 70 (0, 0)) ∧ W4.heap[B0 + 1 + 1]? = some (.cells #[.int .i64 0, .int .i64 0] 79 (0, 0)) from ⟨b4_0, q0, q1, q2⟩)
  clear q0 q1 q2 b4_0 HC0 HC1 HC2 x1 x2 X0 X4 X2
  go_upto_region 4 with fail
  rw [HW4.out, HB4.out]
  clear HW4 HB4
  go_wp2
  go_loopw [7] (fun i wr => ∃ k : Nat, k ≤ 6 ∧ i = .int .i64 k ∧ wr.heap[B4]? = some (.cells (V6.of fun j => if j < k then a.get j - b.get j else 0).cells 40 (0, 0)) ∧ wr.heap[B0]? = some (.cells a.cells 70 (0, 0)) ∧ wr.heap[B0 + 1]? = some (.cells b.cells 70 (0, 0)) ∧ wr.heap[B0 + 1 + 1]? = some (.cells #[.int .i64 0, .int .i64 0] 79 (0, 0)) ∧ Ext w wr) (fun i _ => 6 - (intOf i).toNat)
  case atStart => exact ⟨0, by omega, rfl, QQ.out.1, QQ.out.2.1, QQ.out.2.2.1, QQ.out.2.2.2, X4'⟩
  case round =>
    obtain ⟨k, hk, rfl, cd, c0, c1, c2, X⟩ := hrel
    by_cases hlt : k < 6
    · obtain ⟨a1, a2⟩ := hba k hlt
      obtain ⟨b1, b2⟩ := hbb k hlt
      have g0 := block_cell c0 k _ (V6.cells_at _ hlt)
      have g1 := block_cell c1 k _ (V6.cells_at _ hlt)
      obtain ⟨u, hu⟩ : ∃ u, a.get k = u := ⟨_, rfl⟩
      obtain ⟨v, hv⟩ : ∃ u, b.get k = u := ⟨_, rfl⟩
      have hput : (V6.of fun j => if j < k then a.get j - b.get j else 0).put k (u - v) = (V6.of fun j => if j < k + 1 then a.get j - b.get j else 0) := V6.ext' fun j hj => by
        rw [V6.put_get _ hlt _ hj, V6.get_of _ hj, V6.get_of _ hj]
        by_cases h : j = k
        · subst h; rw [if_pos rfl, if_pos (by omega), hu, hv]
        · rw [if_neg h]
          by_cases h' : j < k
          · rw [if_pos h', if_pos (by omega)]
          · rw [if_neg h', if_neg (by omega)]
      rw [hu] at g0 a1 a2; rw [hv] at g1 b1 b2
      have HPUT := Lib.hid hput
      clear hput hu hv
      have CD := Lib.hid cd; have C0 := Lib.hid c0; have C1 := Lib.hid c1; have C2 := Lib.hid c2
      obtain ⟨wo, rfl⟩ : ∃ wo : World, wo = wr := ⟨_, rfl⟩
      have e0 := ext_cells g0
      have e1 := ext_cells g1
      have E1 : IntKind.i64.wrap (u - v) = u - v := IntWalk.i64_in _ (by omega)
      have i1 : (0 : Int) ≤ (k : Int) := by omega
      have i2 : (k : Int) < 6 := by omega
      clear cd c0 c1 c2 g0 g1
      go_upto_region 7 with fail
      refine wp_region_ord [(0,true), (1,true), (2,true), (3,true), (4,true), (5,true), (6,true), (7,true), (8,true)] 9 Ext (Ext wo) wide (by kernel_rfl) (stable_ext _) (Ext.drawn _ _) ?_
      iterate 9 (first | (apply wpOrd_no rfl; rfl; (simp only [List.getElem_toArray, List.getElem_cons_succ, List.getElem_cons_zero, Act.put, List.setIfInBounds_toArray, List.set_cons_succ, List.set_cons_zero]; rfl)) | (apply wpOrd_yes rfl; rfl; (intro w' hw'; unfold opR; go_simp; exact ⟨Ext.refl _, rfl⟩); (simp only [List.getElem_toArray, List.getElem_cons_succ, List.getElem_cons_zero, Act.put, List.setIfInBounds_toArray, List.set_cons_succ, List.set_cons_zero]; rfl)))
      refine wpOrd_nil (l := [_]) rfl ?_
      intro w3 x3
      have dd := block_ext x3 CD.out
      have d0 := block_ext x3 C0.out
      have d1 := block_ext x3 C1.out
      have d2 := block_ext x3 C2.out
      have hf := block_free dd k
      have n0 := block_set dd k (.int .i64 (u - v))
      rw [V6.cells_put _ hlt, HPUT.out] at n0
      have n1 := block_ne d0 (g := B4) k (.int .i64 (u - v)) (by omega)
      have n2 := block_ne d1 (g := B4) k (.int .i64 (u - v)) (by omega)
      have n3 := block_ne d2 (g := B4) k (.int .i64 (u - v)) (by omega)
      have hc9 := block_cell dd k _ (V6.cells_at _ hlt)
      have N := Lib.hid (And.intro n0 (And.intro n1 (And.intro n2 n3)))
      have X3 := X.trans x3
      clear n0 n1 n2 n3 dd d0 d1 d2 e0 e1 C0 C1 C2 CD
      go_wp2
      go_roundw
      case rel => exact ⟨k + 1, by omega, by go_num, N.out.1, N.out.2.1, N.out.2.2.1, N.out.2.2.2, X3.setCell (p := ⟨B4, k, none⟩) (by have := HZ0.out; have := HZ4.out; show w.heap.size ≤ B4; omega) _⟩
      case measure => simp [intOf]; omega
    · obtain rfl : k = 6 := by omega
      have hs : (V6.of fun j => if j < 6 then a.get j - b.get j else 0) = a.sub b := V6.ext' fun j hj => by rw [V6.sub, V6.get_of _ hj, V6.get_of _ hj, if_pos hj]
      rw [hs] at cd
      clear hs hba hbb
      obtain ⟨r0, s0⟩ := block_rules cd
      have R0 : ∀ j, wr.cell? ⟨B4, j, none⟩ = (#[.int .i64 (a.sub b).a, .int .i64 (a.sub b).b, .int .i64 (a.sub b).c, .int .i64 (a.sub b).d, .int .i64 (a.sub b).e, .int .i64 (a.sub b).f] : Array Value)[j]? := r0
      have HC2 := Lib.hid c2
      clear r0 cd c0 c1 c2
      go_wp2_with fail
      refine (rexpo_walk (a.sub b) hw4 _).mono ?_
      rintro e w5 ⟨rfl, x5⟩
      obtain ⟨⟨zl, zh⟩, hz⟩ : ∃ z, expo (a.sub b) = z := ⟨_, rfl⟩
      have HZ := Lib.hid hz
      rw [hz]
      clear hz R0 s0
      have br := block_ext x5 HC2.out
      have b7 := setRow_at br #[.int .i64 zl, .int .i64 zh]
      have t0 := block_cell b7 0 _ rfl; have t1 := block_cell b7 1 _ rfl
      have HX7 := Lib.hid ((X.trans x5).setRow (g := B0 + 1 + 1) (by have := HZ0.out; omega) #[.int .i64 zl, .int .i64 zh])
      clear b7
      go_wp2_with (first | (refine wpList_store_row rfl _ _ _ rfl (B0 + 1 + 1) _ rfl rfl _ _ (br) (by kernel_rfl) rfl (by simp [Value.oneCell']) ?_) | fail)
      exact bodyPost_ret (v := .tuple #[.agg #[.int .i64 zl, .int .i64 zh], .int .i64 0]) (by simp [results, Tryd.results49, go_sem, t0, t1]) rfl ⟨by rw [HZ.out] <;> rfl, HX7.out⟩

set_option maxRecDepth 100000 in
set_option maxHeartbeats 4000000 in
theorem rneed_walk (vx : Value) (xs : List V6) (hw : ∀ x ∈ xs, within x 48 = true) (n : Nat) (hn : n < xs.length) (i : Int) (hi : i = -1 ∨ (0 ≤ i ∧ i < xs.length)) (w : World) (R : Sl w 6 V6.list vx xs) :
    Calls Tryd.prog 33 #[vx, .int .i64 n, .int .i64 i] w fun e w' => e = .returned (.int .i64 (needF xs n i)) ∧ Ext w w' := by
  obtain ⟨ax, cx, rfl, -, -, hlx⟩ := R.len
  have hwy := X_within hn hw
  have hwx := atX_within hi hw
  have hRx : i ≠ -1 → atX xs i = X xs i.toNat := fun h => by unfold atX; rw [if_neg h]
  have hR0 : i = -1 → atX xs i = V6.zero := fun h => by unfold atX; rw [if_pos h]
  have hneed : needF xs n i = (farZ (expo (((X xs n).times 12).sub ((atX xs i).times 12))) + 9999) / 10000 := rfl
  have hXY := X_eq hn
  obtain ⟨y, hy⟩ : ∃ y, X xs n = y := ⟨_, rfl⟩
  obtain ⟨x, hx⟩ : ∃ x, atX xs i = x := ⟨_, rfl⟩
  rw [hy] at hwy hneed hXY; rw [hx] at hwx hneed hRx hR0
  have hby : ∀ k, k < 6 → -1000000 ≤ y.get k ∧ y.get k ≤ 1000000 := fun k hk => by have := Sz.within_iff.1 hwy k hk; omega
  have hbx : ∀ k, k < 6 → -1000000 ≤ x.get k ∧ x.get k ≤ 1000000 := fun k hk => by have := Sz.within_iff.1 hwx k hk; omega
  have PY := Lib.hid fun w' => pure_walk y hby w'
  have PX := Lib.hid fun w' => pure_walk x hbx w'
  have hwy' := times_within hwy; have hwx' := times_within hwx
  obtain ⟨p, hp⟩ : ∃ p, y.times 12 = p := ⟨_, rfl⟩
  obtain ⟨q, hq⟩ : ∃ q, x.times 12 = q := ⟨_, rfl⟩
  rw [hp] at hwy' hneed PY; rw [hq] at hwx' hneed PX
  have GW := Lib.hid fun w' => rgap_walk p q hwy' hwx' w'
  obtain ⟨bd1, bd2⟩ := gap_bd hwy' hwx'
  obtain ⟨⟨zl, zh⟩, hz⟩ : ∃ z, expo (p.sub q) = z := ⟨_, rfl⟩
  rw [hz] at GW hneed bd1 bd2
  obtain ⟨bl1, bl2⟩ := bd1
  have bl3 : zl ≤ zh := bd2
  have HN := Lib.hid hneed; have HXY := Lib.hid hXY; have HRX := Lib.hid hRx; have HR0 := Lib.hid hR0
  clear hneed hXY hRx hR0 hy hx hwy hwx hp hq hwy' hwx' hz hw hby hbx bd2
  have X0 : Ext w (w.alloc (.cells #[.int .i64 0, .int .i64 0, .int .i64 0, .int .i64 0, .int .i64 0, .int .i64 0] 41)) := (by repeat (first | with_reducible exact Ext.refl _ | with_reducible assumption | with_reducible apply Ext.alloc | with_reducible apply Ext.drew | (with_reducible refine Ext.setCell ?_ (by (try simp) <;> omega) _)))
  have b0_0 := block_new w (.cells #[.int .i64 0, .int .i64 0, .int .i64 0, .int .i64 0, .int .i64 0, .int .i64 0] 41)
  obtain ⟨W0, hW0⟩ : ∃ W, (w.alloc (.cells #[.int .i64 0, .int .i64 0, .int .i64 0, .int .i64 0, .int .i64 0, .int .i64 0] 41)) = W := ⟨_, rfl⟩
  obtain ⟨B0, hB0⟩ : ∃ B, w.heap.size = B := ⟨_, rfl⟩
  rw [hW0] at X0 b0_0
  rw [hB0] at b0_0
  have HZ0 : Hid (w.heap.size ≤ B0) := Lib.hid (by omega)
  have HW0 := Lib.hid hW0; have HB0 := Lib.hid hB0
  clear hW0 hB0
  have S0 := R.ext X0
  have j1 : (0 : Int) ≤ (n : Int) := by omega
  have j2 : (n : Int) < (xs.length : Int) := by omega
  go_enter Tryd.func33, Tryd.ntmps33
  go_upto_if 12 with fail
  rw [HW0.out, HB0.out]
  go_cut [] (fun wx => wx.heap[B0]? = some (.cells (#[.int .i64 x.a, .int .i64 x.b, .int .i64 x.c, .int .i64 x.d, .int .i64 x.e, .int .i64 x.f] : Array Value) 41 (0, 0)) ∧ Ext w wx)
  case first =>
    clear HW0 HB0
    by_cases hi1 : i = -1
    · obtain rfl := HR0.out hi1
      subst hi1
      clear hi
      go_wp2
      go_meet
      exact ⟨b0_0, X0⟩
    · have hxi := HRX.out hi1
      obtain ⟨k, rfl⟩ : ∃ k : Nat, i = (k : Int) := ⟨i.toNat, by omega⟩
      have hk : k < xs.length := by omega
      obtain ⟨b, o, rfl, a0, a1, a2, a3, a4, a5⟩ := Sl.vec S0 k hk
      rw [Int.toNat_natCast, X_eq hk] at hxi
      rw [← hxi] at a0 a1 a2 a3 a4 a5
      have i1 : (0 : Int) ≤ (k : Int) := by omega
      have i2 : (k : Int) < (xs.length : Int) := by omega
      have n1 := setRow_at b0_0 (#[.int .i64 x.a, .int .i64 x.b, .int .i64 x.c, .int .i64 x.d, .int .i64 x.e, .int .i64 x.f] : Array Value)
      have N := Lib.hid (And.intro n1 (X0.setRow (g := B0) (by have := HZ0.out; omega) (#[.int .i64 x.a, .int .i64 x.b, .int .i64 x.c, .int .i64 x.d, .int .i64 x.e, .int .i64 x.f] : Array Value)))
      have HB := Lib.hid b0_0
      clear hi hi1 hxi n1 b0_0
      go_wp2_with (first | (refine wpList_store_row rfl _ _ _ rfl B0 _ rfl rfl _ _ HB.out (by kernel_rfl) rfl (by simp [Value.oneCell']) ?_) | fail)
      go_meet
      exact N.out
  case rest =>
    obtain ⟨p1, XC⟩ := hcut
    clear HW0 HB0 b0_0
    have SC := R.ext XC
    obtain ⟨b, o, rfl, a0, a1, a2, a3, a4, a5⟩ := Sl.vec SC n hn
    rw [← HXY.out] at a0 a1 a2 a3 a4 a5
    obtain ⟨W1, rfl⟩ : ∃ z : World, z = wc := ⟨_, rfl⟩
    have P1 := Lib.hid p1
    have a0 := ext_cells a0; have a1 := ext_cells a1; have a2 := ext_cells a2; have a3 := ext_cells a3; have a4 := ext_cells a4; have a5 := ext_cells a5
    have d0 := ext_cells (block_cell p1 0 _ rfl); have d1 := ext_cells (block_cell p1 1 _ rfl); have d2 := ext_cells (block_cell p1 2 _ rfl); have d3 := ext_cells (block_cell p1 3 _ rfl); have d4 := ext_cells (block_cell p1 4 _ rfl); have d5 := ext_cells (block_cell p1 5 _ rfl)
    clear p1 SC S0
    go_wp2_with fail
    apply Z.wp_region_ordZ [(0, .det _), (1, .det _), (2, .det _), (3, .det _), (4, .det _), (5, .det _), (6, .det _), (7, .det _), (8, .det _), (9, .det _), (10, .det _), (11, .new (fun v => ∃ g : Nat, v = .pointer (some ⟨g, 0, none⟩)) (ZRow 79 W1.heap.size 2) (.pointer (some ⟨0, 0, none⟩)) ⟨0, rfl⟩), (12, .one (fun u => u = undef) (fun vs _ w => ZAt 79 #[.int .i64 zl, .int .i64 zh] (vs.headD undef) w) undef rfl [11]), (13, .det _)] 14 Ext (Zr 79 W1.heap.size) (Ext W1) (fun _ => True) wide [(0,true),(1,true),(2,true),(3,true),(4,true),(5,true),(6,true),(7,true),(8,true),(9,true),(10,true),(11,true),(12,false),(13,true)] [(0,[]),(1,[]),(2,[]),(3,[]),(4,[]),(5,[]),(6,[]),(7,[]),(8,[]),(9,[]),(10,[]),(11,[]),(12,[11]),(13,[])] (by kernel_rfl) (by kernel_rfl) rfl rfl (by simp [Z.Kd.new, Z.Kd.det, Z.Kd.one, Z.kdOf]) (by decide) (sub_zr _ _) stable_zr (fun _ _ _ _ => trivial) (Ext.drawn _ _) trivial ?main
    case' main =>
      iterate 4 (apply Z.ordX_det rfl rfl; (intro w' hw'; unfold opR; go_simp; exact ⟨Ext.refl _, rfl⟩); (simp only [List.getElem_toArray, List.getElem_cons_succ, List.getElem_cons_zero, Act.put, List.setIfInBounds_toArray, List.set_cons_succ, List.set_cons_zero]; rfl))
      (apply Z.ordX_det rfl rfl; (intro w' hw'; refine opR_call rfl (Go.Proofs.enters_of Tryd.func50 (by kernel_rfl) rfl) (by simp only [List.map_toArray, List.map_cons, List.map_nil, Act.eval, Array.getD_eq_getD_getElem?, List.getElem?_toArray, List.getElem?_cons_succ, List.getElem?_cons_zero, Option.getD_some]; rfl) ?_; refine (PY.out _).mono ?_; rintro e w'' ⟨rfl, hx⟩; exact ⟨_, rfl, hx, rfl⟩); (simp only [List.getElem_toArray, List.getElem_cons_succ, List.getElem_cons_zero, Act.put, List.setIfInBounds_toArray, List.set_cons_succ, List.set_cons_zero]; rfl))
      iterate 1 (apply Z.ordX_det rfl rfl; (intro w' hw'; unfold opR; go_simp; exact ⟨Ext.refl _, rfl⟩); (simp only [List.getElem_toArray, List.getElem_cons_succ, List.getElem_cons_zero, Act.put, List.setIfInBounds_toArray, List.set_cons_succ, List.set_cons_zero]; rfl))
      (apply Z.ordX_det rfl rfl; (intro w' hw'; refine opR_call rfl (Go.Proofs.enters_of Tryd.func50 (by kernel_rfl) rfl) (by simp only [List.map_toArray, List.map_cons, List.map_nil, Act.eval, Array.getD_eq_getD_getElem?, List.getElem?_toArray, List.getElem?_cons_succ, List.getElem?_cons_zero, Option.getD_some]; rfl) ?_; refine (PX.out _).mono ?_; rintro e w'' ⟨rfl, hx⟩; exact ⟨_, rfl, hx, rfl⟩); (simp only [List.getElem_toArray, List.getElem_cons_succ, List.getElem_cons_zero, Act.put, List.setIfInBounds_toArray, List.set_cons_succ, List.set_cons_zero]; rfl))
      (apply Z.ordX_det rfl rfl; (intro w' hw'; refine opR_call rfl (Go.Proofs.enters_of Tryd.func49 (by kernel_rfl) rfl) (by simp only [List.map_toArray, List.map_cons, List.map_nil, Act.eval, Array.getD_eq_getD_getElem?, List.getElem?_toArray, List.getElem?_cons_succ, List.getElem?_cons_zero, Option.getD_some]; rfl) ?_; refine (GW.out _).mono ?_; rintro e w'' ⟨rfl, hx⟩; exact ⟨_, rfl, hx, rfl⟩); (simp only [List.getElem_toArray, List.getElem_cons_succ, List.getElem_cons_zero, Act.put, List.setIfInBounds_toArray, List.set_cons_succ, List.set_cons_zero]; rfl))
      iterate 3 (apply Z.ordX_det rfl rfl; (intro w' hw'; unfold opR; go_simp; exact ⟨Ext.refl _, rfl⟩); (simp only [List.getElem_toArray, List.getElem_cons_succ, List.getElem_cons_zero, Act.put, List.setIfInBounds_toArray, List.set_cons_succ, List.set_cons_zero]; rfl))
      apply Z.ordX_new (fun v _ _ h k => h.zr k) rfl rfl
      · intro w' hw' _
        unfold opR
        go_simp
        exact ⟨Ext.alloc' _ _, ⟨_, rfl⟩, ZRow.new w' hw'.size _⟩
      · intro v; (simp only [List.getElem_toArray, List.getElem_cons_succ, List.getElem_cons_zero, Act.put, List.setIfInBounds_toArray, List.set_cons_succ, List.set_cons_zero]; rfl)
      rintro _ ⟨g8, rfl⟩
      apply Z.ordX_one (fun vs v _ _ h k => h.ext k) rfl rfl
      · intro w' hw' _ hN
        exact opR_zstore _ _ _ rfl _ rfl rfl (hN 11 (by simp)) (by kernel_rfl) rfl (by simp [Value.oneCell'])
      · intro v; (simp only [List.getElem_toArray, List.getElem_cons_succ, List.getElem_cons_zero, Act.put, List.setIfInBounds_toArray, List.set_cons_succ, List.set_cons_zero]; rfl)
      rintro _ rfl
      iterate 1 (apply Z.ordX_det rfl rfl; (intro w' hw'; unfold opR; go_simp; exact ⟨Ext.refl _, rfl⟩); (simp only [List.getElem_toArray, List.getElem_cons_succ, List.getElem_cons_zero, Act.put, List.setIfInBounds_toArray, List.set_cons_succ, List.set_cons_zero]; rfl))
      refine Z.ordX_nil (l := []) rfl ?_
    rintro w4 x4 ⟨gg, e9, hb4⟩ -
    simp [Z.upd] at e9
    subst e9
    have f3 := (block_rules hb4).1
    have HX := Lib.hid (XC.trans x4)
    clear a0 a1 a2 a3 a4 a5 d0 d1 d2 d3 d4 d5 x4 XC X0 hb4
    have hzz : farZ ⟨zl, zh⟩ = if -zl ≤ zh then zh else -zl := rfl
    have HZZ := Lib.hid hzz
    clear hzz
    rcases Int.lt_trichotomy zh (-zl) with m | rfl | m
    all_goals
      go_wp2
      go_ret
      refine ⟨retZ_eq ?_, HX.out⟩
      have h1 := HN.out; have h2 := HZZ.out
      rw [h1, h2]
      split <;> omega
end Go.Proofs.YtigigcbondhmmaaDoor
