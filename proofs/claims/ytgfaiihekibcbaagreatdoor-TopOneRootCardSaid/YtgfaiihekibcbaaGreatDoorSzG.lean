/-
  Walks: size.surely, Gap, Near.
-/
import Derived.Test.YtgfaiihekibcbaaGreatDoorLibM
import Derived.Test.YtgfaiihekibcbaaGreatDoorLibA
import Derived.Deep.DeepCutAuto
set_option linter.unusedVariables false
namespace Go.Proofs.YtgfaiihekibcbaaGreatDoor
open Go.RowKit Go.Sx Go.Sx.Sz

/-- Surely from lo to hi (1), surely outside (-1), or neither (0). -/
def surelyF (z : S2) (lo hi : Int) : Int := if lo ≤ z.lo ∧ z.hi ≤ hi then 1 else if z.hi < lo ∨ hi < z.lo then -1 else 0

set_option maxRecDepth 100000 in
set_option maxHeartbeats 2000000 in
theorem surely_walk (z : S2) (lo hi : Int) (w : World) : Calls Tryz.prog 82 #[.agg #[.int .i64 z.lo, .int .i64 z.hi], .int .i64 lo, .int .i64 hi] w fun e w' => e = .returned (.int .i64 (surelyF z lo hi)) ∧ Ext w w' := by
  obtain ⟨l, u⟩ := z
  obtain ⟨r, hr⟩ : ∃ r, surelyF ⟨l, u⟩ lo hi = r := ⟨_, rfl⟩
  have HR : Hid (r = if lo ≤ l ∧ u ≤ hi then 1 else if u < lo ∨ hi < l then -1 else 0) := Lib.hid hr.symm
  rw [hr]
  clear hr
  by_cases g1 : lo ≤ l
  · by_cases g2 : u ≤ hi
    · have HV : Hid (r = 1) := Lib.hid (by rw [HR.out, if_pos ⟨g1, g2⟩])
      go_enter Tryz.func82, Tryz.ntmps82
      go_wp2
      go_ret
      exact ⟨by rw [HV.out] <;> rfl, (by repeat (first | with_reducible exact Ext.refl _ | with_reducible assumption | with_reducible apply Ext.alloc | with_reducible apply Ext.drew | (with_reducible refine Ext.setCell ?_ (by (try simp) <;> omega) _)))⟩
    · by_cases g3 : u < lo
      · have HV : Hid (r = -1) := Lib.hid (by rw [HR.out, if_neg (fun h => g2 h.2), if_pos (.inl g3)])
        go_enter Tryz.func82, Tryz.ntmps82
        go_wp2
        go_ret
        exact ⟨by rw [HV.out] <;> rfl, (by repeat (first | with_reducible exact Ext.refl _ | with_reducible assumption | with_reducible apply Ext.alloc | with_reducible apply Ext.drew | (with_reducible refine Ext.setCell ?_ (by (try simp) <;> omega) _)))⟩
      · by_cases g4 : hi < l
        · have HV : Hid (r = -1) := Lib.hid (by rw [HR.out, if_neg (fun h => g2 h.2), if_pos (.inr g4)])
          go_enter Tryz.func82, Tryz.ntmps82
          go_wp2
          go_ret
          exact ⟨by rw [HV.out] <;> rfl, (by repeat (first | with_reducible exact Ext.refl _ | with_reducible assumption | with_reducible apply Ext.alloc | with_reducible apply Ext.drew | (with_reducible refine Ext.setCell ?_ (by (try simp) <;> omega) _)))⟩
        · have HV : Hid (r = 0) := Lib.hid (by rw [HR.out, if_neg (fun h => g2 h.2), if_neg (fun h => h.elim g3 g4)])
          go_enter Tryz.func82, Tryz.ntmps82
          go_wp2
          go_ret
          exact ⟨by rw [HV.out] <;> rfl, (by repeat (first | with_reducible exact Ext.refl _ | with_reducible assumption | with_reducible apply Ext.alloc | with_reducible apply Ext.drew | (with_reducible refine Ext.setCell ?_ (by (try simp) <;> omega) _)))⟩
  · by_cases g3 : u < lo
    · have HV : Hid (r = -1) := Lib.hid (by rw [HR.out, if_neg (fun h => g1 h.1), if_pos (.inl g3)])
      go_enter Tryz.func82, Tryz.ntmps82
      go_wp2
      go_ret
      exact ⟨by rw [HV.out] <;> rfl, (by repeat (first | with_reducible exact Ext.refl _ | with_reducible assumption | with_reducible apply Ext.alloc | with_reducible apply Ext.drew | (with_reducible refine Ext.setCell ?_ (by (try simp) <;> omega) _)))⟩
    · by_cases g4 : hi < l
      · have HV : Hid (r = -1) := Lib.hid (by rw [HR.out, if_neg (fun h => g1 h.1), if_pos (.inr g4)])
        go_enter Tryz.func82, Tryz.ntmps82
        go_wp2
        go_ret
        exact ⟨by rw [HV.out] <;> rfl, (by repeat (first | with_reducible exact Ext.refl _ | with_reducible assumption | with_reducible apply Ext.alloc | with_reducible apply Ext.drew | (with_reducible refine Ext.setCell ?_ (by (try simp) <;> omega) _)))⟩
      · have HV : Hid (r = 0) := Lib.hid (by rw [HR.out, if_neg (fun h => g1 h.1), if_neg (fun h => h.elim g3 g4)])
        go_enter Tryz.func82, Tryz.ntmps82
        go_wp2
        go_ret
        exact ⟨by rw [HV.out] <;> rfl, (by repeat (first | with_reducible exact Ext.refl _ | with_reducible assumption | with_reducible apply Ext.alloc | with_reducible apply Ext.drew | (with_reducible refine Ext.setCell ?_ (by (try simp) <;> omega) _)))⟩

set_option maxRecDepth 100000 in
theorem sub_within {a b : V6} {A B : Int} (ha : within a A = true) (hb : within b B = true) : within (a.sub b) (A + B) = true := by
  refine Sz.within_iff.2 fun k hk => ?_
  have h1 := Sz.within_iff.1 ha k hk
  have h2 := Sz.within_iff.1 hb k hk
  unfold V6.sub
  rw [V6.get_of _ hk]
  omega

set_option maxRecDepth 100000 in
set_option maxHeartbeats 4000000 in
theorem gap_walk (a b : V6) (ha : within a 576 = true) (hb : within b 576 = true) (w : World) (G : Gl 0 w) : Calls Tryz.prog 81 #[.agg #[.int .i64 a.a, .int .i64 a.b, .int .i64 a.c, .int .i64 a.d, .int .i64 a.e, .int .i64 a.f], .agg #[.int .i64 b.a, .int .i64 b.b, .int .i64 b.c, .int .i64 b.d, .int .i64 b.e, .int .i64 b.f]] w fun e w' => e = .returned (.tuple #[.agg #[.int .i64 (expo (a.sub b)).lo, .int .i64 (expo (a.sub b)).hi], .int .i64 0]) ∧ Ext w w' := by
  have hw4 : within (a.sub b) 4000 = true := within_mono (by omega) (sub_within ha hb)
  have hba := fun k (hk : k < 6) => Sz.within_iff.1 ha k hk
  have hbb := fun k (hk : k < 6) => Sz.within_iff.1 hb k hk
  have HA := Lib.hid ha; have HB := Lib.hid hb
  clear ha hb
  have X0 : Ext w (((w.alloc (.cells (#[.int .i64 a.a, .int .i64 a.b, .int .i64 a.c, .int .i64 a.d, .int .i64 a.e, .int .i64 a.f] : Array Value) 107)).alloc (.cells (#[.int .i64 b.a, .int .i64 b.b, .int .i64 b.c, .int .i64 b.d, .int .i64 b.e, .int .i64 b.f] : Array Value) 107)).alloc (.cells #[.int .i64 0, .int .i64 0] 141)) := (by repeat (first | with_reducible exact Ext.refl _ | with_reducible assumption | with_reducible apply Ext.alloc | with_reducible apply Ext.drew | (with_reducible refine Ext.setCell ?_ (by (try simp) <;> omega) _)))
  have b0_0 := block_alloc (block_alloc (block_new w (.cells (#[.int .i64 a.a, .int .i64 a.b, .int .i64 a.c, .int .i64 a.d, .int .i64 a.e, .int .i64 a.f] : Array Value) 107)) (.cells (#[.int .i64 b.a, .int .i64 b.b, .int .i64 b.c, .int .i64 b.d, .int .i64 b.e, .int .i64 b.f] : Array Value) 107)) (.cells #[.int .i64 0, .int .i64 0] 141)
  have b0_1 := block_alloc (block_at (w := (w.alloc (.cells (#[.int .i64 a.a, .int .i64 a.b, .int .i64 a.c, .int .i64 a.d, .int .i64 a.e, .int .i64 a.f] : Array Value) 107))) (n := w.heap.size + 1) (by simp) (.cells (#[.int .i64 b.a, .int .i64 b.b, .int .i64 b.c, .int .i64 b.d, .int .i64 b.e, .int .i64 b.f] : Array Value) 107)) (.cells #[.int .i64 0, .int .i64 0] 141)
  have b0_2 := block_at (w := ((w.alloc (.cells (#[.int .i64 a.a, .int .i64 a.b, .int .i64 a.c, .int .i64 a.d, .int .i64 a.e, .int .i64 a.f] : Array Value) 107)).alloc (.cells (#[.int .i64 b.a, .int .i64 b.b, .int .i64 b.c, .int .i64 b.d, .int .i64 b.e, .int .i64 b.f] : Array Value) 107))) (n := w.heap.size + 1 + 1) (by simp) (.cells #[.int .i64 0, .int .i64 0] 141)
  obtain ⟨W0, hW0⟩ : ∃ W, (((w.alloc (.cells (#[.int .i64 a.a, .int .i64 a.b, .int .i64 a.c, .int .i64 a.d, .int .i64 a.e, .int .i64 a.f] : Array Value) 107)).alloc (.cells (#[.int .i64 b.a, .int .i64 b.b, .int .i64 b.c, .int .i64 b.d, .int .i64 b.e, .int .i64 b.f] : Array Value) 107)).alloc (.cells #[.int .i64 0, .int .i64 0] 141)) = W := ⟨_, rfl⟩
  obtain ⟨B0, hB0⟩ : ∃ B, w.heap.size = B := ⟨_, rfl⟩
  rw [hW0] at X0 b0_0 b0_1 b0_2
  rw [hB0] at b0_0 b0_1 b0_2
  have HZ0 : Hid (w.heap.size ≤ B0) := Lib.hid (by omega)
  have HW0 := Lib.hid hW0; have HB0 := Lib.hid hB0
  clear hW0 hB0
  have HC0 := Lib.hid b0_0; have HC1 := Lib.hid b0_1; have HC2 := Lib.hid b0_2
  go_enter Tryz.func81, Tryz.ntmps81
  go_wp2_with fail
  rw [HW0.out, HB0.out]
  clear HW0 HB0 b0_0 b0_1 b0_2
  refine (pvalid_walk a _).mono ?_
  rw [HA.out]
  rintro e w1 ⟨rfl, x1⟩
  have y1 := block_ext x1 HC1.out
  have p0 := block_cell y1 0 _ rfl; have p1 := block_cell y1 1 _ rfl; have p2 := block_cell y1 2 _ rfl; have p3 := block_cell y1 3 _ rfl; have p4 := block_cell y1 4 _ rfl; have p5 := block_cell y1 5 _ rfl
  clear y1
  go_wp2_with fail
  refine (pvalid_walk b _).mono ?_
  rw [HB.out]
  rintro e w2 ⟨rfl, x2⟩
  clear p0 p1 p2 p3 p4 p5
  have X2 := X0.trans (x1.trans x2)
  have q0 := block_ext (x1.trans x2) HC0.out
  have q1 := block_ext (x1.trans x2) HC1.out
  have q2 := block_ext (x1.trans x2) HC2.out
  have hz2 := X2.size
  clear HC0 HC1 HC2 x1 x2 X0
  have QQ := Lib.hid (show w2.heap[B0]? = some (.cells (V6.of fun j => if j < 0 then a.get j - b.get j else a.get j).cells 107 (0, 0)) ∧ w2.heap[B0 + 1]? = some (.cells b.cells 107 (0, 0)) ∧ w2.heap[B0 + 1 + 1]? = some (.cells #[.int .i64 0, .int .i64 0] 141 (0, 0)) from ⟨q0, q1, q2⟩)
  clear q0 q1 q2
  go_wp2
  go_loopw [16] (fun i wr => ∃ k : Nat, k ≤ 6 ∧ i = .int .i64 k ∧ wr.heap[B0]? = some (.cells (V6.of fun j => if j < k then a.get j - b.get j else a.get j).cells 107 (0, 0)) ∧ wr.heap[B0 + 1]? = some (.cells b.cells 107 (0, 0)) ∧ wr.heap[B0 + 1 + 1]? = some (.cells #[.int .i64 0, .int .i64 0] 141 (0, 0)) ∧ Ext w wr) (fun i _ => 6 - (intOf i).toNat)
  case atStart => exact ⟨0, by omega, rfl, QQ.out.1, QQ.out.2.1, QQ.out.2.2, X2⟩
  case round =>
    obtain ⟨k, hk, rfl, c0, c1, c2, X⟩ := hrel
    by_cases hlt : k < 6
    · obtain ⟨a1, a2⟩ := hba k hlt
      obtain ⟨b1, b2⟩ := hbb k hlt
      have g0 := block_cell c0 k _ (V6.cells_at _ hlt)
      have g1 := block_cell c1 k _ (V6.cells_at _ hlt)
      rw [V6.get_of _ hlt, if_neg (Nat.lt_irrefl k)] at g0
      obtain ⟨u, hu⟩ : ∃ u, a.get k = u := ⟨_, rfl⟩
      obtain ⟨v, hv⟩ : ∃ u, b.get k = u := ⟨_, rfl⟩
      have hput : (V6.of fun j => if j < k then a.get j - b.get j else a.get j).put k (u - v) = (V6.of fun j => if j < k + 1 then a.get j - b.get j else a.get j) := V6.ext' fun j hj => by
        rw [V6.put_get _ hlt _ hj, V6.get_of _ hj, V6.get_of _ hj]
        by_cases h : j = k
        · subst h; rw [if_pos rfl, if_pos (by omega), hu, hv]
        · rw [if_neg h]
          by_cases h' : j < k
          · rw [if_pos h', if_pos (by omega)]
          · rw [if_neg h', if_neg (by omega)]
      rw [hu] at g0 a1 a2; rw [hv] at g1 b1 b2
      have HPUT := Lib.hid hput
      clear hput hu hv
      have C0 := Lib.hid c0; have C1 := Lib.hid c1; have C2 := Lib.hid c2
      obtain ⟨wo, rfl⟩ : ∃ wo : World, wo = wr := ⟨_, rfl⟩
      have e0 := ext_cells g0
      have e1 := ext_cells g1
      have E1 : IntKind.i64.wrap (u - v) = u - v := IntWalk.i64_in _ (by omega)
      have i1 : (0 : Int) ≤ (k : Int) := by omega
      have i2 : (k : Int) < 6 := by omega
      clear c0 c1 c2 g0 g1
      go_upto_region 6 with fail
      refine wp_region_ord [(0,true), (1,true), (2,true), (3,true), (4,true), (5,true), (6,true), (7,true)] 8 Ext (Ext wo) wide (by kernel_rfl) (stable_ext _) (Ext.drawn _ _) ?_
      iterate 8 (first | (apply wpOrd_no rfl; rfl; (simp only [List.getElem_toArray, List.getElem_cons_succ, List.getElem_cons_zero, Act.put, List.setIfInBounds_toArray, List.set_cons_succ, List.set_cons_zero]; rfl)) | (apply wpOrd_yes rfl; rfl; (intro w' hw'; unfold opR; go_simp; exact ⟨Ext.refl _, rfl⟩); (simp only [List.getElem_toArray, List.getElem_cons_succ, List.getElem_cons_zero, Act.put, List.setIfInBounds_toArray, List.set_cons_succ, List.set_cons_zero]; rfl)))
      refine wpOrd_nil (l := [_]) rfl ?_
      intro w3 x3
      have d0 := block_ext x3 C0.out
      have d1 := block_ext x3 C1.out
      have d2 := block_ext x3 C2.out
      have h0 := e0 w3 x3
      have hf := block_free d0 k
      have n0 := block_set d0 k (.int .i64 (u - v))
      rw [V6.cells_put _ hlt, HPUT.out] at n0
      have n1 := block_ne d1 (g := B0) k (.int .i64 (u - v)) (by omega)
      have n2 := block_ne d2 (g := B0) k (.int .i64 (u - v)) (by omega)
      have N0 := Lib.hid n0; have N1 := Lib.hid n1; have N2 := Lib.hid n2
      have X3 := X.trans x3
      clear n0 n1 n2 d0 d1 d2 e0 e1 C0 C1 C2
      go_wp2
      go_roundw
      case rel => exact ⟨k + 1, by omega, by go_num, N0.out, N1.out, N2.out, X3.setCell (p := ⟨B0, k, none⟩) (by have := HZ0.out; show w.heap.size ≤ B0; omega) _⟩
      case measure => simp [intOf]; omega
    · obtain rfl : k = 6 := by omega
      have hs : (V6.of fun j => if j < 6 then a.get j - b.get j else a.get j) = a.sub b := V6.ext' fun j hj => by rw [V6.sub, V6.get_of _ hj, V6.get_of _ hj, if_pos hj]
      rw [hs] at c0
      clear hs hba hbb
      obtain ⟨r0, s0⟩ := block_rules c0
      have R0 : ∀ j, wr.cell? ⟨B0, j, none⟩ = (#[.int .i64 (a.sub b).a, .int .i64 (a.sub b).b, .int .i64 (a.sub b).c, .int .i64 (a.sub b).d, .int .i64 (a.sub b).e, .int .i64 (a.sub b).f] : Array Value)[j]? := r0
      have HC2 := Lib.hid c2
      clear r0 c0 c1 c2
      go_wp2_with fail
      refine (expo_walk (a.sub b) hw4 _ (G.ext X)).mono ?_
      rintro e w5 ⟨rfl, x5⟩
      obtain ⟨⟨zl, zh⟩, hz⟩ : ∃ z, expo (a.sub b) = z := ⟨_, rfl⟩
      have HZ := Lib.hid hz
      rw [hz]
      clear hz R0 s0
      have br := block_ext x5 HC2.out
      have b7 := setRow_at br #[.int .i64 zl, .int .i64 zh]
      have t0 := block_cell b7 0 _ rfl; have t1 := block_cell b7 1 _ rfl
      have HX7 := Lib.hid ((X.trans x5).setRow (g := B0 + 1 + 1) (by have := HZ0.out; omega) #[.int .i64 zl, .int .i64 zh])
      clear b7
      go_wp2_with (first | (refine wpList_store_row rfl _ _ _ rfl (B0 + 1 + 1) _ rfl rfl _ _ (br) (by kernel_rfl) rfl (by simp [Value.oneCell']) ?_) | fail)
      exact bodyPost_ret (v := .tuple #[.agg #[.int .i64 zl, .int .i64 zh], .int .i64 0]) (by simp [results, Tryz.results81, go_sem, t0, t1]) rfl ⟨by rw [HZ.out] <;> rfl, HX7.out⟩

set_option maxRecDepth 100000 in
set_option maxHeartbeats 4000000 in
theorem near_walk (a b : V6) (ha : within a 576 = true) (hb : within b 576 = true) (n : Int) (hn : 0 ≤ n ∧ n ≤ 2400000) (w : World) (G : Gl 0 w) : Calls Tryz.prog 55 #[.agg #[.int .i64 a.a, .int .i64 a.b, .int .i64 a.c, .int .i64 a.d, .int .i64 a.e, .int .i64 a.f], .agg #[.int .i64 b.a, .int .i64 b.b, .int .i64 b.c, .int .i64 b.d, .int .i64 b.e, .int .i64 b.f], .int .i64 n] w fun e w' => e = .returned (.tuple #[.int .i64 (surelyF (expo (a.sub b)) (-10000 * n) (10000 * n)), .int .i64 0]) ∧ Ext w w' := by
  have GW := Lib.hid fun w' (y : Ext w w') => gap_walk a b ha hb w' (G.ext y)
  obtain ⟨⟨zl, zh⟩, hz⟩ : ∃ z, expo (a.sub b) = z := ⟨_, rfl⟩
  rw [hz] at GW ⊢
  obtain ⟨r, hr⟩ : ∃ r, surelyF ⟨zl, zh⟩ (-10000 * n) (10000 * n) = r := ⟨_, rfl⟩
  have SW := Lib.hid fun w' => surely_walk ⟨zl, zh⟩ (-10000 * n) (10000 * n) w'
  rw [hr] at SW ⊢
  obtain ⟨n1, n2⟩ := hn
  clear hz hr ha hb
  have XA : Ext w ((w.alloc (.cells (#[.int .i64 a.a, .int .i64 a.b, .int .i64 a.c, .int .i64 a.d, .int .i64 a.e, .int .i64 a.f] : Array Value) 107)).alloc (.cells (#[.int .i64 b.a, .int .i64 b.b, .int .i64 b.c, .int .i64 b.d, .int .i64 b.e, .int .i64 b.f] : Array Value) 107)) := (by repeat (first | with_reducible exact Ext.refl _ | with_reducible assumption | with_reducible apply Ext.alloc | with_reducible apply Ext.drew | (with_reducible refine Ext.setCell ?_ (by (try simp) <;> omega) _)))
  go_enter Tryz.func55, Tryz.ntmps55
  go_wp2_with fail
  refine (GW.out _ XA).mono ?_
  rintro e w1 ⟨rfl, x1⟩
  have e1 := Ext.alloc' w1 (.cells #[.int .i64 zl, .int .i64 zh] 141)
  have b1 := block_new w1 (.cells #[.int .i64 zl, .int .i64 zh] 141)
  have X1 := XA.trans (x1.trans e1)
  go_wp2_with fail
  refine (SW.out _).mono ?_
  rintro e w2 ⟨rfl, x2⟩
  have HX := Lib.hid (X1.trans x2)
  go_wp2
  exact bodyPost_ret (v := .tuple #[.int .i64 r, .int .i64 0]) (by simp [results, Tryz.results55, go_sem]) rfl ⟨rfl, HX.out⟩
end Go.Proofs.YtgfaiihekibcbaaGreatDoor
