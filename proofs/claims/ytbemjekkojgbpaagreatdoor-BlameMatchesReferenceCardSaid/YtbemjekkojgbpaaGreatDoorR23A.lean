/-
  Walks of the reference: Few, Plus, Minus.
-/
import Derived.Test.YtbemjekkojgbpaaGreatDoorLibV
set_option linter.unusedVariables false
namespace Go.Proofs.YtbemjekkojgbpaaGreatDoor
open Go.RowKit Go.Sx Go.Sx.Sz Go.Sx.Sc Go.Sx.Po

set_option maxRecDepth 100000 in
set_option maxHeartbeats 1000000 in
theorem rfew_walk (vn vp vc : Value) (s : Sc) (w : World) (S : ScR w vn vp vc s) : Calls Tryz.prog 5 #[.agg #[.int .i64 s.voices, vn, vp, vc]] w fun e w' => e = .returned (.bool (decide (s.notes.length ≤ 40) && decide (s.pairs.length ≤ 60))) ∧ Ext w w' := by
  obtain ⟨an, cn, rfl, -, -, hln⟩ := S.nt.len
  obtain ⟨ap, cp, rfl, -, -, hlp⟩ := S.pr.len
  obtain ⟨ac, cc, rfl, -, -, hlc⟩ := S.cd.len
  have X0 : Ext w (w.alloc (.cells #[.int .i64 s.voices, .slice an s.notes.length cn, .slice ap s.pairs.length cp, .slice ac s.cads.length cc] 26)) := (by repeat (first | with_reducible exact Ext.refl _ | with_reducible assumption | with_reducible apply Ext.alloc | with_reducible apply Ext.drew | (with_reducible refine Ext.setCell ?_ (by (try simp) <;> omega) _)))
  have b0_0 := block_new w (.cells #[.int .i64 s.voices, .slice an s.notes.length cn, .slice ap s.pairs.length cp, .slice ac s.cads.length cc] 26)
  obtain ⟨W0, hW0⟩ : ∃ W, (w.alloc (.cells #[.int .i64 s.voices, .slice an s.notes.length cn, .slice ap s.pairs.length cp, .slice ac s.cads.length cc] 26)) = W := ⟨_, rfl⟩
  obtain ⟨B0, hB0⟩ : ∃ B, w.heap.size = B := ⟨_, rfl⟩
  rw [hW0] at X0 b0_0
  rw [hB0] at b0_0
  have HZ0 : Hid (w.heap.size ≤ B0) := Lib.hid (by omega)
  have HW0 := Lib.hid hW0; have HB0 := Lib.hid hB0
  clear hW0 hB0
  have c1 := block_cell b0_0 1 _ rfl
  have c2 := block_cell b0_0 2 _ rfl
  clear b0_0 S
  obtain ⟨r, hr⟩ : ∃ r, (decide (s.notes.length ≤ 40) && decide (s.pairs.length ≤ 60)) = r := ⟨_, rfl⟩
  rw [hr]
  have HR := Lib.hid hr
  clear hr
  by_cases h1 : s.notes.length ≤ 40
  · by_cases h2 : s.pairs.length ≤ 60
    · have t1 : decide (s.notes.length ≤ 40) = true := decide_eq_true h1
      have t2 : decide (s.pairs.length ≤ 60) = true := decide_eq_true h2
      have HQ : Hid (r = true) := Lib.hid (by rw [← HR.out, t1, t2]; rfl)
      have u1 : decide ((s.notes.length : Int) ≤ 40) = true := decide_eq_true (by omega)
      have u2 : decide ((s.pairs.length : Int) ≤ 60) = true := decide_eq_true (by omega)
      clear h1 h2
      go_enter Tryz.func5, Tryz.ntmps5
      go_wp2
      go_ret
      exact ⟨by rw [HQ.out] <;> rfl, by rw [HW0.out]; exact X0⟩
    · have t1 : decide (s.notes.length ≤ 40) = true := decide_eq_true h1
      have t2 : decide (s.pairs.length ≤ 60) = false := decide_eq_false h2
      have HQ : Hid (r = false) := Lib.hid (by rw [← HR.out, t1, t2]; rfl)
      have u1 : decide ((s.notes.length : Int) ≤ 40) = true := decide_eq_true (by omega)
      have u2 : decide ((s.pairs.length : Int) ≤ 60) = false := decide_eq_false (by omega)
      clear h1 h2
      go_enter Tryz.func5, Tryz.ntmps5
      go_wp2
      go_ret
      exact ⟨by rw [HQ.out] <;> rfl, by rw [HW0.out]; exact X0⟩
  · have t1 : decide (s.notes.length ≤ 40) = false := decide_eq_false h1
    have HQ : Hid (r = false) := Lib.hid (by rw [← HR.out, t1]; rfl)
    have u1 : decide ((s.notes.length : Int) ≤ 40) = false := decide_eq_false (by omega)
    clear h1
    go_enter Tryz.func5, Tryz.ntmps5
    go_wp2
    go_ret
    exact ⟨by rw [HQ.out] <;> rfl, by rw [HW0.out]; exact X0⟩

set_option maxRecDepth 100000 in
set_option maxHeartbeats 4000000 in
theorem rplus_walk (a b : V6) (ha : Sml 1000000 a) (hb : Sml 1000000 b) (w : World) : Calls Tryz.prog 42 #[.agg #[.int .i64 a.a, .int .i64 a.b, .int .i64 a.c, .int .i64 a.d, .int .i64 a.e, .int .i64 a.f], .agg #[.int .i64 b.a, .int .i64 b.b, .int .i64 b.c, .int .i64 b.d, .int .i64 b.e, .int .i64 b.f]] w fun e w' => e = .returned (.agg #[.int .i64 (a.add b (1)).a, .int .i64 (a.add b (1)).b, .int .i64 (a.add b (1)).c, .int .i64 (a.add b (1)).d, .int .i64 (a.add b (1)).e, .int .i64 (a.add b (1)).f]) ∧ Ext w w' := by
  have X0 : Ext w (((w.alloc (.cells (#[.int .i64 a.a, .int .i64 a.b, .int .i64 a.c, .int .i64 a.d, .int .i64 a.e, .int .i64 a.f] : Array Value) 45)).alloc (.cells (#[.int .i64 b.a, .int .i64 b.b, .int .i64 b.c, .int .i64 b.d, .int .i64 b.e, .int .i64 b.f] : Array Value) 45)).alloc (.cells #[.int .i64 0, .int .i64 0, .int .i64 0, .int .i64 0, .int .i64 0, .int .i64 0] 45)) := (by repeat (first | with_reducible exact Ext.refl _ | with_reducible assumption | with_reducible apply Ext.alloc | with_reducible apply Ext.drew | (with_reducible refine Ext.setCell ?_ (by (try simp) <;> omega) _)))
  have b0_0 := block_alloc (block_alloc (block_new w (.cells (#[.int .i64 a.a, .int .i64 a.b, .int .i64 a.c, .int .i64 a.d, .int .i64 a.e, .int .i64 a.f] : Array Value) 45)) (.cells (#[.int .i64 b.a, .int .i64 b.b, .int .i64 b.c, .int .i64 b.d, .int .i64 b.e, .int .i64 b.f] : Array Value) 45)) (.cells #[.int .i64 0, .int .i64 0, .int .i64 0, .int .i64 0, .int .i64 0, .int .i64 0] 45)
  have b0_1 := block_alloc (block_at (w := (w.alloc (.cells (#[.int .i64 a.a, .int .i64 a.b, .int .i64 a.c, .int .i64 a.d, .int .i64 a.e, .int .i64 a.f] : Array Value) 45))) (n := w.heap.size + 1) (by simp) (.cells (#[.int .i64 b.a, .int .i64 b.b, .int .i64 b.c, .int .i64 b.d, .int .i64 b.e, .int .i64 b.f] : Array Value) 45)) (.cells #[.int .i64 0, .int .i64 0, .int .i64 0, .int .i64 0, .int .i64 0, .int .i64 0] 45)
  have b0_2 := block_at (w := ((w.alloc (.cells (#[.int .i64 a.a, .int .i64 a.b, .int .i64 a.c, .int .i64 a.d, .int .i64 a.e, .int .i64 a.f] : Array Value) 45)).alloc (.cells (#[.int .i64 b.a, .int .i64 b.b, .int .i64 b.c, .int .i64 b.d, .int .i64 b.e, .int .i64 b.f] : Array Value) 45))) (n := w.heap.size + 1 + 1) (by simp) (.cells #[.int .i64 0, .int .i64 0, .int .i64 0, .int .i64 0, .int .i64 0, .int .i64 0] 45)
  obtain ⟨W0, hW0⟩ : ∃ W, (((w.alloc (.cells (#[.int .i64 a.a, .int .i64 a.b, .int .i64 a.c, .int .i64 a.d, .int .i64 a.e, .int .i64 a.f] : Array Value) 45)).alloc (.cells (#[.int .i64 b.a, .int .i64 b.b, .int .i64 b.c, .int .i64 b.d, .int .i64 b.e, .int .i64 b.f] : Array Value) 45)).alloc (.cells #[.int .i64 0, .int .i64 0, .int .i64 0, .int .i64 0, .int .i64 0, .int .i64 0] 45)) = W := ⟨_, rfl⟩
  obtain ⟨B0, hB0⟩ : ∃ B, w.heap.size = B := ⟨_, rfl⟩
  rw [hW0] at X0 b0_0 b0_1 b0_2
  rw [hB0] at b0_0 b0_1 b0_2
  have HZ0 : Hid (w.heap.size ≤ B0) := Lib.hid (by omega)
  have HW0 := Lib.hid hW0; have HB0 := Lib.hid hB0
  clear hW0 hB0
  have HA := Lib.hid (show W0.heap[B0]? = some (.cells (V6.of fun j => if j < 0 then a.get j + b.get j else a.get j).cells 45 (0, 0)) from b0_0)
  have HBB := Lib.hid (show W0.heap[B0 + 1]? = some (.cells b.cells 45 (0, 0)) from b0_1); have HR := Lib.hid b0_2
  have HBA := Lib.hid ha; have HBC := Lib.hid hb
  clear b0_0 b0_1 b0_2 ha hb
  go_enter Tryz.func42, Tryz.ntmps42
  go_wp2
  rw [HW0.out, HB0.out]
  clear HW0 HB0
  go_loopw [5] (fun i wr => ∃ k : Nat, k ≤ 6 ∧ i = .int .i64 k ∧ wr.heap[B0]? = some (.cells (V6.of fun j => if j < k then a.get j + b.get j else a.get j).cells 45 (0, 0)) ∧ wr.heap[B0 + 1]? = some (.cells b.cells 45 (0, 0)) ∧ wr.heap[B0 + 1 + 1]? = some (.cells #[.int .i64 0, .int .i64 0, .int .i64 0, .int .i64 0, .int .i64 0, .int .i64 0] 45 (0, 0)) ∧ Ext w wr) (fun i _ => 6 - (intOf i).toNat)
  case atStart => exact ⟨0, by omega, by first | rfl | trivial, HA.out, HBB.out, HR.out, X0⟩
  case round =>
    obtain ⟨k, hk, rfl, c0, c1, c2, X⟩ := hrel
    clear HA HBB HR
    by_cases hlt : k < 6
    · obtain ⟨a1, a2⟩ := HBA.out k hlt
      obtain ⟨b1, b2⟩ := HBC.out k hlt
      have g0 := block_cell c0 k _ (V6.cells_at _ hlt)
      have g1 := block_cell c1 k _ (V6.cells_at _ hlt)
      rw [V6.get_of _ hlt, if_neg (Nat.lt_irrefl k)] at g0
      obtain ⟨u, hu⟩ : ∃ u, a.get k = u := ⟨_, rfl⟩
      obtain ⟨v, hv⟩ : ∃ u, b.get k = u := ⟨_, rfl⟩
      have hput : (V6.of fun j => if j < k then a.get j + b.get j else a.get j).put k (u + v) = (V6.of fun j => if j < k + 1 then a.get j + b.get j else a.get j) := V6.ext' fun j hj => by
        rw [V6.put_get _ hlt _ hj, V6.get_of _ hj, V6.get_of _ hj]
        by_cases h : j = k
        · subst h; rw [if_pos rfl, if_pos (by omega), hu, hv]
        · rw [if_neg h]
          by_cases h' : j < k
          · rw [if_pos h', if_pos (by omega)]
          · rw [if_neg h', if_neg (by omega)]
      rw [hu] at g0 a1 a2; rw [hv] at g1 b1 b2
      have HPUT := Lib.hid hput
      clear hput hu hv
      have C0 := Lib.hid c0; have C1 := Lib.hid c1; have C2 := Lib.hid c2
      obtain ⟨wo, rfl⟩ : ∃ wo : World, wo = wr := ⟨_, rfl⟩
      have e0 := ext_cells g0
      have e1 := ext_cells g1
      have E1 : IntKind.i64.wrap (u + v) = u + v := IntWalk.i64_in _ (by omega)
      have i1 : (0 : Int) ≤ (k : Int) := by omega
      have i2 : (k : Int) < 6 := by omega
      clear c0 c1 c2 g0 g1
      go_upto_region 4 with fail
      refine wp_region_ord [(0,true), (1,true), (2,true), (3,true), (4,true), (5,true), (6,true), (7,true)] 8 Ext (Ext wo) wide (by kernel_rfl) (stable_ext _) (Ext.drawn _ _) ?_
      iterate 8 (first | (apply wpOrd_no rfl; rfl; (simp only [List.getElem_toArray, List.getElem_cons_succ, List.getElem_cons_zero, Act.put, List.setIfInBounds_toArray, List.set_cons_succ, List.set_cons_zero]; rfl)) | (apply wpOrd_yes rfl; rfl; (intro w' hw'; unfold opR; go_simp; exact ⟨Ext.refl _, rfl⟩); (simp only [List.getElem_toArray, List.getElem_cons_succ, List.getElem_cons_zero, Act.put, List.setIfInBounds_toArray, List.set_cons_succ, List.set_cons_zero]; rfl)))
      refine wpOrd_nil (l := [_]) rfl ?_
      intro w3 x3
      have d0 := block_ext x3 C0.out
      have d1 := block_ext x3 C1.out
      have d2 := block_ext x3 C2.out
      have h0 := e0 w3 x3
      have hf := block_free d0 k
      have n0 := block_set d0 k (.int .i64 (u + v))
      rw [V6.cells_put _ hlt, HPUT.out] at n0
      have n1 := block_ne d1 (g := B0) k (.int .i64 (u + v)) (by omega)
      have n2 := block_ne d2 (g := B0) k (.int .i64 (u + v)) (by omega)
      have N0 := Lib.hid n0; have N1 := Lib.hid n1; have N2 := Lib.hid n2
      have X3 := X.trans x3
      clear n0 n1 n2 d0 d1 d2 e0 e1 C0 C1 C2
      go_wp2
      go_roundw
      case rel => exact ⟨k + 1, by omega, by go_num, N0.out, N1.out, N2.out, X3.setCell (p := ⟨B0, k, none⟩) (by have := HZ0.out; show w.heap.size ≤ B0; omega) _⟩
      case measure => simp [intOf]; omega
    · obtain rfl : k = 6 := by omega
      have hs : (V6.of fun j => if j < 6 then a.get j + b.get j else a.get j) = a.add b (1) := V6.ext' fun j hj => by rw [V6.add_get _ _ _ hj, V6.get_of _ hj, if_pos hj]; omega
      rw [hs] at c0
      obtain ⟨r, hr⟩ : ∃ r, a.add b (1) = r := ⟨_, rfl⟩
      have HRE := Lib.hid hr
      rw [hr] at c0
      clear hr hs
      have hA : wr.heap[B0]? = some (.cells (#[.int .i64 r.a, .int .i64 r.b, .int .i64 r.c, .int .i64 r.d, .int .i64 r.e, .int .i64 r.f] : Array Value) 45 (0, 0)) := c0
      have r0 := block_cell hA 0 _ rfl; have r1 := block_cell hA 1 _ rfl; have r2 := block_cell hA 2 _ rfl; have r3 := block_cell hA 3 _ rfl; have r4 := block_cell hA 4 _ rfl; have r5 := block_cell hA 5 _ rfl
      have n2 := setRow_at c2 (#[.int .i64 r.a, .int .i64 r.b, .int .i64 r.c, .int .i64 r.d, .int .i64 r.e, .int .i64 r.f] : Array Value)
      have XX := X.setRow (g := B0 + 1 + 1) (by have := HZ0.out; omega) (#[.int .i64 r.a, .int .i64 r.b, .int .i64 r.c, .int .i64 r.d, .int .i64 r.e, .int .i64 r.f] : Array Value)
      have e0 := block_cell n2 0 _ rfl; have e1 := block_cell n2 1 _ rfl; have e2 := block_cell n2 2 _ rfl; have e3 := block_cell n2 3 _ rfl; have e4 := block_cell n2 4 _ rfl; have e5 := block_cell n2 5 _ rfl
      have HRR := Lib.hid c2
      clear c0 hA c1 c2 n2
      go_wp2_with (first | (refine wpList_store_row rfl _ _ _ rfl (B0 + 1 + 1) _ rfl rfl _ _ HRR.out (by kernel_rfl) rfl (by simp [Value.oneCell']) ?_) | fail)
      refine bodyPost_ret (v := .agg #[.int .i64 r.a, .int .i64 r.b, .int .i64 r.c, .int .i64 r.d, .int .i64 r.e, .int .i64 r.f]) (by simp [results, Tryz.results42, go_sem, e0, e1, e2, e3, e4, e5]) rfl ⟨by rw [HRE.out], XX⟩

set_option maxRecDepth 100000 in
set_option maxHeartbeats 4000000 in
theorem rminus_walk (a b : V6) (ha : Sml 1000000 a) (hb : Sml 1000000 b) (w : World) : Calls Tryz.prog 76 #[.agg #[.int .i64 a.a, .int .i64 a.b, .int .i64 a.c, .int .i64 a.d, .int .i64 a.e, .int .i64 a.f], .agg #[.int .i64 b.a, .int .i64 b.b, .int .i64 b.c, .int .i64 b.d, .int .i64 b.e, .int .i64 b.f]] w fun e w' => e = .returned (.agg #[.int .i64 (a.add b (-1)).a, .int .i64 (a.add b (-1)).b, .int .i64 (a.add b (-1)).c, .int .i64 (a.add b (-1)).d, .int .i64 (a.add b (-1)).e, .int .i64 (a.add b (-1)).f]) ∧ Ext w w' := by
  have X0 : Ext w (((w.alloc (.cells (#[.int .i64 a.a, .int .i64 a.b, .int .i64 a.c, .int .i64 a.d, .int .i64 a.e, .int .i64 a.f] : Array Value) 45)).alloc (.cells (#[.int .i64 b.a, .int .i64 b.b, .int .i64 b.c, .int .i64 b.d, .int .i64 b.e, .int .i64 b.f] : Array Value) 45)).alloc (.cells #[.int .i64 0, .int .i64 0, .int .i64 0, .int .i64 0, .int .i64 0, .int .i64 0] 45)) := (by repeat (first | with_reducible exact Ext.refl _ | with_reducible assumption | with_reducible apply Ext.alloc | with_reducible apply Ext.drew | (with_reducible refine Ext.setCell ?_ (by (try simp) <;> omega) _)))
  have b0_0 := block_alloc (block_alloc (block_new w (.cells (#[.int .i64 a.a, .int .i64 a.b, .int .i64 a.c, .int .i64 a.d, .int .i64 a.e, .int .i64 a.f] : Array Value) 45)) (.cells (#[.int .i64 b.a, .int .i64 b.b, .int .i64 b.c, .int .i64 b.d, .int .i64 b.e, .int .i64 b.f] : Array Value) 45)) (.cells #[.int .i64 0, .int .i64 0, .int .i64 0, .int .i64 0, .int .i64 0, .int .i64 0] 45)
  have b0_1 := block_alloc (block_at (w := (w.alloc (.cells (#[.int .i64 a.a, .int .i64 a.b, .int .i64 a.c, .int .i64 a.d, .int .i64 a.e, .int .i64 a.f] : Array Value) 45))) (n := w.heap.size + 1) (by simp) (.cells (#[.int .i64 b.a, .int .i64 b.b, .int .i64 b.c, .int .i64 b.d, .int .i64 b.e, .int .i64 b.f] : Array Value) 45)) (.cells #[.int .i64 0, .int .i64 0, .int .i64 0, .int .i64 0, .int .i64 0, .int .i64 0] 45)
  have b0_2 := block_at (w := ((w.alloc (.cells (#[.int .i64 a.a, .int .i64 a.b, .int .i64 a.c, .int .i64 a.d, .int .i64 a.e, .int .i64 a.f] : Array Value) 45)).alloc (.cells (#[.int .i64 b.a, .int .i64 b.b, .int .i64 b.c, .int .i64 b.d, .int .i64 b.e, .int .i64 b.f] : Array Value) 45))) (n := w.heap.size + 1 + 1) (by simp) (.cells #[.int .i64 0, .int .i64 0, .int .i64 0, .int .i64 0, .int .i64 0, .int .i64 0] 45)
  obtain ⟨W0, hW0⟩ : ∃ W, (((w.alloc (.cells (#[.int .i64 a.a, .int .i64 a.b, .int .i64 a.c, .int .i64 a.d, .int .i64 a.e, .int .i64 a.f] : Array Value) 45)).alloc (.cells (#[.int .i64 b.a, .int .i64 b.b, .int .i64 b.c, .int .i64 b.d, .int .i64 b.e, .int .i64 b.f] : Array Value) 45)).alloc (.cells #[.int .i64 0, .int .i64 0, .int .i64 0, .int .i64 0, .int .i64 0, .int .i64 0] 45)) = W := ⟨_, rfl⟩
  obtain ⟨B0, hB0⟩ : ∃ B, w.heap.size = B := ⟨_, rfl⟩
  rw [hW0] at X0 b0_0 b0_1 b0_2
  rw [hB0] at b0_0 b0_1 b0_2
  have HZ0 : Hid (w.heap.size ≤ B0) := Lib.hid (by omega)
  have HW0 := Lib.hid hW0; have HB0 := Lib.hid hB0
  clear hW0 hB0
  have HA := Lib.hid (show W0.heap[B0]? = some (.cells (V6.of fun j => if j < 0 then a.get j - b.get j else a.get j).cells 45 (0, 0)) from b0_0)
  have HBB := Lib.hid (show W0.heap[B0 + 1]? = some (.cells b.cells 45 (0, 0)) from b0_1); have HR := Lib.hid b0_2
  have HBA := Lib.hid ha; have HBC := Lib.hid hb
  clear b0_0 b0_1 b0_2 ha hb
  go_enter Tryz.func76, Tryz.ntmps76
  go_wp2
  rw [HW0.out, HB0.out]
  clear HW0 HB0
  go_loopw [5] (fun i wr => ∃ k : Nat, k ≤ 6 ∧ i = .int .i64 k ∧ wr.heap[B0]? = some (.cells (V6.of fun j => if j < k then a.get j - b.get j else a.get j).cells 45 (0, 0)) ∧ wr.heap[B0 + 1]? = some (.cells b.cells 45 (0, 0)) ∧ wr.heap[B0 + 1 + 1]? = some (.cells #[.int .i64 0, .int .i64 0, .int .i64 0, .int .i64 0, .int .i64 0, .int .i64 0] 45 (0, 0)) ∧ Ext w wr) (fun i _ => 6 - (intOf i).toNat)
  case atStart => exact ⟨0, by omega, by first | rfl | trivial, HA.out, HBB.out, HR.out, X0⟩
  case round =>
    obtain ⟨k, hk, rfl, c0, c1, c2, X⟩ := hrel
    clear HA HBB HR
    by_cases hlt : k < 6
    · obtain ⟨a1, a2⟩ := HBA.out k hlt
      obtain ⟨b1, b2⟩ := HBC.out k hlt
      have g0 := block_cell c0 k _ (V6.cells_at _ hlt)
      have g1 := block_cell c1 k _ (V6.cells_at _ hlt)
      rw [V6.get_of _ hlt, if_neg (Nat.lt_irrefl k)] at g0
      obtain ⟨u, hu⟩ : ∃ u, a.get k = u := ⟨_, rfl⟩
      obtain ⟨v, hv⟩ : ∃ u, b.get k = u := ⟨_, rfl⟩
      have hput : (V6.of fun j => if j < k then a.get j - b.get j else a.get j).put k (u - v) = (V6.of fun j => if j < k + 1 then a.get j - b.get j else a.get j) := V6.ext' fun j hj => by
        rw [V6.put_get _ hlt _ hj, V6.get_of _ hj, V6.get_of _ hj]
        by_cases h : j = k
        · subst h; rw [if_pos rfl, if_pos (by omega), hu, hv]
        · rw [if_neg h]
          by_cases h' : j < k
          · rw [if_pos h', if_pos (by omega)]
          · rw [if_neg h', if_neg (by omega)]
      rw [hu] at g0 a1 a2; rw [hv] at g1 b1 b2
      have HPUT := Lib.hid hput
      clear hput hu hv
      have C0 := Lib.hid c0; have C1 := Lib.hid c1; have C2 := Lib.hid c2
      obtain ⟨wo, rfl⟩ : ∃ wo : World, wo = wr := ⟨_, rfl⟩
      have e0 := ext_cells g0
      have e1 := ext_cells g1
      have E1 : IntKind.i64.wrap (u - v) = u - v := IntWalk.i64_in _ (by omega)
      have i1 : (0 : Int) ≤ (k : Int) := by omega
      have i2 : (k : Int) < 6 := by omega
      clear c0 c1 c2 g0 g1
      go_upto_region 4 with fail
      refine wp_region_ord [(0,true), (1,true), (2,true), (3,true), (4,true), (5,true), (6,true), (7,true)] 8 Ext (Ext wo) wide (by kernel_rfl) (stable_ext _) (Ext.drawn _ _) ?_
      iterate 8 (first | (apply wpOrd_no rfl; rfl; (simp only [List.getElem_toArray, List.getElem_cons_succ, List.getElem_cons_zero, Act.put, List.setIfInBounds_toArray, List.set_cons_succ, List.set_cons_zero]; rfl)) | (apply wpOrd_yes rfl; rfl; (intro w' hw'; unfold opR; go_simp; exact ⟨Ext.refl _, rfl⟩); (simp only [List.getElem_toArray, List.getElem_cons_succ, List.getElem_cons_zero, Act.put, List.setIfInBounds_toArray, List.set_cons_succ, List.set_cons_zero]; rfl)))
      refine wpOrd_nil (l := [_]) rfl ?_
      intro w3 x3
      have d0 := block_ext x3 C0.out
      have d1 := block_ext x3 C1.out
      have d2 := block_ext x3 C2.out
      have h0 := e0 w3 x3
      have hf := block_free d0 k
      have n0 := block_set d0 k (.int .i64 (u - v))
      rw [V6.cells_put _ hlt, HPUT.out] at n0
      have n1 := block_ne d1 (g := B0) k (.int .i64 (u - v)) (by omega)
      have n2 := block_ne d2 (g := B0) k (.int .i64 (u - v)) (by omega)
      have N0 := Lib.hid n0; have N1 := Lib.hid n1; have N2 := Lib.hid n2
      have X3 := X.trans x3
      clear n0 n1 n2 d0 d1 d2 e0 e1 C0 C1 C2
      go_wp2
      go_roundw
      case rel => exact ⟨k + 1, by omega, by go_num, N0.out, N1.out, N2.out, X3.setCell (p := ⟨B0, k, none⟩) (by have := HZ0.out; show w.heap.size ≤ B0; omega) _⟩
      case measure => simp [intOf]; omega
    · obtain rfl : k = 6 := by omega
      have hs : (V6.of fun j => if j < 6 then a.get j - b.get j else a.get j) = a.add b (-1) := V6.ext' fun j hj => by rw [V6.add_get _ _ _ hj, V6.get_of _ hj, if_pos hj]; omega
      rw [hs] at c0
      obtain ⟨r, hr⟩ : ∃ r, a.add b (-1) = r := ⟨_, rfl⟩
      have HRE := Lib.hid hr
      rw [hr] at c0
      clear hr hs
      have hA : wr.heap[B0]? = some (.cells (#[.int .i64 r.a, .int .i64 r.b, .int .i64 r.c, .int .i64 r.d, .int .i64 r.e, .int .i64 r.f] : Array Value) 45 (0, 0)) := c0
      have r0 := block_cell hA 0 _ rfl; have r1 := block_cell hA 1 _ rfl; have r2 := block_cell hA 2 _ rfl; have r3 := block_cell hA 3 _ rfl; have r4 := block_cell hA 4 _ rfl; have r5 := block_cell hA 5 _ rfl
      have n2 := setRow_at c2 (#[.int .i64 r.a, .int .i64 r.b, .int .i64 r.c, .int .i64 r.d, .int .i64 r.e, .int .i64 r.f] : Array Value)
      have XX := X.setRow (g := B0 + 1 + 1) (by have := HZ0.out; omega) (#[.int .i64 r.a, .int .i64 r.b, .int .i64 r.c, .int .i64 r.d, .int .i64 r.e, .int .i64 r.f] : Array Value)
      have e0 := block_cell n2 0 _ rfl; have e1 := block_cell n2 1 _ rfl; have e2 := block_cell n2 2 _ rfl; have e3 := block_cell n2 3 _ rfl; have e4 := block_cell n2 4 _ rfl; have e5 := block_cell n2 5 _ rfl
      have HRR := Lib.hid c2
      clear c0 hA c1 c2 n2
      go_wp2_with (first | (refine wpList_store_row rfl _ _ _ rfl (B0 + 1 + 1) _ rfl rfl _ _ HRR.out (by kernel_rfl) rfl (by simp [Value.oneCell']) ?_) | fail)
      refine bodyPost_ret (v := .agg #[.int .i64 r.a, .int .i64 r.b, .int .i64 r.c, .int .i64 r.d, .int .i64 r.e, .int .i64 r.f]) (by simp [results, Tryz.results76, go_sem, e0, e1, e2, e3, e4, e5]) rfl ⟨by rw [HRE.out], XX⟩
end Go.Proofs.YtbemjekkojgbpaaGreatDoor
