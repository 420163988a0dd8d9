/-
  Walks of potential: add, round, section, ranged, pitch.
-/
import Derived.Test.YtdpegkkbhanjkaaDoorPlA
import Derived.Test.YtdpegkkbhanjkaaDoorScG
import Derived.Test.YtdpegkkbhanjkaaDoorLibP
import Derived.Test.YtdpegkkbhanjkaaDoorSzA
set_option linter.unusedVariables false
namespace Go.Sx.Po
open Go.Sx.Sz
/-- The first k exponents of a sum. -/
def addK (a b : V6) (n : Int) (k : Nat) : V6 := V6.of fun j => if j < k then a.get j + n * b.get j else a.get j
theorem addK_zero (a b : V6) (n : Int) : addK a b n 0 = a := V6.ext' fun k hk => by rw [addK, V6.get_of _ hk, if_neg (by omega)]
theorem addK_six (a b : V6) (n : Int) : addK a b n 6 = a.add b n := V6.ext' fun k hk => by rw [addK, V6.get_of _ hk, if_pos hk, V6.add, V6.get_of _ hk]
theorem addK_get (a b : V6) (n : Int) {k : Nat} (hk : k < 6) : (addK a b n k).get k = a.get k := by rw [addK, V6.get_of _ hk, if_neg (by omega)]
theorem addK_succ (a b : V6) (n : Int) {k : Nat} (hk : k < 6) : (addK a b n (k + 1)).cells = (addK a b n k).cells.setIfInBounds k (.int .i64 (a.get k + n * b.get k)) := by
  rcases lt6 hk with rfl | rfl | rfl | rfl | rfl | rfl <;> rfl
/-- Exponents that no sum of a few hundred takes out of range. -/
def Sml (M : Int) (x : V6) : Prop := ∀ k, k < 6 → -M ≤ x.get k ∧ x.get k ≤ M
theorem Sml.of {x : V6} {M : Int} (h : within x M = true) : Sml M x := Sz.within_iff.1 h
theorem Sml.mono {x : V6} {M N : Int} (h : Sml M x) (hn : M ≤ N) : Sml N x := fun k hk => by have := h k hk; omega
theorem Sml.zero {M : Int} (h : 0 ≤ M) : Sml M V6.zero := fun k hk => by
  rcases lt6 hk with rfl | rfl | rfl | rfl | rfl | rfl <;> exact ⟨by show -M ≤ (0 : Int); omega, by show (0 : Int) ≤ M; omega⟩
theorem Sml.add {x y : V6} {M N n : Int} (hx : Sml M x) (hy : Sml N y) (hn : n = 1 ∨ n = -1) : Sml (M + N) (x.add y n) := fun k hk => by
  have a := hx k hk; have b := hy k hk
  rw [V6.add, V6.get_of _ hk]
  rcases hn with rfl | rfl <;> omega
end Go.Sx.Po
namespace Go.Proofs.YtdpegkkbhanjkaaDoor
open Go.RowKit Go.Sx Go.Sx.Sz Go.Sx.Sc Go.Sx.Po

set_option maxRecDepth 100000 in
set_option maxHeartbeats 2000000 in
theorem padd_walk (a b : V6) (n : Int) (hn : n = 1 ∨ n = -1) (ha : Sml 1000000 a) (hb : Sml 1000000 b) (w : World) :
    Calls Tryd.prog 39 #[.agg #[.int .i64 a.a, .int .i64 a.b, .int .i64 a.c, .int .i64 a.d, .int .i64 a.e, .int .i64 a.f], .agg #[.int .i64 b.a, .int .i64 b.b, .int .i64 b.c, .int .i64 b.d, .int .i64 b.e, .int .i64 b.f], .int .i64 n] w fun e w' => e = .returned (.agg #[.int .i64 (a.add b n).a, .int .i64 (a.add b n).b, .int .i64 (a.add b n).c, .int .i64 (a.add b n).d, .int .i64 (a.add b n).e, .int .i64 (a.add b n).f]) ∧ Ext w w' := by
  have ix := fun (k : Nat) (hk : k < 6) (w : World) => run_index_v6 (P := Tryd.prog) (t := 41) Tryd.underlying41 Tryd.underlying3 (by kernel_rfl) b hk w
  have X0 : Ext w (((w.alloc (.cells (#[.int .i64 a.a, .int .i64 a.b, .int .i64 a.c, .int .i64 a.d, .int .i64 a.e, .int .i64 a.f] : Array Value) 41)).alloc (.cells (#[.int .i64 b.a, .int .i64 b.b, .int .i64 b.c, .int .i64 b.d, .int .i64 b.e, .int .i64 b.f] : Array Value) 41)).alloc (.cells #[.int .i64 0, .int .i64 0, .int .i64 0, .int .i64 0, .int .i64 0, .int .i64 0] 41)) := (by repeat (first | with_reducible exact Ext.refl _ | with_reducible assumption | with_reducible apply Ext.alloc | with_reducible apply Ext.drew | (with_reducible refine Ext.setCell ?_ (by (try simp) <;> omega) _)))
  have b0_0 := block_alloc (block_alloc (block_new w (.cells (#[.int .i64 a.a, .int .i64 a.b, .int .i64 a.c, .int .i64 a.d, .int .i64 a.e, .int .i64 a.f] : Array Value) 41)) (.cells (#[.int .i64 b.a, .int .i64 b.b, .int .i64 b.c, .int .i64 b.d, .int .i64 b.e, .int .i64 b.f] : Array Value) 41)) (.cells #[.int .i64 0, .int .i64 0, .int .i64 0, .int .i64 0, .int .i64 0, .int .i64 0] 41)
  have b0_1 := block_alloc (block_at (w := (w.alloc (.cells (#[.int .i64 a.a, .int .i64 a.b, .int .i64 a.c, .int .i64 a.d, .int .i64 a.e, .int .i64 a.f] : Array Value) 41))) (n := w.heap.size + 1) (by simp) (.cells (#[.int .i64 b.a, .int .i64 b.b, .int .i64 b.c, .int .i64 b.d, .int .i64 b.e, .int .i64 b.f] : Array Value) 41)) (.cells #[.int .i64 0, .int .i64 0, .int .i64 0, .int .i64 0, .int .i64 0, .int .i64 0] 41)
  have b0_2 := block_at (w := ((w.alloc (.cells (#[.int .i64 a.a, .int .i64 a.b, .int .i64 a.c, .int .i64 a.d, .int .i64 a.e, .int .i64 a.f] : Array Value) 41)).alloc (.cells (#[.int .i64 b.a, .int .i64 b.b, .int .i64 b.c, .int .i64 b.d, .int .i64 b.e, .int .i64 b.f] : Array Value) 41))) (n := w.heap.size + 1 + 1) (by simp) (.cells #[.int .i64 0, .int .i64 0, .int .i64 0, .int .i64 0, .int .i64 0, .int .i64 0] 41)
  obtain ⟨W0, hW0⟩ : ∃ W, (((w.alloc (.cells (#[.int .i64 a.a, .int .i64 a.b, .int .i64 a.c, .int .i64 a.d, .int .i64 a.e, .int .i64 a.f] : Array Value) 41)).alloc (.cells (#[.int .i64 b.a, .int .i64 b.b, .int .i64 b.c, .int .i64 b.d, .int .i64 b.e, .int .i64 b.f] : Array Value) 41)).alloc (.cells #[.int .i64 0, .int .i64 0, .int .i64 0, .int .i64 0, .int .i64 0, .int .i64 0] 41)) = W := ⟨_, rfl⟩
  obtain ⟨B0, hB0⟩ : ∃ B, w.heap.size = B := ⟨_, rfl⟩
  rw [hW0] at X0 b0_0 b0_1 b0_2
  rw [hB0] at b0_0 b0_1 b0_2
  have HZ0 : Hid (w.heap.size ≤ B0) := Lib.hid (by omega)
  have HW0 := Lib.hid hW0; have HB0 := Lib.hid hB0
  clear hW0 hB0
  have d0 := block_cell b0_1 0 _ rfl; have d1 := block_cell b0_1 1 _ rfl; have d2 := block_cell b0_1 2 _ rfl; have d3 := block_cell b0_1 3 _ rfl; have d4 := block_cell b0_1 4 _ rfl; have d5 := block_cell b0_1 5 _ rfl
  have hA : W0.heap[B0]? = some (.cells (addK a b n 0).cells 41 (0, 0)) := by rw [addK_zero]; exact b0_0
  have H1 := Lib.hid ha; have H2 := Lib.hid hb
  have HA := Lib.hid hA; have HR := Lib.hid b0_2
  clear ha hb b0_0 b0_1 b0_2 hA
  go_enter Tryd.func39, Tryd.ntmps39
  go_wp2
  rw [HW0.out, HB0.out]
  clear d0 d1 d2 d3 d4 d5 HW0 HB0
  go_loopw [10] (fun i wr => ∃ k : Nat, k ≤ 6 ∧ i = .int .i64 k ∧ wr.heap[B0]? = some (.cells (addK a b n k).cells 41 (0, 0)) ∧ wr.heap[B0 + 1 + 1]? = some (.cells #[.int .i64 0, .int .i64 0, .int .i64 0, .int .i64 0, .int .i64 0, .int .i64 0] 41 (0, 0)) ∧ Ext w wr) (fun i _ => 6 - (intOf i).toNat)
  case atStart => exact ⟨0, by omega, by first | rfl | trivial, HA.out, HR.out, X0⟩
  case round =>
    obtain ⟨k, hk, rfl, hA, hR, X⟩ := hrel
    clear HA HR
    by_cases hlt : k < 6
    · have hx := ix k hlt
      clear ix
      have a1 := H1.out k hlt; have a2 := H2.out k hlt
      have hc := block_cell hA k _ (V6.cells_at _ hlt)
      rw [addK_get _ _ _ hlt] at hc
      have hf := block_free hA k
      have hR2 : (wr.setCell ⟨B0, k, none⟩ (.int .i64 (a.get k + n * b.get k))).heap[B0 + 1 + 1]? = some (.cells #[.int .i64 0, .int .i64 0, .int .i64 0, .int .i64 0, .int .i64 0, .int .i64 0] 41 (0, 0)) := block_ne hR k (.int .i64 (a.get k + n * b.get k)) (by omega)
      have NX := Lib.hid (And.intro (block_set hA k (.int .i64 (a.get k + n * b.get k))) (And.intro hR2 (X.setCell (p := ⟨B0, k, none⟩) HZ0.out (.int .i64 (a.get k + n * b.get k)))))
      rw [← addK_succ a b n hlt] at NX
      obtain ⟨x, hx1⟩ : ∃ x, a.get k = x := ⟨_, rfl⟩
      obtain ⟨y, hy1⟩ : ∃ y, b.get k = y := ⟨_, rfl⟩
      rw [hx1] at a1 hc NX; rw [hy1] at a2 hx NX
      have E1 : IntKind.i64.wrap (n * y) = n * y := IntWalk.i64_in _ (by rcases hn with rfl | rfl <;> omega)
      have E2 : IntKind.i64.wrap (x + n * y) = x + n * y := IntWalk.i64_in _ (by rcases hn with rfl | rfl <;> omega)
      have i1 : (0 : Int) ≤ (k : Int) := by omega
      have i2 : (k : Int) < 6 := by omega
      clear hA hR hR2 X hx1 hy1 a1 a2 hn
      go_wp2
      go_roundw
      case rel => exact ⟨k + 1, by omega, by go_num, NX.out.1, NX.out.2.1, NX.out.2.2⟩
      case measure => simp [intOf]; omega
    · obtain rfl : k = 6 := by omega
      rw [addK_six] at hA
      obtain ⟨r, hr⟩ : ∃ r, a.add b n = r := ⟨_, rfl⟩
      have HRE := Lib.hid hr
      rw [hr] at hA
      clear hr
      have hA : wr.heap[B0]? = some (.cells (#[.int .i64 r.a, .int .i64 r.b, .int .i64 r.c, .int .i64 r.d, .int .i64 r.e, .int .i64 r.f] : Array Value) 41 (0, 0)) := hA
      have c0 := block_cell hA 0 _ rfl; have c1 := block_cell hA 1 _ rfl; have c2 := block_cell hA 2 _ rfl; have c3 := block_cell hA 3 _ rfl; have c4 := block_cell hA 4 _ rfl; have c5 := block_cell hA 5 _ rfl
      have n2 := setRow_at hR (#[.int .i64 r.a, .int .i64 r.b, .int .i64 r.c, .int .i64 r.d, .int .i64 r.e, .int .i64 r.f] : Array Value)
      have XX := X.setRow (g := B0 + 1 + 1) (by have := HZ0.out; omega) (#[.int .i64 r.a, .int .i64 r.b, .int .i64 r.c, .int .i64 r.d, .int .i64 r.e, .int .i64 r.f] : Array Value)
      have e0 := block_cell n2 0 _ rfl; have e1 := block_cell n2 1 _ rfl; have e2 := block_cell n2 2 _ rfl; have e3 := block_cell n2 3 _ rfl; have e4 := block_cell n2 4 _ rfl; have e5 := block_cell n2 5 _ rfl
      have HRR := Lib.hid hR
      clear ix hA hR n2
      go_wp2_with (first | (refine wpList_store_row rfl _ _ _ rfl (B0 + 1 + 1) _ rfl rfl _ _ HRR.out (by kernel_rfl) rfl (by simp [Value.oneCell']) ?_) | fail)
      refine bodyPost_ret (v := .agg #[.int .i64 r.a, .int .i64 r.b, .int .i64 r.c, .int .i64 r.d, .int .i64 r.e, .int .i64 r.f]) (by simp [results, Tryd.results39, go_sem, e0, e1, e2, e3, e4, e5]) rfl ⟨by rw [HRE.out], XX⟩

set_option maxRecDepth 100000 in
set_option maxHeartbeats 1000000 in
theorem pround_walk (p : St) (w : World) :
    Calls Tryd.prog 40 #[.agg #[.int .i64 p.a, .int .i64 p.b, .int .i64 p.k]] w fun e w' => e = .returned (.agg #[.int .i64 p.b, .int .i64 p.a, .int .i64 p.k]) ∧ Ext w w' := by
  have X0 : Ext w ((w.alloc (.cells #[.int .i64 p.a, .int .i64 p.b, .int .i64 p.k] 35)).alloc (.cells #[.int .i64 0, .int .i64 0, .int .i64 0] 35)) := (by repeat (first | with_reducible exact Ext.refl _ | with_reducible assumption | with_reducible apply Ext.alloc | with_reducible apply Ext.drew | (with_reducible refine Ext.setCell ?_ (by (try simp) <;> omega) _)))
  have b0_0 := block_alloc (block_new w (.cells #[.int .i64 p.a, .int .i64 p.b, .int .i64 p.k] 35)) (.cells #[.int .i64 0, .int .i64 0, .int .i64 0] 35)
  have b0_1 := block_at (w := (w.alloc (.cells #[.int .i64 p.a, .int .i64 p.b, .int .i64 p.k] 35))) (n := w.heap.size + 1) (by simp) (.cells #[.int .i64 0, .int .i64 0, .int .i64 0] 35)
  obtain ⟨W0, hW0⟩ : ∃ W, ((w.alloc (.cells #[.int .i64 p.a, .int .i64 p.b, .int .i64 p.k] 35)).alloc (.cells #[.int .i64 0, .int .i64 0, .int .i64 0] 35)) = W := ⟨_, rfl⟩
  obtain ⟨B0, hB0⟩ : ∃ B, w.heap.size = B := ⟨_, rfl⟩
  rw [hW0] at X0 b0_0 b0_1
  rw [hB0] at b0_0 b0_1
  have HZ0 : Hid (w.heap.size ≤ B0) := Lib.hid (by omega)
  have HW0 := Lib.hid hW0; have HB0 := Lib.hid hB0
  clear hW0 hB0
  have d0 := block_cell b0_0 0 _ rfl; have d1 := block_cell b0_0 1 _ rfl; have d2 := block_cell b0_0 2 _ rfl
  have HRR := Lib.hid b0_1
  have n2 := setRow_at b0_1 #[.int .i64 p.b, .int .i64 p.a, .int .i64 p.k]
  have XX := X0.setRow (g := B0 + 1) (by have := HZ0.out; omega) #[.int .i64 p.b, .int .i64 p.a, .int .i64 p.k]
  have e0 := block_cell n2 0 _ rfl; have e1 := block_cell n2 1 _ rfl; have e2 := block_cell n2 2 _ rfl
  clear b0_0 b0_1 n2
  go_enter Tryd.func40, Tryd.ntmps40
  go_upto_region 1 with fail
  rw [HW0.out, HB0.out]
  clear HW0 HB0
  go_wp2_with (first | (refine wpList_store_row rfl _ _ _ rfl (B0 + 1) _ rfl rfl _ _ HRR.out (by kernel_rfl) rfl (by simp [Value.oneCell']) ?_) | fail)
  refine bodyPost_ret (v := .agg #[.int .i64 p.b, .int .i64 p.a, .int .i64 p.k]) (by simp [results, Tryd.results40, go_sem, e0, e1, e2]) rfl ⟨rfl, XX⟩

theorem cnt_sec (s : Sc) (t : Int) : cntLt s.cads (t + 1) = secF s t := by
  unfold cntLt secF
  exact List.countP_congr fun x _ => by rw [decide_eq_true_eq, decide_eq_true_eq]; omega

set_option maxRecDepth 100000 in
set_option maxHeartbeats 1000000 in
theorem psec_walk (vn vp vc : Value) (s : Sc) (t : Int) (ht : 0 ≤ t ∧ t ≤ 100000) (hc : cadOk s) (w : World) (S : ScR w vn vp vc s) :
    Calls Tryd.prog 47 #[.agg #[.int .i64 s.voices, vn, vp, vc], .int .i64 t] w fun e w' => e = .returned (.int .i64 (secF s t)) ∧ Ext w w' := by
  obtain ⟨an, cn, rfl, -, -, hln⟩ := S.nt.len
  obtain ⟨ap, cp, rfl, -, -, hlp⟩ := S.pr.len
  obtain ⟨ac, cc, rfl, -, -, hlc⟩ := S.cd.len
  have HS := Lib.hid (cnt_sec s t)
  have BS := Lib.hid fun w' (x : Ext w w') => bsearch_walk _ s.cads (t + 1) hc.2 w' (S.cd.ext x)
  have E1 : IntKind.i64.wrap (t + 1) = t + 1 := IntWalk.i64_in _ (by omega)
  have X0 : Ext w (w.alloc (.cells #[.int .i64 s.voices, .slice an s.notes.length cn, .slice ap s.pairs.length cp, .slice ac s.cads.length cc] 26)) := (by repeat (first | with_reducible exact Ext.refl _ | with_reducible assumption | with_reducible apply Ext.alloc | with_reducible apply Ext.drew | (with_reducible refine Ext.setCell ?_ (by (try simp) <;> omega) _)))
  have b0_0 := block_new w (.cells #[.int .i64 s.voices, .slice an s.notes.length cn, .slice ap s.pairs.length cp, .slice ac s.cads.length cc] 26)
  obtain ⟨W0, hW0⟩ : ∃ W, (w.alloc (.cells #[.int .i64 s.voices, .slice an s.notes.length cn, .slice ap s.pairs.length cp, .slice ac s.cads.length cc] 26)) = W := ⟨_, rfl⟩
  obtain ⟨B0, hB0⟩ : ∃ B, w.heap.size = B := ⟨_, rfl⟩
  rw [hW0] at X0 b0_0
  rw [hB0] at b0_0
  have HZ0 : Hid (w.heap.size ≤ B0) := Lib.hid (by omega)
  have HW0 := Lib.hid hW0; have HB0 := Lib.hid hB0
  clear hW0 hB0
  have c3 := block_cell b0_0 3 _ rfl
  clear b0_0 hc S
  go_enter Tryd.func47, Tryd.ntmps47
  go_upto_region 1 with fail
  rw [HW0.out, HB0.out]
  clear HW0 HB0
  go_wp2_with fail
  refine (BS.out _ X0).mono ?_
  rw [HS.out]
  rintro e w1 ⟨rfl, x1⟩
  clear c3 E1
  go_wp2
  go_ret
  exact ⟨by first | rfl | simp, X0.trans x1⟩

set_option maxRecDepth 100000 in
set_option maxHeartbeats 2000000 in
theorem ppitch_walk (g u q : Nat) (vs : Int) (vn vp vc vx : Value) (len : Nat) (F : Nat → St) (G : Nat → V6) (xs : List V6) (n : Int) (hn : n < xs.length) (w : World) (T : TreeR w g u q vs vn vp vc len F G vx) (S : Sl w 6 V6.list vx xs) :
    Calls Tryd.prog 48 #[.pointer (some ⟨g, 0, none⟩), .int .i64 n] w fun e w' => e = .returned (.agg #[.int .i64 (pAt xs n).a, .int .i64 (pAt xs n).b, .int .i64 (pAt xs n).c, .int .i64 (pAt xs n).d, .int .i64 (pAt xs n).e, .int .i64 (pAt xs n).f]) ∧ Ext w w' := by
  obtain ⟨ax, cx, rfl, -, -, hlx⟩ := S.len
  have X0 : Ext w (w.alloc (.cells #[.int .i64 0, .int .i64 0, .int .i64 0, .int .i64 0, .int .i64 0, .int .i64 0] 41)) := (by repeat (first | with_reducible exact Ext.refl _ | with_reducible assumption | with_reducible apply Ext.alloc | with_reducible apply Ext.drew | (with_reducible refine Ext.setCell ?_ (by (try simp) <;> omega) _)))
  have b0_0 := block_new w (.cells #[.int .i64 0, .int .i64 0, .int .i64 0, .int .i64 0, .int .i64 0, .int .i64 0] 41)
  obtain ⟨W0, hW0⟩ : ∃ W, (w.alloc (.cells #[.int .i64 0, .int .i64 0, .int .i64 0, .int .i64 0, .int .i64 0, .int .i64 0] 41)) = W := ⟨_, rfl⟩
  obtain ⟨B0, hB0⟩ : ∃ B, w.heap.size = B := ⟨_, rfl⟩
  rw [hW0] at X0 b0_0
  rw [hB0] at b0_0
  have HZ0 : Hid (w.heap.size ≤ B0) := Lib.hid (by omega)
  have HW0 := Lib.hid hW0; have HB0 := Lib.hid hB0
  clear hW0 hB0
  have HRR := Lib.hid b0_0
  have ct := (T.ext X0).c6
  have SX := S.ext X0
  obtain ⟨r, hr⟩ : ∃ r, pAt xs n = r := ⟨_, rfl⟩
  have n2 := setRow_at b0_0 (#[.int .i64 r.a, .int .i64 r.b, .int .i64 r.c, .int .i64 r.d, .int .i64 r.e, .int .i64 r.f] : Array Value)
  have XX := X0.setRow (g := B0) (by have := HZ0.out; omega) (#[.int .i64 r.a, .int .i64 r.b, .int .i64 r.c, .int .i64 r.d, .int .i64 r.e, .int .i64 r.f] : Array Value)
  have e0 := block_cell n2 0 _ rfl; have e1 := block_cell n2 1 _ rfl; have e2 := block_cell n2 2 _ rfl; have e3 := block_cell n2 3 _ rfl; have e4 := block_cell n2 4 _ rfl; have e5 := block_cell n2 5 _ rfl
  rw [hr]
  have hRR := Lib.hid hr
  clear b0_0 n2 hr S T
  go_enter Tryd.func48, Tryd.ntmps48
  go_upto_region 1 with fail
  rw [HW0.out, HB0.out]
  clear HW0 HB0
  by_cases h0 : n < 0
  · obtain rfl : r = V6.zero := by rw [← hRR.out]; unfold pAt; rw [if_pos h0]
    have t1 : decide (n < 0) = true := decide_eq_true h0
    have n2 := setRow_at HRR.out #[.int .i64 0, .int .i64 0, .int .i64 0, .int .i64 0, .int .i64 0, .int .i64 0]
    have XX := X0.setRow (g := B0) (by have := HZ0.out; omega) #[.int .i64 0, .int .i64 0, .int .i64 0, .int .i64 0, .int .i64 0, .int .i64 0]
    have e0 := block_cell n2 0 _ rfl; have e1 := block_cell n2 1 _ rfl; have e2 := block_cell n2 2 _ rfl; have e3 := block_cell n2 3 _ rfl; have e4 := block_cell n2 4 _ rfl; have e5 := block_cell n2 5 _ rfl
    clear ct h0 n2
    go_wp2_with (first | (refine wpList_store_row rfl _ _ _ rfl B0 _ rfl rfl _ _ HRR.out (by kernel_rfl) rfl (by simp [Value.oneCell']) ?_) | fail)
    refine bodyPost_ret (v := .agg #[.int .i64 0, .int .i64 0, .int .i64 0, .int .i64 0, .int .i64 0, .int .i64 0]) (by simp [results, Tryd.results48, go_sem, e0, e1, e2, e3, e4, e5]) rfl ⟨rfl, XX⟩
  · obtain ⟨k, rfl⟩ : ∃ k : Nat, n = (k : Int) := ⟨n.toNat, by omega⟩
    have hk : k < xs.length := by omega
    obtain ⟨b, o, rfl, a0, a1, a2, a3, a4, a5⟩ := Sl.vec SX k hk
    have hxr : xs[k] = r := by
      rw [← hRR.out]; unfold pAt
      rw [if_neg (by omega), Int.toNat_natCast, List.getD_eq_getElem?_getD, List.getElem?_eq_getElem hk]; rfl
    rw [hxr] at a0 a1 a2 a3 a4 a5
    have t1 : decide ((k : Int) < 0) = false := decide_eq_false (by omega)
    have i1 : (0 : Int) ≤ (k : Int) := by omega
    have i2 : (k : Int) < (xs.length : Int) := by omega
    clear h0 hxr hRR
    go_wp2_with (first | (refine wpList_store_row rfl _ _ _ rfl B0 _ rfl rfl _ _ HRR.out (by kernel_rfl) rfl (by simp [Value.oneCell']) ?_) | fail)
    refine bodyPost_ret (v := .agg #[.int .i64 r.a, .int .i64 r.b, .int .i64 r.c, .int .i64 r.d, .int .i64 r.e, .int .i64 r.f]) (by simp [results, Tryd.results48, go_sem, e0, e1, e2, e3, e4, e5]) rfl ⟨rfl, XX⟩
end Go.Proofs.YtdpegkkbhanjkaaDoor
