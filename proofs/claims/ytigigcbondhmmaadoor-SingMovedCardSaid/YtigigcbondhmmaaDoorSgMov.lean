/-
  Proved: 'SingMoved' returns true for every input and leaves its arguments as they were. No condition.
-/
import Derived.Test.YtigigcbondhmmaaDoorSgHrd
import Derived.Test.YtigigcbondhmmaaDoorScMvM
import Derived.Test.YtigigcbondhmmaaDoorLibB
set_option linter.unusedVariables false
namespace Go.Proofs.YtigigcbondhmmaaDoor
open Go.RowKit Go.Sx Go.Sx.Sz Go.Sx.Sc Go.Sx.Sg Go.ChangeShapes Go.WideShapes Go.ChangeAt

theorem et_v : ET Tryd.prog 27 41 6 48 := .mk' (z := .agg #[.int .i64 0, .int .i64 0, .int .i64 0, .int .i64 0, .int .i64 0, .int .i64 0]) Tryd.underlying27 (by kernel_rfl) rfl (by decide) (by decide)
/-- The first k pitches moved. -/
def mvK (xs : List V6) (b : V6) (k : Nat) : List V6 := (xs.take k).map (fun x => x.add b 1) ++ xs.drop k
theorem mvK_zero (xs : List V6) (b : V6) : mvK xs b 0 = xs := rfl
theorem mvK_all (xs : List V6) (b : V6) : mvK xs b xs.length = moveX xs b := by unfold mvK moveX; simp
theorem mvK_len (xs : List V6) (b : V6) {k : Nat} (hk : k ≤ xs.length) : (mvK xs b k).length = xs.length := by unfold mvK; simp; omega
theorem mvK_self (xs : List V6) (b : V6) {k : Nat} (hk : k < xs.length) : mvK xs b k = (mvK xs b k).set k (mvX b (X xs k) 0) := by
  rw [mvX_zero, X_eq hk]
  unfold mvK
  have hl : ((xs.take k).map fun x => x.add b 1).length = k := by simp; omega
  rw [List.set_append_right _ _ (by omega), hl, Nat.sub_self, List.drop_eq_getElem_cons hk, List.set_cons_zero]
theorem mvK_set (xs : List V6) (b : V6) {k : Nat} (hk : k < xs.length) : (mvK xs b k).set k (mvX b (X xs k) 6) = mvK xs b (k + 1) := by
  rw [mvX_six, X_eq hk]
  unfold mvK
  have hl : ((xs.take k).map fun x => x.add b 1).length = k := by simp; omega
  rw [List.set_append_right _ _ (by omega), hl, Nat.sub_self, List.drop_eq_getElem_cons hk, List.set_cons_zero, List.take_succ_eq_append_getElem hk, List.map_append, List.append_assoc]
  rfl
theorem list_get (x : V6) {j : Nat} (hj : j < 6) : (V6.list x).getD j undef = .int .i64 (x.get j) := by
  rcases lt6 hj with rfl | rfl | rfl | rfl | rfl | rfl <;> rfl
theorem list_put (x : V6) {j : Nat} (hj : j < 6) (u : Int) : V6.list (x.put j u) = (V6.list x).set j (.int .i64 u) := by
  rcases lt6 hj with rfl | rfl | rfl | rfl | rfl | rfl <;> rfl
/-- What the walk of 'SingMoved' keeps. -/
structure MvY (w0 : World) (wb B : Nat) (b : V6) (vy : Value) (ys : List V6) (w : World) : Prop where
  ys : OwnR w wb 41 6 V6.list vy ys
  bv : w.heap[B]? = some (.cells b.cells 41 (0, 0))
  ext : Ext w0 w
section
variable {w0 w w' : World} {wb B : Nat} {b : V6} {vy : Value} {ys : List V6}
theorem MvY.go (h : MvY w0 wb B b vy ys w) (x : Ext w w') : MvY w0 wb B b vy ys w' := ⟨h.ys.ext x, block_ext x h.bv, h.ext.trans x⟩
theorem MvY.setY {g n cap k j : Nat} {x x' : V6} {u : Int} (h : MvY w0 wb B b (.slice (some ⟨g, 0, none⟩) n cap) (ys.set k x) w) (hB : B < wb) (hw : w0.heap.size ≤ wb) (hk : k < ys.length) (hj : j < 6) (hx : V6.list x' = (V6.list x).set j (.int .i64 u)) :
    MvY w0 wb B b (.slice (some ⟨g, 0, none⟩) n cap) (ys.set k x') (w.setCell ⟨g, k * 6 + j, none⟩ (.int .i64 u)) := by
  have hgb : wb ≤ g := (h.ys.lt rfl).1
  refine ⟨?_, block_ne h.bv _ _ (by omega), h.ext.setCell (show w0.heap.size ≤ g by omega) _⟩
  have := OwnR.store h.ys (fun _ _ => rfl) k j (by simpa using hk) hj x' (.int .i64 u) (by rw [List.getElem_set_self]; exact hx)
  rwa [List.set_set] at this
theorem MvY.cellY {g n cap k : Nat} {x : V6} (h : MvY w0 wb B b (.slice (some ⟨g, 0, none⟩) n cap) (ys.set k x) w) (hk : k < ys.length) (j : Nat) (hj : j < 6) : w.cell? ⟨g, k * 6 + j, none⟩ = some (.int .i64 (x.get j)) := by
  have := h.ys.cell (fun _ _ => rfl) k j (by simpa using hk) hj
  rw [List.getElem_set_self, list_get _ hj] at this
  exact this
end
/-- What From and Least say of moved pitches. -/
theorem moved_from {s : Sc} {xs : List V6} {b : V6} {n : Nat} (hh : hallB s xs = true) (hn : n < s.notes.length) (he : entryB s n = true) (hy : ∀ x ∈ moveX xs b, within x 48 = true) (ha : aloneB s n s.notes.length = false) :
    hallB s (moveX xs b) = true ∧ (∀ st, findR s (moveX xs b) n st = findR s xs n st) ∧ leastR s (moveX xs b) n = leastR s xs n := by
  obtain ⟨h1, h2, h3⟩ := hallB_iff.1 hh
  have hH : hallB s (moveX xs b) = true := hallB_iff.2 ⟨h1, by unfold moveX; rw [List.length_map]; exact h2, hy⟩
  have hne : othL s n ≠ [] := fun e => by rw [(alone_iff h1 hn).2 e] at ha; cases ha
  have hnd : ∀ i ∈ heardL s n, needF (moveX xs b) n i = needF xs n i := fun i hi => move_need (by omega) hne hi
  refine ⟨hH, fun st => find_congr rfl hnd st, ?_⟩
  unfold leastR
  rw [if_pos ⟨hH, he⟩, if_pos ⟨hh, he⟩, Int.toNat_natCast]
  exact least_congr rfl hnd

set_option maxRecDepth 100000 in
set_option maxHeartbeats 16000000 in
theorem sgmov_law (vn vp vc vx : Value) (s : Sc) (xs : List V6) (b : V6) (n st : Int) (w : World) (G0 : Gl 0 w) (S : ScR w vn vp vc s) (V : Sl w 6 V6.list vx xs) :
    Calls Tryd.prog 8 #[.agg #[.int .i64 s.voices, vn, vp, vc], vx, .agg #[.int .i64 b.a, .int .i64 b.b, .int .i64 b.c, .int .i64 b.d, .int .i64 b.e, .int .i64 b.f], .int .i64 n, .int .i64 st] w fun e w' => e = .returned (.bool true) ∧ Ext w w' := by
  obtain ⟨an, cn, rfl, -, -, hln⟩ := S.nt.len
  obtain ⟨ap, cp, rfl, -, -, hlp⟩ := S.pr.len
  obtain ⟨ac, cc, rfl, -, -, hlc⟩ := S.cd.len
  obtain ⟨ax, cx, rfl, -, -, hlx⟩ := V.len
  have X0 : Ext w ((w.alloc (.cells #[.int .i64 s.voices, .slice an s.notes.length cn, .slice ap s.pairs.length cp, .slice ac s.cads.length cc] 26)).alloc (.cells (#[.int .i64 b.a, .int .i64 b.b, .int .i64 b.c, .int .i64 b.d, .int .i64 b.e, .int .i64 b.f] : Array Value) 41)) := (by repeat (first | with_reducible exact Ext.refl _ | with_reducible assumption | with_reducible apply Ext.alloc | with_reducible apply Ext.drew | (with_reducible refine Ext.setCell ?_ (by (try simp) <;> omega) _)))
  have b0_0 := block_alloc (block_new w (.cells #[.int .i64 s.voices, .slice an s.notes.length cn, .slice ap s.pairs.length cp, .slice ac s.cads.length cc] 26)) (.cells (#[.int .i64 b.a, .int .i64 b.b, .int .i64 b.c, .int .i64 b.d, .int .i64 b.e, .int .i64 b.f] : Array Value) 41)
  have b0_1 := block_at (w := (w.alloc (.cells #[.int .i64 s.voices, .slice an s.notes.length cn, .slice ap s.pairs.length cp, .slice ac s.cads.length cc] 26))) (n := w.heap.size + 1) (by simp) (.cells (#[.int .i64 b.a, .int .i64 b.b, .int .i64 b.c, .int .i64 b.d, .int .i64 b.e, .int .i64 b.f] : Array Value) 41)
  obtain ⟨W0, hW0⟩ : ∃ W, ((w.alloc (.cells #[.int .i64 s.voices, .slice an s.notes.length cn, .slice ap s.pairs.length cp, .slice ac s.cads.length cc] 26)).alloc (.cells (#[.int .i64 b.a, .int .i64 b.b, .int .i64 b.c, .int .i64 b.d, .int .i64 b.e, .int .i64 b.f] : Array Value) 41)) = W := ⟨_, rfl⟩
  obtain ⟨B0, hB0⟩ : ∃ B, w.heap.size = B := ⟨_, rfl⟩
  rw [hW0] at X0 b0_0 b0_1
  rw [hB0] at b0_0 b0_1
  have HZ0 : Hid (w.heap.size ≤ B0) := Lib.hid (by omega)
  have HW0 := Lib.hid hW0; have HB0 := Lib.hid hB0
  clear hW0 hB0
  have CB := Lib.hid (boxS b0_0)
  have BB := Lib.hid b0_1
  have hx1 : B0 + 1 < W0.heap.size := (Array.getElem?_eq_some_iff.1 b0_1).1
  have HX1 := Lib.hid hx1
  have d0 := (block_rules b0_1).1
  have S1 := S.ext X0; have V1 := V.ext X0; have G1 := G0.ext X0
  clear S V G0 b0_0 b0_1 hx1
  go_enter Tryd.func8, Tryd.ntmps8
  go_wp2_with fail
  rw [HW0.out, HB0.out]
  clear HW0 HB0 d0
  refine (head_walk _ G1).mono ?_
  rintro e w1 ⟨rfl, x1⟩
  obtain ⟨c0, c1, c2, c3⟩ := CB.out _ x1
  go_wp2_with fail
  refine (from_walk _ _ _ _ s xs n st _ (G1.ext x1) (S1.ext x1) (V1.ext x1)).mono ?_
  by_cases hb : hallB s xs = true ∧ entryB s n = true ∧ 0 ≤ st ∧ st ≤ 2400000
  case neg =>
    have HF : Hid (fromR s xs n st = (0, 1)) := Lib.hid (from_bad hb)
    rw [HF.out]
    clear hb
    rintro e w2 ⟨rfl, y2⟩
    clear c0 c1 c2 c3
    go_wp2
    go_ret
    exact ⟨by first | rfl | simp, X0.trans (x1.trans y2)⟩
  have hff := from_eq hb.1 hb.2.1 hb.2.2
  obtain ⟨k, rfl, hk, hek⟩ := entry_in hb.2.1
  have HALL := Lib.hid (hallB_iff.1 hb.1)
  have HBB := Lib.hid hb
  have hnn := HALL.out.1.sz.2.1
  rw [Int.toNat_natCast] at hff
  have MV := Lib.hid fun (hy : ∀ x ∈ moveX xs b, within x 48 = true) (ha : aloneB s k s.notes.length = false) => moved_from hb.1 hk hb.2.1 hy ha
  have FH := Lib.hid fun (hH : hallB s (moveX xs b) = true) => (from_eq hH hb.2.1 hb.2.2).trans (by rw [Int.toNat_natCast])
  have h4 := find_cases s xs k st
  rw [← hff] at h4
  obtain ⟨⟨fa, fe⟩, hf⟩ : ∃ r, fromR s xs k st = r := ⟨_, rfl⟩
  rw [hf] at h4 hff ⊢
  have h5 : fe = 0 ∨ fe = 4 := by
    rcases h4 with ⟨i, h⟩ | h
    · simp at h; exact .inl h.2
    · simp at h; exact .inr h.2
  have HFE := Lib.hid h5
  have HFF := Lib.hid hff
  obtain ⟨⟨la, lb, le⟩, hl⟩ : ∃ r, leastR s xs k = r := ⟨_, rfl⟩
  have HL := Lib.hid hl
  clear hb hff hek hf h4 h5 hl
  rintro e w2 ⟨rfl, y2⟩
  have x2 := x1.trans y2
  clear c0 c1 c2 c3
  obtain ⟨c0, c1, c2, c3⟩ := CB.out _ x2
  have e1 : ((xs.length : Int) != (s.notes.length : Int)) = false := by rw [bne_eq_false_iff_eq]; have := HALL.out.2.1; omega
  have f1 : decide ((k : Int) < 0) = false := decide_eq_false (by omega)
  have f2 : decide (s.notes.length ≤ k) = false := decide_eq_false (by omega)
  have d0 := (block_rules (block_ext x2 BB.out)).1
  go_upto_region 3 with fail
  obtain ⟨bi, hbi⟩ : ∃ q, within b 48 = q := ⟨_, rfl⟩
  have HBI := Lib.hid hbi
  go_cut [47] (fun s47 wx => s47 = .bool (!bi) ∧ Ext w2 wx)
  case first =>
    rcases HFE.out with h | h
    all_goals
      subst h
      clear c0 c1 c2 c3 e1 f1 f2
      go_wp2_with fail
      refine (interval_walk b _).mono ?_
      rintro e w3 ⟨rfl, y3⟩
      rw [hbi]
      clear hbi d0
      go_wp2_with fail
      go_meet
      exact ⟨by first | rfl | simp, y3⟩
  obtain ⟨rfl, y3⟩ := hcut
  have x3 := x2.trans y3
  obtain ⟨W3, rfl⟩ : ∃ z : World, z = wc := ⟨_, rfl⟩
  clear c0 c1 c2 c3 hbi d0 y3
  cases bi with
  | false =>
    clear e1 f1 f2
    go_wp2
    go_ret
    exact ⟨by first | rfl | simp, X0.trans x3⟩
  | true =>
  have HBW := Lib.hid (Sz.within_iff.1 HBI.out)
  obtain ⟨c0, c1, c2, c3⟩ := CB.out _ x3
  have e4 := Ext.alloc' W3 (.cells #[] 41)
  have o0 : OwnR (W3.alloc (.cells #[] 41)) W3.heap.size 41 6 V6.list (.slice (some ⟨W3.heap.size, 0, none⟩) 0 0) [] := OwnR.lit W3 #[] [] 0 rfl (Nat.le_refl _) rfl rfl (by simp [maxLen])
  have S4 := (V1.ext x3).ext e4
  have hz4 := e4.size
  have HHL := Lib.hid HALL.out.2.1
  have HWB : Hid (B0 + 1 < W3.heap.size) := Lib.hid (by have := HX1.out; have := x3.size; omega)
  go_wp2_with (first | (at_builtin; go_must (refine wpList_app0 et_v rfl (.tmp 66) (.tmp 67) rfl o0 rfl xs _ S4 rfl (fun _ _ => rfl) (by have := HHL.out; omega) hz4 ?_; intro v14 w5 hown5 x5' _; (obtain ⟨a5, q5, rfl⟩ := hown5.len))) | fail)
  have X45 := e4.trans x5'
  have I0 : MvY W3 W3.heap.size (B0 + 1) b (.slice a5 xs.length q5) (mvK xs b 0) w5 := ⟨hown5, block_ext (x3.trans X45) BB.out, X45⟩
  have HI0 := Lib.hid I0
  clear c0 c1 c2 c3 o0 S4 e4 x5' e1 f1 f2 hown5 X45 hz4 I0
  go_loopw [15, 16] (fun i _ wr => ∃ j : Nat, j ≤ xs.length ∧ i = .int .i64 j ∧ Hid (∀ q, q < j → within ((X xs q).add b 1) 48 = true) ∧ MvY W3 W3.heap.size (B0 + 1) b (.slice a5 xs.length q5) (mvK xs b j) wr) (fun i _ _ => xs.length - (intOf i).toNat)
  case atStart => exact ⟨0, by omega, by first | rfl | trivial, Lib.hid (fun q h => absurd h (Nat.not_lt_zero _)), HI0.out⟩
  case round =>
    obtain ⟨j, hj, rfl, HQ, I⟩ := hrel
    clear HI0
    by_cases hlt : j < xs.length
    · have hne : mvK xs b j ≠ [] := fun e => by
        have h2 := congrArg List.length e
        rw [mvK_len xs b hj] at h2
        change xs.length = 0 at h2
        omega
      obtain ⟨g, cap, e', -, -, -⟩ := I.ys.block hne
      obtain ⟨rfl, rfl⟩ : a5 = some ⟨g, 0, none⟩ ∧ q5 = cap := by rw [mvK_len xs b hj] at e'; injection e' with a1 a2 a3; exact ⟨a1, a3⟩
      rw [mvK_self xs b hlt] at I
      have hpl := mvK_len xs b hj
      have HNEXT : Hid ((mvK xs b j).set j (mvX b (X xs j) 6) = mvK xs b (j + 1)) := Lib.hid (mvK_set xs b hlt)
      obtain ⟨L, hL⟩ : ∃ L, mvK xs b j = L := ⟨_, rfl⟩
      rw [hL] at I hpl HNEXT
      have HKL : Hid (j < L.length) := Lib.hid (by omega)
      have hwx := X_within hlt HALL.out.2.2
      obtain ⟨x, hx⟩ : ∃ x, X xs j = x := ⟨_, rfl⟩
      rw [hx] at I HNEXT hwx
      have HXX := Lib.hid hx
      have HWX := Lib.hid (Sz.within_iff.1 hwx)
      have HI1 := Lib.hid I
      clear e' hne hL hpl hx hwx I
      go_wp2
      go_loopw [16] (fun i wr => ∃ m : Nat, m ≤ 6 ∧ i = .int .i64 m ∧ MvY W3 W3.heap.size (B0 + 1) b (.slice (some ⟨g, 0, none⟩) xs.length q5) (L.set j (mvX b x m)) wr) (fun i _ => 6 - (intOf i).toNat)
      case atStart => exact ⟨0, by omega, by first | rfl | trivial, HI1.out⟩
      case round =>
        obtain ⟨m, hm, rfl, I⟩ := hrel
        clear HI1
        by_cases hlm : m < 6
        · have b1 := HWX.out m hlm
          have b2 := HBW.out m hlm
          obtain ⟨xj, hxj⟩ : ∃ z, x.get m = z := ⟨_, rfl⟩
          obtain ⟨vj, hvj⟩ : ∃ z, b.get m = z := ⟨_, rfl⟩
          have cv := block_cell I.bv m _ (V6.cells_at b hlm)
          have cx := I.cellY HKL.out m hlm
          rw [mvX_get _ _ hlm, hxj] at cx
          rw [hvj] at cv b2
          rw [hxj] at b1
          have HXJ := Lib.hid hxj; have HVJ := Lib.hid hvj
          have j1 : (0 : Int) ≤ (j : Int) := by omega
          have j2 : (j : Int) < (xs.length : Int) := by omega
          have m1 : (0 : Int) ≤ (m : Int) := by omega
          have m2 : (m : Int) < 6 := by omega
          have E1 : IntKind.i64.wrap (xj + vj) = xj + vj := IntWalk.i64_in _ (by omega)
          have g1 := ext_cells cv; have g2 := ext_cells cx
          have HI := Lib.hid I
          clear hxj hvj I b1 b2
          obtain ⟨wo, rfl⟩ : ∃ wo : World, wo = wr := ⟨_, rfl⟩
          go_wp2
          refine wp_region_ord [(0,true), (1,true), (2,true), (3,true), (4,true), (5,true), (6,true), (7,true), (8,true), (9,true), (10,true), (11,true), (12,true), (13,true), (14,true)] 15 Ext (Ext wo) wide (by kernel_rfl) (stable_ext _) (Ext.drawn _ _) ?_
          iterate 15 (first | (apply wpOrd_no rfl; rfl; (simp only [List.getElem_toArray, List.getElem_cons_succ, List.getElem_cons_zero, Act.put, List.setIfInBounds_toArray, List.set_cons_succ, List.set_cons_zero]; rfl)) | (apply wpOrd_yes rfl; rfl; (intro w' hw'; unfold opR; go_simp; exact ⟨Ext.refl _, rfl⟩); (simp only [List.getElem_toArray, List.getElem_cons_succ, List.getElem_cons_zero, Act.put, List.setIfInBounds_toArray, List.set_cons_succ, List.set_cons_zero]; rfl)))
          refine wpOrd_nil rfl ?_
          intro w7 x7
          have I8 := HI.out.go x7
          have z1 := I8.cellY HKL.out m hlm
          rw [mvX_get _ _ hlm, HXJ.out] at z1
          have z2 : w7.frozen? ⟨g, j * 6 + m, none⟩ = false := by
            obtain ⟨cs, hcs⟩ := I8.ys.kind (g := g) rfl
            exact block_free hcs _
          have I9 := I8.setY (x' := mvX b x (m + 1)) (u := xj + vj) HWB.out (Nat.le_refl _) HKL.out hlm (by rw [mvX_succ _ _ hlm, HXJ.out, HVJ.out]; exact list_put _ hlm _)
          obtain ⟨w8, hw8⟩ : ∃ w8, w7.setCell ⟨g, j * 6 + m, none⟩ (.int .i64 (xj + vj)) = w8 := ⟨_, rfl⟩
          rw [hw8] at I9
          have HW8 := Lib.hid hw8
          have HI9 := Lib.hid I9
          clear cv cx g1 g2 I8 I9 hw8 HI E1
          go_wp2
          rw [HW8.out]
          go_roundw
          case rel => exact ⟨m + 1, by omega, by go_num, HI9.out⟩
          case measure => simp [intOf]; omega
        · obtain rfl : m = 6 := by omega
          obtain ⟨y, hy⟩ : ∃ y, mvX b x 6 = y := ⟨_, rfl⟩
          have HYA : Hid (y = (X xs j).add b 1) := Lib.hid (by rw [← hy, mvX_six, HXX.out])
          rw [hy] at I HNEXT
          have a0 : wr.cell? ⟨g, j * 6, none⟩ = some (Value.int .i64 y.a) := I.cellY HKL.out 0 (by omega)
          have a1 : wr.cell? ⟨g, j * 6 + 1, none⟩ = some (Value.int .i64 y.b) := I.cellY HKL.out 1 (by omega)
          have a2 : wr.cell? ⟨g, j * 6 + 2, none⟩ = some (Value.int .i64 y.c) := I.cellY HKL.out 2 (by omega)
          have a3 : wr.cell? ⟨g, j * 6 + 3, none⟩ = some (Value.int .i64 y.d) := I.cellY HKL.out 3 (by omega)
          have a4 : wr.cell? ⟨g, j * 6 + 4, none⟩ = some (Value.int .i64 y.e) := I.cellY HKL.out 4 (by omega)
          have a5 : wr.cell? ⟨g, j * 6 + 5, none⟩ = some (Value.int .i64 y.f) := I.cellY HKL.out 5 (by omega)
          rw [HNEXT.out] at I
          have HI := Lib.hid I
          have j1 : (0 : Int) ≤ (j : Int) := by omega
          have j2 : (j : Int) < (xs.length : Int) := by omega
          clear I hy HNEXT
          go_wp2_with fail
          refine (interval_walk y _).mono ?_
          rintro e w9 ⟨rfl, y9⟩
          have HIJ := Lib.hid (HI.out.go y9)
          clear HI a0 a1 a2 a3 a4 a5
          obtain ⟨by', hby⟩ : ∃ q, within y 48 = q := ⟨_, rfl⟩
          rw [hby]
          have HBY := Lib.hid hby
          clear hby
          cases by' with
          | false =>
            go_wp2
            go_ret
            exact ⟨by first | rfl | simp, X0.trans (x3.trans HIJ.out.ext)⟩
          | true =>
            go_wp2
            go_roundw
            case rel => exact ⟨j + 1, by omega, by go_num, Lib.hid (fun q hq => by
              by_cases e : q = j
              · subst e; rw [← HYA.out]; exact HBY.out
              · exact HQ.out q (by omega)), HIJ.out⟩
            case measure => simp [intOf]; omega
    · obtain rfl : j = xs.length := by omega
      rw [mvK_all] at I
      have HY : Hid (∀ x ∈ moveX xs b, within x 48 = true) := Lib.hid fun x hx => by
        unfold moveX at hx
        obtain ⟨z, hz, rfl⟩ := List.mem_map.1 hx
        obtain ⟨q, hq, rfl⟩ := List.getElem_of_mem hz
        have := HQ.out q hq
        rwa [X_eq hq] at this
      have SY := I.ys.sl (fun _ _ => rfl) (by unfold moveX; rw [List.length_map]; have := HHL.out; omega)
      obtain ⟨W5, rfl⟩ : ∃ z : World, z = wr := ⟨_, rfl⟩
      have x5 := x3.trans I.ext
      have HSY := Lib.hid SY
      clear I HQ SY
      obtain ⟨b', o, rfl, -⟩ := Sl.nt (S1.nt.ext x5) k hk
      go_wp2
      go_loopw [17, 18] (fun a i wr => ∃ j : Nat, j ≤ s.notes.length ∧ i = .int .i64 j ∧ a = .bool (aloneB s k j) ∧ Ext W5 wr) (fun _ i _ => s.notes.length - (intOf i).toNat)
      case atStart => exact ⟨0, by omega, by first | rfl | trivial, by first | rfl | trivial, Ext.refl _⟩
      case round =>
        obtain ⟨j, hj, rfl, rfl, X⟩ := hrel
        have xx := x5.trans X
        obtain ⟨c0, c1, c2, c3⟩ := CB.out _ xx
        by_cases hlt : j < s.notes.length
        · obtain ⟨b'', o', e', A⟩ := Sl.nt (S1.nt.ext xx) j hlt
          obtain ⟨rfl, rfl⟩ : b' = b'' ∧ o = o' := by simpa using e'
          rw [← Sc.N_eq hlt] at A
          have al := alone_succ s k j
          have hob : othB s k j = (decide ((s.N j).v ≠ (s.N k).v) && (decide ((s.N j).f ≤ (s.N k).f - 1) && decide ((s.N k).f - 1 < (s.N j).u))) := rfl
          have hft := (HALL.out.1.nt.note hk).2.1
          have hut := (HALL.out.1.nt.note hk).2.2.1
          obtain ⟨ba, hba⟩ : ∃ q, aloneB s k j = q := ⟨_, rfl⟩
          rw [hba] at al ⊢
          obtain ⟨ob, hob'⟩ : ∃ q, othB s k j = q := ⟨_, rfl⟩
          rw [hob'] at al hob
          obtain ⟨y, hy⟩ : ∃ y, s.N j = y := ⟨_, rfl⟩
          rw [hy] at A hob
          obtain ⟨q0, q1, q2, q3, q4, q5', q6, q7, q8, q9⟩ := A
          have j1 : (0 : Int) ≤ (j : Int) := by omega
          have j2 : (j : Int) < (s.notes.length : Int) := by omega
          have k1 : (0 : Int) ≤ (k : Int) := by omega
          have k2 : (k : Int) < (s.notes.length : Int) := by omega
          have X6 : Ext wr (wr.alloc (.cells #[.int .i64 y.v, .int .i64 y.f, .int .i64 y.u, .int .i64 y.x.a, .int .i64 y.x.b, .int .i64 y.x.c, .int .i64 y.x.d, .int .i64 y.x.e, .int .i64 y.x.f, .bool y.tied] 43)) := (by repeat (first | with_reducible exact Ext.refl _ | with_reducible assumption | with_reducible apply Ext.alloc | with_reducible apply Ext.drew | (with_reducible refine Ext.setCell ?_ (by (try simp) <;> omega) _)))
          have b6_0 := block_new wr (.cells #[.int .i64 y.v, .int .i64 y.f, .int .i64 y.u, .int .i64 y.x.a, .int .i64 y.x.b, .int .i64 y.x.c, .int .i64 y.x.d, .int .i64 y.x.e, .int .i64 y.x.f, .bool y.tied] 43)
          obtain ⟨W6, hW6⟩ : ∃ W, (wr.alloc (.cells #[.int .i64 y.v, .int .i64 y.f, .int .i64 y.u, .int .i64 y.x.a, .int .i64 y.x.b, .int .i64 y.x.c, .int .i64 y.x.d, .int .i64 y.x.e, .int .i64 y.x.f, .bool y.tied] 43)) = W := ⟨_, rfl⟩
          obtain ⟨B6, hB6⟩ : ∃ B, wr.heap.size = B := ⟨_, rfl⟩
          rw [hW6] at X6 b6_0
          rw [hB6] at b6_0
          have HZ6 : Hid (wr.heap.size ≤ B6) := Lib.hid (by omega)
          have HW6 := Lib.hid hW6; have HB6 := Lib.hid hB6
          clear hW6 hB6
          have X' := X.trans X6
          obtain ⟨b'', o', e'', A2⟩ := Sl.nt (S1.nt.ext (x5.trans X')) k hk
          obtain ⟨rfl, rfl⟩ : b' = b'' ∧ o = o' := by simpa using e''
          rw [← Sc.N_eq hk] at A2
          have p0 := A2.c0; have p1 := A2.c1
          obtain ⟨vk, hvk⟩ : ∃ v, (s.N k).v = v := ⟨_, rfl⟩
          obtain ⟨fk, hfk⟩ : ∃ v, (s.N k).f = v := ⟨_, rfl⟩
          rw [hvk] at p0 hob; rw [hfk] at p1 hob hft
          have E1 : IntKind.i64.wrap (fk - 1) = fk - 1 := IntWalk.i64_in _ (by omega)
          have g0 := ext_cells (block_cell b6_0 0 _ rfl); have g1 := ext_cells (block_cell b6_0 1 _ rfl); have g2 := ext_cells (block_cell b6_0 2 _ rfl)
          have p0 := ext_cells p0; have p1 := ext_cells p1
          obtain ⟨-, d1, -, -⟩ := CB.out _ (x5.trans X')
          have d1 := ext_cells d1
          have HAL := Lib.hid al; have HOB := Lib.hid hob
          clear al hob hba hob' hy b6_0 A2 e' e'' hvk hfk
          go_upto_region 22 with fail
          rw [HW6.out, HB6.out]
          clear q0 q1 q2 q3 q4 q5' q6 q7 q8 q9 c0 c1 c2 c3 HW6 HB6
          cases ba with
          | false =>
            have HT1 : Hid (aloneB s k (j + 1) = false) := Lib.hid (by rw [HAL.out]; rfl)
            refine wp_region_ord [(0,true), (1,true), (2,true), (3,true), (4,true), (5,true), (6,true), (7,true), (8,true), (9,true), (10,true), (11,true), (12,true), (13,true), (14,true), (15,true), (16,true), (17,true), (18,true), (19,true), (20,true), (21,true), (22,true), (23,true), (24,true), (25,true), (26,true), (27,true), (28,true), (29,true), (30,true), (31,true), (32,true), (33,true), (34,true), (35,true), (36,true)] 37 Ext (Ext W6) wide (by kernel_rfl) (stable_ext _) (Ext.drawn _ _) ?_
            iterate 37 (first | (apply wpOrd_no rfl; rfl; (simp only [List.getElem_toArray, List.getElem_cons_succ, List.getElem_cons_zero, Act.put, List.setIfInBounds_toArray, List.set_cons_succ, List.set_cons_zero]; rfl)) | (apply wpOrd_yes rfl; rfl; (intro w' hw'; unfold opR; go_simp; exact ⟨Ext.refl _, rfl⟩); (simp only [List.getElem_toArray, List.getElem_cons_succ, List.getElem_cons_zero, Act.put, List.setIfInBounds_toArray, List.set_cons_succ, List.set_cons_zero]; rfl)))
            refine wpOrd_nil rfl ?_
            intro w9 x9
            have X9 := X'.trans x9
            clear g0 g1 g2 p0 p1 d1 E1
            go_wp2
            go_roundw
            case rel => exact ⟨j + 1, by omega, by go_num, by first | trivial | rw [HT1.out], X9⟩
            case measure => simp [intOf]; omega
          | true =>
          by_cases hv : y.v = vk
          · have e1 : (y.v == vk) = true := by rw [beq_iff_eq]; exact hv
            obtain rfl : ob = false := by rw [HOB.out, decide_eq_false (by simp [hv])]; rfl
            have HT1 : Hid (aloneB s k (j + 1) = true) := Lib.hid (by rw [HAL.out]; rfl)
            clear hv
            refine wp_region_ord [(0,true), (1,true), (2,true), (3,true), (4,true), (5,true), (6,true), (7,true), (8,true), (9,true), (10,true), (11,true), (12,true), (13,true), (14,true), (15,true), (16,true), (17,true), (18,true), (19,true), (20,true), (21,true), (22,true), (23,true), (24,true), (25,true), (26,true), (27,true), (28,true), (29,true), (30,true), (31,true), (32,true), (33,true), (34,true), (35,true), (36,true)] 37 Ext (Ext W6) wide (by kernel_rfl) (stable_ext _) (Ext.drawn _ _) ?_
            iterate 37 (first | (apply wpOrd_no rfl; rfl; (simp only [List.getElem_toArray, List.getElem_cons_succ, List.getElem_cons_zero, Act.put, List.setIfInBounds_toArray, List.set_cons_succ, List.set_cons_zero]; rfl)) | (apply wpOrd_yes rfl; rfl; (intro w' hw'; unfold opR; go_simp; exact ⟨Ext.refl _, rfl⟩); (simp only [List.getElem_toArray, List.getElem_cons_succ, List.getElem_cons_zero, Act.put, List.setIfInBounds_toArray, List.set_cons_succ, List.set_cons_zero]; rfl)))
            refine wpOrd_nil rfl ?_
            intro w9 x9
            have X9 := X'.trans x9
            clear g0 g1 g2 p0 p1 d1 E1
            go_wp2
            go_roundw
            case rel => exact ⟨j + 1, by omega, by go_num, by first | trivial | rw [HT1.out], X9⟩
            case measure => simp [intOf]; omega
          have e1 : (y.v == vk) = false := by rw [beq_eq_false_iff_ne]; exact hv
          by_cases hf : y.f ≤ fk - 1
          case neg =>
            have e2 : decide (fk - 1 < y.f) = true := decide_eq_true (by omega)
            obtain rfl : ob = false := by rw [HOB.out, decide_eq_false hf, Bool.false_and, Bool.and_false]
            have HT1 : Hid (aloneB s k (j + 1) = true) := Lib.hid (by rw [HAL.out]; rfl)
            clear hv hf
            refine wp_region_ord [(0,true), (1,true), (2,true), (3,true), (4,true), (5,true), (6,true), (7,true), (8,true), (9,true), (10,true), (11,true), (12,true), (13,true), (14,true), (15,true), (16,true), (17,true), (18,true), (19,true), (20,true), (21,true), (22,true), (23,true), (24,true), (25,true), (26,true), (27,true), (28,true), (29,true), (30,true), (31,true), (32,true), (33,true), (34,true), (35,true), (36,true)] 37 Ext (Ext W6) wide (by kernel_rfl) (stable_ext _) (Ext.drawn _ _) ?_
            iterate 37 (first | (apply wpOrd_no rfl; rfl; (simp only [List.getElem_toArray, List.getElem_cons_succ, List.getElem_cons_zero, Act.put, List.setIfInBounds_toArray, List.set_cons_succ, List.set_cons_zero]; rfl)) | (apply wpOrd_yes rfl; rfl; (intro w' hw'; unfold opR; go_simp; exact ⟨Ext.refl _, rfl⟩); (simp only [List.getElem_toArray, List.getElem_cons_succ, List.getElem_cons_zero, Act.put, List.setIfInBounds_toArray, List.set_cons_succ, List.set_cons_zero]; rfl)))
            refine wpOrd_nil rfl ?_
            intro w9 x9
            have X9 := X'.trans x9
            clear g0 g1 g2 p0 p1 d1 E1
            go_wp2
            go_roundw
            case rel => exact ⟨j + 1, by omega, by go_num, by first | trivial | rw [HT1.out], X9⟩
            case measure => simp [intOf]; omega
          have e2 : decide (fk - 1 < y.f) = false := decide_eq_false (by omega)
          by_cases hu : fk - 1 < y.u
          case neg =>
            have e3 : decide (y.u ≤ fk - 1) = true := decide_eq_true (by omega)
            obtain rfl : ob = false := by rw [HOB.out, decide_eq_false hu, Bool.and_false, Bool.and_false]
            have HT1 : Hid (aloneB s k (j + 1) = true) := Lib.hid (by rw [HAL.out]; rfl)
            clear hv hf hu
            refine wp_region_ord [(0,true), (1,true), (2,true), (3,true), (4,true), (5,true), (6,true), (7,true), (8,true), (9,true), (10,true), (11,true), (12,true), (13,true), (14,true), (15,true), (16,true), (17,true), (18,true), (19,true), (20,true), (21,true), (22,true), (23,true), (24,true), (25,true), (26,true), (27,true), (28,true), (29,true), (30,true), (31,true), (32,true), (33,true), (34,true), (35,true), (36,true)] 37 Ext (Ext W6) wide (by kernel_rfl) (stable_ext _) (Ext.drawn _ _) ?_
            iterate 37 (first | (apply wpOrd_no rfl; rfl; (simp only [List.getElem_toArray, List.getElem_cons_succ, List.getElem_cons_zero, Act.put, List.setIfInBounds_toArray, List.set_cons_succ, List.set_cons_zero]; rfl)) | (apply wpOrd_yes rfl; rfl; (intro w' hw'; unfold opR; go_simp; exact ⟨Ext.refl _, rfl⟩); (simp only [List.getElem_toArray, List.getElem_cons_succ, List.getElem_cons_zero, Act.put, List.setIfInBounds_toArray, List.set_cons_succ, List.set_cons_zero]; rfl)))
            refine wpOrd_nil rfl ?_
            intro w9 x9
            have X9 := X'.trans x9
            clear g0 g1 g2 p0 p1 d1 E1
            go_wp2
            go_roundw
            case rel => exact ⟨j + 1, by omega, by go_num, by first | trivial | rw [HT1.out], X9⟩
            case measure => simp [intOf]; omega
          have e3 : decide (y.u ≤ fk - 1) = false := decide_eq_false (by omega)
          obtain rfl : ob = true := by rw [HOB.out, decide_eq_true hv, decide_eq_true hf, decide_eq_true hu]; rfl
          have HT1 : Hid (aloneB s k (j + 1) = false) := Lib.hid (by rw [HAL.out]; rfl)
          clear hv hf hu
          refine wp_region_ord [(0,true), (1,true), (2,true), (3,true), (4,true), (5,true), (6,true), (7,true), (8,true), (9,true), (10,true), (11,true), (12,true), (13,true), (14,true), (15,true), (16,true), (17,true), (18,true), (19,true), (20,true), (21,true), (22,true), (23,true), (24,true), (25,true), (26,true), (27,true), (28,true), (29,true), (30,true), (31,true), (32,true), (33,true), (34,true), (35,true), (36,true)] 37 Ext (Ext W6) wide (by kernel_rfl) (stable_ext _) (Ext.drawn _ _) ?_
          iterate 37 (first | (apply wpOrd_no rfl; rfl; (simp only [List.getElem_toArray, List.getElem_cons_succ, List.getElem_cons_zero, Act.put, List.setIfInBounds_toArray, List.set_cons_succ, List.set_cons_zero]; rfl)) | (apply wpOrd_yes rfl; rfl; (intro w' hw'; unfold opR; go_simp; exact ⟨Ext.refl _, rfl⟩); (simp only [List.getElem_toArray, List.getElem_cons_succ, List.getElem_cons_zero, Act.put, List.setIfInBounds_toArray, List.set_cons_succ, List.set_cons_zero]; rfl)))
          refine wpOrd_nil rfl ?_
          intro w9 x9
          have X9 := X'.trans x9
          clear g0 g1 g2 p0 p1 d1 E1
          go_wp2
          go_roundw
          case rel => exact ⟨j + 1, by omega, by go_num, by first | trivial | rw [HT1.out], X9⟩
          case measure => simp [intOf]; omega
        · obtain rfl : j = s.notes.length := by omega
          obtain ⟨ba, hba⟩ : ∃ q, aloneB s k s.notes.length = q := ⟨_, rfl⟩
          rw [hba]
          have HBA := Lib.hid hba
          clear hba
          cases ba with
          | true =>
            clear c0 c2 c3
            go_wp2
            go_ret
            exact ⟨by first | rfl | simp, X0.trans xx⟩
          | false =>
            obtain ⟨hH, hF, hLs⟩ := MV.out HY.out HBA.out
            have hf2 := FH.out hH
            rw [hF, ← HFF.out] at hf2
            rw [HL.out] at hLs
            have HF2 := Lib.hid hf2
            have HL2 := Lib.hid hLs
            have SY2 := HSY.out.ext X
            clear hH hF hLs hf2 MV FH
            go_wp2_with fail
            refine (from_walk _ _ _ _ s (moveX xs b) k st _ (G1.ext xx) (S1.ext xx) SY2).mono ?_
            rw [HF2.out]
            rintro e w10 ⟨rfl, y10⟩
            have xa := xx.trans y10
            have SY3 := SY2.ext y10
            clear c0 c1 c2 c3
            obtain ⟨c0, c1, c2, c3⟩ := CB.out _ xa
            go_wp2_with fail
            refine (least_walk _ _ _ _ s xs k _ (G1.ext xa) (S1.ext xa) (V1.ext xa)).mono ?_
            rw [HL.out]
            rintro e w11 ⟨rfl, y11⟩
            have xb := xa.trans y11
            have SY4 := SY3.ext y11
            clear c0 c1 c2 c3
            obtain ⟨c0, c1, c2, c3⟩ := CB.out _ xb
            go_wp2_with fail
            refine (least_walk _ _ _ _ s (moveX xs b) k _ (G1.ext xb) (S1.ext xb) SY4).mono ?_
            rw [HL2.out]
            rintro e w12 ⟨rfl, y12⟩
            have HX := Lib.hid (X0.trans (xb.trans y12))
            have t1 : (fa == fa) = true := beq_self_eq_true _
            have t2 : (fe == fe) = true := beq_self_eq_true _
            have t3 : (la == la) = true := beq_self_eq_true _
            have t4 : (lb == lb) = true := beq_self_eq_true _
            have t5 : (le == le) = true := beq_self_eq_true _
            clear c0 c1 c2 c3
            go_wp2
            go_ret
            exact ⟨by first | rfl | simp, HX.out⟩

theorem singMoved_args (H : Type) (enc : TypeId × Value → H) (W : World) (base : Nat) (vs : List Value) (ds : List (DataW H)) (_ : ∀ k, (OpenSpec.ofChange Rows.singMovedSpec).cond = some k → k H ds = true) (hL : laidMetH Tryd.prog Rows.singMovedRow.laid W) (hA : Args enc Tryd.prog W base Tryd.f8.params.toList vs ds) :
    Calls Tryd.prog 8 vs.toArray W fun e W' => e = .returned (.bool true) ∧ Ext W W' := by
  rw [Tryd.params8] at hA
  obtain ⟨v0, _, d0, _, rfl, rfl, h0, hA⟩ := hA.cons
  obtain ⟨v1, _, d1, _, rfl, rfl, h1, hA⟩ := hA.cons
  obtain ⟨v2, _, d2, _, rfl, rfl, h2, hA⟩ := hA.cons
  obtain ⟨v3, _, d3, _, rfl, rfl, h3, hA⟩ := hA.cons
  obtain ⟨v4, _, d4, _, rfl, rfl, h4, hA⟩ := hA.cons
  obtain ⟨rfl, rfl⟩ := hA.nil
  obtain ⟨s0, vn0, vp0, vc0, rfl, S0⟩ := arg_score h0
  obtain ⟨l1, S1, n1⟩ := arg_vecs h1
  obtain ⟨x2, rfl, b2⟩ := arg_vec1 h2
  obtain ⟨k3, rfl, b3⟩ := h3.int Tryd.underlying3
  obtain ⟨k4, rfl, b4⟩ := h4.int Tryd.underlying3
  exact sgmov_law _ _ _ _ s0 l1 x2 k3 k4 W (gv_of hL) S0 S1

theorem singMoved_met (os : Os) : laidMet Tryd.prog Rows.singMovedRow.laid ((laidWorld os).forCall (fun _ _ => 0) ⟨#[], #[.agg #[.int .i64 0, .slice none 0 0, .slice none 0 0, .slice none 0 0], .slice none 0 0, .agg #[.int .i64 0, .int .i64 0, .int .i64 0, .int .i64 0, .int .i64 0, .int .i64 0], .int .i64 0, .int .i64 0], []⟩).memory := laidMet_of_run' 8 (by kernel_rfl) (by kernel_rfl)
theorem singMoved_reads (os : Os) {H : Type} (enc : TypeId × Value → H) : ∃ places, DataW.whole enc Tryd.prog ((laidWorld os).forCall (fun _ _ => 0) ⟨#[], #[.agg #[.int .i64 0, .slice none 0 0, .slice none 0 0, .slice none 0 0], .slice none 0 0, .agg #[.int .i64 0, .int .i64 0, .int .i64 0, .int .i64 0, .int .i64 0, .int .i64 0], .int .i64 0, .int .i64 0], []⟩).memory Tryd.f8.params.toList Rows.singMovedSpec.vars false #[.agg #[.int .i64 0, .slice none 0 0, .slice none 0 0, .slice none 0 0], .slice none 0 0, .agg #[.int .i64 0, .int .i64 0, .int .i64 0, .int .i64 0, .int .i64 0, .int .i64 0], .int .i64 0, .int .i64 0].toList 8 = some ([.agg [.lit (.int .i64 0), .nil, .nil, .nil], .nil, .agg [.lit (.int .i64 0), .lit (.int .i64 0), .lit (.int .i64 0), .lit (.int .i64 0), .lit (.int .i64 0), .lit (.int .i64 0)], .lit (.int .i64 0), .lit (.int .i64 0)], [], places) := ⟨[], by kernel_rfl⟩
set_option maxRecDepth 100000 in
theorem singMoved_lifted (os : Os) (started : os.Started) (H : Type) (enc : TypeId × Value → H) (F : Stop.Interp) :
    ReturnsInHanded {} Tryd.checked os 8 .any ((OpenSpec.ofChange Rows.singMovedSpec).preRow enc Tryd.prog Tryd.f8 Rows.singMovedRow.domain false Rows.singMovedRow.laid) (((OpenSpec.ofChange Rows.singMovedSpec).at F).post enc Tryd.prog Tryd.f8 false true false false) := by
  obtain ⟨places, hx⟩ := singMoved_reads os enc
  exact law_row (C := Tryd.checked) (s := (OpenSpec.ofChange Rows.singMovedSpec)) (by kernel_rfl) started (by kernel_rfl) Tryd.func8
    (witness_row_at (enc := enc) (C := Tryd.checked) false (laidWorld os) #[.agg #[.int .i64 0, .slice none 0 0, .slice none 0 0, .slice none 0 0], .slice none 0 0, .agg #[.int .i64 0, .int .i64 0, .int .i64 0, .int .i64 0, .int .i64 0, .int .i64 0], .int .i64 0, .int .i64 0] rfl (by kernel_rfl) (by kernel_rfl) (by kernel_rfl) (OpenSpec.preRow_of_cond 8 hx (by kernel_rfl) (fun k hk => by cases hk) (by kernel_rfl) (singMoved_met os)))
    (by kernel_rfl) (by kernel_rfl) (by kernel_rfl) rfl (fun ds h => by match ds, h with | [_, _, _, _, _], _ => rfl) (singMoved_args H enc)
theorem singMoved_said : Rows.SingMovedSaid :=
  OpenClaim.holds_of_cond 8 Tryd.f8 rfl rfl rfl rfl rfl rfl rfl ⟨rfl, rfl, rfl, rfl, rfl⟩ rfl rfl rfl rfl rfl (by kernel_rfl) Tryd.func8 (by kernel_rfl)
    (of_decide_eq_true (by kernel_rfl)) (by unfold Func.isWrapper; first | (rw [if_pos (by decide +kernel)]; kernel_rfl) | (rw [if_neg (by decide +kernel)]; exact ⟨rfl, rfl⟩))
    (fun os started H enc _ F => by rw [OpenClaim.pre_eq_preRow]; exact singMoved_lifted os started H enc F)
theorem singMoved_plain (f : FuncId) (fn : Func) (hf : Tryd.pinned.checked.prog.funcNamed "schisma/schismalaw22.SingMoved" = some f) (hfn : Tryd.pinned.checked.prog.funcs[f]? = some fn) :
    false = Tryd.pinned.checked.prog.looks [] ∧ ∀ (j : Nat) t, fn.params[j]? = some t → Tryd.pinned.checked.prog.wantsStandIn t = false := by
  obtain rfl : f = 8 := Option.some.inj ((show Tryd.prog.funcNamed "schisma/schismalaw22.SingMoved" = some 8 by kernel_rfl).symm.trans hf) |>.symm
  obtain rfl : fn = Tryd.f8 := (Option.some.inj (Tryd.func8.symm.trans hfn)).symm
  refine ⟨by kernel_rfl, fun j t ht => ?_⟩
  have hall : Tryd.f8.params.all (fun t => !Tryd.prog.wantsStandIn t) = true := by kernel_rfl
  have := (Array.all_eq_true'.1 hall) t (Array.mem_of_getElem? ht)
  have e : Tryd.prog.wantsStandIn t = false := by simpa using this
  exact e
/-- The card. -/
theorem singMoved_holds : Rows.SingMovedCardSaid :=
  Claim7.holds_tied_plain_at .later [] _ _ _ _ singMoved_said (fun _ h => by cases h) (by kernel_rfl) (fun _ h => by cases h) singMoved_row_tie rfl ⟨rfl, rfl⟩ (by kernel_rfl) rfl singMoved_plain (by kernel_rfl)
end Go.Proofs.YtigigcbondhmmaaDoor
