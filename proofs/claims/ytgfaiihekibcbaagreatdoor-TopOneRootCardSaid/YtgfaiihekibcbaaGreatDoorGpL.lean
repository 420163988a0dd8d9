/-
  Walks of chain: newGraph's join.
-/
import Derived.Test.YtgfaiihekibcbaaGreatDoorGpK
set_option maxRecDepth 100000
set_option linter.unusedVariables false
namespace Go.Sx.Ch
open Go.Sx.Sz Go.Sx.Po
theorem neg_six (v : V6) : addK V6.zero v (-1) 6 = v.times (-1) := by
  rw [addK_six]
  refine V6.ext' fun k hk => ?_
  rw [V6.add, V6.times, V6.get_of _ hk, V6.get_of _ hk]
  have : V6.zero.get k = 0 := by rcases lt6 hk with rfl | rfl | rfl | rfl | rfl | rfl <;> rfl
  omega
end Go.Sx.Ch
namespace Go.Proofs.YtgfaiihekibcbaaGreatDoor
open Go.RowKit Go.Sx Go.Sx.Sz Go.Sx.Sc Go.Sx.Po Go.Sx.Ch

set_option maxHeartbeats 8000000 in
theorem join_walk (a b : Nat) (k : Int) (v : V6) (hv : Sml 16 v) (bx gb B n : Nat) (vs : List Value) (rows : Nat → List Ed) (hn : vs.length = n) (ha : a < n) (hb : b < n) (hn2 : n ≤ 1000) (hra : (rows a).length ≤ 100000) (hrb : ∀ e, (addE rows a e b).length ≤ 100000) (w : World)
    (hbx : w.heap[bx]? = some (.cells #[.slice (some ⟨gb, 0, none⟩) n n] 53 (0, 0))) (hbB : bx < B) (hbg : bx ≠ gb) (hB : B ≤ w.heap.size) (G : Gph B gb vs rows w) :
    Calls Tryz.prog 34 #[.int .i64 a, .int .i64 b, .int .i64 k, .agg #[.int .i64 v.a, .int .i64 v.b, .int .i64 v.c, .int .i64 v.d, .int .i64 v.e, .int .i64 v.f], .pointer (some ⟨bx, 0, none⟩)] w fun e w' => e = .returned (.tuple #[]) ∧ ∃ vs', vs'.length = n ∧ Gph B gb vs' (addE (addE rows a ⟨a, b, k, v⟩) b ⟨b, a, k, v.times (-1)⟩) w' ∧ Kg B gb w w' := by
  have ix := fun (k : Nat) (hk : k < 6) (w : World) => run_index_v6 (P := Tryz.prog) (t := 32) Tryz.underlying32 Tryz.underlying3 (by kernel_rfl) v hk w
  have X0 : Ext w ((w.alloc (.cells (#[.int .i64 v.a, .int .i64 v.b, .int .i64 v.c, .int .i64 v.d, .int .i64 v.e, .int .i64 v.f] : Array Value) 32)).alloc (.cells #[.int .i64 0, .int .i64 0, .int .i64 0, .int .i64 0, .int .i64 0, .int .i64 0] 32)) := (by repeat (first | with_reducible exact Ext.refl _ | with_reducible assumption | with_reducible apply Ext.alloc | with_reducible apply Ext.drew | (with_reducible refine Ext.setCell ?_ (by (try simp) <;> omega) _)))
  have b0_0 := block_alloc (block_new w (.cells (#[.int .i64 v.a, .int .i64 v.b, .int .i64 v.c, .int .i64 v.d, .int .i64 v.e, .int .i64 v.f] : Array Value) 32)) (.cells #[.int .i64 0, .int .i64 0, .int .i64 0, .int .i64 0, .int .i64 0, .int .i64 0] 32)
  have b0_1 := block_at (w := (w.alloc (.cells (#[.int .i64 v.a, .int .i64 v.b, .int .i64 v.c, .int .i64 v.d, .int .i64 v.e, .int .i64 v.f] : Array Value) 32))) (n := w.heap.size + 1) (by simp) (.cells #[.int .i64 0, .int .i64 0, .int .i64 0, .int .i64 0, .int .i64 0, .int .i64 0] 32)
  obtain ⟨W0, hW0⟩ : ∃ W, ((w.alloc (.cells (#[.int .i64 v.a, .int .i64 v.b, .int .i64 v.c, .int .i64 v.d, .int .i64 v.e, .int .i64 v.f] : Array Value) 32)).alloc (.cells #[.int .i64 0, .int .i64 0, .int .i64 0, .int .i64 0, .int .i64 0, .int .i64 0] 32)) = W := ⟨_, rfl⟩
  obtain ⟨B0, hB0⟩ : ∃ B, w.heap.size = B := ⟨_, rfl⟩
  rw [hW0] at X0 b0_0 b0_1
  rw [hB0] at b0_0 b0_1
  have HZ0 : Hid (w.heap.size ≤ B0) := Lib.hid (by omega)
  have HW0 := Lib.hid hW0; have HB0 := Lib.hid hB0
  clear hW0 hB0
  have d0 := block_cell b0_0 0 _ rfl; have d1 := block_cell b0_0 1 _ rfl; have d2 := block_cell b0_0 2 _ rfl; have d3 := block_cell b0_0 3 _ rfl; have d4 := block_cell b0_0 4 _ rfl; have d5 := block_cell b0_0 5 _ rfl
  have hA : W0.heap[B0 + 1]? = some (.cells (addK V6.zero v (-1) 0).cells 32 (0, 0)) := by rw [addK_zero]; exact b0_1
  have H2 := Lib.hid hv
  have HA := Lib.hid hA; have HV0 := Lib.hid b0_0
  have HG0 := Lib.hid (G.ext X0); have HBX0 := Lib.hid (block_ext X0 hbx)
  have hBB0 : B ≤ B0 := by have := HB0.out; omega
  obtain ⟨u, hu⟩ : ∃ u, v.times (-1) = u := ⟨_, rfl⟩
  rw [hu]
  have HU := Lib.hid hu
  clear hv b0_0 b0_1 hA G hbx hu
  go_enter Tryz.func34, Tryz.ntmps34
  go_wp2
  rw [HW0.out, HB0.out]
  have KG0 := Lib.hid (X0.kg B gb)
  clear d0 d1 d2 d3 d4 d5 HW0 HB0
  go_loopw [13] (fun i wr => ∃ j : Nat, j ≤ 6 ∧ i = .int .i64 j ∧ wr.heap[B0 + 1]? = some (.cells (addK V6.zero v (-1) j).cells 32 (0, 0)) ∧ wr.heap[B0]? = some (.cells (#[.int .i64 v.a, .int .i64 v.b, .int .i64 v.c, .int .i64 v.d, .int .i64 v.e, .int .i64 v.f] : Array Value) 32 (0, 0)) ∧ wr.heap[bx]? = some (.cells #[.slice (some ⟨gb, 0, none⟩) n n] 53 (0, 0)) ∧ Gph B gb vs rows wr ∧ Kg B gb w wr) (fun i _ => 6 - (intOf i).toNat)
  case atStart => exact ⟨0, by omega, by first | rfl | trivial, HA.out, HV0.out, HBX0.out, HG0.out, KG0.out⟩
  case round =>
    obtain ⟨j, hj, rfl, hA, hV, hX, G, KG⟩ := hrel
    clear HA HV0 HG0 HBX0 KG0
    by_cases hlt : j < 6
    · have hx := ix j hlt
      clear ix
      have a2 := H2.out j hlt
      have hc := block_cell hA j _ (V6.cells_at _ hlt)
      rw [addK_get _ _ _ hlt] at hc
      have hf := block_free hA j
      have NX := Lib.hid (And.intro (block_set hA j (.int .i64 (V6.zero.get j + (-1) * v.get j))) (And.intro (block_ne hV (g := B0 + 1) j (.int .i64 (V6.zero.get j + (-1) * v.get j)) (by omega)) (block_ne hX (g := B0 + 1) j (.int .i64 (V6.zero.get j + (-1) * v.get j)) (by omega))))
      have GX : Hid (Gph B gb vs rows (wr.setCell ⟨B0 + 1, j, none⟩ (.int .i64 (V6.zero.get j + (-1) * v.get j)))) := Lib.hid ⟨G.blk.ne _ _ (by have := G.lt; show gb ≠ B0 + 1; omega), fun i hi => (G.row i hi).stay (fun e => by
        obtain ⟨cs, h⟩ := (G.row i hi).kind e
        rw [hA] at h; cases h) _, G.apart, G.lt⟩
      have KX : Hid (Kg B gb w (wr.setCell ⟨B0 + 1, j, none⟩ (.int .i64 (V6.zero.get j + (-1) * v.get j)))) := Lib.hid (KG.trans (Ks.kg ((Ks.refl [B0 + 1] wr).setCell (.inl (by simp)) _) (fun q hq => by simp at hq; omega)))
      rw [← addK_succ V6.zero v (-1) hlt] at NX
      have hz : V6.zero.get j = 0 := by rcases lt6 hlt with rfl | rfl | rfl | rfl | rfl | rfl <;> rfl
      rw [hz] at NX GX KX hc
      obtain ⟨y, hy1⟩ : ∃ y, v.get j = y := ⟨_, rfl⟩
      rw [hy1] at a2 hx NX GX KX
      have hy2 : 0 + (-1) * y = -y := by omega
      rw [hy2] at NX GX KX
      have E2 : IntKind.i64.wrap (-y) = -y := IntWalk.i64_in _ (by omega)
      have i1 : (0 : Int) ≤ (j : Int) := by omega
      have i2 : (j : Int) < 6 := by omega
      clear hA hV hX G KG hy1 hy2 hz a2
      go_wp2
      go_roundw
      case rel => exact ⟨j + 1, by omega, by go_num, NX.out.1, NX.out.2.1, NX.out.2.2, GX.out, KX.out⟩
      case measure => simp [intOf]; omega
    · obtain rfl : j = 6 := by omega
      rw [neg_six, HU.out] at hA
      have hA : wr.heap[B0 + 1]? = some (.cells (#[.int .i64 u.a, .int .i64 u.b, .int .i64 u.c, .int .i64 u.d, .int .i64 u.e, .int .i64 u.f] : Array Value) 32 (0, 0)) := hA
      have HX := Lib.hid hX; have HA := Lib.hid hA; have HV := Lib.hid hV; have HG := Lib.hid G; have HKG := Lib.hid KG
      have j1 : (0 : Int) ≤ (a : Int) := by omega
      have j2 : (a : Int) < (n : Int) := by omega
      have j3 : (0 : Int) ≤ (b : Int) := by omega
      have j4 : (b : Int) < (n : Int) := by omega
      clear hA hV hX G KG ix
      -- region 7
      have hiA7 : a < vs.length := by omega
      obtain ⟨va7, hva7⟩ : ∃ z, vs[a] = z := ⟨_, rfl⟩
      have own7 := HG.out.row a hiA7
      obtain ⟨hc7, hf7⟩ := HG.out.head hiA7
      rw [hva7] at own7 hc7
      have hnS7 : ∀ q ∈ ownL va7, B ≤ q ∧ q < wr.heap.size ∧ q ≠ B0 ∧ q ≠ B0 + 1 := fun q hq => by
        have hq' := mem_ownL.1 hq
        have h1 := World.ownsRow.lt own7 q hq'
        obtain ⟨cs, h2⟩ := own7.kind hq'
        refine ⟨h1.1, h1.2, fun e => ?_, fun e => ?_⟩
        · rw [e, HV.out] at h2; cases h2
        · rw [e, HA.out] at h2; cases h2
      have hlt7 := HG.out.lt
      have m0_7 := ks_cells (S := ownL va7) (block_cell HX.out 0 _ rfl) (fun h => by have h9 := (hnS7 bx h).1; omega)
      have m1_7 := ks_cells (S := ownL va7) hc7 (fun h => by have h9 := (hnS7 gb h).1; omega)
      have n0_7 := ks_cells (S := ownL va7) (block_cell HV.out 0 _ rfl) (fun h => (hnS7 B0 h).2.2.1 rfl)
      have n1_7 := ks_cells (S := ownL va7) (block_cell HV.out 1 _ rfl) (fun h => (hnS7 B0 h).2.2.1 rfl)
      have n2_7 := ks_cells (S := ownL va7) (block_cell HV.out 2 _ rfl) (fun h => (hnS7 B0 h).2.2.1 rfl)
      have n3_7 := ks_cells (S := ownL va7) (block_cell HV.out 3 _ rfl) (fun h => (hnS7 B0 h).2.2.1 rfl)
      have n4_7 := ks_cells (S := ownL va7) (block_cell HV.out 4 _ rfl) (fun h => (hnS7 B0 h).2.2.1 rfl)
      have n5_7 := ks_cells (S := ownL va7) (block_cell HV.out 5 _ rfl) (fun h => (hnS7 B0 h).2.2.1 rfl)
      have HO7 := Lib.hid own7; have HN7 := Lib.hid hnS7; have HVA7 := Lib.hid hva7
      have hkw7 := Lib.hid (show B ≤ wr.heap.size from by have := HKG.out.size; omega)
      clear own7 hc7 hf7 hnS7 hva7
      go_upto_region 7 with fail
      apply Y.wp_region_ordY [(0,.det _), (1,.det _), (2,.det _), (3,.det _), (4,.det _), (5,.det _), (6,.det _), (7,.det _), (8,.det _), (9,.det _), (10,.det _), (11,.det _), (12, .new (fun _ => True) (Sl1 wr.heap.size 76 #[.int .i64 (a : Int), .int .i64 (b : Int), .int .i64 k, .int .i64 v.a, .int .i64 v.b, .int .i64 v.c, .int .i64 v.d, .int .i64 v.e, .int .i64 v.f]) undef trivial),
        (13, .one (fun _ => True) (fun z W => OwnR W B 76 9 encE z (rows a ++ [(⟨a, b, k, v⟩ : Ed)]) ∧ ∃ W1, Ext wr W1 ∧ ∃ W2, Appd W1 W2 va7 z ∧ Ext W2 W) undef trivial [12])]
        14 Ext (Ks (ownL va7)) (Ks (ownL va7) wr) (Ext wr) wide
        [(0,true),(1,true),(2,true),(3,true),(4,true),(5,true),(6,true),(7,true),(8,true),(9,true),(10,true),(11,true),(12,true),(13,false)] [(0,[]),(1,[]),(2,[]),(3,[]),(4,[]),(5,[]),(6,[]),(7,[]),(8,[]),(9,[]),(10,[]),(11,[]),(12,[]),(13,[12])] (by kernel_rfl) (by kernel_rfl) rfl rfl (by simp [Y.Kd.new, Y.Kd.det, Y.Kd.one, Y.kdOf]) (by decide) (sub_ks _) (stable_ks _ _) (stable_ext _) (Ks.drawn _ _ _) (Ext.drawn _ _) ?main7
      case main7 =>
      iterate 12 (apply Y.ordX_det rfl rfl; (intro w' hw'; unfold opR; go_simp; exact ⟨Ext.refl _, rfl⟩); (simp only [List.getElem_toArray, List.getElem_cons_succ, List.getElem_cons_zero, Act.put, List.setIfInBounds_toArray, List.set_cons_succ, List.set_cons_zero]; rfl))
      apply Y.ordX_new (fun z => Sl1.stableS (fun q hq => (HN7.out q hq).2.1) z) rfl rfl
      · intro w' hw' _
        unfold opR
        go_simp
        exact ⟨Ext.alloc' _ _, Sl1.new w' _ _ hw'.size⟩
      · intro z; (simp only [List.getElem_toArray, List.getElem_cons_succ, List.getElem_cons_zero, Act.put, List.setIfInBounds_toArray, List.set_cons_succ, List.set_cons_zero]; rfl)
      intro z12_7 _
      apply Y.ordX_one (fun z _ _ h x => ⟨h.1.ext x, h.2.imp fun _ h => ⟨h.1, h.2.imp fun _ h => ⟨h.1, h.2.trans x⟩⟩⟩) rfl rfl
      · intro w' hw' hC hN
        obtain ⟨g3, hg3, -, hrow⟩ := hN 12 (by simp)
        refine opR_own_app et_ed (.tmp 27) (.tmp 34) rfl (HO7.out.ext hC) rfl [(⟨a, b, k, v⟩ : Ed)] ⟨g3, 0, none⟩ 1 hg3 (fun _ _ => rfl) (fun j q hq => row_news hrow j q hq) (by simp [encE, Value.oneCell']) (by simp; omega) (Nat.le_trans hkw7.out hC.size) ?_
        intro z w4 h1 h2 h3
        exact ⟨h3.ks (fun q hq => mem_ownL.2 hq), trivial, h1, w', hC, w4, h3, Ext.refl _⟩
      · intro z; (simp only [List.getElem_toArray, List.getElem_cons_succ, List.getElem_cons_zero, Act.put, List.setIfInBounds_toArray, List.set_cons_succ, List.set_cons_zero]; rfl)
      intro z7 _
      refine Y.ordX_nil rfl ?_
      rintro wz7 hwz7 ⟨ho7, W1_7, x1_7, W2_7, hap7, x2_7⟩ -
      have G1_7 : Hid (Gph B gb (vs.set a z7) (addE rows a (⟨a, b, k, v⟩ : Ed)) (wz7.setCell ⟨gb, a, none⟩ z7)) := Lib.hid (by
        rw [← HVA7.out] at hap7
        have h7 : Appd W1_7 wz7 vs[a] z7 := ⟨fun q hq hne => (x2_7.block q (Nat.lt_of_lt_of_le hq hap7.size)).trans (hap7.kept q hq hne), hap7.place, Nat.le_trans hap7.size x2_7.size, x2_7.os.trans hap7.os, x2_7.tape.trans hap7.tape, x2_7.output.trans hap7.output⟩
        exact (HG.out.ext x1_7).push hiA7 ho7 h7)
      have K1_7 : Hid (Kg B gb w (wz7.setCell ⟨gb, a, none⟩ z7)) := Lib.hid ((HKG.out.trans (hwz7.kg (fun q hq => .inl (HN7.out q hq).1))).setCell _ _)
      have HX1_7 := Lib.hid (block_ne (hwz7.at HX.out (fun h => by have := (HN7.out bx h).1; omega)) a z7 hbg)
      have HV1_7 := Lib.hid (block_ne (hwz7.at HV.out (fun h => (HN7.out B0 h).2.2.1 rfl)) (g := gb) a z7 (by omega))
      have HA1_7 := Lib.hid (block_ne (hwz7.at HA.out (fun h => (HN7.out (B0 + 1) h).2.2.2 rfl)) (g := gb) a z7 (by omega))
      have cg7 := m1_7 wz7 hwz7
      have fg7 : wz7.frozen? ⟨gb, a, none⟩ = false := by
        obtain ⟨cs, h1, -⟩ := HG.out.blk
        exact block_free (hwz7.at h1 (fun h => by have := (HN7.out gb h).1; omega)) a
      obtain ⟨az7, cz7, ez7⟩ := ho7.len
      obtain ⟨qz7, hqz7⟩ : ∃ q, (rows a ++ [(⟨a, b, k, v⟩ : Ed)]).length = q := ⟨_, rfl⟩
      rw [hqz7] at ez7
      clear hqz7 ho7 x1_7 hap7 x2_7 hwz7 m0_7 m1_7 n0_7 n1_7 n2_7 n3_7 n4_7 n5_7
      subst ez7
      obtain ⟨VS8, hVS8⟩ : ∃ q, vs.set a (.slice az7 qz7 cz7) = q := ⟨_, rfl⟩
      have hl8 : VS8.length = n := by rw [← hVS8, List.length_set]; exact hn
      rw [hVS8] at G1_7
      have HG8 := G1_7; have HKG8 := K1_7; have HX8 := HX1_7; have HV8 := HV1_7; have HA8 := HA1_7
      clear hVS8
      go_upto_region 8 with fail
      obtain ⟨W8, hW8⟩ : ∃ q, wz7.setCell ⟨gb, a, none⟩ (.slice az7 qz7 cz7) = q := ⟨_, rfl⟩
      rw [hW8] at HG8 HKG8 HX8 HV8 HA8 ⊢
      have hrb' := hrb (⟨a, b, k, v⟩ : Ed)
      clear G1_7 K1_7 HX1_7 HV1_7 HA1_7 cg7 fg7 hW8
      -- region 8
      have hiA8 : b < VS8.length := by omega
      obtain ⟨va8, hva8⟩ : ∃ z, VS8[b] = z := ⟨_, rfl⟩
      have own8 := HG8.out.row b hiA8
      obtain ⟨hc8, hf8⟩ := HG8.out.head hiA8
      rw [hva8] at own8 hc8
      have hnS8 : ∀ q ∈ ownL va8, B ≤ q ∧ q < W8.heap.size ∧ q ≠ B0 ∧ q ≠ B0 + 1 := fun q hq => by
        have hq' := mem_ownL.1 hq
        have h1 := World.ownsRow.lt own8 q hq'
        obtain ⟨cs, h2⟩ := own8.kind hq'
        refine ⟨h1.1, h1.2, fun e => ?_, fun e => ?_⟩
        · rw [e, HV8.out] at h2; cases h2
        · rw [e, HA8.out] at h2; cases h2
      have hlt8 := HG8.out.lt
      have m0_8 := ks_cells (S := ownL va8) (block_cell HX8.out 0 _ rfl) (fun h => by have h9 := (hnS8 bx h).1; omega)
      have m1_8 := ks_cells (S := ownL va8) hc8 (fun h => by have h9 := (hnS8 gb h).1; omega)
      have n0_8 := ks_cells (S := ownL va8) (block_cell HA8.out 0 _ rfl) (fun h => (hnS8 (B0 + 1) h).2.2.2 rfl)
      have n1_8 := ks_cells (S := ownL va8) (block_cell HA8.out 1 _ rfl) (fun h => (hnS8 (B0 + 1) h).2.2.2 rfl)
      have n2_8 := ks_cells (S := ownL va8) (block_cell HA8.out 2 _ rfl) (fun h => (hnS8 (B0 + 1) h).2.2.2 rfl)
      have n3_8 := ks_cells (S := ownL va8) (block_cell HA8.out 3 _ rfl) (fun h => (hnS8 (B0 + 1) h).2.2.2 rfl)
      have n4_8 := ks_cells (S := ownL va8) (block_cell HA8.out 4 _ rfl) (fun h => (hnS8 (B0 + 1) h).2.2.2 rfl)
      have n5_8 := ks_cells (S := ownL va8) (block_cell HA8.out 5 _ rfl) (fun h => (hnS8 (B0 + 1) h).2.2.2 rfl)
      have HO8 := Lib.hid own8; have HN8 := Lib.hid hnS8; have HVA8 := Lib.hid hva8
      have hkw8 := Lib.hid (show B ≤ W8.heap.size from by have := HKG8.out.size; omega)
      clear own8 hc8 hf8 hnS8 hva8
      apply Y.wp_region_ordY [(0,.det _), (1,.det _), (2,.det _), (3,.det _), (4,.det _), (5,.det _), (6,.det _), (7,.det _), (8,.det _), (9,.det _), (10,.det _), (11,.det _), (12, .new (fun _ => True) (Sl1 W8.heap.size 76 #[.int .i64 (b : Int), .int .i64 (a : Int), .int .i64 k, .int .i64 u.a, .int .i64 u.b, .int .i64 u.c, .int .i64 u.d, .int .i64 u.e, .int .i64 u.f]) undef trivial),
        (13, .one (fun _ => True) (fun z W => OwnR W B 76 9 encE z ((addE rows a (⟨a, b, k, v⟩ : Ed)) b ++ [(⟨b, a, k, u⟩ : Ed)]) ∧ ∃ W1, Ext W8 W1 ∧ ∃ W2, Appd W1 W2 va8 z ∧ Ext W2 W) undef trivial [12])]
        14 Ext (Ks (ownL va8)) (Ks (ownL va8) W8) (Ext W8) wide
        [(0,true),(1,true),(2,true),(3,true),(4,true),(5,true),(6,true),(7,true),(8,true),(9,true),(10,true),(11,true),(12,true),(13,false)] [(0,[]),(1,[]),(2,[]),(3,[]),(4,[]),(5,[]),(6,[]),(7,[]),(8,[]),(9,[]),(10,[]),(11,[]),(12,[]),(13,[12])] (by kernel_rfl) (by kernel_rfl) rfl rfl (by simp [Y.Kd.new, Y.Kd.det, Y.Kd.one, Y.kdOf]) (by decide) (sub_ks _) (stable_ks _ _) (stable_ext _) (Ks.drawn _ _ _) (Ext.drawn _ _) ?main8
      case main8 =>
      iterate 12 (apply Y.ordX_det rfl rfl; (intro w' hw'; unfold opR; go_simp; exact ⟨Ext.refl _, rfl⟩); (simp only [List.getElem_toArray, List.getElem_cons_succ, List.getElem_cons_zero, Act.put, List.setIfInBounds_toArray, List.set_cons_succ, List.set_cons_zero]; rfl))
      apply Y.ordX_new (fun z => Sl1.stableS (fun q hq => (HN8.out q hq).2.1) z) rfl rfl
      · intro w' hw' _
        unfold opR
        go_simp
        exact ⟨Ext.alloc' _ _, Sl1.new w' _ _ hw'.size⟩
      · intro z; (simp only [List.getElem_toArray, List.getElem_cons_succ, List.getElem_cons_zero, Act.put, List.setIfInBounds_toArray, List.set_cons_succ, List.set_cons_zero]; rfl)
      intro z12_8 _
      apply Y.ordX_one (fun z _ _ h x => ⟨h.1.ext x, h.2.imp fun _ h => ⟨h.1, h.2.imp fun _ h => ⟨h.1, h.2.trans x⟩⟩⟩) rfl rfl
      · intro w' hw' hC hN
        obtain ⟨g3, hg3, -, hrow⟩ := hN 12 (by simp)
        refine opR_own_app et_ed (.tmp 42) (.tmp 49) rfl (HO8.out.ext hC) rfl [(⟨b, a, k, u⟩ : Ed)] ⟨g3, 0, none⟩ 1 hg3 (fun _ _ => rfl) (fun j q hq => row_news hrow j q hq) (by simp [encE, Value.oneCell']) (by simp; omega) (Nat.le_trans hkw8.out hC.size) ?_
        intro z w4 h1 h2 h3
        exact ⟨h3.ks (fun q hq => mem_ownL.2 hq), trivial, h1, w', hC, w4, h3, Ext.refl _⟩
      · intro z; (simp only [List.getElem_toArray, List.getElem_cons_succ, List.getElem_cons_zero, Act.put, List.setIfInBounds_toArray, List.set_cons_succ, List.set_cons_zero]; rfl)
      intro z8 _
      refine Y.ordX_nil rfl ?_
      rintro wz8 hwz8 ⟨ho8, W1_8, x1_8, W2_8, hap8, x2_8⟩ -
      have G1_8 : Hid (Gph B gb (VS8.set b z8) (addE (addE rows a (⟨a, b, k, v⟩ : Ed)) b (⟨b, a, k, u⟩ : Ed)) (wz8.setCell ⟨gb, b, none⟩ z8)) := Lib.hid (by
        rw [← HVA8.out] at hap8
        have h7 : Appd W1_8 wz8 VS8[b] z8 := ⟨fun q hq hne => (x2_8.block q (Nat.lt_of_lt_of_le hq hap8.size)).trans (hap8.kept q hq hne), hap8.place, Nat.le_trans hap8.size x2_8.size, x2_8.os.trans hap8.os, x2_8.tape.trans hap8.tape, x2_8.output.trans hap8.output⟩
        exact (HG8.out.ext x1_8).push hiA8 ho8 h7)
      have K1_8 : Hid (Kg B gb w (wz8.setCell ⟨gb, b, none⟩ z8)) := Lib.hid ((HKG8.out.trans (hwz8.kg (fun q hq => .inl (HN8.out q hq).1))).setCell _ _)
      have HX1_8 := Lib.hid (block_ne (hwz8.at HX8.out (fun h => by have := (HN8.out bx h).1; omega)) b z8 hbg)
      have HV1_8 := Lib.hid (block_ne (hwz8.at HV8.out (fun h => (HN8.out B0 h).2.2.1 rfl)) (g := gb) b z8 (by omega))
      have HA1_8 := Lib.hid (block_ne (hwz8.at HA8.out (fun h => (HN8.out (B0 + 1) h).2.2.2 rfl)) (g := gb) b z8 (by omega))
      have cg8 := m1_8 wz8 hwz8
      have fg8 : wz8.frozen? ⟨gb, b, none⟩ = false := by
        obtain ⟨cs, h1, -⟩ := HG8.out.blk
        exact block_free (hwz8.at h1 (fun h => by have := (HN8.out gb h).1; omega)) b
      obtain ⟨az8, cz8, ez8⟩ := ho8.len
      obtain ⟨qz8, hqz8⟩ : ∃ q, ((addE rows a (⟨a, b, k, v⟩ : Ed)) b ++ [(⟨b, a, k, u⟩ : Ed)]).length = q := ⟨_, rfl⟩
      rw [hqz8] at ez8
      clear hqz8 ho8 x1_8 hap8 x2_8 hwz8 m0_8 m1_8 n0_8 n1_8 n2_8 n3_8 n4_8 n5_8
      subst ez8
      go_wp2
      go_end0
      exact ⟨rfl, _, by rw [List.length_set]; exact hl8, G1_8.out, K1_8.out⟩
end Go.Proofs.YtgfaiihekibcbaaGreatDoor
