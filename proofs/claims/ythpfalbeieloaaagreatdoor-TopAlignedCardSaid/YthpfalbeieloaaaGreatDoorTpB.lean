/-
  Walk of schismatop.head41w17; rows of rows as an argument.
-/
import Derived.Test.YthpfalbeieloaaaGreatDoorTpA
import Derived.Test.YthpfalbeieloaaaGreatDoorBmL
set_option linter.unusedVariables false
namespace Go.Proofs.YthpfalbeieloaaaGreatDoor
open Go.RowKit Go.Sx Go.Sx.Sz Go.Sx.Sc Go.Sx.Au Go.Sx.Po Go.Sx.Bl Go.Sx.Tp Go.ChangeShapes Go.WideShapes Go.ChangeAt

theorem exT_1 : tonR exTr = (exTt, true) := by kernel_rfl
theorem exT_2 : ∃ a b c : Int, chgR exTs exTh exTt = ([⟨a, b, c⟩], 0) ∧ (a == 0) = true ∧ (b == 2) = true ∧ (c == -1) = true := ⟨0, 2, -1, by kernel_rfl, by decide, by decide, by decide⟩

theorem el_rowT {H : Type} {enc : TypeId × Value → H} {w : World} : El enc Tryz.prog w 64 3 encR (fun _ => True) :=
  (El.struct Tryz.underlying64 (by kernel_rfl) (Fs.cons (El.int Tryz.underlying3) (by kernel_rfl) rfl (Fs.cons (El.int Tryz.underlying3) (by kernel_rfl) rfl (Fs.cons (El.int Tryz.underlying3) (by kernel_rfl) rfl (Fs.nil _))))).map
    (fun a => (⟨a.1, a.2.1, a.2.2.1⟩ : Row)) (fun _ => rfl) (fun _ _ => trivial)
theorem arg_rows2 {H : Type} {enc : TypeId × Value → H} {W : World} {base : Nat} {v : Value} {d : DataW H} (h : Arg enc Tryz.prog W base 28 v d) : ∃ ls, RowsR W v ls ∧ ls.length * 24 ≤ 140737488351232 := by
  have hb : Tryz.prog.bytesOf 42 = 24 := by kernel_rfl
  have hb1 : Tryz.prog.bytesOf 64 = 24 := by kernel_rfl
  obtain ⟨l, a, b, c⟩ := Arg.slice (sz := 1) Tryz.underlying28 (by kernel_rfl) (by rw [hb]; decide) (El.slice (sz := 3) (enc := encR) (ok := fun _ => True) Tryz.underlying42 (by kernel_rfl) (by rw [hb1]; decide) el_rowT) h
  rw [hb] at c
  exact ⟨l.map Prod.snd, ⟨l, rfl, a, fun z hz => (b z hz).1⟩, by rw [List.length_map]; exact c⟩

set_option maxRecDepth 100000 in
set_option maxHeartbeats 8000000 in
theorem head41_walk (w : World) (G : Gv 0 1 w) : Calls Tryz.prog 4 #[] w fun e w' => e = .returned (.bool true) ∧ Ext w w' := by
  obtain ⟨ya, yb, yc, hch, g0, g1, g2⟩ := exT_2
  have X0 : Ext w (((w.alloc (.cells #[.int .i64 1, .int .i64 (-5), .int .i64 5] 64)).alloc (.cells #[.int .i64 2, .int .i64 19019549000, .int .i64 19019551000] 64)).alloc (.cells #[.slice (some ⟨w.heap.size, 0, none⟩) 1 1, .slice (some ⟨w.heap.size + 1, 0, none⟩) 1 1] 42)) := (by repeat (first | with_reducible exact Ext.refl _ | with_reducible assumption | with_reducible apply Ext.alloc | with_reducible apply Ext.drew | (with_reducible refine Ext.setCell ?_ (by (try simp) <;> omega) _)))
  have b0_0 := block_alloc (block_alloc (block_new w (.cells #[.int .i64 1, .int .i64 (-5), .int .i64 5] 64)) (.cells #[.int .i64 2, .int .i64 19019549000, .int .i64 19019551000] 64)) (.cells #[.slice (some ⟨w.heap.size, 0, none⟩) 1 1, .slice (some ⟨w.heap.size + 1, 0, none⟩) 1 1] 42)
  have b0_1 := block_alloc (block_at (w := (w.alloc (.cells #[.int .i64 1, .int .i64 (-5), .int .i64 5] 64))) (n := w.heap.size + 1) (by simp) (.cells #[.int .i64 2, .int .i64 19019549000, .int .i64 19019551000] 64)) (.cells #[.slice (some ⟨w.heap.size, 0, none⟩) 1 1, .slice (some ⟨w.heap.size + 1, 0, none⟩) 1 1] 42)
  have b0_2 := block_at (w := ((w.alloc (.cells #[.int .i64 1, .int .i64 (-5), .int .i64 5] 64)).alloc (.cells #[.int .i64 2, .int .i64 19019549000, .int .i64 19019551000] 64))) (n := w.heap.size + 1 + 1) (by simp) (.cells #[.slice (some ⟨w.heap.size, 0, none⟩) 1 1, .slice (some ⟨w.heap.size + 1, 0, none⟩) 1 1] 42)
  obtain ⟨W0, hW0⟩ : ∃ W, (((w.alloc (.cells #[.int .i64 1, .int .i64 (-5), .int .i64 5] 64)).alloc (.cells #[.int .i64 2, .int .i64 19019549000, .int .i64 19019551000] 64)).alloc (.cells #[.slice (some ⟨w.heap.size, 0, none⟩) 1 1, .slice (some ⟨w.heap.size + 1, 0, none⟩) 1 1] 42)) = W := ⟨_, rfl⟩
  obtain ⟨B0, hB0⟩ : ∃ B, w.heap.size = B := ⟨_, rfl⟩
  rw [hW0] at X0 b0_0 b0_1 b0_2
  rw [hB0] at b0_0 b0_1 b0_2
  have HZ0 : Hid (w.heap.size ≤ B0) := Lib.hid (by omega)
  have HW0 := Lib.hid hW0; have HB0 := Lib.hid hB0
  clear hW0 hB0
  have RR : RowsR W0 (.slice (some ⟨B0 + 1 + 1, 0, none⟩) 2 2) exTr := by
    refine ⟨[(.slice (some ⟨B0, 0, none⟩) 1 1, [⟨1, -5, 5⟩]), (.slice (some ⟨B0 + 1, 0, none⟩) 1 1, [⟨2, 19019549000, 19019551000⟩])], rfl, ?_, ?_⟩
    · exact Bk.sl (w := W0) (e := 42) (enc := fun z : Value × List Row => [z.1]) (sz := 1) ⟨_, b0_2, rfl⟩ (fun _ _ => rfl) rfl (by simp)
    · intro z hz
      rcases List.mem_cons.1 hz with rfl | hz
      · exact Bk.sl (w := W0) (e := 64) (enc := encR) (sz := 3) (xs := [⟨1, -5, 5⟩]) ⟨_, b0_0, rfl⟩ (fun _ _ => rfl) rfl (by simp)
      · rw [List.mem_singleton.1 hz]
        exact Bk.sl (w := W0) (e := 64) (enc := encR) (sz := 3) (xs := [⟨2, 19019549000, 19019551000⟩]) ⟨_, b0_1, rfl⟩ (fun _ _ => rfl) rfl (by simp)
  have G1 := G.ext X0
  have HCH := Lib.hid hch
  clear b0_0 b0_1 b0_2 G hch
  go_enter Tryz.func4, Tryz.ntmps4
  go_wp2_with fail
  rw [HW0.out, HB0.out]
  clear HW0 HB0
  refine (tones41_walk _ exTr (by decide) _ G1 RR).mono ?_
  rw [exT_1]
  rintro e w1 ⟨v1, rfl, T1, x1⟩
  go_wp2_with fail
  refine (score41_walk _).mono ?_
  rintro e w2 ⟨vn, vp, vc, rfl, S2, x2⟩
  have e3 := Ext.alloc' w2 (.cells #[.int .i64 0, .int .i64 0, .int .i64 0, .int .i64 0, .int .i64 0, .int .i64 0] 44)
  have V3 : Sl (w2.alloc (.cells #[.int .i64 0, .int .i64 0, .int .i64 0, .int .i64 0, .int .i64 0, .int .i64 0] 44)) 6 V6.list (.slice (some ⟨w2.heap.size, 0, none⟩) 1 1) exTh := Bk.sl (e := 44) (enc := V6.list) (sz := 6) (xs := exTh) ⟨_, block_new _ _, rfl⟩ (fun _ _ => rfl) rfl (by simp [exTh])
  have CW := charges_walk vn vp vc _ v1 exTs exTh exTt _ (G1.gl.ext (x1.trans (x2.trans e3))) (S2.ext e3) V3 (T1.ext (x2.trans e3))
  rw [HCH.out] at CW
  go_wp2_with fail
  refine CW.mono ?_
  rintro e w4 ⟨v4, rfl, L4, x4⟩
  obtain ⟨a4, q4, rfl, -, -, -⟩ := L4.len
  obtain ⟨bC, oC, rfl, k0, k1, k2⟩ := Sl.cg L4 0 (by simp)
  simp only [List.getElem_cons_zero, Nat.zero_mul, Nat.add_zero] at k0 k1 k2
  have HX := Lib.hid (X0.trans (x1.trans (x2.trans (e3.trans x4))))
  clear CW V3 e3 x1 x2 x4 L4 S2 T1 X0 RR G1
  simp only [List.length_cons, List.length_nil, Nat.zero_add]
  go_wp2
  go_ret
  exact ⟨by first | rfl | simp, HX.out⟩
end Go.Proofs.YthpfalbeieloaaaGreatDoor
