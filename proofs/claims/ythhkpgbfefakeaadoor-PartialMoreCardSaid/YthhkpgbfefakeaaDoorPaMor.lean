/-
  Proved: 'PartialMore' returns true for every input and leaves its arguments as they were. No condition.
-/
import Derived.Test.YthhkpgbfefakeaaDoorPaL
import Derived.Test.YthhkpgbfefakeaaDoorPaRefM
import Derived.Test.YthhkpgbfefakeaaDoorIns
namespace Go.Proofs.YthhkpgbfefakeaaDoor
open Go.RowKit Go.Sx Go.Sx.Sz Go.ChangeShapes Go.WideShapes Go.ChangeAt

theorem common_mem {l l' : List S2} (h : ∀ s, s ∈ l ↔ s ∈ l') : common l = common l' := by
  have lo : ∀ x, (common l).lo ≤ x ↔ (common l').lo ≤ x := fun x => by
    rw [@common_lo l x, @common_lo l' x]
    exact and_congr_right fun _ => ⟨fun k s hs => k s ((h s).2 hs), fun k s hs => k s ((h s).1 hs)⟩
  have hi : ∀ x, x ≤ (common l).hi ↔ x ≤ (common l').hi := fun x => by
    rw [@common_hi l x, @common_hi l' x]
    exact and_congr_right fun _ => ⟨fun k s hs => k s ((h s).2 hs), fun k s hs => k s ((h s).1 hs)⟩
  have a := (lo _).1 (Int.le_refl _); have b := (lo _).2 (Int.le_refl _)
  have c := (hi _).1 (Int.le_refl _); have e := (hi _).2 (Int.le_refl _)
  have : (common l).lo = (common l').lo ∧ (common l).hi = (common l').hi := ⟨by omega, by omega⟩
  cases hx : common l; cases hy : common l'
  simp only [hx, hy] at this
  simp [this]

theorem more_facts {l : List Row} {m : Row} {k : Nat} (hk : k ≤ l.length) (hr : rowsOk (l ++ [m]) = true) :
    ∃ (a b : S2) (e f : Int), toneR l = (a, e) ∧ toneR (l ++ [m]) = (b, f) ∧ toneR (l.take k ++ [m] ++ l.drop k) = (b, f) ∧ (f = 23 ∨ (e = 0 ∧ f = 0 ∧ a.lo ≤ b.lo ∧ b.hi ≤ a.hi)) := by
  have hall := rowsOk_iff.1 hr
  have hl : rowsOk l = true := rowsOk_iff.2 ⟨by have := hall.1; simp at this; omega, fun r hr => hall.2 r (by simp [hr])⟩
  have hmem : ∀ r, r ∈ l.take k ++ [m] ++ l.drop k ↔ r ∈ l ++ [m] := fun r => by
    have : r ∈ l ↔ r ∈ l.take k ∨ r ∈ l.drop k := by rw [← List.mem_append, List.take_append_drop]
    simp only [List.mem_append, this, List.mem_singleton]
    constructor
    · rintro ((h | h) | h)
      · exact .inl (.inl h)
      · exact .inr h
      · exact .inl (.inr h)
    · rintro ((h | h) | h)
      · exact .inl (.inl h)
      · exact .inr h
      · exact .inl (.inr h)
  have hm : rowsOk (l.take k ++ [m] ++ l.drop k) = true := rowsOk_iff.2 ⟨by
    have := hall.1
    simp at this ⊢
    omega, fun r hr' => hall.2 r ((hmem r).1 hr')⟩
  have hc : common ((l.take k ++ [m] ++ l.drop k).map rootS) = common ((l ++ [m]).map rootS) := common_mem fun s => by
    simp only [List.mem_map]
    exact ⟨fun ⟨r, h1, h2⟩ => ⟨r, (hmem r).1 h1, h2⟩, fun ⟨r, h1, h2⟩ => ⟨r, (hmem r).2 h1, h2⟩⟩
  have ht : toneR (l.take k ++ [m] ++ l.drop k) = toneR (l ++ [m]) := by rw [toneR, toneR, if_pos hm, if_pos hr, commonR, commonR, hc]
  rw [ht]
  have i1 := (@common_lo ((l ++ [m]).map rootS) _).1 (Int.le_refl _)
  have i2 := (@common_hi ((l ++ [m]).map rootS) _).1 (Int.le_refl _)
  have j1 : (common (l.map rootS)).lo ≤ (common ((l ++ [m]).map rootS)).lo := common_lo.2 ⟨i1.1, fun s hs => i1.2 s (by rw [List.map_append]; exact List.mem_append_left _ hs)⟩
  have j2 : (common ((l ++ [m]).map rootS)).hi ≤ (common (l.map rootS)).hi := common_hi.2 ⟨i2.1, fun s hs => i2.2 s (by rw [List.map_append]; exact List.mem_append_left _ hs)⟩
  rw [toneR, if_pos hl, toneR, if_pos hr, commonR, commonR]
  by_cases h : (common ((l ++ [m]).map rootS)).lo ≤ (common ((l ++ [m]).map rootS)).hi
  · rw [if_pos h, if_pos (by omega)]
    exact ⟨_, _, _, _, rfl, rfl, rfl, .inr ⟨rfl, rfl, j1, j2⟩⟩
  · rw [if_neg h]
    exact ⟨_, _, _, _, rfl, rfl, rfl, .inl rfl⟩

theorem sl1_row {B : Nat} {m : Row} {v : Value} {w : World} (h : Sl1 B 23 #[.int .i64 m.h, .int .i64 m.lo, .int .i64 m.hi] v w) : Sl w 3 encR v [m] := by
  obtain ⟨g, rfl, hB, hg⟩ := h
  exact (show OwnR w B 23 3 encR (.slice (some ⟨g, 0, none⟩) 1 1) [m] from ⟨rfl, .inr ⟨g, 1, _, rfl, hB, hg, Nat.le_refl _, by simp [maxLen], rfl, rfl⟩⟩).sl (fun _ _ => rfl) (by simp)

set_option maxHeartbeats 8000000 in
theorem more_law_walk (a? : Option Addr) (cap : Nat) (l : List Row) (m : Row) (at' : Int) (hn24 : l.length * 24 ≤ 140737488351232) (w : World) (G : Gv 0 1 w) (S : Sl w 3 encR (.slice a? l.length cap) l) :
    Calls Tryd.prog 7 #[.slice a? l.length cap, .agg #[.int .i64 m.h, .int .i64 m.lo, .int .i64 m.hi], .int .i64 at'] w fun e w' => e = .returned (.bool true) ∧ Ext w w' := by
  go_enter Tryd.func7, Tryd.ntmps7
  go_wp2_with fail
  refine (head_walk _ (G.ext (by repeat (first | with_reducible exact Ext.refl _ | with_reducible assumption | with_reducible apply Ext.alloc | with_reducible apply Ext.drew | (with_reducible refine Ext.setCell ?_ (by (try simp) <;> omega) _))))).mono ?_
  rintro e w1 ⟨rfl, x1⟩
  obtain ⟨hc1, hf1⟩ := x1.rules
  have hz1_0 : w.heap.size < w1.heap.size := by have := x1.size; (try simp at this); omega
  obtain ⟨hl1_0, hl1_1, hl1_2, hl1_3⟩ : w.heap.size < w1.heap.size + 1 ∧ w.heap.size < w1.heap.size + 1 + 1 ∧ w.heap.size < w1.heap.size + 1 + 1 + 1 ∧ ¬ w.heap.size = w1.heap.size := by omega
  have X1 : Ext w w1 := Ext.trans (by repeat (first | with_reducible exact Ext.refl _ | with_reducible assumption | with_reducible apply Ext.alloc | with_reducible apply Ext.drew | (with_reducible refine Ext.setCell ?_ (by (try simp) <;> omega) _))) x1
  go_wp2_with fail
  have b0 : w1.heap[w.heap.size]? = some (.cells #[.int .i64 m.h, .int .i64 m.lo, .int .i64 m.hi] 23 (0, 0)) := block_ext x1 (block_new w _)
  have q0 := block_cell b0 0 (.int .i64 m.h) rfl
  have q1 := block_cell b0 1 (.int .i64 m.lo) rfl
  have q2 := block_cell b0 2 (.int .i64 m.hi) rfl
  have f0 := ext_cells q0; have f1 := ext_cells q1; have f2 := ext_cells q2
  have S1 := S.ext X1
  clear x1 hc1 hf1 hz1_0 hl1_0 hl1_1 hl1_2 hl1_3 q0 q1 q2
  apply Y.wp_region_ordY [(0, .new Zero (fun v w' => OwnR w' w1.heap.size 23 3 encR v []) _ zero0), (1, .det _), (2, .new (fun _ => True) (fun v w' => OwnR w' w1.heap.size 23 3 encR v l) undef trivial [0]), (3, .det _), (4, .new (fun _ => True) (Sl1 w1.heap.size 23 #[.int .i64 m.h, .int .i64 m.lo, .int .i64 m.hi]) undef trivial)] 5 Ext Ext (Ext w1) (fun _ => True) wide
    [(0,true),(1,true),(2,true),(3,true),(4,true)] [(0,[]),(1,[]),(2,[0]),(3,[]),(4,[])] (by kernel_rfl) (by kernel_rfl) rfl rfl (by simp [Y.Kd.new, Y.Kd.det, Y.kdOf]) (by decide) (fun _ _ h => h) (stable_ext _) stable_true (Ext.drawn _ _) trivial ?main
  case main =>
    apply Y.ordX_new (fun v => stable_own' _ _ _ _ _ _) rfl rfl
    · intro w' hw' _
      unfold opR
      go_simp
      exact ⟨Ext.alloc' _ _, ⟨_, rfl⟩, OwnR.lit w' #[] [] 0 rfl hw'.size rfl rfl (by simp [maxLen])⟩
    · intro v; (simp only [List.getElem_toArray, List.getElem_cons_succ, List.getElem_cons_zero, Act.put, List.setIfInBounds_toArray, List.set_cons_succ, List.set_cons_zero]; rfl)
    rintro v0 ⟨g0, rfl⟩
    (apply Y.ordX_det rfl rfl; (intro w' hw'; unfold opR; go_simp; exact ⟨Ext.refl _, rfl⟩); (simp only [List.getElem_toArray, List.getElem_cons_succ, List.getElem_cons_zero, Act.put, List.setIfInBounds_toArray, List.set_cons_succ, List.set_cons_zero]; rfl))
    apply Y.ordX_new (fun v => stable_own' _ _ _ _ _ _) rfl rfl
    · intro w' hw' hN
      refine opR_app0 et_row (.tmp 17) (.tmp 18) rfl (hN 0 (by simp)) rfl l _ (S1.ext hw') rfl (fun _ _ => rfl) (by omega) hw'.size ?_
      intro v' w4 h1 h2 _
      exact ⟨h2, trivial, h1⟩
    · intro v; (simp only [List.getElem_toArray, List.getElem_cons_succ, List.getElem_cons_zero, Act.put, List.setIfInBounds_toArray, List.set_cons_succ, List.set_cons_zero]; rfl)
    intro v2 _
    (apply Y.ordX_det rfl rfl; (intro w' hw'; unfold opR; go_simp; exact ⟨Ext.refl _, rfl⟩); (simp only [List.getElem_toArray, List.getElem_cons_succ, List.getElem_cons_zero, Act.put, List.setIfInBounds_toArray, List.set_cons_succ, List.set_cons_zero]; rfl))
    apply Y.ordX_new (Sl1.stable _ _ _) rfl rfl
    · intro w' hw' _
      unfold opR
      go_simp
      exact ⟨Ext.alloc' _ _, Sl1.new w' _ _ hw'.size⟩
    · intro v; (simp only [List.getElem_toArray, List.getElem_cons_succ, List.getElem_cons_zero, Act.put, List.setIfInBounds_toArray, List.set_cons_succ, List.set_cons_zero]; rfl)
    intro v4 _
    refine Y.ordX_nil rfl ?_
    rintro w2 hw2 - ⟨⟨⟨-, o0⟩, o2⟩, g, rfl, hg, hrow⟩
    refine wpList_own_app et_row rfl (.tmp 19) (.tmp 21) rfl o2 rfl [m] ⟨g, 0, none⟩ 1 rfl (fun _ _ => rfl) (fun j u hu => row_news hrow j u hu) (by simp [encR, Value.oneCell']) (by simp; omega) hw2.size ?_
    intro v5 w5 o5 b5 a5 _
    have XB : Ext w1 w5 := Below.trans hw2 b5
    have S5 := o5.sl (fun _ _ => rfl) (by simp; omega)
    have SL := S1.ext XB
    have XW := X1.trans XB
    have GW := G.ext XW
    replace b0 := block_ext XB b0
    clear o2 o0 hrow hg o5 b5 a5 hw2 XB S1 f0 f1 f2 X1 S G
    cases hr : rowsOk (l ++ [m]) with
    | false =>
      have HR := Lib.hid hr
      clear hr
      go_wp2_with fail
      refine (rvalid_walk v5 _ _ GW S5).mono ?_
      rw [HR.out]
      rintro e w6 ⟨rfl, x6⟩
      have X6 := XW.trans x6
      go_wp2
      go_ret
      exact ⟨rfl, X6⟩
    | true =>
      by_cases h0 : at' < 0
      · have HR := Lib.hid hr
        clear hr
        go_wp2_with fail
        refine (rvalid_walk v5 _ _ GW S5).mono ?_
        rw [HR.out]
        rintro e w6 ⟨rfl, x6⟩
        have X6 := XW.trans x6
        go_wp2
        go_ret
        exact ⟨rfl, X6⟩
      · by_cases h1 : (l.length : Int) < at'
        · have HR := Lib.hid hr
          clear hr
          go_wp2_with fail
          refine (rvalid_walk v5 _ _ GW S5).mono ?_
          rw [HR.out]
          rintro e w6 ⟨rfl, x6⟩
          have X6 := XW.trans x6
          go_wp2
          go_ret
          exact ⟨rfl, X6⟩
        · obtain ⟨k, rfl⟩ : ∃ k : Nat, at' = k := ⟨at'.toNat, by omega⟩
          have hk : k ≤ l.length := by omega
          obtain ⟨a2, cap2, e1, c1, c2, c3⟩ := SL.len
          injection e1 with e1 e2 e3
          rw [← e3] at c1
          clear e1 e2 e3
          obtain ⟨ta, tb, te, tf, ha, hb, hc, hfin⟩ := more_facts hk hr
          have HA := Lib.hid ha; have HB := Lib.hid hb; have HC := Lib.hid hc; have HFIN := Lib.hid hfin
          have HR := Lib.hid hr
          have i1 : (0 : Int) ≤ (k : Int) := by omega
          have i3 : (k : Int) ≤ (l.length : Int) := by omega
          have j1 : decide ((k : Int) < 0) = false := decide_eq_false h0
          have j2 : decide ((l.length : Int) < (k : Int)) = false := decide_eq_false h1
          have C1 := Lib.hid (show (k : Int) ≤ (cap : Int) by omega)
          clear c1 c2 c3 cap2 a2
          clear ha hb hc hfin hr
          go_wp2_with fail
          refine (rvalid_walk v5 _ _ GW S5).mono ?_
          rw [HR.out]
          rintro e w6 ⟨rfl, x6⟩
          replace b0 := block_ext x6 b0
          have X6 := XW.trans x6
          have SL6 := SL.ext x6
          have S6 := S5.ext x6
          have G6 := GW.ext x6
          clear x6 XW SL S5 GW
          have B0 := Lib.hid b0
          clear b0 j1 j2
          go_wp2_with fail
          have b0 := B0.out
          clear B0
          refine (tone_walk _ l _ (G6.ext (by repeat (first | with_reducible exact Ext.refl _ | with_reducible assumption | with_reducible apply Ext.alloc | with_reducible apply Ext.drew | (with_reducible refine Ext.setCell ?_ (by (try simp) <;> omega) _)))) (SL6.ext (by repeat (first | with_reducible exact Ext.refl _ | with_reducible assumption | with_reducible apply Ext.alloc | with_reducible apply Ext.drew | (with_reducible refine Ext.setCell ?_ (by (try simp) <;> omega) _))))).mono ?_
          rw [HA.out]
          rintro e w7 ⟨rfl, x7⟩
          replace b0 := block_ext x7 b0
          have SL7 := SL6.ext x7
          have S7 := S6.ext x7
          have G7 := G6.ext x7
          have X7 := X6.trans x7
          clear x7 SL6 S6 G6 X6
          have d9 := block_new w7 (.cells #[.int .i64 ta.lo, .int .i64 ta.hi] 26)
          have y7 := Ext.alloc' w7 (.cells #[.int .i64 ta.lo, .int .i64 ta.hi] 26)
          have B0 := Lib.hid b0; have D9 := Lib.hid d9
          clear b0 d9
          go_wp2_with fail
          have b0 := B0.out; have d9 := D9.out
          clear B0 D9
          refine (tone_walk _ (l ++ [m]) _ (G7.ext (by repeat (first | with_reducible exact Ext.refl _ | with_reducible assumption | with_reducible apply Ext.alloc | with_reducible apply Ext.drew | (with_reducible refine Ext.setCell ?_ (by (try simp) <;> omega) _)))) (S7.ext (by repeat (first | with_reducible exact Ext.refl _ | with_reducible assumption | with_reducible apply Ext.alloc | with_reducible apply Ext.drew | (with_reducible refine Ext.setCell ?_ (by (try simp) <;> omega) _))))).mono ?_
          rw [HB.out]
          rintro e w8 ⟨rfl, x8⟩
          have y8 := y7.trans x8
          have k7 := block_lt b0
          replace b0 := block_ext y8 b0
          replace d9 := block_ext x8 d9
          have SL8 := SL7.ext y8
          have G8 := G7.ext y8
          have X8 := X7.trans y8
          have k8 := block_lt d9
          clear x8 y7 y8 SL7 S7 G7 X7
          have d11 := block_new w8 (.cells #[.int .i64 tb.lo, .int .i64 tb.hi] 26)
          have y8 := Ext.alloc' w8 (.cells #[.int .i64 tb.lo, .int .i64 tb.hi] 26)
          have B0 := Lib.hid b0; have D9 := Lib.hid d9; have D11 := Lib.hid d11
          clear b0 d9 d11
          go_wp2_with fail
          have b0 := B0.out; have d9 := D9.out; have d11 := D11.out
          clear B0 D9 D11
          obtain ⟨N, hN⟩ : ∃ N, w7.heap.size = N := ⟨_, rfl⟩
          obtain ⟨M, hM⟩ : ∃ N, w8.heap.size = N := ⟨_, rfl⟩
          obtain ⟨W, hW⟩ : ∃ W, w8.alloc (.cells #[.int .i64 tb.lo, .int .i64 tb.hi] 26) = W := ⟨_, rfl⟩
          rw [hW] at d11 y8 ⊢
          rw [hM] at d11 k8 ⊢
          rw [hN] at d9 k7 k8 ⊢
          replace b0 := block_ext y8 b0
          replace d9 := block_ext y8 d9
          have SW := SL8.ext y8
          have GW := G8.ext y8
          have XW := X8.trans y8
          clear y8 SL8 G8 X8 hW hM hN
          have f0 := ext_cells (block_cell b0 0 (.int .i64 m.h) rfl)
          have f1 := ext_cells (block_cell b0 1 (.int .i64 m.lo) rfl)
          have f2 := ext_cells (block_cell b0 2 (.int .i64 m.hi) rfl)
          have S0k := SW.cut (by omega) 0 k (Nat.zero_le _) hk
          have Skl := SW.cut (by omega) k l.length hk (Nat.le_refl _)
          rw [List.drop_zero] at S0k
          rw [List.take_length] at Skl
          have i2 := C1.out
          apply Y.wp_region_ordY [(0, .new Zero (Lit0 W.heap.size 23) _ zero0), (1, .det _), (2, .det _), (3, .det (sliced a? 0 k cap 3)), (5, .det _), (6, .new (fun _ => True) (Sl1 W.heap.size 23 #[.int .i64 m.h, .int .i64 m.lo, .int .i64 m.hi]) undef trivial), (8, .det _), (9, .det _), (10, .det (sliced a? k l.length cap 3)),
            (4, .one (fun _ => True) (fun v w' => OwnR w' W.heap.size 23 3 encR v (l.take k) ∧ (0 < k ∨ Zero v)) undef trivial [0]), (7, .one (fun _ => True) (fun v w' => OwnR w' W.heap.size 23 3 encR v (l.take k ++ [m])) undef trivial [6]), (11, .one (fun _ => True) (fun v w' => OwnR w' W.heap.size 23 3 encR v (l.take k ++ [m] ++ l.drop k)) undef trivial)]
            12 Ext (Keeps W.heap.size 3) (Ext W) (fun _ => True) wide
            [(0,true),(1,true),(2,true),(3,true),(5,true),(6,true),(8,true),(9,true),(10,true),(4,false),(7,false),(11,false)] [(0,[]),(1,[]),(2,[]),(3,[]),(5,[]),(6,[]),(8,[]),(9,[]),(10,[]),(4,[0]),(7,[6]),(11,[])] (by kernel_rfl) (by kernel_rfl) rfl rfl (by simp [Y.Kd.new, Y.Kd.det, Y.Kd.one, Y.kdOf]) (by decide) (fun _ _ h => Keeps.of_ext h) (keeps_cd _ _) stable_true (Ext.drawn _ _) trivial ?main2
          case main2 =>
            apply Y.ordX_new (fun v => Lit0.stableK _ _ _ _) rfl rfl
            · intro w' hw' _
              unfold opR
              go_simp
              exact ⟨Ext.alloc' _ _, ⟨_, rfl⟩, Lit0.new w' hw'.size _⟩
            · intro v; (simp only [List.getElem_toArray, List.getElem_cons_succ, List.getElem_cons_zero, Act.put, List.setIfInBounds_toArray, List.set_cons_succ, List.set_cons_zero]; rfl)
            rintro v0 ⟨g0, rfl⟩
            iterate 2 (apply Y.ordX_det rfl rfl; (intro w' hw'; unfold opR; go_simp; exact ⟨Ext.refl _, rfl⟩); (simp only [List.getElem_toArray, List.getElem_cons_succ, List.getElem_cons_zero, Act.put, List.setIfInBounds_toArray, List.set_cons_succ, List.set_cons_zero]; rfl))
            apply Y.ordX_det rfl rfl
            · intro w' hw'
              unfold opR
              go_simp
              exact ⟨Ext.refl _, rfl⟩
            · (simp only [List.getElem_toArray, List.getElem_cons_succ, List.getElem_cons_zero, Act.put, List.setIfInBounds_toArray, List.set_cons_succ, List.set_cons_zero]; rfl)
            (apply Y.ordX_det rfl rfl; (intro w' hw'; unfold opR; go_simp; exact ⟨Ext.refl _, rfl⟩); (simp only [List.getElem_toArray, List.getElem_cons_succ, List.getElem_cons_zero, Act.put, List.setIfInBounds_toArray, List.set_cons_succ, List.set_cons_zero]; rfl))
            apply Y.ordX_new (fun v => Sl1.stableK _ _ _ _ _ (by simp)) rfl rfl
            · intro w' hw' _
              unfold opR
              go_simp
              exact ⟨Ext.alloc' _ _, Sl1.new w' _ _ hw'.size⟩
            · intro v; (simp only [List.getElem_toArray, List.getElem_cons_succ, List.getElem_cons_zero, Act.put, List.setIfInBounds_toArray, List.set_cons_succ, List.set_cons_zero]; rfl)
            intro v6 _
            iterate 2 (apply Y.ordX_det rfl rfl; (intro w' hw'; unfold opR; go_simp; exact ⟨Ext.refl _, rfl⟩); (simp only [List.getElem_toArray, List.getElem_cons_succ, List.getElem_cons_zero, Act.put, List.setIfInBounds_toArray, List.set_cons_succ, List.set_cons_zero]; rfl))
            apply Y.ordX_det rfl rfl
            · intro w' hw'
              unfold opR
              go_simp
              exact ⟨Ext.refl _, rfl⟩
            · (simp only [List.getElem_toArray, List.getElem_cons_succ, List.getElem_cons_zero, Act.put, List.setIfInBounds_toArray, List.set_cons_succ, List.set_cons_zero]; rfl)
            apply Y.ordX_one (fun v _ _ h k => ⟨h.1.ext k, h.2⟩) rfl rfl
            · intro w' hw' _ hN
              refine opR_app0 et_row (.tmp 47) (.tmp 50) rfl (Lit0.own (hN 0 (by simp))) rfl (l.take k) _ (S0k.ext hw') rfl (fun _ _ => rfl) (by simp; omega) hw'.size ?_
              intro v' w4 h1 h2 h3
              refine ⟨Keeps.of_ext h2, trivial, h1, ?_⟩
              rcases Nat.eq_zero_or_pos k with h | h
              · exact .inr ⟨_, h3 (by simp [h])⟩
              · exact .inl h
            · intro v; (simp only [List.getElem_toArray, List.getElem_cons_succ, List.getElem_cons_zero, Act.put, List.setIfInBounds_toArray, List.set_cons_succ, List.set_cons_zero]; rfl)
            intro v4 _
            apply Y.ordX_one (fun v _ _ h k => h.ext k) rfl rfl
            · intro w' hw' hC hN
              refine opR_app_keep et_row (.tmp 51) (.tmp 53) rfl hC.1 ?_ rfl [m] _ (sl1_row (hN 6 (by simp))) rfl (fun _ _ => rfl) (by simp [encR, Value.oneCell']) (fun _ _ => rfl) (by simp; omega) hw'.size ?_
              · exact hC.2.imp (fun h => by simp; omega) id
              · intro v' w4 h1 h2
                exact ⟨h2, trivial, h1⟩
            · intro v; (simp only [List.getElem_toArray, List.getElem_cons_succ, List.getElem_cons_zero, Act.put, List.setIfInBounds_toArray, List.set_cons_succ, List.set_cons_zero]; rfl)
            intro v7 _
            apply Y.ordX_one (fun v _ _ h k => h.ext k) rfl rfl
            · intro w' hw' hC _
              refine opR_app_keep et_row (.tmp 54) (.tmp 57) rfl hC (.inl (by simp)) rfl (l.drop k) _ (Skl.ext hw') rfl (fun _ _ => rfl) (by simp [encR, Value.oneCell']) (fun _ _ => rfl) (by simp; omega) hw'.size ?_
              intro v' w4 h1 h2
              exact ⟨h2, trivial, h1⟩
            · intro v; (simp only [List.getElem_toArray, List.getElem_cons_succ, List.getElem_cons_zero, Act.put, List.setIfInBounds_toArray, List.set_cons_succ, List.set_cons_zero]; rfl)
            intro v13 _
            refine Y.ordX_nil rfl ?_
            rintro w9 hw9 o13 -
            have S13 := o13.sl (fun _ _ => rfl) (by simp; omega)
            have X9 := XW.trans hw9
            have G9 := GW.ext hw9
            have D9 := Lib.hid (block_ext hw9 d9)
            have D11 := Lib.hid (block_ext hw9 d11)
            clear o13 hw9 d9 d11 b0 f0 f1 f2 S0k Skl SW GW XW i1 i2 i3 C1 HA HB HR
            go_wp2_with fail
            all_goals
              refine (tone_walk v13 _ _ (G9.ext (by repeat (first | with_reducible exact Ext.refl _ | with_reducible assumption | with_reducible apply Ext.alloc | with_reducible apply Ext.drew | (with_reducible refine Ext.setCell ?_ (by (try simp) <;> omega) _)))) (S13.ext (by repeat (first | with_reducible exact Ext.refl _ | with_reducible assumption | with_reducible apply Ext.alloc | with_reducible apply Ext.drew | (with_reducible refine Ext.setCell ?_ (by (try simp) <;> omega) _))))).mono ?_
              rw [HC.out]
              rintro e w10 ⟨rfl, x10⟩
              have d9 := block_ext x10 D9.out
              have d11 := block_ext x10 D11.out
              have X10 := X9.trans x10
              have z9 := block_lt d9
              have z11 := block_lt d11
              obtain ⟨p9, _⟩ := block_rules d9
              obtain ⟨p11, _⟩ := block_rules d11
              have hfin := HFIN.out
              clear d9 d11 D9 D11 x10 S13 G9 X9 HFIN HC
              rcases hfin with rfl | ⟨rfl, rfl, l1, l2⟩
              · by_cases h : te = 0
                · subst h
                  go_wp2
                  go_ret
                  exact ⟨rfl, (by repeat (first | with_reducible exact Ext.refl _ | with_reducible assumption | with_reducible apply Ext.alloc | with_reducible apply Ext.drew | (with_reducible refine Ext.setCell ?_ (by (try simp) <;> omega) _)))⟩
                · have hb : (te != 0) = true := by simpa using h
                  go_wp2
                  go_ret
                  exact ⟨rfl, (by repeat (first | with_reducible exact Ext.refl _ | with_reducible assumption | with_reducible apply Ext.alloc | with_reducible apply Ext.drew | (with_reducible refine Ext.setCell ?_ (by (try simp) <;> omega) _)))⟩
              · go_wp2
                go_ret
                exact ⟨rfl, (by repeat (first | with_reducible exact Ext.refl _ | with_reducible assumption | with_reducible apply Ext.alloc | with_reducible apply Ext.drew | (with_reducible refine Ext.setCell ?_ (by (try simp) <;> omega) _)))⟩

theorem partialMore_args (H : Type) (enc : TypeId × Value → H) (W : World) (base : Nat) (vs : List Value) (ds : List (DataW H)) (_ : ∀ k, (OpenSpec.ofChange Rows.partialMoreSpec).cond = some k → k H ds = true) (hL : laidMetH Tryd.prog Rows.partialMoreRow.laid W) (hA : Args enc Tryd.prog W base Tryd.f7.params.toList vs ds) :
    Calls Tryd.prog 7 vs.toArray W fun e W' => e = .returned (.bool true) ∧ Ext W W' := by
  rw [Tryd.params7] at hA
  obtain ⟨v0, _, d0, _, rfl, rfl, h0, hA⟩ := hA.cons
  obtain ⟨v1, _, d1, _, rfl, rfl, h1, hA⟩ := hA.cons
  obtain ⟨v2, _, d2, _, rfl, rfl, h2, hA⟩ := hA.cons
  obtain ⟨rfl, rfl⟩ := hA.nil
  obtain ⟨l, S, _, hn⟩ := arg_rows h0
  obtain ⟨m, rfl, _⟩ := arg_row h1
  obtain ⟨n, rfl, _⟩ := h2.int Tryd.underlying3
  obtain ⟨a?, cap, rfl, _, _, _⟩ := S.len
  exact more_law_walk a? cap l m n hn W (gv_of hL) S

theorem partialMore_met (os : Os) : laidMet Tryd.prog Rows.partialMoreRow.laid ((laidWorld os).forCall (fun _ _ => 0) ⟨#[], #[.slice none 0 0, .agg #[.int .i64 0, .int .i64 0, .int .i64 0], .int .i64 0], []⟩).memory := laidMet_of_run' 8 (by kernel_rfl) (by kernel_rfl)
theorem partialMore_reads (os : Os) {H : Type} (enc : TypeId × Value → H) : ∃ places, DataW.whole enc Tryd.prog ((laidWorld os).forCall (fun _ _ => 0) ⟨#[], #[.slice none 0 0, .agg #[.int .i64 0, .int .i64 0, .int .i64 0], .int .i64 0], []⟩).memory Tryd.f7.params.toList Rows.partialMoreSpec.vars false #[.slice none 0 0, .agg #[.int .i64 0, .int .i64 0, .int .i64 0], .int .i64 0].toList 8 = some ([.nil, .agg [.lit (.int .i64 0), .lit (.int .i64 0), .lit (.int .i64 0)], .lit (.int .i64 0)], [], places) := ⟨[], by kernel_rfl⟩
set_option maxRecDepth 100000 in
theorem partialMore_lifted (os : Os) (started : os.Started) (H : Type) (enc : TypeId × Value → H) (F : Stop.Interp) :
    ReturnsInHanded {} Tryd.checked os 7 .any ((OpenSpec.ofChange Rows.partialMoreSpec).preRow enc Tryd.prog Tryd.f7 Rows.partialMoreRow.domain false Rows.partialMoreRow.laid) (((OpenSpec.ofChange Rows.partialMoreSpec).at F).post enc Tryd.prog Tryd.f7 false true false false) := by
  obtain ⟨places, hx⟩ := partialMore_reads os enc
  exact law_row (C := Tryd.checked) (s := (OpenSpec.ofChange Rows.partialMoreSpec)) (by kernel_rfl) started (by kernel_rfl) Tryd.func7
    (witness_row_at (enc := enc) (C := Tryd.checked) false (laidWorld os) #[.slice none 0 0, .agg #[.int .i64 0, .int .i64 0, .int .i64 0], .int .i64 0] rfl (by kernel_rfl) (by kernel_rfl) (by kernel_rfl) (OpenSpec.preRow_of_cond 8 hx (by kernel_rfl) (fun k hk => by cases hk) (by kernel_rfl) (partialMore_met os)))
    (by kernel_rfl) (by kernel_rfl) (by kernel_rfl) rfl (fun ds h => by match ds, h with | [_, _, _], _ => rfl) (partialMore_args H enc)
theorem partialMore_said : Rows.PartialMoreSaid :=
  OpenClaim.holds_of_cond 7 Tryd.f7 rfl rfl rfl rfl rfl rfl rfl ⟨rfl, rfl, rfl, rfl, rfl⟩ rfl rfl rfl rfl rfl (by kernel_rfl) Tryd.func7 (by kernel_rfl)
    (of_decide_eq_true (by kernel_rfl)) (by unfold Func.isWrapper; first | (rw [if_pos (by decide +kernel)]; kernel_rfl) | (rw [if_neg (by decide +kernel)]; exact ⟨rfl, rfl⟩))
    (fun os started H enc _ F => by rw [OpenClaim.pre_eq_preRow]; exact partialMore_lifted os started H enc F)
theorem partialMore_plain (f : FuncId) (fn : Func) (hf : Tryd.pinned.checked.prog.funcNamed "schisma/schismalaw37.PartialMore" = some f) (hfn : Tryd.pinned.checked.prog.funcs[f]? = some fn) :
    false = Tryd.pinned.checked.prog.looks [] ∧ ∀ (j : Nat) t, fn.params[j]? = some t → Tryd.pinned.checked.prog.wantsStandIn t = false := by
  obtain rfl : f = 7 := Option.some.inj ((show Tryd.prog.funcNamed "schisma/schismalaw37.PartialMore" = some 7 by kernel_rfl).symm.trans hf) |>.symm
  obtain rfl : fn = Tryd.f7 := (Option.some.inj (Tryd.func7.symm.trans hfn)).symm
  refine ⟨by kernel_rfl, fun j t ht => ?_⟩
  have hall : Tryd.f7.params.all (fun t => !Tryd.prog.wantsStandIn t) = true := by kernel_rfl
  have := (Array.all_eq_true'.1 hall) t (Array.mem_of_getElem? ht)
  have e : Tryd.prog.wantsStandIn t = false := by simpa using this
  exact e
/-- The card. -/
theorem partialMore_holds : Rows.PartialMoreCardSaid :=
  Claim7.holds_tied_plain_at .later [] _ _ _ _ partialMore_said (fun _ h => by cases h) (by kernel_rfl) (fun _ h => by cases h) partialMore_row_tie rfl ⟨rfl, rfl⟩ (by kernel_rfl) rfl partialMore_plain (by kernel_rfl)
end Go.Proofs.YthhkpgbfefakeaaDoor
