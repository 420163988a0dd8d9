/-
  Walk: align.Cost.
-/
import Derived.Test.YthpfalbeieloaaaGreatDoorAlE
import Derived.Test.YthpfalbeieloaaaGreatDoorAlN
import Derived.Test.YthpfalbeieloaaaGreatDoorLibB
set_option maxRecDepth 100000
set_option linter.unusedVariables false
namespace Go.Proofs.YthpfalbeieloaaaGreatDoor
open Go.RowKit Go.Sx Go.Sx.Sz Go.Sx.Al

theorem cost_no {ds : List Due} {hs : List Hrd} {p : Prc} {l : List Mt} (k : Nat) (h : aligB ds.length hs.length (-1) (-1) (l.take k) = false) : costR ds hs p l = (0, 1) := by
  unfold costR
  rw [if_neg]
  rintro ⟨_, h2⟩
  rw [aligB_take k h2] at h
  cases h

set_option maxHeartbeats 4000000 in
theorem cost_walk (vd vh vl : Value) (ds : List Due) (hs : List Hrd) (p : Prc) (l : List Mt) (hn1 : ds.length * 56 ≤ 140737488351232) (hn2 : hs.length * 24 ≤ 140737488351232) (w : World) (G : Gl 1 w) (Sd : Sl w 7 encD vd ds) (Sh : Sl w 3 encH vh hs) (Sm : Sl w 2 encM vl l) :
    Calls Tryz.prog 26 #[vd, vh, .agg #[.int .i64 p.skip, .int .i64 p.off], vl] w fun e w' => e = .returned (.tuple #[.int .i64 (costR ds hs p l).1, .int .i64 (costR ds hs p l).2]) ∧ Ext w w' := by
  obtain ⟨ad, cd, rfl, -, -, -⟩ := Sd.len
  obtain ⟨ah, ch, rfl, -, -, -⟩ := Sh.len
  obtain ⟨am, cm, rfl, -, -, hl3⟩ := Sm.len
  cases hok : alOk ds hs p with
  | false =>
    have HC : Hid (costR ds hs p l = (0, 1)) := Lib.hid (by unfold costR; rw [hok, if_neg (by simp)])
    have HO := Lib.hid hok
    clear hok
    go_enter Tryz.func26, Tryz.ntmps26
    go_wp2_with fail
    refine (alvalid_walk _ _ ds hs p hn1 hn2 _ (Sd.ext (by repeat (first | with_reducible exact Ext.refl _ | with_reducible assumption | with_reducible apply Ext.alloc | with_reducible apply Ext.drew | (with_reducible refine Ext.setCell ?_ (by (try simp) <;> omega) _)))) (Sh.ext (by repeat (first | with_reducible exact Ext.refl _ | with_reducible assumption | with_reducible apply Ext.alloc | with_reducible apply Ext.drew | (with_reducible refine Ext.setCell ?_ (by (try simp) <;> omega) _))))).mono ?_
    rw [HO.out]
    rintro e w1 ⟨rfl, x1⟩
    have X1 : Ext w w1 := Ext.trans (by repeat (first | with_reducible exact Ext.refl _ | with_reducible assumption | with_reducible apply Ext.alloc | with_reducible apply Ext.drew | (with_reducible refine Ext.setCell ?_ (by (try simp) <;> omega) _))) x1
    go_wp2
    go_ret2
    exact ⟨by rw [HC.out] <;> rfl, X1⟩
  | true =>
    have hv := alOk_iff.1 hok
    have HO := Lib.hid hok
    have HV := Lib.hid hv
    have hdn := hv.dn; have hhn := hv.hn
    obtain ⟨hs1, hs2⟩ := hv.skip
    have hmul : 0 ≤ p.skip * ((ds.length : Int) + (hs.length : Int)) ∧ p.skip * ((ds.length : Int) + (hs.length : Int)) ≤ 200000000 :=
      ⟨Int.mul_nonneg hs1 (by omega), Int.le_trans (Int.mul_le_mul_of_nonneg_right hs2 (by omega)) (by omega)⟩
    clear hok hv
    go_enter Tryz.func26, Tryz.ntmps26
    go_wp2_with fail
    refine (alvalid_walk _ _ ds hs p hn1 hn2 _ (Sd.ext (by repeat (first | with_reducible exact Ext.refl _ | with_reducible assumption | with_reducible apply Ext.alloc | with_reducible apply Ext.drew | (with_reducible refine Ext.setCell ?_ (by (try simp) <;> omega) _)))) (Sh.ext (by repeat (first | with_reducible exact Ext.refl _ | with_reducible assumption | with_reducible apply Ext.alloc | with_reducible apply Ext.drew | (with_reducible refine Ext.setCell ?_ (by (try simp) <;> omega) _))))).mono ?_
    rw [HO.out]
    rintro e w1 ⟨rfl, x1⟩
    have b0 := block_ext x1 (block_new w (.cells #[.int .i64 p.skip, .int .i64 p.off] 30))
    have X1 : Ext w w1 := Ext.trans (by repeat (first | with_reducible exact Ext.refl _ | with_reducible assumption | with_reducible apply Ext.alloc | with_reducible apply Ext.drew | (with_reducible refine Ext.setCell ?_ (by (try simp) <;> omega) _))) x1
    have c0 := block_cell b0 0 (.int .i64 p.skip) rfl
    have c1 := block_cell b0 1 (.int .i64 p.off) rfl
    clear x1
    go_wp2_with fail
    refine (prices_walk _ _ ds hs p HV.out _ ((G.ext X1).ext (by repeat (first | with_reducible exact Ext.refl _ | with_reducible assumption | with_reducible apply Ext.alloc | with_reducible apply Ext.drew | (with_reducible refine Ext.setCell ?_ (by (try simp) <;> omega) _)))) ((Sd.ext X1).ext (by repeat (first | with_reducible exact Ext.refl _ | with_reducible assumption | with_reducible apply Ext.alloc | with_reducible apply Ext.drew | (with_reducible refine Ext.setCell ?_ (by (try simp) <;> omega) _)))) ((Sh.ext X1).ext (by repeat (first | with_reducible exact Ext.refl _ | with_reducible assumption | with_reducible apply Ext.alloc | with_reducible apply Ext.drew | (with_reducible refine Ext.setCell ?_ (by (try simp) <;> omega) _))))).mono ?_
    rintro e w2 ⟨pd, ph, ps, pp, rfl, C2, x2⟩
    rw [prV]
    have x2' : Ext w1 w2 := x2
    have X2 : Ext w w2 := X1.trans x2'
    replace b0 := block_ext x2' b0
    have c0 := block_cell b0 0 (.int .i64 p.skip) rfl
    obtain ⟨mul, hmu⟩ : ∃ x, p.skip * ((ds.length : Int) + (hs.length : Int)) = x := ⟨_, rfl⟩
    have HMU := Lib.hid hmu
    have e1 : IntKind.i64.wrap mul = mul := IntWalk.i64_in _ (by rw [hmu] at hmul; omega)
    have SM := Sm.ext X2
    have z2 := block_lt b0
    have z3 : ¬ w.heap.size = w2.heap.size := by omega
    clear x2 x2' Sd Sh Sm G X1
    go_wp2
    obtain ⟨N, hN⟩ : ∃ N, w.heap.size = N := ⟨_, rfl⟩
    obtain ⟨L, hL⟩ : ∃ L, w2.heap.size = L := ⟨_, rfl⟩
    obtain ⟨W, hW⟩ : ∃ W, w2.alloc (.cells #[.int .i64 (-1), .int .i64 (-1)] 61) = W := ⟨_, rfl⟩
    have bL := block_at hL (.cells #[.int .i64 (-1), .int .i64 (-1)] 61)
    have x3 := Ext.alloc' w2 (.cells #[.int .i64 (-1), .int .i64 (-1)] 61)
    rw [hW] at bL x3 ⊢
    rw [hN] at b0 z2 z3 ⊢
    rw [hL] at z2 z3 ⊢
    have HL := Lib.hid hL
    clear hN hL hW c0 c1 e1
    go_loopw [12, 35] (fun c i wr => ∃ k : Nat, k ≤ l.length ∧ i = .int .i64 k ∧ aligB ds.length hs.length (-1) (-1) (l.take k) = true ∧ c = .int .i64 (mul + sav ds hs p (l.take k))
      ∧ wr.heap[L]? = some (.cells #[.int .i64 (lastM (-1) (-1) (l.take k)).d, .int .i64 (lastM (-1) (-1) (l.take k)).h] 61 (0, 0)) ∧ Ext w2 wr) (fun _ i _ => l.length - (intOf i).toNat)
    case atStart => exact ⟨0, by omega, rfl, rfl, by simp [sav], bL, x3⟩
    case round =>
      clear bL x3
      obtain ⟨k, hk, rfl, hal, rfl, bL, X⟩ := hrel
      have hbd := sav_bd HV.out (by omega) (by omega) hal
      have hkn : k ≤ 100 := by
        have := aligB_len (by omega) hal
        simp at this
        omega
      have hmb : 0 ≤ mul ∧ mul ≤ 200000000 := by rw [← HMU.out]; exact hmul
      have hlb := aligB_last (by omega) (by omega) hal
      rw [List.length_take, Nat.min_eq_left hk] at hbd
      obtain ⟨sv, hsv⟩ : ∃ x, sav ds hs p (l.take k) = x := ⟨_, rfl⟩
      rw [hsv] at hbd ⊢
      obtain ⟨hbd1, hbd2⟩ := hbd
      obtain ⟨hmb1, hmb2⟩ := hmb
      have HSV := Lib.hid hsv
      have HAL := Lib.hid hal
      clear hsv hal hmul
      by_cases hlt : k < l.length
      · obtain ⟨b, o, rfl, q0, q1⟩ := Sl.mt ((SM.ext X)) k hlt
        obtain ⟨x, hx⟩ : ∃ x, l[k] = x := ⟨_, rfl⟩
        rw [hx] at q0 q1
        have hsn := @aligB_snoc ds.length hs.length (-1) (-1) (l.take k) x
        have hss := @sav_snoc ds hs p (l.take k) x
        have hls := @lastM_snoc (-1) (-1) (l.take k) x
        have hts : l.take (k + 1) = l.take k ++ [x] := by rw [List.take_succ_eq_append_getElem hlt, hx]
        rw [← hts] at hsn hss hls
        obtain ⟨la, hla⟩ : ∃ la, lastM (-1) (-1) (l.take k) = la := ⟨_, rfl⟩
        rw [hla] at hsn bL hlb
        rw [HAL.out] at hsn
        rw [HSV.out] at hss
        have HSN := Lib.hid hsn; have HSS := Lib.hid hss; have HLS := Lib.hid hls
        clear hsn hss hls hts hla hx
        have r0 := block_cell bL 0 (.int .i64 la.d) rfl
        have r1 := block_cell bL 1 (.int .i64 la.h) rfl
        have zL := block_lt bL
        have zL1 : ¬ L = wr.heap.size := by omega
        have BL := Lib.hid bL
        clear bL
        have no : ∀ (h : ¬ ((la.d < x.d ∧ la.h < x.h) ∧ x.d < (ds.length : Int) ∧ x.h < (hs.length : Int))), costR ds hs p l = (0, 1) := fun h => cost_no (k + 1) (by rw [HSN.out, ← Bool.not_eq_true]; simpa using h)
        have NO := Lib.hid no
        clear no
        have XX := X2.trans X
        by_cases g1 : x.d ≤ la.d
        · go_wp2
          go_ret2
          exact ⟨by rw [NO.out (by omega)] <;> rfl, (by repeat (first | with_reducible exact Ext.refl _ | with_reducible assumption | with_reducible apply Ext.alloc | with_reducible apply Ext.drew | (with_reducible refine Ext.setCell ?_ (by (try simp) <;> omega) _)))⟩
        · by_cases g2 : x.h ≤ la.h
          · go_wp2
            go_ret2
            exact ⟨by rw [NO.out (by omega)] <;> rfl, (by repeat (first | with_reducible exact Ext.refl _ | with_reducible assumption | with_reducible apply Ext.alloc | with_reducible apply Ext.drew | (with_reducible refine Ext.setCell ?_ (by (try simp) <;> omega) _)))⟩
          · by_cases g3 : (ds.length : Int) ≤ x.d
            · go_wp2
              go_ret2
              exact ⟨by rw [NO.out (by omega)] <;> rfl, (by repeat (first | with_reducible exact Ext.refl _ | with_reducible assumption | with_reducible apply Ext.alloc | with_reducible apply Ext.drew | (with_reducible refine Ext.setCell ?_ (by (try simp) <;> omega) _)))⟩
            · by_cases g4 : (hs.length : Int) ≤ x.h
              · go_wp2
                go_ret2
                exact ⟨by rw [NO.out (by omega)] <;> rfl, (by repeat (first | with_reducible exact Ext.refl _ | with_reducible assumption | with_reducible apply Ext.alloc | with_reducible apply Ext.drew | (with_reducible refine Ext.setCell ?_ (by (try simp) <;> omega) _)))⟩
              · obtain ⟨i, hi⟩ : ∃ i : Nat, x.d = i := ⟨x.d.toNat, by omega⟩
                obtain ⟨j, hj⟩ : ∃ j : Nat, x.h = j := ⟨x.h.toNat, by omega⟩
                have hil : i < ds.length := by omega
                have hjl : j < hs.length := by omega
                have hmc := mcAt_eq (ds := ds) (hs := hs) (p := p) hi hj hil hjl
                have hmcb := mcAt_bd HV.out (x := x) (by omega) (by omega) (by omega) (by omega)
                obtain ⟨c, hc⟩ : ∃ c, mcAt ds hs p x = c := ⟨_, rfl⟩
                have hss := HSS.out
                rw [hc] at hmc hmcb hss
                have HMC := Lib.hid hmc; have HI := Lib.hid hi; have HJ := Lib.hid hj
                have HSS2 := Lib.hid hss
                have HOKK : Hid (aligB ds.length hs.length (-1) (-1) (l.take (k + 1)) = true) := Lib.hid (by rw [HSN.out]; simp; omega)
                obtain ⟨hmcb1, hmcb2⟩ := hmcb
                have e3 : IntKind.i64.wrap (2 * p.skip) = 2 * p.skip := IntWalk.i64_in _ (by omega)
                have e4 : IntKind.i64.wrap (c - 2 * p.skip) = c - 2 * p.skip := IntWalk.i64_in _ (by omega)
                have e5 : IntKind.i64.wrap (mul + sv + (c - 2 * p.skip)) = mul + sv + (c - 2 * p.skip) := IntWalk.i64_in _ (by omega)
                have E3 := Lib.hid e3; have E4 := Lib.hid e4; have E5 := Lib.hid e5
                have G0 := Lib.hid (block_ext X b0)
                clear hss hmc hc hi hj HSS e3 e4 e5 b0
                go_wp2
                obtain ⟨W3, hW3⟩ : ∃ W3, wr.alloc (.cells #[.int .i64 x.d, .int .i64 x.h] 61) = W3 := ⟨_, rfl⟩
                obtain ⟨M, hM⟩ : ∃ M, wr.heap.size = M := ⟨_, rfl⟩
                have bM := block_at hM (.cells #[.int .i64 x.d, .int .i64 x.h] 61)
                have y3 := Ext.alloc' wr (.cells #[.int .i64 x.d, .int .i64 x.h] 61)
                rw [hW3] at bM y3 ⊢
                rw [hM] at zL1 zL ⊢
                clear hW3 hM q0 q1 r0 r1
                have f0 := ext_cells (block_cell bM 0 (.int .i64 x.d) rfl)
                have f1 := ext_cells (block_cell bM 1 (.int .i64 x.h) rfl)
                have f2 := ext_cells (y3.cell (block_cell G0.out 0 (.int .i64 p.skip) rfl))
                have C3 := (C2.ext X).ext y3
                have e3 := E3.out; have e4 := E4.out; have e5 := E5.out
                have hcall : ∀ w', Ext W3 w' → Calls Tryz.prog 71 (#[.int .i64 x.d, .int .i64 x.h] ++ #[.pointer (some ⟨pd, 0, none⟩), .pointer (some ⟨ph, 0, none⟩), .pointer (some ⟨ps, 0, none⟩), .pointer (some ⟨pp, 0, none⟩)]) w' fun e w'' => e = .returned (.int .i64 c) ∧ Ext w' w'' := fun w' hw' => by
                  have := price_walk pd ph ps pp ds hs p HV.out i j hil hjl w' (C3.ext hw')
                  rw [← HMC.out] at this
                  rw [HI.out, HJ.out]
                  exact this
                have HCALL := Lib.hid hcall
                clear hcall
                refine wp_region_ord [(0,true), (1,true), (2,true), (3,true), (4,true), (5,true), (6,true), (7,true), (8,true), (9,true), (10,true), (11,true), (12,true)] 13 Ext (Ext W3) wide (by kernel_rfl) (stable_ext _) (Ext.drawn _ _) ?_
                iterate 6 (apply wpOrd_det rfl rfl; (intro w' hw'; unfold opR; go_simp; exact ⟨Ext.refl _, rfl⟩); (simp only [List.getElem_toArray, List.getElem_cons_succ, List.getElem_cons_zero, Act.put, List.setIfInBounds_toArray, List.set_cons_succ, List.set_cons_zero]; rfl))
                (apply wpOrd_det rfl rfl; (intro w' hw'; refine opR_callv rfl (by rfl) (Go.Proofs.enters_of Tryz.func71 (by kernel_rfl) rfl) (by simp only [List.map_toArray, List.map_cons, List.map_nil, Act.eval, Array.getD_eq_getD_getElem?, List.getElem?_toArray, List.getElem?_cons_succ, List.getElem?_cons_zero, Option.getD_some]; rfl) ?_; refine (HCALL.out w' hw').mono ?_; rintro e w4 ⟨rfl, hx⟩; exact ⟨_, rfl, hx, rfl⟩); (simp only [List.getElem_toArray, List.getElem_cons_succ, List.getElem_cons_zero, Act.put, List.setIfInBounds_toArray, List.set_cons_succ, List.set_cons_zero]; rfl))
                iterate 6 (apply wpOrd_det rfl rfl; (intro w' hw'; unfold opR; go_simp; exact ⟨Ext.refl _, rfl⟩); (simp only [List.getElem_toArray, List.getElem_cons_succ, List.getElem_cons_zero, Act.put, List.setIfInBounds_toArray, List.set_cons_succ, List.set_cons_zero]; rfl))
                refine wpOrd_nil rfl ?_
                intro W4 hW4
                have bM4 := block_ext hW4 bM
                have y4 := y3.trans hW4
                have bL4 := block_ext y4 BL.out
                have m0 := block_cell bM4 0 (.int .i64 x.d) rfl
                have m1 := block_cell bM4 1 (.int .i64 x.h) rfl
                have l0 := block_cell bL4 0 (.int .i64 la.d) rfl
                have l1 := block_cell bL4 1 (.int .i64 la.h) rfl
                have fr := (block_rules bL4).2
                have fin : ((W4.setCell ⟨L, 0, none⟩ (.int .i64 x.d)).setCell ⟨L, 1, none⟩ (.int .i64 x.h)).heap[L]? = some (.cells #[.int .i64 x.d, .int .i64 x.h] 61 (0, 0)) := by
                  have := block_set (block_set bL4 0 (.int .i64 x.d)) 1 (.int .i64 x.h)
                  simpa using this
                have XF : Ext w2 ((W4.setCell ⟨L, 0, none⟩ (.int .i64 x.d)).setCell ⟨L, 1, none⟩ (.int .i64 x.h)) := ((X.trans y4).setCell (by have := HL.out; simp; omega) _).setCell (by have := HL.out; simp; omega) _
                have FIN := Lib.hid fin; have XFF := Lib.hid XF
                clear fin XF f0 f1 f2 bM4 bM bL4 C3 e3 e4 e5 E3 E4 E5 y3 y4 hW4
                go_wp2
                go_roundw
                case rel => exact ⟨k + 1, by omega, by go_num, HOKK.out, congrArg (Value.int .i64) (by rw [HSS2.out]; omega), by rw [HLS.out]; exact FIN.out, XFF.out⟩
                case measure => simp [intOf]; omega
      · obtain rfl : k = l.length := by omega
        have hal := HAL.out
        have hsv := HSV.out
        rw [List.take_length] at hal hsv
        have HC : Hid (costR ds hs p l = (mul + sv, 0)) := Lib.hid (by unfold costR; rw [if_pos ⟨HO.out, hal⟩, ← hsv, ← HMU.out, Int.natCast_add])
        clear hal hsv bL b0
        go_wp2
        go_ret2
        exact ⟨by rw [HC.out] <;> rfl, X2.trans X⟩
end Go.Proofs.YthpfalbeieloaaaGreatDoor
