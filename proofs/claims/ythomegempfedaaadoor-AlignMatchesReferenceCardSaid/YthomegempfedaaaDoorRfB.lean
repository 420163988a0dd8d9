/-
  Walks of the reference: schismaref38.Alignment, Cost.
-/
import Derived.Test.YthomegempfedaaaDoorRfA
set_option linter.unusedVariables false
namespace Go.Proofs.YthomegempfedaaaDoor
open Go.RowKit Go.Sx Go.Sx.Sz Go.Sx.Al

theorem lastM_take {a b : Int} {l : List Mt} {k : Nat} (hk : k < l.length) : lastM a b (l.take (k + 1)) = l[k] := by
  rw [List.take_succ_eq_append_getElem hk, lastM_snoc]
theorem alig_next {n m : Nat} {l : List Mt} {k : Nat} (hk : k < l.length) : aligB n m (-1) (-1) (l.take (k + 1)) = true ↔
    aligB n m (-1) (-1) (l.take k) = true ∧ ((lastM (-1) (-1) (l.take k)).d < l[k].d ∧ (lastM (-1) (-1) (l.take k)).h < l[k].h) ∧ l[k].d < n ∧ l[k].h < m := by
  rw [List.take_succ_eq_append_getElem hk, aligB_snoc]; simp
theorem alig_bad {n m : Nat} {l : List Mt} {k : Nat} (h : ¬ aligB n m (-1) (-1) (l.take k) = true) : aligB n m (-1) (-1) l = false := by
  cases hh : aligB n m (-1) (-1) l with
  | false => rfl
  | true => exact absurd (aligB_take k hh) h

set_option maxRecDepth 100000 in
set_option maxHeartbeats 4000000 in
theorem ralign_walk (n m : Nat) (hn : n ≤ 100) (hm : m ≤ 100) (vl : Value) (l : List Mt) (w : World) (S : Sl w 2 encM vl l) :
    Calls Tryd.prog 30 #[.int .i64 n, .int .i64 m, vl] w fun e w' => e = .returned (.bool (aligB n m (-1) (-1) l)) ∧ Ext w w' := by
  obtain ⟨a?, cap, rfl, -, -, h3⟩ := S.len
  go_enter Tryd.func30, Tryd.ntmps30
  go_wp2
  go_loopw [7] (fun i wr => ∃ k : Nat, k ≤ l.length ∧ i = .int .i64 k ∧ aligB n m (-1) (-1) (l.take k) = true ∧ Ext w wr) (fun i _ => l.length - (intOf i).toNat)
  case atStart => exact ⟨0, by omega, rfl, rfl, Ext.refl _⟩
  case round =>
    obtain ⟨k, hk, rfl, hal, X⟩ := hrel
    by_cases hlt : k < l.length
    · obtain ⟨b, o, rfl, q0, q1⟩ := Sl.mt (S.ext X) k hlt
      have hprev : ∀ j, j + 1 = k → wr.cell? ⟨b, o + j * 2, none⟩ = some (.int .i64 (lastM (-1) (-1) (l.take k)).d) ∧ wr.cell? ⟨b, o + j * 2 + 1, none⟩ = some (.int .i64 (lastM (-1) (-1) (l.take k)).h) := fun j e => by
        subst e
        obtain ⟨b', o', e', p0, p1⟩ := Sl.mt (S.ext X) j (by omega)
        cases e'
        rw [lastM_take (by omega)]
        exact ⟨p0, p1⟩
      have hnx := alig_next (n := n) (m := m) hlt
      have hl0 := aligB_last (by omega) (by omega) hal
      have h00 : k = 0 → lastM (-1) (-1) (l.take k) = ⟨-1, -1⟩ := fun e => by subst e; rfl
      obtain ⟨x, hx⟩ : ∃ x, l[k] = x := ⟨_, rfl⟩
      obtain ⟨y, hy⟩ : ∃ y, lastM (-1) (-1) (l.take k) = y := ⟨_, rfl⟩
      rw [hx, hy] at hnx
      rw [hx] at q0 q1
      rw [hy] at hl0 h00 hprev
      have HN := Lib.hid hnx; have HA := Lib.hid hal; have H0 := Lib.hid h00
      clear hnx hal hx hy h00
      obtain ⟨wo, rfl⟩ : ∃ wo : World, wo = wr := ⟨_, rfl⟩
      by_cases t1 : x.d < 0
      · go_wp2
        go_ret
        exact ⟨by rw [alig_bad (k := k + 1) (fun h => by have := HN.out.1 h; omega)] <;> rfl, X⟩
      by_cases t2 : (n : Int) ≤ x.d
      · go_wp2
        go_ret
        exact ⟨by rw [alig_bad (k := k + 1) (fun h => by have := HN.out.1 h; omega)] <;> rfl, X⟩
      by_cases t3 : x.h < 0
      · go_wp2
        go_ret
        exact ⟨by rw [alig_bad (k := k + 1) (fun h => by have := HN.out.1 h; omega)] <;> rfl, X⟩
      by_cases t4 : (m : Int) ≤ x.h
      · go_wp2
        go_ret
        exact ⟨by rw [alig_bad (k := k + 1) (fun h => by have := HN.out.1 h; omega)] <;> rfl, X⟩
      cases k with
      | zero =>
        have h0 := H0.out rfl
        rw [Nat.zero_mul, Nat.add_zero] at q0 q1
        go_wp2
        go_quiet (fail)
        go_wp2
        go_roundw
        case rel => exact ⟨1, by omega, by go_num, HN.out.2 ⟨HA.out, by rw [h0]; simp only; omega⟩, X.drewN _⟩
        case measure => simp [intOf]; omega
      | succ j =>
        obtain ⟨p0, p1⟩ := hprev j rfl
        clear hprev
        by_cases t5 : x.d ≤ y.d
        · have e5 : decide (x.d ≤ y.d) = true := decide_eq_true t5
          go_wp2
          go_quiet (fail)
          go_wp2
          go_ret
          exact ⟨by rw [alig_bad (k := j + 1 + 1) (fun h => by have := HN.out.1 h; omega)] <;> rfl, X.drewN _⟩
        · have e5 : decide (x.d ≤ y.d) = false := decide_eq_false t5
          by_cases t6 : x.h ≤ y.h
          · have e6 : decide (x.h ≤ y.h) = true := decide_eq_true t6
            go_wp2
            go_quiet (fail)
            go_wp2
            go_ret
            exact ⟨by rw [alig_bad (k := j + 1 + 1) (fun h => by have := HN.out.1 h; omega)] <;> rfl, X.drewN _⟩
          · have e6 : decide (x.h ≤ y.h) = false := decide_eq_false t6
            go_wp2
            go_quiet (fail)
            go_wp2
            go_roundw
            case rel => exact ⟨j + 1 + 1, by omega, by go_num, HN.out.2 ⟨HA.out, by omega⟩, X.drewN _⟩
            case measure => simp [intOf]; omega
    · obtain rfl : k = l.length := by omega
      rw [List.take_length] at hal
      have HA := Lib.hid hal
      clear hal S
      go_wp2
      go_ret
      exact ⟨by rw [HA.out] <;> rfl, X⟩

def sumC (ds : List Due) (hs : List Hrd) (p : Prc) (l : List Mt) : Int := (l.map (mcAt ds hs p)).sum
theorem sumC_snoc {ds : List Due} {hs : List Hrd} {p : Prc} {l : List Mt} {x : Mt} : sumC ds hs p (l ++ [x]) = sumC ds hs p l + mcAt ds hs p x := by simp [sumC]
theorem sav_sumC {ds : List Due} {hs : List Hrd} {p : Prc} : ∀ l : List Mt, sav ds hs p l = sumC ds hs p l - 2 * p.skip * l.length
  | [] => by simp [sav, sumC]
  | x :: l => by
    have := sav_sumC (ds := ds) (hs := hs) (p := p) l
    have e : 2 * p.skip * ((l.length + 1 : Nat) : Int) = 2 * p.skip * l.length + 2 * p.skip := by rw [Int.natCast_add, Int.mul_add]; simp
    simp only [sav, sumC, List.map_cons, List.sum_cons, List.length_cons] at *
    omega
theorem sumC_bd {ds : List Due} {hs : List Hrd} {p : Prc} (hv : AlOk ds hs p) {l : List Mt} (h : aligB ds.length hs.length (-1) (-1) l = true) : 0 ≤ sumC ds hs p l ∧ sumC ds hs p l ≤ 1100000 * l.length := by
  have key : ∀ (l : List Mt) (a b : Int), -1 ≤ a → -1 ≤ b → aligB ds.length hs.length a b l = true → 0 ≤ sumC ds hs p l ∧ sumC ds hs p l ≤ 1100000 * l.length := by
    intro l
    induction l with
    | nil => intro a b _ _ _; simp [sumC]
    | cons x l ih =>
      intro a b ha hb h
      simp only [aligB, Bool.and_eq_true, decide_eq_true_eq] at h
      have i := ih x.d x.h (by omega) (by omega) h.2
      have k := mcAt_bd hv (x := x) (by omega) (by omega) h.1.2.1 h.1.2.2
      simp only [sumC, List.map_cons, List.sum_cons, List.length_cons] at *
      omega
  exact key l _ _ (by omega) (by omega) h

set_option maxHeartbeats 4000000 in
theorem rcost_walk (vd vh vl : Value) (ds : List Due) (hs : List Hrd) (p : Prc) (l : List Mt) (w : World) (Sd : Sl w 7 encD vd ds) (Sh : Sl w 3 encH vh hs) (Sm : Sl w 2 encM vl l) :
    Calls Tryd.prog 15 #[vd, vh, .agg #[.int .i64 p.skip, .int .i64 p.off], vl] w fun e w' => e = .returned (.tuple #[.int .i64 (costR ds hs p l).1, .int .i64 (costR ds hs p l).2]) ∧ Ext w w' := by
  obtain ⟨ad, cd, rfl, -, -, -⟩ := Sd.len
  obtain ⟨ah, ch, rfl, -, -, -⟩ := Sh.len
  obtain ⟨am, cm, rfl, -, -, hl3⟩ := Sm.len
  cases hok : alOk ds hs p with
  | false =>
    have HC : Hid (costR ds hs p l = (0, 1)) := Lib.hid (by unfold costR; rw [hok, if_neg (by simp)])
    have HO := Lib.hid hok
    clear hok
    go_enter Tryd.func15, Tryd.ntmps15
    go_wp2_with fail
    refine (rvalid_walk _ _ ds hs p _ (Sd.ext (by repeat (first | with_reducible exact Ext.refl _ | with_reducible assumption | with_reducible apply Ext.alloc | with_reducible apply Ext.drew | (with_reducible refine Ext.setCell ?_ (by (try simp) <;> omega) _)))) (Sh.ext (by repeat (first | with_reducible exact Ext.refl _ | with_reducible assumption | with_reducible apply Ext.alloc | with_reducible apply Ext.drew | (with_reducible refine Ext.setCell ?_ (by (try simp) <;> omega) _))))).mono ?_
    rw [HO.out]
    rintro e w1 ⟨rfl, x1⟩
    have X1 : Ext w w1 := Ext.trans (by repeat (first | with_reducible exact Ext.refl _ | with_reducible assumption | with_reducible apply Ext.alloc | with_reducible apply Ext.drew | (with_reducible refine Ext.setCell ?_ (by (try simp) <;> omega) _))) x1
    go_wp2
    go_ret2
    exact ⟨by rw [HC.out] <;> rfl, X1⟩
  | true =>
  have hv := alOk_iff.1 hok
  have HO := Lib.hid hok
  have HV := Lib.hid hv
  have hdn := hv.dn; have hhn := hv.hn
  obtain ⟨hs1, hs2⟩ := hv.skip
  clear hok hv
  cases hal : aligB ds.length hs.length (-1) (-1) l with
  | false =>
    have HC : Hid (costR ds hs p l = (0, 1)) := Lib.hid (by unfold costR; rw [hal, if_neg (by simp)])
    have HA := Lib.hid hal
    clear hal
    go_enter Tryd.func15, Tryd.ntmps15
    go_wp2_with fail
    refine (rvalid_walk _ _ ds hs p _ (Sd.ext (by repeat (first | with_reducible exact Ext.refl _ | with_reducible assumption | with_reducible apply Ext.alloc | with_reducible apply Ext.drew | (with_reducible refine Ext.setCell ?_ (by (try simp) <;> omega) _)))) (Sh.ext (by repeat (first | with_reducible exact Ext.refl _ | with_reducible assumption | with_reducible apply Ext.alloc | with_reducible apply Ext.drew | (with_reducible refine Ext.setCell ?_ (by (try simp) <;> omega) _))))).mono ?_
    rw [HO.out]
    rintro e w1 ⟨rfl, x1⟩
    have X1 : Ext w w1 := Ext.trans (by repeat (first | with_reducible exact Ext.refl _ | with_reducible assumption | with_reducible apply Ext.alloc | with_reducible apply Ext.drew | (with_reducible refine Ext.setCell ?_ (by (try simp) <;> omega) _))) x1
    clear x1
    go_wp2_with fail
    refine (ralign_walk ds.length hs.length hdn hhn _ l _ (Sm.ext X1)).mono ?_
    rw [HA.out]
    rintro e w2 ⟨rfl, x2⟩
    have X2 : Ext w w2 := X1.trans x2
    go_wp2
    go_ret2
    exact ⟨by rw [HC.out] <;> rfl, X2⟩
  | true =>
    have hC : costR ds hs p l = (p.skip * ((ds.length : Int) + hs.length - 2 * l.length) + sumC ds hs p l, 0) := by
      unfold costR
      rw [HO.out, if_pos ⟨rfl, hal⟩, sav_sumC]
      congr 1
      have : p.skip * ((ds.length : Int) + hs.length - 2 * l.length) = p.skip * ((ds.length : Int) + hs.length) - 2 * p.skip * l.length := by
        rw [Int.mul_sub, Int.mul_comm 2 p.skip, Int.mul_assoc]
      rw [this]
      simp only [Int.natCast_add]
      omega
    have hlen : l.length ≤ 100 := by
      have := aligB_len (by omega) hal
      omega
    have hmb : -100000000 ≤ p.skip * ((ds.length : Int) + hs.length - 2 * l.length) ∧ p.skip * ((ds.length : Int) + hs.length - 2 * l.length) ≤ 200000000 := by
      have h0 := aligB_len (by omega) hal
      obtain ⟨q, hq⟩ : ∃ q, (ds.length : Int) + hs.length - 2 * l.length = q := ⟨_, rfl⟩
      rw [hq]
      have q1 : -100 ≤ q := by omega
      have q2 : q ≤ 200 := by omega
      have a1 := Int.mul_le_mul_of_nonneg_left q1 hs1
      have a2 := Int.mul_le_mul_of_nonneg_left q2 hs1
      constructor
      · have : p.skip * (-100) = -(100 * p.skip) := by omega
        omega
      · have : p.skip * 200 = 200 * p.skip := by omega
        omega
    have HC := Lib.hid hC
    have HA := Lib.hid hal
    clear hal hC
    go_enter Tryd.func15, Tryd.ntmps15
    go_wp2_with fail
    refine (rvalid_walk _ _ ds hs p _ (Sd.ext (by repeat (first | with_reducible exact Ext.refl _ | with_reducible assumption | with_reducible apply Ext.alloc | with_reducible apply Ext.drew | (with_reducible refine Ext.setCell ?_ (by (try simp) <;> omega) _)))) (Sh.ext (by repeat (first | with_reducible exact Ext.refl _ | with_reducible assumption | with_reducible apply Ext.alloc | with_reducible apply Ext.drew | (with_reducible refine Ext.setCell ?_ (by (try simp) <;> omega) _))))).mono ?_
    rw [HO.out]
    rintro e w1 ⟨rfl, x1⟩
    have b0 := block_ext x1 (block_new w (.cells #[.int .i64 p.skip, .int .i64 p.off] 25))
    have X1 : Ext w w1 := Ext.trans (by repeat (first | with_reducible exact Ext.refl _ | with_reducible assumption | with_reducible apply Ext.alloc | with_reducible apply Ext.drew | (with_reducible refine Ext.setCell ?_ (by (try simp) <;> omega) _))) x1
    clear x1
    go_wp2_with fail
    refine (ralign_walk ds.length hs.length hdn hhn _ l _ (Sm.ext X1)).mono ?_
    rw [HA.out]
    rintro e w2 ⟨rfl, x2⟩
    have X2 : Ext w w2 := X1.trans x2
    replace b0 := block_ext x2 b0
    have c0 := block_cell b0 0 (.int .i64 p.skip) rfl
    obtain ⟨mul, hmu⟩ : ∃ x, p.skip * ((ds.length : Int) + hs.length - 2 * l.length) = x := ⟨_, rfl⟩
    have HMU := Lib.hid hmu
    rw [hmu] at hmb
    have e1 : IntKind.i64.wrap mul = mul := IntWalk.i64_in _ (by omega)
    have SM := Sm.ext X2
    have SD := Sd.ext X2
    have SH := Sh.ext X2
    clear x2 Sd Sh Sm X1
    go_wp2
    obtain ⟨N, hN⟩ : ∃ N, w.heap.size = N := ⟨_, rfl⟩
    rw [hN] at b0 ⊢
    have HNN := Lib.hid hN
    clear hN c0 e1
    go_loopw [11, 12] (fun c i wr => ∃ k : Nat, k ≤ l.length ∧ i = .int .i64 k ∧ c = .int .i64 (mul + sumC ds hs p (l.take k)) ∧ Ext w2 wr) (fun _ i _ => l.length - (intOf i).toNat)
    case atStart => exact ⟨0, by omega, rfl, by simp [sumC], Ext.refl _⟩
    case round =>
      obtain ⟨k, hk, rfl, rfl, X⟩ := hrel
      by_cases hlt : k < l.length
      · have hal1 := aligB_take (k + 1) HA.out
        obtain ⟨hal0, ⟨l1, l2⟩, l3, l4⟩ := (alig_next hlt).1 hal1
        obtain ⟨l5, l6⟩ := aligB_last (by omega) (by omega) hal0
        have hsb := sumC_bd HV.out hal0
        have hsn : sumC ds hs p (l.take (k + 1)) = sumC ds hs p (l.take k) + mcAt ds hs p l[k] := by rw [List.take_succ_eq_append_getElem hlt, sumC_snoc]
        have hmc := mcAt_bd HV.out (x := l[k]) (by omega) (by omega) l3 l4
        rw [List.length_take, Nat.min_eq_left (by omega)] at hsb
        obtain ⟨b, o, rfl, q0, q1⟩ := Sl.mt (SM.ext X) k hlt
        obtain ⟨x, hx⟩ : ∃ x, l[k] = x := ⟨_, rfl⟩
        rw [hx] at q0 q1 hsn hmc l1 l2 l3 l4
        obtain ⟨xd, hxd⟩ : ∃ i : Nat, x.d = i := ⟨x.d.toNat, by omega⟩
        obtain ⟨xh, hxh⟩ : ∃ i : Nat, x.h = i := ⟨x.h.toNat, by omega⟩
        have k1 : xd < ds.length := by omega
        have k2 : xh < hs.length := by omega
        have hme := mcAt_eq (ds := ds) (hs := hs) (p := p) hxd hxh k1 k2
        obtain ⟨bd, od, rfl, d0, d1, d2, d3, d4, d5, d6⟩ := Sl.due (SD.ext X) xd k1
        obtain ⟨bh, oh, rfl, g0, g1, g2⟩ := Sl.hrd (SH.ext X) xh k2
        have d1b := HV.out.dt _ (List.getElem_mem k1)
        have h1b := HV.out.ht _ (List.getElem_mem k2)
        have hob := HV.out.off
        obtain ⟨du, hdu⟩ : ∃ d, ds[xd] = d := ⟨_, rfl⟩
        obtain ⟨hu, hhu⟩ : ∃ d, hs[xh] = d := ⟨_, rfl⟩
        rw [hdu] at d0 d1 d2 d3 d4 d5 d6 d1b hme
        rw [hhu] at g0 g1 g2 h1b hme
        rw [hme] at hsn hmc
        rw [hxd] at q0; rw [hxh] at q1
        obtain ⟨mcx, hmcx⟩ : ∃ z, mc p du hu = z := ⟨_, rfl⟩
        rw [hmcx] at hsn hmc
        obtain ⟨sk, hsk⟩ : ∃ z, sumC ds hs p (l.take k) = z := ⟨_, rfl⟩
        rw [hsk] at hsn hsb ⊢
        have c0 := block_cell (block_ext X b0) 0 (.int .i64 p.skip) rfl
        have c1 := block_cell (block_ext X b0) 1 (.int .i64 p.off) rfl
        have M := Lib.hid (fun w' => rmatch_walk du hu p d1b h1b hob w')
        have HS := Lib.hid hsn
        have HM := Lib.hid hmcx
        have i1 : (0 : Int) ≤ (k : Int) := by omega
        have i2 : (k : Int) < (l.length : Int) := by omega
        have i3 : (0 : Int) ≤ (xd : Int) := by omega
        have i4 : (xd : Int) < (ds.length : Int) := by omega
        have i5 : (0 : Int) ≤ (xh : Int) := by omega
        have i6 : (xh : Int) < (hs.length : Int) := by omega
        have f0 := ext_cells q0; have f1 := ext_cells q1
        have f2 := ext_cells d0; have f3 := ext_cells d1; have f4 := ext_cells d2; have f5 := ext_cells d3; have f6 := ext_cells d4; have f7 := ext_cells d5; have f8 := ext_cells d6
        have f9 := ext_cells g0; have f10 := ext_cells g1; have f11 := ext_cells g2
        have f12 := ext_cells c0; have f13 := ext_cells c1
        clear q0 q1 d0 d1 d2 d3 d4 d5 d6 g0 g1 g2 c0 c1 hsn hmcx hsk hme hdu hhu hx hxd hxh l1 l2 l3 l4 l5 l6 hal0 hal1 d1b h1b hob k1 k2 SM SD SH
        obtain ⟨wo, rfl⟩ : ∃ wo : World, wo = wr := ⟨_, rfl⟩
        go_wp2
        refine wp_region_ord [(0,true), (1,true), (2,true), (3,true), (4,true), (5,true), (6,true), (7,true), (8,true), (9,true), (10,true), (11,true), (12,true), (13,true), (14,true), (15,true), (16,true), (17,true), (18,true), (19,true)] 20 Ext (Ext wo) wide (by kernel_rfl) (stable_ext _) (Ext.drawn _ _) ?_
        iterate 18 (apply wpOrd_det rfl rfl; (intro w' hw'; unfold opR; go_simp; exact ⟨Ext.refl _, rfl⟩); (simp only [List.getElem_toArray, List.getElem_cons_succ, List.getElem_cons_zero, Act.put, List.setIfInBounds_toArray, List.set_cons_succ, List.set_cons_zero]; rfl))
        (apply wpOrd_det rfl rfl; (intro w' hw'; refine opR_call rfl (Go.Proofs.enters_of Tryd.func31 (by kernel_rfl) rfl) (by simp only [List.map_toArray, List.map_cons, List.map_nil, Act.eval, Array.getD_eq_getD_getElem?, List.getElem?_toArray, List.getElem?_cons_succ, List.getElem?_cons_zero, Option.getD_some]; rfl) ?_; refine (M.out w').mono ?_; rw [HM.out]; rintro e w4 ⟨rfl, hx⟩; exact ⟨_, rfl, hx, rfl⟩); (simp only [List.getElem_toArray, List.getElem_cons_succ, List.getElem_cons_zero, Act.put, List.setIfInBounds_toArray, List.set_cons_succ, List.set_cons_zero]; rfl))
        (apply wpOrd_det rfl rfl; (intro w' hw'; unfold opR; go_simp; exact ⟨Ext.refl _, rfl⟩); (simp only [List.getElem_toArray, List.getElem_cons_succ, List.getElem_cons_zero, Act.put, List.setIfInBounds_toArray, List.set_cons_succ, List.set_cons_zero]; rfl))
        refine wpOrd_nil rfl ?_
        intro W1 hW1
        clear f0 f1 f2 f3 f4 f5 f6 f7 f8 f9 f10 f11 f12 f13
        go_wp2
        go_roundw
        case rel => exact ⟨k + 1, by omega, by go_num, by rw [HS.out]; exact congrArg _ (by omega), X.trans hW1⟩
        case measure => simp [intOf] <;> omega
      · obtain rfl : k = l.length := by omega
        have hC := HC.out
        rw [HMU.out] at hC
        rw [List.take_length]
        obtain ⟨z, hz⟩ : ∃ z, sumC ds hs p l = z := ⟨_, rfl⟩
        rw [hz] at hC ⊢
        have HC' := Lib.hid hC
        clear SM SD SH hC hz
        go_wp2
        go_ret2
        exact ⟨by rw [HC'.out] <;> rfl, X2.trans X⟩
end Go.Proofs.YthomegempfedaaaDoor
