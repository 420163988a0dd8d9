/-
  Walks: report.Follows.
-/
import Derived.Test.YteelklpppfahcaaRepH
namespace Go.Proofs.Yteelklpppfahcaa
open Go.RowKit Go.Sx Go.Sx.Rep
attribute [local go_sem] Oper.semAt_some wide_fn wide_depth

set_option maxRecDepth 100000 in
set_option maxHeartbeats 4000000 in
theorem follows_walk (old rt i n : Int) (pv : Value) (ps : List Int) (w : World) (P0 : Sl w 1 encU pv ps) :
    Calls Try.prog 19 #[.int .u64 old, .int .u64 rt, .int .i64 i, .int .i64 n, pv] w fun e w' => e = .returned (.bool (followsF old rt i n ps)) ∧ Ext w w' := by
  obtain ⟨a?, cap, rfl, h1, h2, h3⟩ := P0.len
  refine (callsIn_wide (n := 0)).1 ?_
  refine callsIn_of_wp_marks Try.func19 rfl trivial ?_ rfl
  simp only [Try.ntmps19, List.size_toArray, List.length_cons, List.length_nil, Nat.reduceAdd, Nat.reduceSub, Array.replicate_succ, Array.replicate_zero, List.push_toArray, List.append_toArray, List.nil_append, List.cons_append]
  have hx0 : Ext w ((w.alloc (.cells #[.int .i64 i] 3)).alloc (.cells #[.slice a? ps.length cap] 27)) := ((Ext.refl w).alloc _).alloc _
  have b7 := (Boxed.new w 3 (.int .i64 i)).alloc (.cells #[.slice a? ps.length cap] 27)
  have b9 := Boxed.new (w.alloc (.cells #[.int .i64 i] 3)) 27 (.slice a? ps.length cap)
  have hc7 := b7.cell
  have hc9 := b9.cell
  by_cases c1 : n < 1
  · have hF : followsF old rt i n ps = false := if_pos (.inl c1)
    rw [hF]; clear hF h1 h2
    gi_wp2
    exact ⟨_, results_tmp rfl _ _ _, rfl, hx0⟩
  by_cases c2 : 1024 < n
  · have hF : followsF old rt i n ps = false := if_pos (.inr (.inl c2))
    rw [hF]; clear hF h1 h2
    gi_wp2
    exact ⟨_, results_tmp rfl _ _ _, rfl, hx0⟩
  by_cases c3 : i < 1
  · have hF : followsF old rt i n ps = false := if_pos (.inr (.inr (.inl c3)))
    rw [hF]; clear hF h1 h2
    gi_wp2
    exact ⟨_, results_tmp rfl _ _ _, rfl, hx0⟩
  by_cases c4 : n < i
  · have hF : followsF old rt i n ps = false := if_pos (.inr (.inr (.inr c4)))
    rw [hF]; clear hF h1 h2
    gi_wp2
    exact ⟨_, results_tmp rfl _ _ _, rfl, hx0⟩
  obtain ⟨m, rfl⟩ := Int.eq_ofNat_of_zero_le (show 0 ≤ i by omega)
  obtain ⟨N, rfl⟩ := Int.eq_ofNat_of_zero_le (show 0 ≤ n by omega)
  have hm1 : 1 ≤ m := by omega
  have hm2 : m ≤ N := by omega
  have C := Lib.hid (fun w' => ends_walk m N w' hm1 hm2 (by omega))
  have hEF := Lib.hid (ends_facts m N hm1 hm2)
  have hF : followsF old rt m N ps = (if 0 < (endsAll m N).2.1 ∧ ps.length = 0 then false else
      if (if 0 < (endsAll m N).2.1 then ps.tail else ps).length ≠ (endsAll m N).1.length then false else
      (oldF m (if 0 < (endsAll m N).2.1 then ps.headD 0 else old) (endsAll m N).1 (if 0 < (endsAll m N).2.1 then ps.tail else ps) == old) &&
      (foldF (fun c => decide (m ≤ c.2.1)) (if 0 < (endsAll m N).2.1 then ps.headD 0 else old) (endsAll m N).1 (if 0 < (endsAll m N).2.1 then ps.tail else ps) == rt)) := by
    unfold followsF; rw [if_neg (by omega)]; rfl
  have HF := Lib.hid hF
  clear hF
  obtain ⟨S, hS⟩ : ∃ S : Nat, S = w.heap.size := ⟨_, rfl⟩
  gi_wp2_with fail
  refine (callsIn_wide.2 (C.out _)).mono ?_
  rintro e w1 ⟨cv, rfl, hcv, hx1⟩
  obtain ⟨ca, cc, rfl⟩ := hcv.len
  have hb7 := b7.ext hx1
  have hb9 := b9.ext hx1
  simp only [World.size_alloc, ← hS] at hb7 hb9
  simp only [← hS]
  have hbwx : Ext w w1 := hx0.trans hx1
  have hP1 := P0.ext hbwx
  have hcl := hcv.sl (by simp [encCut]) (by have := hEF.out.2.2.2; omega)
  have hSr : S + 2 ≤ w1.heap.size := by have := hx1.size; simp at this; omega
  have hbS : Below S w w1 := by rw [hS]; exact hbwx
  have HSZ := Lib.hid hS
  clear hc7 hc9 hx0 hS b7 b9 hbwx
  by_cases hlo : 0 < (endsAll m N).2.1
  · have hlo' : (0 : Int) < (endsAll m N).2.1 := by omega
    by_cases hps : ps.length = 0
    · have hps1 : ((ps.length : Int) == 0) = true := beq_iff_eq.2 (by omega)
      have HFF := Lib.hid (show followsF old rt m N ps = false by rw [HF.out, if_pos ⟨hlo, hps⟩])
      have hl9 := hb9.cell
      clear hps h1 h2
      gi_wp2
      exact ⟨_, results_tmp rfl _ _ _, by rw [HFF.out]; rfl, Ext.of_below (by rw [← HSZ.out]; exact hbS)⟩
    · have hps1 : ((ps.length : Int) == 0) = false := beq_eq_false_iff_ne.2 (by omega)
      obtain ⟨p0, pr, hpp⟩ : ∃ p0 pr, ps = p0 :: pr := by cases ps with | nil => simp at hps | cons a b => exact ⟨a, b, rfl⟩
      have hprl : pr.length + 1 = ps.length := by rw [hpp]; rfl
      have HG := Lib.hid (show followsF old rt m N ps = (if pr.length ≠ (endsAll m N).1.length then false else (oldF m p0 (endsAll m N).1 pr == old) && (foldF (fun c => decide (m ≤ c.2.1)) p0 (endsAll m N).1 pr == rt)) by
        rw [HF.out]; simp only [if_pos hlo]; rw [if_neg (by omega), hpp]; rfl)
      obtain ⟨b0, o0, rfl, hp0⟩ := hP1.at1 0 (by omega)
      have hp0' : w1.cell? ⟨b0, o0, none⟩ = some (.int .u64 p0) := by simpa [encU, hpp] using hp0
      have htail : ∀ c', pr.length ≤ c' → c' ≤ maxLen → Sl w 1 encU (.slice (some ⟨b0, o0 + 1, none⟩) pr.length c') pr := fun c' h5 h6 => ⟨_, c', rfl, h5, h6, by omega, fun i hi => ⟨_, rfl, fun j hj => by
        obtain rfl : j = 0 := by omega
        obtain ⟨b1, o1, he, hq⟩ := P0.at1 (i + 1) (by omega)
        cases he
        rw [Addr.add_lit]
        have : o0 + 1 + (i * 1 + 0) = o0 + (i + 1) := by omega
        rw [this, hq]
        simp [hpp]⟩⟩
      have HT := Lib.hid htail
      have HPP := Lib.hid hpp
      have HPS := Lib.hid hps
      clear htail hpp hps hp0
      have hl9 := hb9.cell
      have gl9 := ext_cells hl9
      have gp0 := ext_cells hp0'
      have hpos : (0 : Int) < ps.length := by omega
      have hpos' : 0 < ps.length := by omega
      have hge : (1 : Int) ≤ ps.length := by omega
      have hge' : 1 ≤ ps.length := by omega
      have hpr2 : ps.length - 1 = pr.length := by omega
      have HPR := Lib.hid hprl
      clear hprl
      by_cases hcap : cap = 1
      · have hpr0 : pr = [] := by have := HPR.out; cases pr with | nil => rfl | cons a b => simp at this; omega
        subst hcap
        have HP0 := Lib.hid hpr0
        clear hpr0 h1
        gi_wp2
        refine wpIn_wide.2 ?_
        refine wp_region_ord [(0,true),(1,true),(2,true),(3,true),(4,true),(5,true)] 6 Ext (Ext w1) wide (by kernel_rfl) (stable_ext _) (Ext.drawn _ _) ?_
        iterate 6 (apply wpOrd_det rfl rfl; (intro w' hw'; unfold opR; go_simp; exact ⟨Ext.refl _, rfl⟩); (simp only [List.getElem_toArray, List.getElem_cons_succ, List.getElem_cons_zero, Act.put, List.setIfInBounds_toArray, List.set_cons_succ, List.set_cons_zero]; rfl))
        refine wpOrd_nil (l := [_]) rfl ?_
        intro w4 hw4
        have hf9 := (hb9.ext hw4).frozen
        have hf9c := (hb9.ext hw4).cell
        go_wp2
        have hb7r := (hb7.ext hw4).set' (p := ⟨S + 1, 0, none⟩) (show S ≠ S + 1 by omega) (.slice (some ⟨b0, o0, none⟩) pr.length 0)
        have hb9r := (hb9.ext hw4).set (.slice (some ⟨b0, o0, none⟩) pr.length 0)
        have hcvr := ((hcv.ext hw4).setCell (p := ⟨S + 1, 0, none⟩) (fun e => by have := (World.ownsRow.lt hcv _ e).1; simp only [World.size_alloc] at this; have := HSZ.out; omega) (.slice (some ⟨b0, o0, none⟩) pr.length 0)).sl (by simp [encCut]) (by have := hEF.out.2.2.2; omega)
        have hbSr := (hbS.trans (hw4.below (by omega))).setCell (p := ⟨S + 1, 0, none⟩) (show S ≤ S + 1 by omega) (.slice (some ⟨b0, o0, none⟩) pr.length 0)
        have hszr : S + 2 ≤ (w4.setCell ⟨S + 1, 0, none⟩ (.slice (some ⟨b0, o0, none⟩) pr.length 0)).heap.size := by have := hw4.size; simp; omega
        have htvr := ((Sl.slB ((⟨_, 0, rfl, by rw [HP0.out]; simp, by simp [maxLen], by rw [HP0.out]; simp, fun i hi => absurd hi (by rw [HP0.out]; exact Nat.not_lt_zero _)⟩ : Sl w 1 encU (.slice (some ⟨b0, o0, none⟩) pr.length 0) pr)) (by omega)).below (B' := w.heap.size) (by rw [← HSZ.out]; exact hbSr) (Nat.le_refl _)).1
        obtain ⟨w5, hw5⟩ : ∃ w5, w4.setCell ⟨S + 1, 0, none⟩ (.slice (some ⟨b0, o0, none⟩) pr.length 0) = w5 := ⟨_, rfl⟩
        rw [hw5] at hb7r hb9r hcvr hbSr hszr htvr ⊢
        clear hw5 hl9 gl9 gp0 hpr2
        by_cases hle : (pr).length = (endsAll m N).1.length
        · have hle1 : ((((pr).length : Nat) : Int) != ((endsAll m N).1.length : Nat)) = false := by rw [bne_eq_false_iff_eq]; omega
          have HLE := Lib.hid hle
          have hHF := Lib.hid (show followsF old rt m N ps = ((oldF m p0 (endsAll m N).1 pr == old) && (foldF (fun c => decide (m ≤ c.2.1)) p0 (endsAll m N).1 pr == rt)) by
            rw [HG.out]; rw [if_neg (by omega)])
          have hl9 := hb9r.cell
          clear hle
          gi_wp2_with (gi_at_call 41; go_must (refine (callsIn_wide.2 (back_walk ca (endsAll m N).1.length cc _ rfl _)).mono ?_; rintro e w' ⟨rfl, rfl⟩))
          obtain ⟨T, hT⟩ : ∃ T : Nat, T = (w5).heap.size := ⟨_, rfl⟩
          obtain ⟨v1, hv1⟩ : ∃ v1, (w5).alloc (.cells #[.int .u64 p0] 24) = v1 := ⟨_, rfl⟩
          obtain ⟨v2, hv2⟩ : ∃ v2, v1.alloc (.cells #[.int .i64 0] 3) = v2 := ⟨_, rfl⟩
          obtain ⟨v3, hv3⟩ : ∃ v3, v2.alloc (.cells #[.slice ca (endsAll m N).1.length cc] 56) = v3 := ⟨_, rfl⟩
          have x1 : Ext (w5) v1 := by rw [← hv1]; exact Ext.alloc' _ _
          have x2 : Ext v1 v2 := by rw [← hv2]; exact Ext.alloc' _ _
          have x3 : Ext v2 v3 := by rw [← hv3]; exact Ext.alloc' _ _
          have z1 : v1.heap.size = T + 1 := by rw [← hv1, hT]; simp
          have z2 : v2.heap.size = T + 2 := by rw [← hv2]; simp; omega
          have z3 : v3.heap.size = T + 3 := by rw [← hv3]; simp; omega
          have q0 : Boxed v1 T 24 (.int .u64 p0) := by rw [← hv1, hT]; exact Boxed.new _ _ _
          have q1 : Boxed v2 (T + 1) 3 (.int .i64 0) := by rw [← hv2, ← z1]; exact Boxed.new _ _ _
          have q2 : Boxed v3 (T + 2) 56 (.slice ca (endsAll m N).1.length cc) := by rw [← hv3, ← z2]; exact Boxed.new _ _ _
          replace q0 := (q0.ext x2).ext x3
          replace q1 := q1.ext x3
          have hx := (x1.trans x2).trans x3
          rw [hv1, hv2, hv3]
          have hTS : S + 2 ≤ T := by omega
          try simp only [← hT]
          clear hv1 hv2 hv3 x1 x2 x3 z1 z2 v1 v2
          have hTw : (w5).heap.size = T := hT.symm
          clear hT
          have sp0 := (((htvr).slB (by omega)).mono (Nat.le_of_eq hTw)).below hx (by omega)
          have sc0 := (((hcvr).slB (by omega)).mono (Nat.le_of_eq hTw)).below hx (by omega)
          refine wpIn_range (gf := 50) (lb := #[.pointer (some ⟨T + 2, 0, none⟩)]) rfl (enters_of Try.func50 (by kernel_rfl) rfl) (back_iter (T + 2) (.slice ca (endsAll m N).1.length cc) (endsAll m N).1) (fun _ => rfl)
            (fun k W => Boxed W S 3 (.int .i64 m) ∧ Boxed W (S + 1) 27 (.slice (some ⟨b0, o0, none⟩) pr.length 0) ∧ Boxed W T 24 (.int .u64 (oldK m p0 (endsAll m N).1 pr k)) ∧ Boxed W (T + 1) 3 (.int .i64 k) ∧ Boxed W (T + 2) 56 (.slice ca (endsAll m N).1.length cc) ∧ SlB W T 1 encU (.slice (some ⟨b0, o0, none⟩) pr.length 0) pr ∧ SlB W T 3 encCut (.slice ca (endsAll m N).1.length cc) (endsAll m N).1 ∧ Below S w W)
            (fun _ _ => False)
            (fun k => .and .boxed (.and .boxed (.and .boxed (.and .boxed (.and .boxed (.and .slB (.and .slB (.below (by have := HSZ.out; omega) (by omega)))))))))
            (fun c => .false) (fun k W h => ⟨h.2.2.2.2.1.cell, h.2.2.2.2.2.2.1.1⟩)
            ⟨hb7r.ext hx, hb9r.ext hx, q0, q1, q2, sp0, sc0, (hbSr).trans (hx.below (by omega))⟩ ?round ?done ?stop
          case stop => intro D c W _ h; exact h.elim
          case done =>
            rintro D W hD ⟨k7, k9, kd, kk, kc, sp, sc, hbw⟩ hdef
            rw [backL_len, oldK_all m p0 (endsAll m N).1 pr (by rw [HLE.out]; exact Nat.le_refl _)] at kd
            have hcd := kd.cell
            have hc9 := k9.cell
            have hxw : Ext w W := Ext.of_below (by rw [← HSZ.out]; exact hbw)
            by_cases ho : oldF m p0 (endsAll m N).1 pr = old
            · have ho1 : (oldF m p0 (endsAll m N).1 pr == old) = true := beq_iff_eq.2 ho
              have HO1 := Lib.hid ho1
              clear ho
              gi_wp2_with fail
              refine (callsIn_wide.2 (fold_walk 42 #[.pointer (some ⟨S, 0, none⟩)] (fun c => decide (m ≤ c.2.1)) p0 _ _ (endsAll m N).1 pr W sp.1 sc.1 HLE.out (enters_of Try.func42 (by kernel_rfl) rfl)
                (fun c _ w3 hx3 => (before_walk m S c w3 (k7.ext hx3)).mono fun e w4 h => ⟨by rw [h.1]; simp, h.2⟩))).mono ?_
              rintro e w3 ⟨rfl, hx3⟩
              have hdef3 : w3.heap[D]? = some (.deferred (some [])) := (hx3.block D (Array.getElem?_eq_some_iff.1 hdef).1).trans hdef
              gi_wp2
              refine bodyPostM_ret rfl hdef3 (fun W' _ => results_tmp rfl _ _ _) (fun W' hs => ⟨?_, Below.trans (hxw.trans hx3) (hs.below (by have := HSZ.out; omega))⟩)
              rw [hHF.out, HO1.out]; rfl
            · have ho1 : (oldF m p0 (endsAll m N).1 pr == old) = false := beq_eq_false_iff_ne.2 ho
              have HO1 := Lib.hid ho1
              clear ho
              gi_wp2
              refine bodyPostM_ret rfl hdef (fun W' _ => results_tmp rfl _ _ _) (fun W' hs => ⟨?_, Below.trans hxw (hs.below (by have := HSZ.out; omega))⟩)
              rw [hHF.out, HO1.out]; rfl
          case round =>
            rintro lr k W hk hIk hle hlt
            rw [backL_len] at hk
            obtain ⟨m2, hm⟩ : ∃ m2 : Nat, m2 = (endsAll m N).1.length - 1 - k := ⟨_, rfl⟩
            have hml : m2 < (endsAll m N).1.length := by omega
            have hkp : k < (pr).length := by rw [HLE.out]; exact hk
            have hkb : k ≤ 1024 := by have := hEF.out.2.2.2; omega
            rw [backL_get' (endsAll m N).1 k m2 hm hml]
            simp only [encBack]
            obtain ⟨c, hc0⟩ : ∃ c, c = (endsAll m N).1[m2] := ⟨_, rfl⟩
            have hbt := oldK_succ m p0 (endsAll m N).1 pr k m2 hm hk hml hkp
            rw [← hc0] at hbt ⊢
            obtain ⟨c0, c1, c2⟩ := c
            have HK := Lib.hid hbt
            clear hbt hm hc0
            gi_wp2
            refine ⟨KeepsOthers.alloc _ _, fun W2 hs2 => ?_⟩
            obtain ⟨k7, k9, kd, kk, kc, sp, sc, hbw⟩ := hIk
            have hx1 := Ext.alloc' W (.cells #[.int .i64 c0, .int .i64 c1, .int .i64 c2] 64)
            have e1 := (hs2.cell _).trans (alloc_cell W #[.int .i64 c0, .int .i64 c1, .int .i64 c2] 64 1 (.int .i64 c1) rfl)
            replace k7 := hs2.boxed (k7.ext hx1)
            replace k9 := hs2.boxed (k9.ext hx1)
            replace kd := hs2.boxed (kd.ext hx1)
            replace kk := hs2.boxed (kk.ext hx1)
            replace kc := hs2.boxed (kc.ext hx1)
            replace sp : SlB W2 T 1 encU _ _ := ⟨hs2.sl (sp.1.ext hx1), sp.2⟩
            replace sc : SlB W2 T 3 encCut _ _ := ⟨hs2.sl (sc.1.ext hx1), sc.2⟩
            have hbW : Below S w W2 := by
              have h8 : S ≤ W.heap.size := by have := hbw.size; have := HSZ.out; omega
              exact (hbw.trans (hx1.below h8)).trans (hs2.below (by omega))
            have hW2T : T ≤ W2.heap.size := by have := hs2.size; simp at this; omega
            obtain ⟨b0, o0, htva, hpk⟩ := sp.1.at1 k hkp
            cases htva
            simp only [encU, List.getD_cons_zero] at hpk
            have g7 := k7.cell
            have g9 := ext_cells k9.cell
            have gd := ext_cells kd.cell
            have gk := ext_cells kk.cell
            have gp := ext_cells hpk
            have gkc := kk.cell
            have gkf := kk.frozen
            clear hx1 hbw hpk
            by_cases hmc : c1 < m
            · have hmc' : (c1 : Int) < m := by omega
              have HQ := Lib.hid (show oldK m p0 (endsAll m N).1 pr (k + 1) = node ((pr)[k]) (oldK m p0 (endsAll m N).1 pr k) by rw [HK.out]; exact if_pos hmc)
              clear hmc
              gi_wp2
              refine wpIn_region_ord [(0,true),(1,true),(2,true),(3,true),(4,true),(5,true)] 6 Ext (Ext W2) wide (by kernel_rfl) (by rintro ⟨_, _, h⟩; exact h) (stable_ext _) (Ext.drawn _ _) ?_
              iterate 5 (apply wpOrd_det rfl rfl; (intro w' hw'; unfold opR; go_simp; exact ⟨Ext.refl _, rfl⟩); (simp only [List.getElem_toArray, List.getElem_cons_succ, List.getElem_cons_zero, Act.put, List.setIfInBounds_toArray, List.set_cons_succ, List.set_cons_zero]; rfl))
              (apply wpOrd_det rfl rfl; (intro w' hw'; refine opR_call rfl (Go.Proofs.enters_of Try.func22 (by kernel_rfl) rfl) (by simp only [List.map_toArray, List.map_cons, List.map_nil, Act.eval, Array.getD_eq_getD_getElem?, List.getElem?_toArray, List.getElem?_cons_succ, List.getElem?_cons_zero, Option.getD_some]; rfl) ?_; refine (node_walk _ _ w').mono ?_; rintro e w4 ⟨rfl, hx⟩; exact ⟨_, rfl, hx, rfl⟩); (simp only [List.getElem_toArray, List.getElem_cons_succ, List.getElem_cons_zero, Act.put, List.setIfInBounds_toArray, List.set_cons_succ, List.set_cons_zero]; rfl))
              refine wpOrd_nil (l := [_]) rfl ?_
              intro w4 hw4
              have k0 := (kd.ext hw4).cell
              have k0f := (kd.ext hw4).frozen
              have k3 := ((kk.ext hw4).set' (p := ⟨T, 0, none⟩) (by simp) (.int .u64 (node ((pr)[k]) (oldK m p0 (endsAll m N).1 pr k)))).cell
              have k3f := ((kk.ext hw4).set' (p := ⟨T, 0, none⟩) (by simp) (.int .u64 (node ((pr)[k]) (oldK m p0 (endsAll m N).1 pr k)))).frozen
              go_wp2
              gi_wp2
              refine ⟨((KeepsOthers.ext hw4).trans (KeepsOthers.setCell _ _ _)).trans (KeepsOthers.setCell _ _ _), ?_, ?_, ?_, ?_, ?_, ?_, ?_, ?_⟩
              · exact ((k7.ext hw4).set' (show S ≠ T by omega) _).set' (p := ⟨T + 1, 0, none⟩) (show S ≠ T + 1 by omega) _
              · exact ((k9.ext hw4).set' (show S + 1 ≠ T by omega) _).set' (p := ⟨T + 1, 0, none⟩) (show S + 1 ≠ T + 1 by omega) _
              · have := ((kd.ext hw4).set (.int .u64 (node ((pr)[k]) (oldK m p0 (endsAll m N).1 pr k)))).set' (p := ⟨T + 1, 0, none⟩) (by simp) (.int .i64 (k + 1))
                rw [HQ.out]; exact this
              · have := ((kk.ext hw4).set' (p := ⟨T, 0, none⟩) (by simp) (.int .u64 (node ((pr)[k]) (oldK m p0 (endsAll m N).1 pr k)))).set (.int .i64 (k + 1))
                exact this
              · exact ((kc.ext hw4).set' (by simp) _).set' (by simp) _
              · exact ((sp.below hw4 hW2T).below ((Below.refl T _).setCell (Nat.le_refl _) _) (Nat.le_refl _)).below ((Below.refl T _).setCell (p := ⟨T + 1, 0, none⟩) (show T ≤ T + 1 by omega) _) (Nat.le_refl _)
              · exact ((sc.below hw4 hW2T).below ((Below.refl T _).setCell (Nat.le_refl _) _) (Nat.le_refl _)).below ((Below.refl T _).setCell (p := ⟨T + 1, 0, none⟩) (show T ≤ T + 1 by omega) _) (Nat.le_refl _)
              · exact ((hbW.trans (hw4.below (by omega))).setCell (show S ≤ T by omega) _).setCell (p := ⟨T + 1, 0, none⟩) (show S ≤ T + 1 by omega) _
            · have hmc' : ¬ (c1 : Int) < m := by omega
              have HQ := Lib.hid (show oldK m p0 (endsAll m N).1 pr (k + 1) = oldK m p0 (endsAll m N).1 pr k by rw [HK.out]; exact if_neg hmc)
              clear hmc
              gi_wp2
              refine ⟨KeepsOthers.setCell _ _ _, ?_, ?_, ?_, ?_, ?_, ?_, ?_, ?_⟩
              · exact k7.set' (p := ⟨T + 1, 0, none⟩) (show S ≠ T + 1 by omega) _
              · exact k9.set' (p := ⟨T + 1, 0, none⟩) (show S + 1 ≠ T + 1 by omega) _
              · rw [HQ.out]; exact kd.set' (p := ⟨T + 1, 0, none⟩) (show T ≠ T + 1 by omega) _
              · exact kk.set (.int .i64 (k + 1))
              · exact kc.set' (p := ⟨T + 1, 0, none⟩) (show T + 2 ≠ T + 1 by omega) _
              · exact sp.below ((Below.refl T _).setCell (p := ⟨T + 1, 0, none⟩) (show T ≤ T + 1 by omega) _) (Nat.le_refl _)
              · exact sc.below ((Below.refl T _).setCell (p := ⟨T + 1, 0, none⟩) (show T ≤ T + 1 by omega) _) (Nat.le_refl _)
              · exact hbW.setCell (p := ⟨T + 1, 0, none⟩) (show S ≤ T + 1 by omega) _
        · have hle1 : ((((pr).length : Nat) : Int) != ((endsAll m N).1.length : Nat)) = true := by rw [bne_iff_ne]; omega
          have hF := HG.out
          rw [if_pos hle] at hF
          have HFF := Lib.hid hF
          clear hF hle
          have hl9 := hb9r.cell
          gi_wp2
          exact ⟨_, results_tmp rfl _ _ _, by rw [HFF.out]; rfl, Ext.of_below (by rw [← HSZ.out]; exact hbSr)⟩
      · have hcap' : ¬ cap = 1 := hcap
        have hcap2 : 1 ≤ cap := by omega
        gi_wp2
        refine wpIn_wide.2 ?_
        refine wp_region_ord [(0,true),(1,true),(2,true),(3,true),(4,true),(5,true)] 6 Ext (Ext w1) wide (by kernel_rfl) (stable_ext _) (Ext.drawn _ _) ?_
        iterate 6 (apply wpOrd_det rfl rfl; (intro w' hw'; unfold opR; go_simp; exact ⟨Ext.refl _, rfl⟩); (simp only [List.getElem_toArray, List.getElem_cons_succ, List.getElem_cons_zero, Act.put, List.setIfInBounds_toArray, List.set_cons_succ, List.set_cons_zero]; rfl))
        refine wpOrd_nil (l := [_]) rfl ?_
        intro w4 hw4
        have hf9 := (hb9.ext hw4).frozen
        have hf9c := (hb9.ext hw4).cell
        go_wp2
        have hb7r := (hb7.ext hw4).set' (p := ⟨S + 1, 0, none⟩) (show S ≠ S + 1 by omega) (.slice (some ⟨b0, o0 + 1, none⟩) pr.length (cap - 1))
        have hb9r := (hb9.ext hw4).set (.slice (some ⟨b0, o0 + 1, none⟩) pr.length (cap - 1))
        have hcvr := ((hcv.ext hw4).setCell (p := ⟨S + 1, 0, none⟩) (fun e => by have := (World.ownsRow.lt hcv _ e).1; simp only [World.size_alloc] at this; have := HSZ.out; omega) (.slice (some ⟨b0, o0 + 1, none⟩) pr.length (cap - 1))).sl (by simp [encCut]) (by have := hEF.out.2.2.2; omega)
        have hbSr := (hbS.trans (hw4.below (by omega))).setCell (p := ⟨S + 1, 0, none⟩) (show S ≤ S + 1 by omega) (.slice (some ⟨b0, o0 + 1, none⟩) pr.length (cap - 1))
        have hszr : S + 2 ≤ (w4.setCell ⟨S + 1, 0, none⟩ (.slice (some ⟨b0, o0 + 1, none⟩) pr.length (cap - 1))).heap.size := by have := hw4.size; simp; omega
        have htvr := ((Sl.slB (HT.out (cap - 1) (by have := HPR.out; omega) (by omega)) (by omega)).below (B' := w.heap.size) (by rw [← HSZ.out]; exact hbSr) (Nat.le_refl _)).1
        obtain ⟨w5, hw5⟩ : ∃ w5, w4.setCell ⟨S + 1, 0, none⟩ (.slice (some ⟨b0, o0 + 1, none⟩) pr.length (cap - 1)) = w5 := ⟨_, rfl⟩
        rw [hw5] at hb7r hb9r hcvr hbSr hszr htvr ⊢
        clear hw5 hl9 gl9 gp0 hpr2
        by_cases hle : (pr).length = (endsAll m N).1.length
        · have hle1 : ((((pr).length : Nat) : Int) != ((endsAll m N).1.length : Nat)) = false := by rw [bne_eq_false_iff_eq]; omega
          have HLE := Lib.hid hle
          have hHF := Lib.hid (show followsF old rt m N ps = ((oldF m p0 (endsAll m N).1 pr == old) && (foldF (fun c => decide (m ≤ c.2.1)) p0 (endsAll m N).1 pr == rt)) by
            rw [HG.out]; rw [if_neg (by omega)])
          have hl9 := hb9r.cell
          clear hle
          gi_wp2_with (gi_at_call 41; go_must (refine (callsIn_wide.2 (back_walk ca (endsAll m N).1.length cc _ rfl _)).mono ?_; rintro e w' ⟨rfl, rfl⟩))
          obtain ⟨T, hT⟩ : ∃ T : Nat, T = (w5).heap.size := ⟨_, rfl⟩
          obtain ⟨v1, hv1⟩ : ∃ v1, (w5).alloc (.cells #[.int .u64 p0] 24) = v1 := ⟨_, rfl⟩
          obtain ⟨v2, hv2⟩ : ∃ v2, v1.alloc (.cells #[.int .i64 0] 3) = v2 := ⟨_, rfl⟩
          obtain ⟨v3, hv3⟩ : ∃ v3, v2.alloc (.cells #[.slice ca (endsAll m N).1.length cc] 56) = v3 := ⟨_, rfl⟩
          have x1 : Ext (w5) v1 := by rw [← hv1]; exact Ext.alloc' _ _
          have x2 : Ext v1 v2 := by rw [← hv2]; exact Ext.alloc' _ _
          have x3 : Ext v2 v3 := by rw [← hv3]; exact Ext.alloc' _ _
          have z1 : v1.heap.size = T + 1 := by rw [← hv1, hT]; simp
          have z2 : v2.heap.size = T + 2 := by rw [← hv2]; simp; omega
          have z3 : v3.heap.size = T + 3 := by rw [← hv3]; simp; omega
          have q0 : Boxed v1 T 24 (.int .u64 p0) := by rw [← hv1, hT]; exact Boxed.new _ _ _
          have q1 : Boxed v2 (T + 1) 3 (.int .i64 0) := by rw [← hv2, ← z1]; exact Boxed.new _ _ _
          have q2 : Boxed v3 (T + 2) 56 (.slice ca (endsAll m N).1.length cc) := by rw [← hv3, ← z2]; exact Boxed.new _ _ _
          replace q0 := (q0.ext x2).ext x3
          replace q1 := q1.ext x3
          have hx := (x1.trans x2).trans x3
          rw [hv1, hv2, hv3]
          have hTS : S + 2 ≤ T := by omega
          try simp only [← hT]
          clear hv1 hv2 hv3 x1 x2 x3 z1 z2 v1 v2
          have hTw : (w5).heap.size = T := hT.symm
          clear hT
          have sp0 := (((htvr).slB (by omega)).mono (Nat.le_of_eq hTw)).below hx (by omega)
          have sc0 := (((hcvr).slB (by omega)).mono (Nat.le_of_eq hTw)).below hx (by omega)
          refine wpIn_range (gf := 50) (lb := #[.pointer (some ⟨T + 2, 0, none⟩)]) rfl (enters_of Try.func50 (by kernel_rfl) rfl) (back_iter (T + 2) (.slice ca (endsAll m N).1.length cc) (endsAll m N).1) (fun _ => rfl)
            (fun k W => Boxed W S 3 (.int .i64 m) ∧ Boxed W (S + 1) 27 (.slice (some ⟨b0, o0 + 1, none⟩) pr.length (cap - 1)) ∧ Boxed W T 24 (.int .u64 (oldK m p0 (endsAll m N).1 pr k)) ∧ Boxed W (T + 1) 3 (.int .i64 k) ∧ Boxed W (T + 2) 56 (.slice ca (endsAll m N).1.length cc) ∧ SlB W T 1 encU (.slice (some ⟨b0, o0 + 1, none⟩) pr.length (cap - 1)) pr ∧ SlB W T 3 encCut (.slice ca (endsAll m N).1.length cc) (endsAll m N).1 ∧ Below S w W)
            (fun _ _ => False)
            (fun k => .and .boxed (.and .boxed (.and .boxed (.and .boxed (.and .boxed (.and .slB (.and .slB (.below (by have := HSZ.out; omega) (by omega)))))))))
            (fun c => .false) (fun k W h => ⟨h.2.2.2.2.1.cell, h.2.2.2.2.2.2.1.1⟩)
            ⟨hb7r.ext hx, hb9r.ext hx, q0, q1, q2, sp0, sc0, (hbSr).trans (hx.below (by omega))⟩ ?round ?done ?stop
          case stop => intro D c W _ h; exact h.elim
          case done =>
            rintro D W hD ⟨k7, k9, kd, kk, kc, sp, sc, hbw⟩ hdef
            rw [backL_len, oldK_all m p0 (endsAll m N).1 pr (by rw [HLE.out]; exact Nat.le_refl _)] at kd
            have hcd := kd.cell
            have hc9 := k9.cell
            have hxw : Ext w W := Ext.of_below (by rw [← HSZ.out]; exact hbw)
            by_cases ho : oldF m p0 (endsAll m N).1 pr = old
            · have ho1 : (oldF m p0 (endsAll m N).1 pr == old) = true := beq_iff_eq.2 ho
              have HO1 := Lib.hid ho1
              clear ho
              gi_wp2_with fail
              refine (callsIn_wide.2 (fold_walk 42 #[.pointer (some ⟨S, 0, none⟩)] (fun c => decide (m ≤ c.2.1)) p0 _ _ (endsAll m N).1 pr W sp.1 sc.1 HLE.out (enters_of Try.func42 (by kernel_rfl) rfl)
                (fun c _ w3 hx3 => (before_walk m S c w3 (k7.ext hx3)).mono fun e w4 h => ⟨by rw [h.1]; simp, h.2⟩))).mono ?_
              rintro e w3 ⟨rfl, hx3⟩
              have hdef3 : w3.heap[D]? = some (.deferred (some [])) := (hx3.block D (Array.getElem?_eq_some_iff.1 hdef).1).trans hdef
              gi_wp2
              refine bodyPostM_ret rfl hdef3 (fun W' _ => results_tmp rfl _ _ _) (fun W' hs => ⟨?_, Below.trans (hxw.trans hx3) (hs.below (by have := HSZ.out; omega))⟩)
              rw [hHF.out, HO1.out]; rfl
            · have ho1 : (oldF m p0 (endsAll m N).1 pr == old) = false := beq_eq_false_iff_ne.2 ho
              have HO1 := Lib.hid ho1
              clear ho
              gi_wp2
              refine bodyPostM_ret rfl hdef (fun W' _ => results_tmp rfl _ _ _) (fun W' hs => ⟨?_, Below.trans hxw (hs.below (by have := HSZ.out; omega))⟩)
              rw [hHF.out, HO1.out]; rfl
          case round =>
            rintro lr k W hk hIk hle hlt
            rw [backL_len] at hk
            obtain ⟨m2, hm⟩ : ∃ m2 : Nat, m2 = (endsAll m N).1.length - 1 - k := ⟨_, rfl⟩
            have hml : m2 < (endsAll m N).1.length := by omega
            have hkp : k < (pr).length := by rw [HLE.out]; exact hk
            have hkb : k ≤ 1024 := by have := hEF.out.2.2.2; omega
            rw [backL_get' (endsAll m N).1 k m2 hm hml]
            simp only [encBack]
            obtain ⟨c, hc0⟩ : ∃ c, c = (endsAll m N).1[m2] := ⟨_, rfl⟩
            have hbt := oldK_succ m p0 (endsAll m N).1 pr k m2 hm hk hml hkp
            rw [← hc0] at hbt ⊢
            obtain ⟨c0, c1, c2⟩ := c
            have HK := Lib.hid hbt
            clear hbt hm hc0
            gi_wp2
            refine ⟨KeepsOthers.alloc _ _, fun W2 hs2 => ?_⟩
            obtain ⟨k7, k9, kd, kk, kc, sp, sc, hbw⟩ := hIk
            have hx1 := Ext.alloc' W (.cells #[.int .i64 c0, .int .i64 c1, .int .i64 c2] 64)
            have e1 := (hs2.cell _).trans (alloc_cell W #[.int .i64 c0, .int .i64 c1, .int .i64 c2] 64 1 (.int .i64 c1) rfl)
            replace k7 := hs2.boxed (k7.ext hx1)
            replace k9 := hs2.boxed (k9.ext hx1)
            replace kd := hs2.boxed (kd.ext hx1)
            replace kk := hs2.boxed (kk.ext hx1)
            replace kc := hs2.boxed (kc.ext hx1)
            replace sp : SlB W2 T 1 encU _ _ := ⟨hs2.sl (sp.1.ext hx1), sp.2⟩
            replace sc : SlB W2 T 3 encCut _ _ := ⟨hs2.sl (sc.1.ext hx1), sc.2⟩
            have hbW : Below S w W2 := by
              have h8 : S ≤ W.heap.size := by have := hbw.size; have := HSZ.out; omega
              exact (hbw.trans (hx1.below h8)).trans (hs2.below (by omega))
            have hW2T : T ≤ W2.heap.size := by have := hs2.size; simp at this; omega
            obtain ⟨b0, o0, htva, hpk⟩ := sp.1.at1 k hkp
            cases htva
            simp only [encU, List.getD_cons_zero] at hpk
            have g7 := k7.cell
            have g9 := ext_cells k9.cell
            have gd := ext_cells kd.cell
            have gk := ext_cells kk.cell
            have gp := ext_cells hpk
            have gkc := kk.cell
            have gkf := kk.frozen
            clear hx1 hbw hpk
            by_cases hmc : c1 < m
            · have hmc' : (c1 : Int) < m := by omega
              have HQ := Lib.hid (show oldK m p0 (endsAll m N).1 pr (k + 1) = node ((pr)[k]) (oldK m p0 (endsAll m N).1 pr k) by rw [HK.out]; exact if_pos hmc)
              clear hmc
              gi_wp2
              refine wpIn_region_ord [(0,true),(1,true),(2,true),(3,true),(4,true),(5,true)] 6 Ext (Ext W2) wide (by kernel_rfl) (by rintro ⟨_, _, h⟩; exact h) (stable_ext _) (Ext.drawn _ _) ?_
              iterate 5 (apply wpOrd_det rfl rfl; (intro w' hw'; unfold opR; go_simp; exact ⟨Ext.refl _, rfl⟩); (simp only [List.getElem_toArray, List.getElem_cons_succ, List.getElem_cons_zero, Act.put, List.setIfInBounds_toArray, List.set_cons_succ, List.set_cons_zero]; rfl))
              (apply wpOrd_det rfl rfl; (intro w' hw'; refine opR_call rfl (Go.Proofs.enters_of Try.func22 (by kernel_rfl) rfl) (by simp only [List.map_toArray, List.map_cons, List.map_nil, Act.eval, Array.getD_eq_getD_getElem?, List.getElem?_toArray, List.getElem?_cons_succ, List.getElem?_cons_zero, Option.getD_some]; rfl) ?_; refine (node_walk _ _ w').mono ?_; rintro e w4 ⟨rfl, hx⟩; exact ⟨_, rfl, hx, rfl⟩); (simp only [List.getElem_toArray, List.getElem_cons_succ, List.getElem_cons_zero, Act.put, List.setIfInBounds_toArray, List.set_cons_succ, List.set_cons_zero]; rfl))
              refine wpOrd_nil (l := [_]) rfl ?_
              intro w4 hw4
              have k0 := (kd.ext hw4).cell
              have k0f := (kd.ext hw4).frozen
              have k3 := ((kk.ext hw4).set' (p := ⟨T, 0, none⟩) (by simp) (.int .u64 (node ((pr)[k]) (oldK m p0 (endsAll m N).1 pr k)))).cell
              have k3f := ((kk.ext hw4).set' (p := ⟨T, 0, none⟩) (by simp) (.int .u64 (node ((pr)[k]) (oldK m p0 (endsAll m N).1 pr k)))).frozen
              go_wp2
              gi_wp2
              refine ⟨((KeepsOthers.ext hw4).trans (KeepsOthers.setCell _ _ _)).trans (KeepsOthers.setCell _ _ _), ?_, ?_, ?_, ?_, ?_, ?_, ?_, ?_⟩
              · exact ((k7.ext hw4).set' (show S ≠ T by omega) _).set' (p := ⟨T + 1, 0, none⟩) (show S ≠ T + 1 by omega) _
              · exact ((k9.ext hw4).set' (show S + 1 ≠ T by omega) _).set' (p := ⟨T + 1, 0, none⟩) (show S + 1 ≠ T + 1 by omega) _
              · have := ((kd.ext hw4).set (.int .u64 (node ((pr)[k]) (oldK m p0 (endsAll m N).1 pr k)))).set' (p := ⟨T + 1, 0, none⟩) (by simp) (.int .i64 (k + 1))
                rw [HQ.out]; exact this
              · have := ((kk.ext hw4).set' (p := ⟨T, 0, none⟩) (by simp) (.int .u64 (node ((pr)[k]) (oldK m p0 (endsAll m N).1 pr k)))).set (.int .i64 (k + 1))
                exact this
              · exact ((kc.ext hw4).set' (by simp) _).set' (by simp) _
              · exact ((sp.below hw4 hW2T).below ((Below.refl T _).setCell (Nat.le_refl _) _) (Nat.le_refl _)).below ((Below.refl T _).setCell (p := ⟨T + 1, 0, none⟩) (show T ≤ T + 1 by omega) _) (Nat.le_refl _)
              · exact ((sc.below hw4 hW2T).below ((Below.refl T _).setCell (Nat.le_refl _) _) (Nat.le_refl _)).below ((Below.refl T _).setCell (p := ⟨T + 1, 0, none⟩) (show T ≤ T + 1 by omega) _) (Nat.le_refl _)
              · exact ((hbW.trans (hw4.below (by omega))).setCell (show S ≤ T by omega) _).setCell (p := ⟨T + 1, 0, none⟩) (show S ≤ T + 1 by omega) _
            · have hmc' : ¬ (c1 : Int) < m := by omega
              have HQ := Lib.hid (show oldK m p0 (endsAll m N).1 pr (k + 1) = oldK m p0 (endsAll m N).1 pr k by rw [HK.out]; exact if_neg hmc)
              clear hmc
              gi_wp2
              refine ⟨KeepsOthers.setCell _ _ _, ?_, ?_, ?_, ?_, ?_, ?_, ?_, ?_⟩
              · exact k7.set' (p := ⟨T + 1, 0, none⟩) (show S ≠ T + 1 by omega) _
              · exact k9.set' (p := ⟨T + 1, 0, none⟩) (show S + 1 ≠ T + 1 by omega) _
              · rw [HQ.out]; exact kd.set' (p := ⟨T + 1, 0, none⟩) (show T ≠ T + 1 by omega) _
              · exact kk.set (.int .i64 (k + 1))
              · exact kc.set' (p := ⟨T + 1, 0, none⟩) (show T + 2 ≠ T + 1 by omega) _
              · exact sp.below ((Below.refl T _).setCell (p := ⟨T + 1, 0, none⟩) (show T ≤ T + 1 by omega) _) (Nat.le_refl _)
              · exact sc.below ((Below.refl T _).setCell (p := ⟨T + 1, 0, none⟩) (show T ≤ T + 1 by omega) _) (Nat.le_refl _)
              · exact hbW.setCell (p := ⟨T + 1, 0, none⟩) (show S ≤ T + 1 by omega) _
        · have hle1 : ((((pr).length : Nat) : Int) != ((endsAll m N).1.length : Nat)) = true := by rw [bne_iff_ne]; omega
          have hF := HG.out
          rw [if_pos hle] at hF
          have HFF := Lib.hid hF
          clear hF hle
          have hl9 := hb9r.cell
          gi_wp2
          exact ⟨_, results_tmp rfl _ _ _, by rw [HFF.out]; rfl, Ext.of_below (by rw [← HSZ.out]; exact hbSr)⟩
  · have hlo' : ¬ (0 : Int) < (endsAll m N).2.1 := by omega
    have HG := Lib.hid (show followsF old rt m N ps = (if ps.length ≠ (endsAll m N).1.length then false else (oldF m old (endsAll m N).1 ps == old) && (foldF (fun c => decide (m ≤ c.2.1)) old (endsAll m N).1 ps == rt)) by
      rw [HF.out]; simp only [if_neg hlo]; rw [if_neg (by omega)])
    clear h1 h2
    by_cases hle : (ps).length = (endsAll m N).1.length
    · have hle1 : ((((ps).length : Nat) : Int) != ((endsAll m N).1.length : Nat)) = false := by rw [bne_eq_false_iff_eq]; omega
      have HLE := Lib.hid hle
      have hHF := Lib.hid (show followsF old rt m N ps = ((oldF m old (endsAll m N).1 ps == old) && (foldF (fun c => decide (m ≤ c.2.1)) old (endsAll m N).1 ps == rt)) by
        rw [HG.out]; rw [if_neg (by omega)])
      have hl9 := hb9.cell
      clear hle
      gi_wp2_with (gi_at_call 41; go_must (refine (callsIn_wide.2 (back_walk ca (endsAll m N).1.length cc _ rfl _)).mono ?_; rintro e w' ⟨rfl, rfl⟩))
      obtain ⟨T, hT⟩ : ∃ T : Nat, T = (w1).heap.size := ⟨_, rfl⟩
      obtain ⟨v1, hv1⟩ : ∃ v1, (w1).alloc (.cells #[.int .u64 old] 24) = v1 := ⟨_, rfl⟩
      obtain ⟨v2, hv2⟩ : ∃ v2, v1.alloc (.cells #[.int .i64 0] 3) = v2 := ⟨_, rfl⟩
      obtain ⟨v3, hv3⟩ : ∃ v3, v2.alloc (.cells #[.slice ca (endsAll m N).1.length cc] 56) = v3 := ⟨_, rfl⟩
      have x1 : Ext (w1) v1 := by rw [← hv1]; exact Ext.alloc' _ _
      have x2 : Ext v1 v2 := by rw [← hv2]; exact Ext.alloc' _ _
      have x3 : Ext v2 v3 := by rw [← hv3]; exact Ext.alloc' _ _
      have z1 : v1.heap.size = T + 1 := by rw [← hv1, hT]; simp
      have z2 : v2.heap.size = T + 2 := by rw [← hv2]; simp; omega
      have z3 : v3.heap.size = T + 3 := by rw [← hv3]; simp; omega
      have q0 : Boxed v1 T 24 (.int .u64 old) := by rw [← hv1, hT]; exact Boxed.new _ _ _
      have q1 : Boxed v2 (T + 1) 3 (.int .i64 0) := by rw [← hv2, ← z1]; exact Boxed.new _ _ _
      have q2 : Boxed v3 (T + 2) 56 (.slice ca (endsAll m N).1.length cc) := by rw [← hv3, ← z2]; exact Boxed.new _ _ _
      replace q0 := (q0.ext x2).ext x3
      replace q1 := q1.ext x3
      have hx := (x1.trans x2).trans x3
      rw [hv1, hv2, hv3]
      have hTS : S + 2 ≤ T := by omega
      try simp only [← hT]
      clear hv1 hv2 hv3 x1 x2 x3 z1 z2 v1 v2
      have hTw : (w1).heap.size = T := hT.symm
      clear hT
      have sp0 := (((hP1).slB (by omega)).mono (Nat.le_of_eq hTw)).below hx (by omega)
      have sc0 := (((hcl).slB (by omega)).mono (Nat.le_of_eq hTw)).below hx (by omega)
      refine wpIn_range (gf := 50) (lb := #[.pointer (some ⟨T + 2, 0, none⟩)]) rfl (enters_of Try.func50 (by kernel_rfl) rfl) (back_iter (T + 2) (.slice ca (endsAll m N).1.length cc) (endsAll m N).1) (fun _ => rfl)
        (fun k W => Boxed W S 3 (.int .i64 m) ∧ Boxed W (S + 1) 27 (.slice a? ps.length cap) ∧ Boxed W T 24 (.int .u64 (oldK m old (endsAll m N).1 ps k)) ∧ Boxed W (T + 1) 3 (.int .i64 k) ∧ Boxed W (T + 2) 56 (.slice ca (endsAll m N).1.length cc) ∧ SlB W T 1 encU (.slice a? ps.length cap) ps ∧ SlB W T 3 encCut (.slice ca (endsAll m N).1.length cc) (endsAll m N).1 ∧ Below S w W)
        (fun _ _ => False)
        (fun k => .and .boxed (.and .boxed (.and .boxed (.and .boxed (.and .boxed (.and .slB (.and .slB (.below (by have := HSZ.out; omega) (by omega)))))))))
        (fun c => .false) (fun k W h => ⟨h.2.2.2.2.1.cell, h.2.2.2.2.2.2.1.1⟩)
        ⟨hb7.ext hx, hb9.ext hx, q0, q1, q2, sp0, sc0, (hbS).trans (hx.below (by omega))⟩ ?round ?done ?stop
      case stop => intro D c W _ h; exact h.elim
      case done =>
        rintro D W hD ⟨k7, k9, kd, kk, kc, sp, sc, hbw⟩ hdef
        rw [backL_len, oldK_all m old (endsAll m N).1 ps (by rw [HLE.out]; exact Nat.le_refl _)] at kd
        have hcd := kd.cell
        have hc9 := k9.cell
        have hxw : Ext w W := Ext.of_below (by rw [← HSZ.out]; exact hbw)
        by_cases ho : oldF m old (endsAll m N).1 ps = old
        · have ho1 : (oldF m old (endsAll m N).1 ps == old) = true := beq_iff_eq.2 ho
          have HO1 := Lib.hid ho1
          clear ho
          gi_wp2_with fail
          refine (callsIn_wide.2 (fold_walk 42 #[.pointer (some ⟨S, 0, none⟩)] (fun c => decide (m ≤ c.2.1)) old _ _ (endsAll m N).1 ps W sp.1 sc.1 HLE.out (enters_of Try.func42 (by kernel_rfl) rfl)
            (fun c _ w3 hx3 => (before_walk m S c w3 (k7.ext hx3)).mono fun e w4 h => ⟨by rw [h.1]; simp, h.2⟩))).mono ?_
          rintro e w3 ⟨rfl, hx3⟩
          have hdef3 : w3.heap[D]? = some (.deferred (some [])) := (hx3.block D (Array.getElem?_eq_some_iff.1 hdef).1).trans hdef
          gi_wp2
          refine bodyPostM_ret rfl hdef3 (fun W' _ => results_tmp rfl _ _ _) (fun W' hs => ⟨?_, Below.trans (hxw.trans hx3) (hs.below (by have := HSZ.out; omega))⟩)
          rw [hHF.out, HO1.out]; rfl
        · have ho1 : (oldF m old (endsAll m N).1 ps == old) = false := beq_eq_false_iff_ne.2 ho
          have HO1 := Lib.hid ho1
          clear ho
          gi_wp2
          refine bodyPostM_ret rfl hdef (fun W' _ => results_tmp rfl _ _ _) (fun W' hs => ⟨?_, Below.trans hxw (hs.below (by have := HSZ.out; omega))⟩)
          rw [hHF.out, HO1.out]; rfl
      case round =>
        rintro lr k W hk hIk hle hlt
        rw [backL_len] at hk
        obtain ⟨m2, hm⟩ : ∃ m2 : Nat, m2 = (endsAll m N).1.length - 1 - k := ⟨_, rfl⟩
        have hml : m2 < (endsAll m N).1.length := by omega
        have hkp : k < (ps).length := by rw [HLE.out]; exact hk
        have hkb : k ≤ 1024 := by have := hEF.out.2.2.2; omega
        rw [backL_get' (endsAll m N).1 k m2 hm hml]
        simp only [encBack]
        obtain ⟨c, hc0⟩ : ∃ c, c = (endsAll m N).1[m2] := ⟨_, rfl⟩
        have hbt := oldK_succ m old (endsAll m N).1 ps k m2 hm hk hml hkp
        rw [← hc0] at hbt ⊢
        obtain ⟨c0, c1, c2⟩ := c
        have HK := Lib.hid hbt
        clear hbt hm hc0
        gi_wp2
        refine ⟨KeepsOthers.alloc _ _, fun W2 hs2 => ?_⟩
        obtain ⟨k7, k9, kd, kk, kc, sp, sc, hbw⟩ := hIk
        have hx1 := Ext.alloc' W (.cells #[.int .i64 c0, .int .i64 c1, .int .i64 c2] 64)
        have e1 := (hs2.cell _).trans (alloc_cell W #[.int .i64 c0, .int .i64 c1, .int .i64 c2] 64 1 (.int .i64 c1) rfl)
        replace k7 := hs2.boxed (k7.ext hx1)
        replace k9 := hs2.boxed (k9.ext hx1)
        replace kd := hs2.boxed (kd.ext hx1)
        replace kk := hs2.boxed (kk.ext hx1)
        replace kc := hs2.boxed (kc.ext hx1)
        replace sp : SlB W2 T 1 encU _ _ := ⟨hs2.sl (sp.1.ext hx1), sp.2⟩
        replace sc : SlB W2 T 3 encCut _ _ := ⟨hs2.sl (sc.1.ext hx1), sc.2⟩
        have hbW : Below S w W2 := by
          have h8 : S ≤ W.heap.size := by have := hbw.size; have := HSZ.out; omega
          exact (hbw.trans (hx1.below h8)).trans (hs2.below (by omega))
        have hW2T : T ≤ W2.heap.size := by have := hs2.size; simp at this; omega
        obtain ⟨b0, o0, htva, hpk⟩ := sp.1.at1 k hkp
        cases htva
        simp only [encU, List.getD_cons_zero] at hpk
        have g7 := k7.cell
        have g9 := ext_cells k9.cell
        have gd := ext_cells kd.cell
        have gk := ext_cells kk.cell
        have gp := ext_cells hpk
        have gkc := kk.cell
        have gkf := kk.frozen
        clear hx1 hbw hpk
        by_cases hmc : c1 < m
        · have hmc' : (c1 : Int) < m := by omega
          have HQ := Lib.hid (show oldK m old (endsAll m N).1 ps (k + 1) = node ((ps)[k]) (oldK m old (endsAll m N).1 ps k) by rw [HK.out]; exact if_pos hmc)
          clear hmc
          gi_wp2
          refine wpIn_region_ord [(0,true),(1,true),(2,true),(3,true),(4,true),(5,true)] 6 Ext (Ext W2) wide (by kernel_rfl) (by rintro ⟨_, _, h⟩; exact h) (stable_ext _) (Ext.drawn _ _) ?_
          iterate 5 (apply wpOrd_det rfl rfl; (intro w' hw'; unfold opR; go_simp; exact ⟨Ext.refl _, rfl⟩); (simp only [List.getElem_toArray, List.getElem_cons_succ, List.getElem_cons_zero, Act.put, List.setIfInBounds_toArray, List.set_cons_succ, List.set_cons_zero]; rfl))
          (apply wpOrd_det rfl rfl; (intro w' hw'; refine opR_call rfl (Go.Proofs.enters_of Try.func22 (by kernel_rfl) rfl) (by simp only [List.map_toArray, List.map_cons, List.map_nil, Act.eval, Array.getD_eq_getD_getElem?, List.getElem?_toArray, List.getElem?_cons_succ, List.getElem?_cons_zero, Option.getD_some]; rfl) ?_; refine (node_walk _ _ w').mono ?_; rintro e w4 ⟨rfl, hx⟩; exact ⟨_, rfl, hx, rfl⟩); (simp only [List.getElem_toArray, List.getElem_cons_succ, List.getElem_cons_zero, Act.put, List.setIfInBounds_toArray, List.set_cons_succ, List.set_cons_zero]; rfl))
          refine wpOrd_nil (l := [_]) rfl ?_
          intro w4 hw4
          have k0 := (kd.ext hw4).cell
          have k0f := (kd.ext hw4).frozen
          have k3 := ((kk.ext hw4).set' (p := ⟨T, 0, none⟩) (by simp) (.int .u64 (node ((ps)[k]) (oldK m old (endsAll m N).1 ps k)))).cell
          have k3f := ((kk.ext hw4).set' (p := ⟨T, 0, none⟩) (by simp) (.int .u64 (node ((ps)[k]) (oldK m old (endsAll m N).1 ps k)))).frozen
          go_wp2
          gi_wp2
          refine ⟨((KeepsOthers.ext hw4).trans (KeepsOthers.setCell _ _ _)).trans (KeepsOthers.setCell _ _ _), ?_, ?_, ?_, ?_, ?_, ?_, ?_, ?_⟩
          · exact ((k7.ext hw4).set' (show S ≠ T by omega) _).set' (p := ⟨T + 1, 0, none⟩) (show S ≠ T + 1 by omega) _
          · exact ((k9.ext hw4).set' (show S + 1 ≠ T by omega) _).set' (p := ⟨T + 1, 0, none⟩) (show S + 1 ≠ T + 1 by omega) _
          · have := ((kd.ext hw4).set (.int .u64 (node ((ps)[k]) (oldK m old (endsAll m N).1 ps k)))).set' (p := ⟨T + 1, 0, none⟩) (by simp) (.int .i64 (k + 1))
            rw [HQ.out]; exact this
          · have := ((kk.ext hw4).set' (p := ⟨T, 0, none⟩) (by simp) (.int .u64 (node ((ps)[k]) (oldK m old (endsAll m N).1 ps k)))).set (.int .i64 (k + 1))
            exact this
          · exact ((kc.ext hw4).set' (by simp) _).set' (by simp) _
          · exact ((sp.below hw4 hW2T).below ((Below.refl T _).setCell (Nat.le_refl _) _) (Nat.le_refl _)).below ((Below.refl T _).setCell (p := ⟨T + 1, 0, none⟩) (show T ≤ T + 1 by omega) _) (Nat.le_refl _)
          · exact ((sc.below hw4 hW2T).below ((Below.refl T _).setCell (Nat.le_refl _) _) (Nat.le_refl _)).below ((Below.refl T _).setCell (p := ⟨T + 1, 0, none⟩) (show T ≤ T + 1 by omega) _) (Nat.le_refl _)
          · exact ((hbW.trans (hw4.below (by omega))).setCell (show S ≤ T by omega) _).setCell (p := ⟨T + 1, 0, none⟩) (show S ≤ T + 1 by omega) _
        · have hmc' : ¬ (c1 : Int) < m := by omega
          have HQ := Lib.hid (show oldK m old (endsAll m N).1 ps (k + 1) = oldK m old (endsAll m N).1 ps k by rw [HK.out]; exact if_neg hmc)
          clear hmc
          gi_wp2
          refine ⟨KeepsOthers.setCell _ _ _, ?_, ?_, ?_, ?_, ?_, ?_, ?_, ?_⟩
          · exact k7.set' (p := ⟨T + 1, 0, none⟩) (show S ≠ T + 1 by omega) _
          · exact k9.set' (p := ⟨T + 1, 0, none⟩) (show S + 1 ≠ T + 1 by omega) _
          · rw [HQ.out]; exact kd.set' (p := ⟨T + 1, 0, none⟩) (show T ≠ T + 1 by omega) _
          · exact kk.set (.int .i64 (k + 1))
          · exact kc.set' (p := ⟨T + 1, 0, none⟩) (show T + 2 ≠ T + 1 by omega) _
          · exact sp.below ((Below.refl T _).setCell (p := ⟨T + 1, 0, none⟩) (show T ≤ T + 1 by omega) _) (Nat.le_refl _)
          · exact sc.below ((Below.refl T _).setCell (p := ⟨T + 1, 0, none⟩) (show T ≤ T + 1 by omega) _) (Nat.le_refl _)
          · exact hbW.setCell (p := ⟨T + 1, 0, none⟩) (show S ≤ T + 1 by omega) _
    · have hle1 : ((((ps).length : Nat) : Int) != ((endsAll m N).1.length : Nat)) = true := by rw [bne_iff_ne]; omega
      have hF := HG.out
      rw [if_pos hle] at hF
      have HFF := Lib.hid hF
      clear hF hle
      have hl9 := hb9.cell
      gi_wp2
      exact ⟨_, results_tmp rfl _ _ _, by rw [HFF.out]; rfl, Ext.of_below (by rw [← HSZ.out]; exact hbS)⟩
end Go.Proofs.Yteelklpppfahcaa
