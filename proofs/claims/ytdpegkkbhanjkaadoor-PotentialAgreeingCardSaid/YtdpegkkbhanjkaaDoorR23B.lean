/-
  Walks of the reference: Same (of vectors), Steps and Chains, of equal lists.
-/
import Derived.Test.YtdpegkkbhanjkaaDoorPlN
set_option linter.unusedVariables false
namespace Go.Proofs.YtdpegkkbhanjkaaDoor
open Go.RowKit Go.Sx Go.Sx.Sz Go.Sx.Sc Go.Sx.Po

set_option maxHeartbeats 1000000 in
theorem rsamev_walk (va vb : Value) (xs : List V6) (w : World) (S : Sl w 6 V6.list va xs) (T : Sl w 6 V6.list vb xs) :
    Calls Tryd.prog 13 #[va, vb] w fun e w' => e = .returned (.bool true) ∧ Ext w w' := by
  obtain ⟨a?, ca, rfl, -, -, h3⟩ := S.len
  obtain ⟨b?, cb, rfl, -, -, h4⟩ := T.len
  have hl' : ((xs.length : Int) != xs.length) = false := by rw [bne_eq_false_iff_eq]
  go_enter Tryd.func13, Tryd.ntmps13
  go_wp2
  go_loopw [5] (fun i wr => ∃ k : Nat, k ≤ xs.length ∧ i = .int .i64 k ∧ Ext w wr) (fun i _ => xs.length - (intOf i).toNat)
  case atStart => exact ⟨0, by omega, rfl, Ext.refl _⟩
  case round =>
    obtain ⟨k, hk, rfl, hx⟩ := hrel
    clear hl'
    by_cases hlt : k < xs.length
    · obtain ⟨b0, o0, rfl, c0, c1, c2, c3, c4, c5⟩ := Sl.vec (S.ext hx) k hlt
      obtain ⟨b1, o1, rfl, d0, d1, d2, d3, d4, d5⟩ := Sl.vec (T.ext hx) k hlt
      obtain ⟨x, hxx⟩ : ∃ x, xs[k] = x := ⟨_, rfl⟩
      rw [hxx] at c0 c1 c2 c3 c4 c5 d0 d1 d2 d3 d4 d5
      have VQ : ∀ w', (Op.equalIn 10000 41 (.agg #[.int .i64 x.a, .int .i64 x.b, .int .i64 x.c, .int .i64 x.d, .int .i64 x.e, .int .i64 x.f]) (.agg #[.int .i64 x.a, .int .i64 x.b, .int .i64 x.c, .int .i64 x.d, .int .i64 x.e, .int .i64 x.f])).run Tryd.prog w' = .ok true w' := fun w' => by
        have := run_eq_v6 (P := Tryd.prog) Tryd.underlying41 Tryd.underlying3 (by kernel_rfl) x x 9998 w'
        rwa [decide_eq_true rfl] at this
      have i1 : (0 : Int) ≤ (k : Int) := by omega
      have i2 : (k : Int) < (xs.length : Int) := by omega
      clear S T hxx
      obtain ⟨wo, rfl⟩ : ∃ wo : World, wo = wr := ⟨_, rfl⟩
      go_wp2
      go_quiet (fail)
      go_wp2
      go_roundw
      case rel => exact ⟨k + 1, by omega, by go_num, hx.drewN _⟩
      case measure => simp [intOf] <;> omega
    · obtain rfl : k = xs.length := by omega
      clear S T
      go_wp2
      go_ret
      exact ⟨rfl, hx⟩

set_option maxHeartbeats 1000000 in
theorem rsteps_walk (va vb : Value) (xs : List St) (w : World) (S : Sl w 3 encSt va xs) (T : Sl w 3 encSt vb xs) :
    Calls Tryd.prog 41 #[va, vb] w fun e w' => e = .returned (.bool true) ∧ Ext w w' := by
  obtain ⟨a?, ca, rfl, -, -, h3⟩ := S.len
  obtain ⟨b?, cb, rfl, -, -, h4⟩ := T.len
  have hl' : ((xs.length : Int) != xs.length) = false := by rw [bne_eq_false_iff_eq]
  go_enter Tryd.func41, Tryd.ntmps41
  go_wp2
  go_loopw [5] (fun i wr => ∃ k : Nat, k ≤ xs.length ∧ i = .int .i64 k ∧ Ext w wr) (fun i _ => xs.length - (intOf i).toNat)
  case atStart => exact ⟨0, by omega, rfl, Ext.refl _⟩
  case round =>
    obtain ⟨k, hk, rfl, hx⟩ := hrel
    clear hl'
    by_cases hlt : k < xs.length
    · obtain ⟨b0, o0, rfl, c0, c1, c2⟩ := Sl.st (S.ext hx) k hlt
      obtain ⟨b1, o1, rfl, d0, d1, d2⟩ := Sl.st (T.ext hx) k hlt
      obtain ⟨x, hxx⟩ : ∃ x, xs[k] = x := ⟨_, rfl⟩
      rw [hxx] at c0 c1 c2 d0 d1 d2
      have ea : (x.a == x.a) = true := beq_self_eq_true _
      have eb : (x.b == x.b) = true := beq_self_eq_true _
      have ek : (x.k == x.k) = true := beq_self_eq_true _
      have i1 : (0 : Int) ≤ (k : Int) := by omega
      have i2 : (k : Int) < (xs.length : Int) := by omega
      clear S T hxx
      obtain ⟨wo, rfl⟩ : ∃ wo : World, wo = wr := ⟨_, rfl⟩
      go_wp2
      go_quiet (fail)
      go_wp2
      go_roundw
      case rel => exact ⟨k + 1, by omega, by go_num, hx.drewN _⟩
      case measure => simp [intOf] <;> omega
    · obtain rfl : k = xs.length := by omega
      clear S T
      go_wp2
      go_ret
      exact ⟨rfl, hx⟩

theorem Sl.ck {w : World} {a? : Option Addr} {n cap : Nat} {zs : List (Value × Cn)} (h : Sl w 8 encCk (.slice a? n cap) zs) (k : Nat) (hk : k < zs.length) : ∃ b o, a? = some ⟨b, o, none⟩ ∧ w.cell? ⟨b, o + k * 8, none⟩ = some (.int .i64 zs[k].2.pair) ∧ w.cell? ⟨b, o + k * 8 + 1, none⟩ = some zs[k].1 ∧ w.cell? ⟨b, o + k * 8 + 2, none⟩ = some (.int .i64 zs[k].2.comma.a) ∧ w.cell? ⟨b, o + k * 8 + 3, none⟩ = some (.int .i64 zs[k].2.comma.b) ∧ w.cell? ⟨b, o + k * 8 + 4, none⟩ = some (.int .i64 zs[k].2.comma.c) ∧ w.cell? ⟨b, o + k * 8 + 5, none⟩ = some (.int .i64 zs[k].2.comma.d) ∧ w.cell? ⟨b, o + k * 8 + 6, none⟩ = some (.int .i64 zs[k].2.comma.e) ∧ w.cell? ⟨b, o + k * 8 + 7, none⟩ = some (.int .i64 zs[k].2.comma.f) := by
  obtain ⟨b, o, e, hc⟩ := h.at (by omega) k hk
  exact ⟨b, o, e, hc 0 (by omega), hc 1 (by omega), hc 2 (by omega), hc 3 (by omega), hc 4 (by omega), hc 5 (by omega), hc 6 (by omega), hc 7 (by omega)⟩
/-- What lies at place k of a row of chains. -/
theorem ChR.at {w : World} {v : Value} {l : List Cn} (h : ChR w v l) : ∃ a? c, v = .slice a? l.length c ∧ l.length ≤ 140737488351232 ∧ ∀ (w' : World) (x : Ext w w') (k : Nat) (hk : k < l.length), ∃ b o sv, a? = some ⟨b, o, none⟩ ∧ w'.cell? ⟨b, o + k * 8, none⟩ = some (.int .i64 l[k].pair) ∧ w'.cell? ⟨b, o + k * 8 + 1, none⟩ = some sv ∧ w'.cell? ⟨b, o + k * 8 + 2, none⟩ = some (.int .i64 l[k].comma.a) ∧ w'.cell? ⟨b, o + k * 8 + 3, none⟩ = some (.int .i64 l[k].comma.b) ∧ w'.cell? ⟨b, o + k * 8 + 4, none⟩ = some (.int .i64 l[k].comma.c) ∧ w'.cell? ⟨b, o + k * 8 + 5, none⟩ = some (.int .i64 l[k].comma.d) ∧ w'.cell? ⟨b, o + k * 8 + 6, none⟩ = some (.int .i64 l[k].comma.e) ∧ w'.cell? ⟨b, o + k * 8 + 7, none⟩ = some (.int .i64 l[k].comma.f) ∧ Sl w' 3 encSt sv l[k].steps := by
  obtain ⟨zs, rfl, S, hz⟩ := h
  obtain ⟨a?, c, rfl, -, -, h3⟩ := S.len
  refine ⟨a?, c, by rw [List.length_map], by rw [List.length_map]; exact h3, fun w' x k hk => ?_⟩
  have hk' : k < zs.length := by rw [List.length_map] at hk; exact hk
  obtain ⟨b, o, e, q⟩ := Sl.ck (S.ext x) k hk'
  have hm := (hz zs[k] (List.getElem_mem hk')).ext x
  simp only [List.getElem_map]
  exact ⟨b, o, _, e, q.1, q.2.1, q.2.2.1, q.2.2.2.1, q.2.2.2.2.1, q.2.2.2.2.2.1, q.2.2.2.2.2.2.1, q.2.2.2.2.2.2.2, hm⟩

set_option maxRecDepth 100000 in
set_option maxHeartbeats 4000000 in
theorem rchains_walk (va vb : Value) (l : List Cn) (w : World) (S : ChR w va l) (T : ChR w vb l) :
    Calls Tryd.prog 24 #[va, vb] w fun e w' => e = .returned (.bool true) ∧ Ext w w' := by
  obtain ⟨a?, ca, rfl, h3, SA⟩ := S.at
  obtain ⟨b?, cb, rfl, -, TA⟩ := T.at
  have hl' : ((l.length : Int) != l.length) = false := by rw [bne_eq_false_iff_eq]
  clear S T
  go_enter Tryd.func24, Tryd.ntmps24
  go_wp2
  go_loopw [5] (fun i wr => ∃ k : Nat, k ≤ l.length ∧ i = .int .i64 k ∧ Ext w wr) (fun i _ => l.length - (intOf i).toNat)
  case atStart => exact ⟨0, by omega, rfl, Ext.refl _⟩
  case round =>
    obtain ⟨k, hk, rfl, hx⟩ := hrel
    clear hl'
    by_cases hlt : k < l.length
    · obtain ⟨b0, o0, sv, rfl, c0, cs, c2, c3, c4, c5, c6, c7, L1⟩ := SA wr hx k hlt
      obtain ⟨b1, o1, tv, rfl, d0, ds, d2, d3, d4, d5, d6, d7, L2⟩ := TA wr hx k hlt
      obtain ⟨sa, sc, rfl, -, -, -⟩ := L1.len
      obtain ⟨ta, tc, rfl, -, -, -⟩ := L2.len
      obtain ⟨x, hxx⟩ : ∃ x, l[k] = x := ⟨_, rfl⟩
      rw [hxx] at c0 cs c2 c3 c4 c5 c6 c7 d0 ds d2 d3 d4 d5 d6 d7 L1 L2
      obtain ⟨xp, xst, xm⟩ := x
      simp only at c0 cs c2 c3 c4 c5 c6 c7 d0 ds d2 d3 d4 d5 d6 d7 L1 L2
      have VQ : ∀ w', (Op.equalIn 10000 41 (.agg #[.int .i64 xm.a, .int .i64 xm.b, .int .i64 xm.c, .int .i64 xm.d, .int .i64 xm.e, .int .i64 xm.f]) (.agg #[.int .i64 xm.a, .int .i64 xm.b, .int .i64 xm.c, .int .i64 xm.d, .int .i64 xm.e, .int .i64 xm.f])).run Tryd.prog w' = .ok true w' := fun w' => by
        have := run_eq_v6 (P := Tryd.prog) Tryd.underlying41 Tryd.underlying3 (by kernel_rfl) xm xm 9998 w'
        rwa [decide_eq_true rfl] at this
      have SW := Lib.hid fun w' (y : Ext wr w') => rsteps_walk _ _ xst w' (L1.ext y) (L2.ext y)
      have e1 : (xp != xp) = false := by rw [bne_eq_false_iff_eq]
      have i1 : (0 : Int) ≤ (k : Int) := by omega
      have i2 : (k : Int) < (l.length : Int) := by omega
      have c0 := ext_cells c0; have cs := ext_cells cs; have c2 := ext_cells c2; have c3 := ext_cells c3; have c4 := ext_cells c4; have c5 := ext_cells c5; have c6 := ext_cells c6; have c7 := ext_cells c7
      have d0 := ext_cells d0; have ds := ext_cells ds; have d2 := ext_cells d2; have d3 := ext_cells d3; have d4 := ext_cells d4; have d5 := ext_cells d5; have d6 := ext_cells d6; have d7 := ext_cells d7
      clear SA TA hxx L1 L2
      obtain ⟨wo, rfl⟩ : ∃ wo : World, wo = wr := ⟨_, rfl⟩
      go_wp2_with fail
      refine wp_region_ord [(0,true), (1,true), (2,true), (3,true), (4,true), (5,true), (6,true), (7,true), (8,true), (9,true), (10,true), (11,true), (12,true), (13,true), (14,true), (15,true), (16,true), (17,true), (18,true), (19,true), (20,true), (21,true), (22,true), (23,true), (24,true), (25,true), (26,true), (27,true), (28,true), (29,true), (30,true), (31,true), (32,true), (33,true), (34,true), (35,true), (36,true), (37,true)] 38 Ext (Ext wo) wide (by kernel_rfl) (stable_ext _) (Ext.drawn _ _) ?_
      iterate 35 (first | (apply wpOrd_no rfl; rfl; (simp only [List.getElem_toArray, List.getElem_cons_succ, List.getElem_cons_zero, Act.put, List.setIfInBounds_toArray, List.set_cons_succ, List.set_cons_zero]; rfl)) | (apply wpOrd_yes rfl; rfl; (intro w' hw'; unfold opR; go_simp; exact ⟨Ext.refl _, rfl⟩); (simp only [List.getElem_toArray, List.getElem_cons_succ, List.getElem_cons_zero, Act.put, List.setIfInBounds_toArray, List.set_cons_succ, List.set_cons_zero]; rfl)))
      (apply wpOrd_yes rfl (by rfl); (intro w' hw'; refine opR_call rfl (Go.Proofs.enters_of Tryd.func41 (by kernel_rfl) rfl) (by simp only [List.map_toArray, List.map_cons, List.map_nil, Act.eval, Array.getD_eq_getD_getElem?, List.getElem?_toArray, List.getElem?_cons_succ, List.getElem?_cons_zero, Option.getD_some]; rfl) ?_; refine (SW.out _ hw').mono ?_; rintro e w'' ⟨rfl, hx⟩; exact ⟨_, rfl, hx, rfl⟩); (simp only [List.getElem_toArray, List.getElem_cons_succ, List.getElem_cons_zero, Act.put, List.setIfInBounds_toArray, List.set_cons_succ, List.set_cons_zero]; rfl))
      iterate 2 (first | (apply wpOrd_no rfl; rfl; (simp only [List.getElem_toArray, List.getElem_cons_succ, List.getElem_cons_zero, Act.put, List.setIfInBounds_toArray, List.set_cons_succ, List.set_cons_zero]; rfl)) | (apply wpOrd_yes rfl; rfl; (intro w' hw'; unfold opR; go_simp; exact ⟨Ext.refl _, rfl⟩); (simp only [List.getElem_toArray, List.getElem_cons_succ, List.getElem_cons_zero, Act.put, List.setIfInBounds_toArray, List.set_cons_succ, List.set_cons_zero]; rfl)))
      refine wpOrd_nil rfl ?_
      intro w9 x9
      have HX := Lib.hid (hx.trans x9)
      clear c0 cs c2 c3 c4 c5 c6 c7 d0 ds d2 d3 d4 d5 d6 d7 x9
      go_wp2
      go_roundw
      case rel => exact ⟨k + 1, by omega, by go_num, HX.out⟩
      case measure => simp [intOf] <;> omega
    · obtain rfl : k = l.length := by omega
      clear SA TA
      go_wp2
      go_ret
      exact ⟨rfl, hx⟩
end Go.Proofs.YtdpegkkbhanjkaaDoor
