/-
  Walks of schismaref23: product.
-/
import Derived.Test.YtbemjekkojgbpaaGreatDoorR40A
set_option linter.unusedVariables false
namespace Go.Sx.Po
open Go.Sx.Sz Go.Sx.Sc
/-- The product of a step. -/
def prodP (s : Sc) (h : List V6) (p : St) : V6 := if p.k = 1 then V6.zero else if p.k = 3 then (s.N p.b.toNat).x.add (hF h (secF s (s.N p.b.toNat).f)) 1 else wnF s p.a p.b
theorem prodP_up {s : Sc} (hok : ScOk s) (h : List V6) (n : Nat) : prodP s h (upF s n) = prodF s h n := by
  have hb := upF_b (s := s) n
  unfold prodP prodF
  rcases upF_k (s := s) n with ⟨k1, ht⟩ | ⟨ht, k2 | k3⟩
  · rw [if_pos k1, if_neg (by omega)]; unfold wantF; rw [if_pos ht]
  · rw [if_neg (by omega), if_neg (by omega), if_neg (by omega), hb, wn_up hok k2]
  · rw [if_neg (by omega), if_pos k3, if_pos k3, hb, Int.toNat_natCast]
end Go.Sx.Po
namespace Go.Proofs.YtbemjekkojgbpaaGreatDoor
open Go.RowKit Go.Sx Go.Sx.Sz Go.Sx.Sc Go.Sx.Po

set_option maxRecDepth 100000 in
set_option maxHeartbeats 8000000 in
theorem rproduct_walk (vn vp vc vh : Value) (s : Sc) (h : List V6) (n : Nat) (hok : ScOk s) (hn : n < s.notes.length) (hwi : ∀ x ∈ h, within x 48 = true) (hsec : secF s (s.N n).f < h.length) (w : World) (S : ScR w vn vp vc s) (V : Sl w 6 V6.list vh h) :
    Calls Tryz.prog 59 #[.agg #[.int .i64 s.voices, vn, vp, vc], vh, .agg #[.int .i64 (upF s n).a, .int .i64 (upF s n).b, .int .i64 (upF s n).k]] w fun e w' => e = .returned (.agg #[.int .i64 (prodF s h n).a, .int .i64 (prodF s h n).b, .int .i64 (prodF s h n).c, .int .i64 (prodF s h n).d, .int .i64 (prodF s h n).e, .int .i64 (prodF s h n).f]) ∧ Ext w w' := by
  obtain ⟨an, cn, rfl, -, -, hln⟩ := S.nt.len
  obtain ⟨ap, cp, rfl, -, -, hlp⟩ := S.pr.len
  obtain ⟨ac, cc, rfl, -, -, hlc⟩ := S.cd.len
  obtain ⟨ah, ch, rfl, -, -, -⟩ := V.len
  rw [← prodP_up hok h n]
  have hub := upF_b (s := s) n
  have huk : (upF s n).k = 1 ∨ (upF s n).k = 2 ∨ (upF s n).k = 3 := by
    rcases upF_k (s := s) n with ⟨k1, -⟩ | ⟨-, k2 | k3⟩
    · exact .inl k1
    · exact .inr (.inl k2)
    · exact .inr (.inr k3)
  obtain ⟨⟨ua, ub, uk⟩, hu⟩ : ∃ u, upF s n = u := ⟨_, rfl⟩
  rw [hu] at hub huk ⊢
  simp only at hub huk ⊢
  subst hub
  clear hu
  have X0 : Ext w (((w.alloc (.cells #[.int .i64 s.voices, .slice an s.notes.length cn, .slice ap s.pairs.length cp, .slice ac s.cads.length cc] 26)).alloc (.cells #[.int .i64 ua, .int .i64 (n : Int), .int .i64 uk] 113)).alloc (.cells #[.int .i64 0, .int .i64 0, .int .i64 0, .int .i64 0, .int .i64 0, .int .i64 0] 45)) := (by repeat (first | with_reducible exact Ext.refl _ | with_reducible assumption | with_reducible apply Ext.alloc | with_reducible apply Ext.drew | (with_reducible refine Ext.setCell ?_ (by (try simp) <;> omega) _)))
  have b0_0 := block_alloc (block_alloc (block_new w (.cells #[.int .i64 s.voices, .slice an s.notes.length cn, .slice ap s.pairs.length cp, .slice ac s.cads.length cc] 26)) (.cells #[.int .i64 ua, .int .i64 (n : Int), .int .i64 uk] 113)) (.cells #[.int .i64 0, .int .i64 0, .int .i64 0, .int .i64 0, .int .i64 0, .int .i64 0] 45)
  have b0_1 := block_alloc (block_at (w := (w.alloc (.cells #[.int .i64 s.voices, .slice an s.notes.length cn, .slice ap s.pairs.length cp, .slice ac s.cads.length cc] 26))) (n := w.heap.size + 1) (by simp) (.cells #[.int .i64 ua, .int .i64 (n : Int), .int .i64 uk] 113)) (.cells #[.int .i64 0, .int .i64 0, .int .i64 0, .int .i64 0, .int .i64 0, .int .i64 0] 45)
  have b0_2 := block_at (w := ((w.alloc (.cells #[.int .i64 s.voices, .slice an s.notes.length cn, .slice ap s.pairs.length cp, .slice ac s.cads.length cc] 26)).alloc (.cells #[.int .i64 ua, .int .i64 (n : Int), .int .i64 uk] 113))) (n := w.heap.size + 1 + 1) (by simp) (.cells #[.int .i64 0, .int .i64 0, .int .i64 0, .int .i64 0, .int .i64 0, .int .i64 0] 45)
  obtain ⟨W0, hW0⟩ : ∃ W, (((w.alloc (.cells #[.int .i64 s.voices, .slice an s.notes.length cn, .slice ap s.pairs.length cp, .slice ac s.cads.length cc] 26)).alloc (.cells #[.int .i64 ua, .int .i64 (n : Int), .int .i64 uk] 113)).alloc (.cells #[.int .i64 0, .int .i64 0, .int .i64 0, .int .i64 0, .int .i64 0, .int .i64 0] 45)) = W := ⟨_, rfl⟩
  obtain ⟨B0, hB0⟩ : ∃ B, w.heap.size = B := ⟨_, rfl⟩
  rw [hW0] at X0 b0_0 b0_1 b0_2
  rw [hB0] at b0_0 b0_1 b0_2
  have HZ0 : Hid (w.heap.size ≤ B0) := Lib.hid (by omega)
  have HW0 := Lib.hid hW0; have HB0 := Lib.hid hB0
  clear hW0 hB0
  have CB := Lib.hid (boxS b0_0)
  have HP := Lib.hid b0_1
  have HR := Lib.hid b0_2
  have S1 := S.ext X0
  have V1 := V.ext X0
  have p0 := block_cell b0_1 0 _ rfl; have p1 := block_cell b0_1 1 _ rfl; have p2 := block_cell b0_1 2 _ rfl
  obtain ⟨c0, c1, c2, c3⟩ := CB.out _ (Ext.refl _)
  clear S V b0_0 b0_1 b0_2
  go_enter Tryz.func59, Tryz.ntmps59
  go_upto_region 1 with fail
  rw [HW0.out, HB0.out]
  clear HW0 HB0
  rcases huk with rfl | rfl | rfl
  · have n2 := setRow_at HR.out #[.int .i64 0, .int .i64 0, .int .i64 0, .int .i64 0, .int .i64 0, .int .i64 0]
    have XX := X0.setRow (g := B0 + 1 + 1) (by have := HZ0.out; omega) #[.int .i64 0, .int .i64 0, .int .i64 0, .int .i64 0, .int .i64 0, .int .i64 0]
    have e0 := block_cell n2 0 _ rfl; have e1 := block_cell n2 1 _ rfl; have e2 := block_cell n2 2 _ rfl; have e3 := block_cell n2 3 _ rfl; have e4 := block_cell n2 4 _ rfl; have e5 := block_cell n2 5 _ rfl
    have HV : Hid (prodP s h ⟨ua, n, 1⟩ = V6.zero) := Lib.hid (if_pos rfl)
    clear n2
    go_wp2_with (first | (refine wpList_store_row rfl _ _ _ rfl (B0 + 1 + 1) _ rfl rfl _ _ HR.out (by kernel_rfl) rfl (by simp [Value.oneCell']) ?_) | fail)
    refine bodyPost_ret (v := .agg #[.int .i64 0, .int .i64 0, .int .i64 0, .int .i64 0, .int .i64 0, .int .i64 0]) (by simp [results, Tryz.results59, go_sem, e0, e1, e2, e3, e4, e5]) rfl ⟨by rw [HV.out]; rfl, XX⟩
  · -- the pair
    have HV : Hid (prodP s h ⟨ua, n, 2⟩ = wnF s ua n) := Lib.hid (by unfold prodP; rw [if_neg (show ¬ (2 : Int) = 1 by decide), if_neg (show ¬ (2 : Int) = 3 by decide)])
    have hh := fun (k : Nat) (hk : k < s.pairs.length) => @wn_hit s ua n k hk
    have hm := @wn_miss s ua n
    obtain ⟨r, hr⟩ : ∃ r, wnF s ua n = r := ⟨_, rfl⟩
    rw [hr] at hh hm HV
    have HH := Lib.hid hh; have HM := Lib.hid hm
    clear hr hh hm
    go_wp2
    clear p0 p1 p2 c0 c1 c2 c3
    go_loopw [7] (fun i wr => ∃ k : Nat, k ≤ s.pairs.length ∧ i = .int .i64 k ∧ Hid (∀ x ∈ s.pairs.take k, wnP ua n x = false) ∧ Ext W0 wr) (fun i _ => s.pairs.length - (intOf i).toNat)
    case atStart => exact ⟨0, by omega, by first | rfl | trivial, Lib.hid (fun x hx => by simp at hx), Ext.refl _⟩
    case round =>
      obtain ⟨k, hk, rfl, HT, X⟩ := hrel
      obtain ⟨c0, c1, c2, c3⟩ := CB.out _ X
      have HRX := Lib.hid (block_ext X HR.out)
      by_cases hlt : k < s.pairs.length
      case neg =>
        obtain rfl : k = s.pairs.length := by omega
        obtain rfl : r = V6.zero := HM.out HT.out
        have n2 := setRow_at HRX.out #[.int .i64 0, .int .i64 0, .int .i64 0, .int .i64 0, .int .i64 0, .int .i64 0]
        have XX := (X0.trans X).setRow (g := B0 + 1 + 1) (by have := HZ0.out; omega) #[.int .i64 0, .int .i64 0, .int .i64 0, .int .i64 0, .int .i64 0, .int .i64 0]
        have e0 := block_cell n2 0 _ rfl; have e1 := block_cell n2 1 _ rfl; have e2 := block_cell n2 2 _ rfl; have e3 := block_cell n2 3 _ rfl; have e4 := block_cell n2 4 _ rfl; have e5 := block_cell n2 5 _ rfl
        clear n2
        go_wp2_with (first | (refine wpList_store_row rfl _ _ _ rfl (B0 + 1 + 1) _ rfl rfl _ _ HRX.out (by kernel_rfl) rfl (by simp [Value.oneCell']) ?_) | fail)
        refine bodyPost_ret (v := .agg #[.int .i64 0, .int .i64 0, .int .i64 0, .int .i64 0, .int .i64 0, .int .i64 0]) (by simp [results, Tryz.results59, go_sem, e0, e1, e2, e3, e4, e5]) rfl ⟨by rw [HV.out]; rfl, XX⟩
      case pos =>
      obtain ⟨bp, op, rfl, A⟩ := Sl.pr (S1.pr.ext X) k hlt
      have hhk := HH.out k hlt
      have htk := List.take_succ_eq_append_getElem hlt
      rw [← Sc.P_eq hlt] at A htk hhk
      obtain ⟨p, hp⟩ : ∃ p, s.P k = p := ⟨_, rfl⟩
      rw [hp] at A htk hhk
      obtain ⟨q0, q1, q2, q3, q4, q5, q6, q7, -⟩ := A
      have z := block_ext X HP.out
      have p0 := block_cell z 0 _ rfl; have p1 := block_cell z 1 _ rfl
      have HHK := Lib.hid hhk; have HTK := Lib.hid htk
      have j1 : (0 : Int) ≤ (k : Int) := by omega
      have j2 : (k : Int) < (s.pairs.length : Int) := by omega
      have hwn : wnP ua n p = (decide (p.a = ua) && decide (p.b = n)) := rfl
      have HWN := Lib.hid hwn
      clear hhk htk hp hwn z
      by_cases ha : p.a = ua
      · have e1 : (p.a == ua) = true := beq_iff_eq.2 ha
        by_cases hb : p.b = n
        · have e2 : (p.b == (n : Int)) = true := beq_iff_eq.2 hb
          have HE : Hid (r = p.want) := Lib.hid (HHK.out (by rw [HWN.out, decide_eq_true ha, decide_eq_true hb]; rfl) HT.out)
          obtain ⟨x, hx⟩ : ∃ x, p.want = x := ⟨_, rfl⟩
          rw [hx] at HE q2 q3 q4 q5 q6 q7
          clear hx ha hb
          go_wp2
          go_quiet (fail)
          have N := fun nq => setRow_at (w := wr.drewN nq) HRX.out (#[.int .i64 x.a, .int .i64 x.b, .int .i64 x.c, .int .i64 x.d, .int .i64 x.e, .int .i64 x.f] : Array Value)
          have XX := fun nq => ((X0.trans X).drewN nq).setRow (g := B0 + 1 + 1) (by have := HZ0.out; omega) (#[.int .i64 x.a, .int .i64 x.b, .int .i64 x.c, .int .i64 x.d, .int .i64 x.e, .int .i64 x.f] : Array Value)
          have t0 := fun nq => block_cell (N nq) 0 _ rfl; have t1 := fun nq => block_cell (N nq) 1 _ rfl; have t2 := fun nq => block_cell (N nq) 2 _ rfl; have t3 := fun nq => block_cell (N nq) 3 _ rfl; have t4 := fun nq => block_cell (N nq) 4 _ rfl; have t5 := fun nq => block_cell (N nq) 5 _ rfl
          have T0 := Lib.hid t0; have T1 := Lib.hid t1; have T2 := Lib.hid t2; have T3 := Lib.hid t3; have T4 := Lib.hid t4; have T5 := Lib.hid t5; have HXX := Lib.hid XX
          clear N XX t0 t1 t2 t3 t4 t5
          go_wp2_with (first | (refine wpList_store_row rfl _ _ _ rfl (B0 + 1 + 1) _ rfl rfl _ _ (show (wr.drewN _).heap[B0 + 1 + 1]? = _ from HRX.out) (by kernel_rfl) rfl (by simp [Value.oneCell']) ?_) | fail)
          refine bodyPost_ret (v := .agg #[.int .i64 x.a, .int .i64 x.b, .int .i64 x.c, .int .i64 x.d, .int .i64 x.e, .int .i64 x.f]) (by simp [results, Tryz.results59, go_sem, T0.out, T1.out, T2.out, T3.out, T4.out, T5.out]) rfl ⟨by rw [HV.out, HE.out], HXX.out _⟩
        · have e2 : (p.b == (n : Int)) = false := beq_eq_false_iff_ne.2 hb
          have HT2 : Hid (∀ y ∈ s.pairs.take (k + 1), wnP ua n y = false) := Lib.hid (fun y hy => by
            rw [HTK.out] at hy
            rcases List.mem_append.1 hy with h | h
            · exact HT.out y h
            · rw [List.mem_singleton.1 h, HWN.out, decide_eq_false hb, Bool.and_false])
          clear ha hb q2 q3 q4 q5 q6 q7
          go_wp2
          go_quiet (fail)
          go_wp2
          go_roundw
          case rel => exact ⟨k + 1, by omega, by go_num, HT2, X.trans (Ext.drawn _ _)⟩
          case measure => simp [intOf] <;> omega
      · have e1 : (p.a == ua) = false := beq_eq_false_iff_ne.2 ha
        have HT2 : Hid (∀ y ∈ s.pairs.take (k + 1), wnP ua n y = false) := Lib.hid (fun y hy => by
          rw [HTK.out] at hy
          rcases List.mem_append.1 hy with h | h
          · exact HT.out y h
          · rw [List.mem_singleton.1 h, HWN.out, decide_eq_false ha, Bool.false_and])
        clear ha q2 q3 q4 q5 q6 q7
        go_wp2
        go_quiet (fail)
        go_wp2
        go_roundw
        case rel => exact ⟨k + 1, by omega, by go_num, HT2, X.trans (Ext.drawn _ _)⟩
        case measure => simp [intOf] <;> omega
  · -- the root
    have HV : Hid (prodP s h ⟨ua, n, 3⟩ = (s.N n).x.add (hF h (secF s (s.N n).f)) 1) := Lib.hid (by unfold prodP; rw [if_neg (show ¬ (3 : Int) = 1 by decide), if_pos rfl, Int.toNat_natCast])
    have hsx : Sml 24 (s.N n).x := Sml.of (by have := hok.nt.1 n hn; unfold noteOk at this; exact this.2.2.2)
    have hf := hok.nt.1 n hn
    unfold noteOk at hf
    obtain ⟨bn, on, rfl, A⟩ := Sl.nt S1.nt n hn
    rw [← Sc.N_eq hn] at A
    obtain ⟨t, ht⟩ : ∃ t, secF s (s.N n).f = t := ⟨_, rfl⟩
    have FW := Lib.hid fun w' (y : Ext W0 w') => rof19_walk _ _ _ s (s.N n).f w' (S1.ext y)
    rw [ht] at hsec HV FW
    obtain ⟨bh, oh, rfl, y0, y1, y2, y3, y4, y5⟩ := Sl.vec V1 t hsec
    have hsh : Sml 48 h[t] := Sml.of (hwi _ (List.getElem_mem hsec))
    have hht : hF h t = h[t] := by unfold hF; rw [List.getD_eq_getElem?_getD, List.getElem?_eq_getElem hsec]; rfl
    rw [hht] at HV
    obtain ⟨hx, hhx⟩ : ∃ z, h[t] = z := ⟨_, rfl⟩
    rw [hhx] at HV y0 y1 y2 y3 y4 y5 hsh
    obtain ⟨⟨nv, nf, nu, nx, nt⟩, hnn⟩ : ∃ z, s.N n = z := ⟨_, rfl⟩
    rw [hnn] at A hsx HV FW
    simp only at hsx HV FW
    have g1 := A.c1; have g3 := A.c3; have g4 := A.c4; have g5 := A.c5; have g6 := A.c6; have g7 := A.c7; have g8 := A.c8
    simp only at g1 g3 g4 g5 g6 g7 g8
    have PW := Lib.hid fun w' => rplus_walk nx hx (hsx.mono (by omega)) (hsh.mono (by omega)) w'
    obtain ⟨r, hr⟩ : ∃ r, nx.add hx 1 = r := ⟨_, rfl⟩
    rw [hr] at HV PW
    have i1 : (0 : Int) ≤ (n : Int) := by omega
    have i2 : (n : Int) < (s.notes.length : Int) := by omega
    have i3 : (0 : Int) ≤ (t : Int) := by omega
    have i4 : (t : Int) < (h.length : Int) := by omega
    have g1 := ext_cells g1; have g3 := ext_cells g3; have g4 := ext_cells g4; have g5 := ext_cells g5; have g6 := ext_cells g6; have g7 := ext_cells g7; have g8 := ext_cells g8
    have y0 := ext_cells y0; have y1 := ext_cells y1; have y2 := ext_cells y2; have y3 := ext_cells y3; have y4 := ext_cells y4; have y5 := ext_cells y5
    clear A hsx hsh hhx hht ht hr hnn hf hwi hok
    go_upto_region 4 with fail
    have c0 := ext_cells c0; have c1 := ext_cells c1; have c2 := ext_cells c2; have c3 := ext_cells c3
    have p1 := ext_cells p1
    refine wp_region_ord [(0,true), (1,true), (2,true), (3,true), (4,true), (5,true), (6,true), (7,true), (8,true), (9,true), (10,true), (11,true), (12,true), (13,true), (14,true), (15,true), (16,true), (17,true), (18,true), (19,true)] 20 Ext (Ext W0) wide (by kernel_rfl) (stable_ext _) (Ext.drawn _ _) ?_
    iterate 16 (first | (apply wpOrd_no rfl; rfl; (simp only [List.getElem_toArray, List.getElem_cons_succ, List.getElem_cons_zero, Act.put, List.setIfInBounds_toArray, List.set_cons_succ, List.set_cons_zero]; rfl)) | (apply wpOrd_yes rfl; rfl; (intro w' hw'; unfold opR; go_simp; exact ⟨Ext.refl _, rfl⟩); (simp only [List.getElem_toArray, List.getElem_cons_succ, List.getElem_cons_zero, Act.put, List.setIfInBounds_toArray, List.set_cons_succ, List.set_cons_zero]; rfl)))
    (apply wpOrd_det rfl rfl; (intro w' hw'; refine opR_call rfl (Go.Proofs.enters_of Tryz.func57 (by kernel_rfl) rfl) (by simp only [List.map_toArray, List.map_cons, List.map_nil, Act.eval, Array.getD_eq_getD_getElem?, List.getElem?_toArray, List.getElem?_cons_succ, List.getElem?_cons_zero, Option.getD_some]; rfl) ?_; refine (FW.out w' hw').mono ?_; rintro e w'' ⟨rfl, hx⟩; exact ⟨_, rfl, hx, rfl⟩); (simp only [List.getElem_toArray, List.getElem_cons_succ, List.getElem_cons_zero, Act.put, List.setIfInBounds_toArray, List.set_cons_succ, List.set_cons_zero]; rfl))
    iterate 2 (first | (apply wpOrd_no rfl; rfl; (simp only [List.getElem_toArray, List.getElem_cons_succ, List.getElem_cons_zero, Act.put, List.setIfInBounds_toArray, List.set_cons_succ, List.set_cons_zero]; rfl)) | (apply wpOrd_yes rfl; rfl; (intro w' hw'; unfold opR; go_simp; exact ⟨Ext.refl _, rfl⟩); (simp only [List.getElem_toArray, List.getElem_cons_succ, List.getElem_cons_zero, Act.put, List.setIfInBounds_toArray, List.set_cons_succ, List.set_cons_zero]; rfl)))
    (apply wpOrd_det rfl rfl; (intro w' hw'; refine opR_call rfl (Go.Proofs.enters_of Tryz.func42 (by kernel_rfl) rfl) (by simp only [List.map_toArray, List.map_cons, List.map_nil, Act.eval, Array.getD_eq_getD_getElem?, List.getElem?_toArray, List.getElem?_cons_succ, List.getElem?_cons_zero, Option.getD_some]; rfl) ?_; refine (PW.out w').mono ?_; rintro e w'' ⟨rfl, hx⟩; exact ⟨_, rfl, hx, rfl⟩); (simp only [List.getElem_toArray, List.getElem_cons_succ, List.getElem_cons_zero, Act.put, List.setIfInBounds_toArray, List.set_cons_succ, List.set_cons_zero]; rfl))
    refine wpOrd_nil (l := [_]) rfl ?_
    intro w9 x9
    have H9 := Lib.hid (block_ext x9 HR.out)
    have n2 := setRow_at H9.out (#[.int .i64 r.a, .int .i64 r.b, .int .i64 r.c, .int .i64 r.d, .int .i64 r.e, .int .i64 r.f] : Array Value)
    have XX := (X0.trans x9).setRow (g := B0 + 1 + 1) (by have := HZ0.out; omega) (#[.int .i64 r.a, .int .i64 r.b, .int .i64 r.c, .int .i64 r.d, .int .i64 r.e, .int .i64 r.f] : Array Value)
    have t0 := block_cell n2 0 _ rfl; have t1 := block_cell n2 1 _ rfl; have t2 := block_cell n2 2 _ rfl; have t3 := block_cell n2 3 _ rfl; have t4 := block_cell n2 4 _ rfl; have t5 := block_cell n2 5 _ rfl
    clear n2 g1 g3 g4 g5 g6 g7 g8 y0 y1 y2 y3 y4 y5 c0 c1 c2 c3 p0 p1 p2
    go_wp2_with (first | (refine wpList_store_row rfl _ _ _ rfl (B0 + 1 + 1) _ rfl rfl _ _ H9.out (by kernel_rfl) rfl (by simp [Value.oneCell']) ?_) | fail)
    refine bodyPost_ret (v := .agg #[.int .i64 r.a, .int .i64 r.b, .int .i64 r.c, .int .i64 r.d, .int .i64 r.e, .int .i64 r.f]) (by simp [results, Tryz.results59, go_sem, t0, t1, t2, t3, t4, t5]) rfl ⟨by rw [HV.out], XX⟩
end Go.Proofs.YtbemjekkojgbpaaGreatDoor
