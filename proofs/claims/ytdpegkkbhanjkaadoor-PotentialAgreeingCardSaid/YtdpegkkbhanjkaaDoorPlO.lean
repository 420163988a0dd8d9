/-
  Walks of potential: Check.
-/
import Derived.Test.YtdpegkkbhanjkaaDoorPlN
set_option linter.unusedVariables false
namespace Go.Sx.Po
open Go.Sx.Sz Go.Sx.Sc
theorem isUp_neg {s : Sc} {m : Nat} {p : St} (h : ¬ (0 ≤ p.b ∧ p.b < m)) : isUpB s m p = false := by unfold isUpB; rw [decide_eq_false h]; rfl
theorem isUp_pos {s : Sc} {m : Nat} {p : St} (h : 0 ≤ p.b ∧ p.b < m) : isUpB s m p = decide (upF s p.b.toNat = p) := by unfold isUpB; rw [decide_eq_true h]; rfl
theorem chkB_pair {s : Sc} {h : List V6} {c : Cn} (hp : ¬ (0 ≤ c.pair ∧ c.pair < s.pairs.length)) : chkB s h c = false := by unfold chkB; rw [decide_eq_false hp]; rfl
theorem chkB_brk {s : Sc} {h : List V6} {c : Cn} (hp : brkT s (xsL s h (tunN s h.length)) c.pair.toNat = false) : chkB s h c = false := by unfold chkB; rw [hp, Bool.and_false]; rfl
theorem chkB_len {s : Sc} {h : List V6} {c : Cn} (hp : ¬ (0 < c.steps.length ∧ c.steps.length ≤ 402)) : chkB s h c = false := by unfold chkB; rw [decide_eq_false hp, Bool.and_false]; rfl
theorem chkB_all {s : Sc} {h : List V6} {c : Cn} (h1 : 0 ≤ c.pair ∧ c.pair < s.pairs.length) (h2 : brkT s (xsL s h (tunN s h.length)) c.pair.toNat = true) (h3 : 0 < c.steps.length ∧ c.steps.length ≤ 402) : chkB s h c = showB s h c := by
  unfold chkB; rw [decide_eq_true h1, h2, decide_eq_true h3]; rfl
theorem show_none {s : Sc} {h : List V6} {c : Cn} (hr : runF s h (tunN s h.length) c.steps (s.P c.pair.toNat).a V6.zero = none) : showB s h c = false := by unfold showB; rw [hr]
theorem show_some {s : Sc} {h : List V6} {c : Cn} {y : Int} {u : V6} (hr : runF s h (tunN s h.length) c.steps (s.P c.pair.toNat).a V6.zero = some (y, u)) : showB s h c = (decide (y = (s.P c.pair.toNat).b) && decide (u.add (s.P c.pair.toNat).want (-1) = c.comma)) := by unfold showB; rw [hr]
theorem run_bad {s : Sc} {h : List V6} {m : Nat} {p : St} {l : List St} {x : Int} {t : V6} (hx : p.a ≠ x) : runF s h m (p :: l) x t = none := by rw [runF, if_pos hx]
theorem run_yes {s : Sc} {h : List V6} {m : Nat} {p : St} {l : List St} {x : Int} {t : V6} (hx : p.a = x) (h1 : isUpB s m p = true) : runF s h m (p :: l) x t = runF s h m l p.b (t.add (prodF s h p.b.toNat) 1) := by rw [runF, if_neg (fun e => e hx), if_pos h1]
theorem run_flip {s : Sc} {h : List V6} {m : Nat} {p : St} {l : List St} {x : Int} {t : V6} (hx : p.a = x) (h1 : isUpB s m p = false) (h2 : isUpB s m p.flip = true) : runF s h m (p :: l) x t = runF s h m l p.b (t.add (prodF s h p.a.toNat) (-1)) := by rw [runF, if_neg (fun e => e hx), if_neg (by rw [h1]; simp), if_pos h2]
theorem run_no {s : Sc} {h : List V6} {m : Nat} {p : St} {l : List St} {x : Int} {t : V6} (hx : p.a = x) (h1 : isUpB s m p = false) (h2 : isUpB s m p.flip = false) : runF s h m (p :: l) x t = none := by rw [runF, if_neg (fun e => e hx), if_neg (by rw [h1]; simp), if_neg (by rw [h2]; simp)]
end Go.Sx.Po
namespace Go.Proofs.YtdpegkkbhanjkaaDoor
open Go.RowKit Go.Sx Go.Sx.Sz Go.Sx.Sc Go.Sx.Po

set_option maxRecDepth 100000 in
set_option maxHeartbeats 4000000 in
theorem chk1_walk (tb g u q : Nat) (vs : Int) (vn vp vc vx : Value) (s : Sc) (G : Nat → V6) (xs : List V6) (hxl : xs.length ≤ s.notes.length) (p : St) (w : World) (hb : w.heap[tb]? = some (.cells #[.pointer (some ⟨g, 0, none⟩)] 67 (0, 0))) (T : TreeR w g u q vs vn vp vc s.notes.length (upF s) G vx) (S : Sl w 6 V6.list vx xs) :
    Calls Tryd.prog 38 #[.agg #[.int .i64 p.a, .int .i64 p.b, .int .i64 p.k], .pointer (some ⟨tb, 0, none⟩)] w fun e w' => e = .returned (.bool (isUpB s xs.length p)) ∧ Ext w w' := by
  obtain ⟨ax, cx, rfl, -, -, hlx⟩ := S.len
  obtain ⟨pa, pb, pk⟩ := p
  have X0 : Ext w (w.alloc (.cells #[.int .i64 pa, .int .i64 pb, .int .i64 pk] 35)) := (by repeat (first | with_reducible exact Ext.refl _ | with_reducible assumption | with_reducible apply Ext.alloc | with_reducible apply Ext.drew | (with_reducible refine Ext.setCell ?_ (by (try simp) <;> omega) _)))
  have b0_0 := block_new w (.cells #[.int .i64 pa, .int .i64 pb, .int .i64 pk] 35)
  obtain ⟨W0, hW0⟩ : ∃ W, (w.alloc (.cells #[.int .i64 pa, .int .i64 pb, .int .i64 pk] 35)) = W := ⟨_, rfl⟩
  obtain ⟨B0, hB0⟩ : ∃ B, w.heap.size = B := ⟨_, rfl⟩
  rw [hW0] at X0 b0_0
  rw [hB0] at b0_0
  have HZ0 : Hid (w.heap.size ≤ B0) := Lib.hid (by omega)
  have HW0 := Lib.hid hW0; have HB0 := Lib.hid hB0
  clear hW0 hB0
  have T1 := T.ext X0
  have hb1 := block_cell (block_ext X0 hb) 0 _ rfl
  have c6 := T1.c6; have c4 := T1.c4
  by_cases h0 : 0 ≤ pb
  case neg =>
    have HR := Lib.hid (isUp_neg (s := s) (m := xs.length) (p := ⟨pa, pb, pk⟩) (fun h => h0 h.1))
    have d0 := block_cell b0_0 0 _ rfl; have d1 := block_cell b0_0 1 _ rfl; have d2 := block_cell b0_0 2 _ rfl
    have t1 : decide (0 ≤ pb) = false := decide_eq_false h0
    clear h0 b0_0 S T T1
    go_enter Tryd.func38, Tryd.ntmps38
    go_upto_region 1 with fail
    rw [HW0.out, HB0.out]
    clear HW0 HB0
    go_quiet (fail)
    go_wp2
    go_ret
    exact ⟨by rw [HR.out] <;> rfl, X0.drewN _⟩
  case pos =>
  obtain ⟨n, rfl⟩ : ∃ n : Nat, pb = n := ⟨pb.toNat, by omega⟩
  have d0 := block_cell b0_0 0 _ rfl; have d1 := block_cell b0_0 1 _ rfl; have d2 := block_cell b0_0 2 _ rfl
  have t1 : decide ((0 : Int) ≤ (n : Int)) = true := decide_eq_true (by omega)
  by_cases h1 : n < xs.length
  case neg =>
    have HR := Lib.hid (isUp_neg (s := s) (m := xs.length) (p := ⟨pa, n, pk⟩) (fun h => h1 (by have := h.2; simp only at this; omega)))
    have t2 : decide (n < xs.length) = false := decide_eq_false h1
    clear h0 h1 b0_0 S T T1
    go_enter Tryd.func38, Tryd.ntmps38
    go_upto_region 1 with fail
    rw [HW0.out, HB0.out]
    clear HW0 HB0
    go_quiet (fail)
    go_wp2
    go_ret
    exact ⟨by rw [HR.out] <;> rfl, X0.drewN _⟩
  case pos =>
  have HR := Lib.hid (isUp_pos (s := s) (m := xs.length) (p := ⟨pa, n, pk⟩) ⟨h0, by simp only; omega⟩)
  have t2 : decide (n < xs.length) = true := decide_eq_true h1
  obtain ⟨u0, u1, u2⟩ := T1.upC n (by omega)
  have hub := upF_b (s := s) n
  obtain ⟨r, hr⟩ : ∃ r, upF s n = r := ⟨_, rfl⟩
  have HR2 : Hid (isUpB s xs.length ⟨pa, n, pk⟩ = decide (r = ⟨pa, n, pk⟩)) := Lib.hid (by rw [HR.out]; simp only [Int.toNat_natCast, hr])
  rw [hr] at u0 u1 u2 hub
  obtain ⟨ra, rb, rk⟩ := r
  obtain rfl : rb = n := hub
  simp only at u0 u1 u2
  have i2 : (n : Int) < (s.notes.length : Int) := by omega
  clear hr h0 h1 b0_0 S T T1 HR
  have eb : ((n : Int) == (n : Int)) = true := beq_self_eq_true _
  by_cases ha : ra = pa
  · subst ha
    have ea : (ra == ra) = true := beq_self_eq_true _
    by_cases hk : rk = pk
    · subst hk
      have ek : (rk == rk) = true := beq_self_eq_true _
      have HQ : Hid (isUpB s xs.length ⟨ra, n, rk⟩ = true) := Lib.hid (by rw [HR2.out]; exact decide_eq_true rfl)
      go_enter Tryd.func38, Tryd.ntmps38
      go_upto_region 1 with fail
      rw [HW0.out, HB0.out]
      clear HW0 HB0
      go_quiet (fail)
      go_wp2
      go_ret
      exact ⟨by rw [HQ.out] <;> first | rfl | simp, X0.drewN _⟩
    · have ek : (rk == pk) = false := beq_eq_false_iff_ne.2 hk
      have HQ : Hid (isUpB s xs.length ⟨ra, n, pk⟩ = false) := Lib.hid (by rw [HR2.out]; exact decide_eq_false (fun h => hk (congrArg St.k h)))
      clear hk
      go_enter Tryd.func38, Tryd.ntmps38
      go_upto_region 1 with fail
      rw [HW0.out, HB0.out]
      clear HW0 HB0
      go_quiet (fail)
      go_wp2
      go_ret
      exact ⟨by rw [HQ.out] <;> first | rfl | simp, X0.drewN _⟩
  · have ea : (ra == pa) = false := beq_eq_false_iff_ne.2 ha
    have HQ : Hid (isUpB s xs.length ⟨pa, n, pk⟩ = false) := Lib.hid (by rw [HR2.out]; exact decide_eq_false (fun h => ha (congrArg St.a h)))
    clear ha
    go_enter Tryd.func38, Tryd.ntmps38
    go_upto_region 1 with fail
    rw [HW0.out, HB0.out]
    clear HW0 HB0
    go_quiet (fail)
    go_wp2
    go_ret
    exact ⟨by rw [HQ.out] <;> first | rfl | simp, X0.drewN _⟩
set_option maxRecDepth 100000 in
set_option maxHeartbeats 16000000 in
theorem check_walk (vn vp vc vh vst : Value) (s : Sc) (h : List V6) (c : Cn) (w : World) (GL : Gl 0 w) (S : ScR w vn vp vc s) (V : Sl w 6 V6.list vh h) (L : Sl w 3 encSt vst c.steps) :
    Calls Tryd.prog 22 #[.agg #[.int .i64 s.voices, vn, vp, vc], vh, .agg #[.int .i64 c.pair, vst, .int .i64 c.comma.a, .int .i64 c.comma.b, .int .i64 c.comma.c, .int .i64 c.comma.d, .int .i64 c.comma.e, .int .i64 c.comma.f]] w fun e w' => e = .returned (.tuple #[.bool (chkR s h c).1, .int .i64 (chkR s h c).2]) ∧ Ext w w' := by
  obtain ⟨an, cn, rfl, -, -, hln⟩ := S.nt.len
  obtain ⟨ap, cp, rfl, -, -, hlp⟩ := S.pr.len
  obtain ⟨ac, cc, rfl, -, -, hlc⟩ := S.cd.len
  obtain ⟨ah, ch, rfl, -, -, hlh⟩ := V.len
  obtain ⟨al, cl, rfl, -, -, hll⟩ := L.len
  have hch : chkR s h c = if (tuneR s h).2 = 0 then (chkB s h c, 0) else (false, (tuneR s h).2) := rfl
  have K0 := @chkB_pair s h c
  have K1 := @chkB_brk s h c
  have K2 := @chkB_len s h c
  have K3 := @chkB_all s h c
  have K4 := @show_none s h c
  have K5 := fun (y : Int) (u : V6) => @show_some s h c y u
  obtain ⟨cb, hcb⟩ : ∃ z, chkB s h c = z := ⟨_, rfl⟩
  obtain ⟨sb, hsb⟩ : ∃ z, showB s h c = z := ⟨_, rfl⟩
  rw [hcb] at hch K0 K1 K2 K3; rw [hsb] at K3 K4 K5
  obtain ⟨cr, hcr⟩ : ∃ z, chkR s h c = z := ⟨_, rfl⟩
  rw [hcr] at hch ⊢
  clear hcb hsb hcr
  obtain ⟨ci, steps, cm⟩ := c
  simp only at K0 K1 K2 K3 K4 K5 L hll ⊢
  have X0 : Ext w ((w.alloc (.cells #[.int .i64 s.voices, .slice an s.notes.length cn, .slice ap s.pairs.length cp, .slice ac s.cads.length cc] 26)).alloc (.cells #[.int .i64 ci, .slice al steps.length cl, .int .i64 cm.a, .int .i64 cm.b, .int .i64 cm.c, .int .i64 cm.d, .int .i64 cm.e, .int .i64 cm.f] 60)) := (by repeat (first | with_reducible exact Ext.refl _ | with_reducible assumption | with_reducible apply Ext.alloc | with_reducible apply Ext.drew | (with_reducible refine Ext.setCell ?_ (by (try simp) <;> omega) _)))
  have b0_0 := block_alloc (block_new w (.cells #[.int .i64 s.voices, .slice an s.notes.length cn, .slice ap s.pairs.length cp, .slice ac s.cads.length cc] 26)) (.cells #[.int .i64 ci, .slice al steps.length cl, .int .i64 cm.a, .int .i64 cm.b, .int .i64 cm.c, .int .i64 cm.d, .int .i64 cm.e, .int .i64 cm.f] 60)
  have b0_1 := block_at (w := (w.alloc (.cells #[.int .i64 s.voices, .slice an s.notes.length cn, .slice ap s.pairs.length cp, .slice ac s.cads.length cc] 26))) (n := w.heap.size + 1) (by simp) (.cells #[.int .i64 ci, .slice al steps.length cl, .int .i64 cm.a, .int .i64 cm.b, .int .i64 cm.c, .int .i64 cm.d, .int .i64 cm.e, .int .i64 cm.f] 60)
  obtain ⟨W0, hW0⟩ : ∃ W, ((w.alloc (.cells #[.int .i64 s.voices, .slice an s.notes.length cn, .slice ap s.pairs.length cp, .slice ac s.cads.length cc] 26)).alloc (.cells #[.int .i64 ci, .slice al steps.length cl, .int .i64 cm.a, .int .i64 cm.b, .int .i64 cm.c, .int .i64 cm.d, .int .i64 cm.e, .int .i64 cm.f] 60)) = W := ⟨_, rfl⟩
  obtain ⟨B0, hB0⟩ : ∃ B, w.heap.size = B := ⟨_, rfl⟩
  rw [hW0] at X0 b0_0 b0_1
  rw [hB0] at b0_0 b0_1
  have HZ0 : Hid (w.heap.size ≤ B0) := Lib.hid (by omega)
  have HW0 := Lib.hid hW0; have HB0 := Lib.hid hB0
  clear hW0 hB0
  have CB := Lib.hid (boxS b0_0)
  have S1 := S.ext X0; have V1 := V.ext X0; have G1 := GL.ext X0; have L1 := L.ext X0
  clear S V L b0_0 GL
  have TW := Lib.hid (tuned_walk _ _ _ _ s h _ S1 V1)
  have hcs := tune_cases s h
  have htok := @tune_ok s h
  obtain ⟨⟨tl, tc⟩, htr⟩ : ∃ r, tuneR s h = r := ⟨_, rfl⟩
  rw [htr] at TW hcs htok hch
  have HCH := Lib.hid hch
  have HCS := Lib.hid hcs; have HTK := Lib.hid htok
  have HB1 := Lib.hid b0_1
  have HK0 := Lib.hid K0; have HK1 := Lib.hid K1; have HK2 := Lib.hid K2; have HK3 := Lib.hid K3; have HK4 := Lib.hid K4; have HK5 := Lib.hid K5
  clear htr hcs htok hch K0 K1 K2 K3 K4 K5 b0_1
  go_enter Tryd.func22, Tryd.ntmps22
  go_wp2_with fail
  rw [HW0.out, HB0.out]
  clear HW0 HB0
  refine TW.out.mono ?_
  rintro e W2 ⟨x1, ⟨hne, rfl⟩ | ⟨heq, g, u, q, vx, rfl, -, -, -, T, own⟩⟩
  · have HC : Hid (cr = (false, tc)) := Lib.hid (by rw [HCH.out]; exact if_neg hne)
    have t1 : (tc != 0) = true := by rw [bne_iff_ne]; exact hne
    have HX := Lib.hid (X0.trans x1)
    clear hne
    go_wp2
    go_ret2
    exact ⟨by rw [HC.out] <;> first | rfl | simp, HX.out.alloc _⟩
  obtain ⟨rfl, rfl⟩ : tl = xsL s h (tunN s h.length) ∧ tc = 0 := by simpa using heq
  have hok : ScOk s := (HTK.out rfl).1
  have hall := (HTK.out rfl).2.2
  have hlen := tune_len (h := h) hok
  have hlen2 : (xsL s h (tunN s h.length)).length ≤ s.notes.length := by rw [xsL_len]; exact tun_le _ _
  have hlx : (xsL s h (tunN s h.length)).length = tunN s h.length := xsL_len _ _
  have htw : ∀ x ∈ h, within x 48 = true := by
    rcases HCS.out with ⟨-, a, -⟩ | ⟨a, -⟩
    · exact (tunB_iff.1 a).2.2
    · exact absurd rfl a
  have HC : Hid (cr = (cb, 0)) := Lib.hid (by rw [HCH.out]; exact if_pos rfl)
  obtain ⟨xs, hxs⟩ : ∃ l, xsL s h (tunN s h.length) = l := ⟨_, rfl⟩
  obtain ⟨m, hm⟩ : ∃ l, tunN s h.length = l := ⟨_, rfl⟩
  rw [hxs] at hall hlen hlen2 own HK1 HK3 hlx
  rw [hm] at hlx HK4 HK5 T
  have HTA := Lib.hid htw
  have hpn := hok.sz.2.2.1
  have HAL := Lib.hid hall
  have HXL := Lib.hid hlx
  have X3 : Ext W2 (W2.alloc (.cells #[.pointer (some ⟨g, 0, none⟩)] 67)) := (by repeat (first | with_reducible exact Ext.refl _ | with_reducible assumption | with_reducible apply Ext.alloc | with_reducible apply Ext.drew | (with_reducible refine Ext.setCell ?_ (by (try simp) <;> omega) _)))
  have b3_0 := block_new W2 (.cells #[.pointer (some ⟨g, 0, none⟩)] 67)
  obtain ⟨W3, hW3⟩ : ∃ W, (W2.alloc (.cells #[.pointer (some ⟨g, 0, none⟩)] 67)) = W := ⟨_, rfl⟩
  obtain ⟨B3, hB3⟩ : ∃ B, W2.heap.size = B := ⟨_, rfl⟩
  rw [hW3] at X3 b3_0
  rw [hB3] at b3_0
  have HZ3 : Hid (W2.heap.size ≤ B3) := Lib.hid (by omega)
  have HW3 := Lib.hid hW3; have HB3 := Lib.hid hB3
  clear hW3 hB3
  have X3' := x1.trans X3
  have XS := Lib.hid ((own.sl (fun _ _ => rfl) (by omega)).ext X3)
  have HT := Lib.hid (T.ext X3)
  have G3 := G1.ext X3'
  have S3 := S1.ext X3'
  have L3 := L1.ext X3'
  have HB3T := Lib.hid b3_0
  have hB1 := block_ext X3' HB1.out
  clear heq own T hall TW HCS HTK G1 V1 S1 L1 b3_0 hxs hm htw hlx
  go_upto_region 4 with fail
  rw [HW3.out, HB3.out]
  clear HW3 HB3
  obtain ⟨c0, c1, c2, c3⟩ := CB.out _ X3'
  have f2 := ext_cells c2
  have e0 := ext_cells (block_cell hB1 0 (.int .i64 ci) rfl)
  have e1 := ext_cells (block_cell hB1 1 (.slice al steps.length cl) rfl)
  have t0 := ext_cells (block_cell HB3T.out 0 (.pointer (some ⟨g, 0, none⟩)) rfl)
  clear c0 c1 c2 c3
  have HZ3' : Hid (Ext w W3) := Lib.hid (X0.trans X3')
  by_cases hc0 : ci < 0
  case pos =>
    have HF := Lib.hid (HK0.out (fun hh => by omega))
    have t1 : decide (ci < 0) = true := decide_eq_true hc0
    clear hc0
    have HX := HZ3'
    have e0 := e0 _ (Ext.refl _); have e1 := e1 _ (Ext.refl _); have f2 := f2 _ (Ext.refl _); have t0 := t0 _ (Ext.refl _)
    go_wp2
    go_ret2
    exact ⟨by rw [HC.out, HF.out] <;> first | rfl | simp, HX.out⟩
  case neg =>
  obtain ⟨n, rfl⟩ : ∃ n : Nat, ci = n := ⟨ci.toNat, by omega⟩
  have t1 : decide ((n : Int) < 0) = false := decide_eq_false (by omega)
  by_cases hn : n < s.pairs.length
  case neg =>
    have HF := Lib.hid (HK0.out (fun hh => by omega))
    have t2 : decide (s.pairs.length ≤ n) = true := decide_eq_true (by omega)
    clear hc0 hn
    have HX := HZ3'
    have e0 := e0 _ (Ext.refl _); have e1 := e1 _ (Ext.refl _); have f2 := f2 _ (Ext.refl _); have t0 := t0 _ (Ext.refl _)
    go_wp2
    go_ret2
    exact ⟨by rw [HC.out, HF.out] <;> first | rfl | simp, HX.out⟩
  case pos =>
  have t2 : decide (s.pairs.length ≤ n) = false := decide_eq_false (by omega)
  have BW := Lib.hid fun w' (y : Ext W3 w') => broken_walk g u q s.voices (.slice an s.notes.length cn) (.slice ap s.pairs.length cp) (.slice ac s.cads.length cc) vx s hok (upF s) (prodG s h m) xs hlen2 HAL.out n hn w' (G3.ext y) (HT.out.ext y) (S3.pr.ext y) (XS.out.ext y)
  have hk1 := HK1.out
  have hk3 := HK3.out ⟨by omega, by omega⟩
  rw [Int.toNat_natCast] at hk1 hk3
  obtain ⟨bb, hbb⟩ : ∃ z, brkT s xs n = z := ⟨_, rfl⟩
  rw [hbb] at BW hk1 hk3
  clear hbb hc0
  cases bb with
  | false =>
    have HF := Lib.hid (hk1 rfl)
    clear hk1 hk3
    have k0 := e0 _ (Ext.refl _); have k1 := e1 _ (Ext.refl _); have k2 := f2 _ (Ext.refl _); have k3 := t0 _ (Ext.refl _)
    go_wp2_with fail
    refine (BW.out _ (Ext.refl _)).mono ?_
    rintro e w4 ⟨rfl, x4⟩
    clear k0 k1 k2 k3
    have k1 := e1 _ x4
    have HX := Lib.hid (HZ3'.out.trans x4)
    clear x4 e0 e1 f2 t0
    go_wp2
    go_ret2
    exact ⟨by rw [HC.out, HF.out] <;> first | rfl | simp, HX.out⟩
  | true =>
  have hk3 := hk3 rfl
  by_cases hl0 : steps.length = 0
  case pos =>
    have HF := Lib.hid (HK2.out (fun hh => by omega))
    have t3 : ((steps.length : Int) == 0) = true := by rw [beq_iff_eq]; omega
    have t3' : (steps.length == 0) = true := by rw [beq_iff_eq]; omega
    clear hk1 hk3 hl0
    have k0 := e0 _ (Ext.refl _); have k1 := e1 _ (Ext.refl _); have k2 := f2 _ (Ext.refl _); have k3 := t0 _ (Ext.refl _)
    go_wp2_with fail
    refine (BW.out _ (Ext.refl _)).mono ?_
    rintro e w4 ⟨rfl, x4⟩
    clear k0 k1 k2 k3
    have k1 := e1 _ x4
    have HX := Lib.hid (HZ3'.out.trans x4)
    clear x4 e0 e1 f2 t0
    go_wp2
    go_ret2
    exact ⟨by rw [HC.out, HF.out] <;> first | rfl | simp, HX.out⟩
  case neg =>
  have t3 : ((steps.length : Int) == 0) = false := by rw [beq_eq_false_iff_ne]; omega
  have t3' : (steps.length == 0) = false := by rw [beq_eq_false_iff_ne]; omega
  by_cases hl1 : 402 < steps.length
  case pos =>
    have HF := Lib.hid (HK2.out (fun hh => by omega))
    have t4 : decide ((402 : Int) < (steps.length : Int)) = true := decide_eq_true (by omega)
    have t4' : decide (402 < steps.length) = true := decide_eq_true (by omega)
    clear hk1 hk3 hl0 hl1
    have k0 := e0 _ (Ext.refl _); have k1 := e1 _ (Ext.refl _); have k2 := f2 _ (Ext.refl _); have k3 := t0 _ (Ext.refl _)
    go_wp2_with fail
    refine (BW.out _ (Ext.refl _)).mono ?_
    rintro e w4 ⟨rfl, x4⟩
    clear k0 k1 k2 k3
    have k1 := e1 _ x4
    have HX := Lib.hid (HZ3'.out.trans x4)
    clear x4 e0 e1 f2 t0
    go_wp2
    go_ret2
    exact ⟨by rw [HC.out, HF.out] <;> first | rfl | simp, HX.out⟩
  case neg =>
  have t4 : decide ((402 : Int) < (steps.length : Int)) = false := decide_eq_false (by omega)
  have t4' : decide (402 < steps.length) = false := decide_eq_false (by omega)
  have HSB := Lib.hid (hk3 ⟨by omega, by omega⟩)
  clear hk1 hk3 hl0
  have k0 := e0 _ (Ext.refl _); have k1 := e1 _ (Ext.refl _); have k2 := f2 _ (Ext.refl _); have k3 := t0 _ (Ext.refl _)
  go_wp2_with fail
  refine (BW.out _ (Ext.refl _)).mono ?_
  rintro e w4 ⟨rfl, x4⟩
  clear k0 k1 k2 k3
  have k1 := e1 _ x4
  have X4 := X3'.trans x4
  have S4 := S3.pr.ext x4
  obtain ⟨bp, op, rfl, A⟩ := Sl.pr S4 n hn
  rw [← Sc.P_eq hn] at A
  have K4 := HK4.out
  have K5 := HK5.out
  have hpo := hok.pr.1 n hn
  obtain ⟨pr, hpr⟩ : ∃ z, s.P n = z := ⟨_, rfl⟩
  rw [hpr] at A hpo
  simp only [Int.toNat_natCast, hpr] at K4 K5
  unfold pairOk at hpo
  have hpw := hpo.2.2.1
  have HK4' := Lib.hid K4; have HK5' := Lib.hid K5; have HPR := Lib.hid hpr
  obtain ⟨q0, q1, q2, q3, q4, q5, q6, q7, q8⟩ := A
  have k0 := e0 _ x4; have k2 := f2 _ x4
  have i1 : (0 : Int) ≤ (n : Int) := by omega
  have i2 : (n : Int) < (s.pairs.length : Int) := by omega
  have X5 : Ext w4 (w4.alloc (.cells #[.int .i64 0, .int .i64 0, .int .i64 0, .int .i64 0, .int .i64 0, .int .i64 0] 41)) := (by repeat (first | with_reducible exact Ext.refl _ | with_reducible assumption | with_reducible apply Ext.alloc | with_reducible apply Ext.drew | (with_reducible refine Ext.setCell ?_ (by (try simp) <;> omega) _)))
  have b5_0 := block_new w4 (.cells #[.int .i64 0, .int .i64 0, .int .i64 0, .int .i64 0, .int .i64 0, .int .i64 0] 41)
  obtain ⟨W5, hW5⟩ : ∃ W, (w4.alloc (.cells #[.int .i64 0, .int .i64 0, .int .i64 0, .int .i64 0, .int .i64 0, .int .i64 0] 41)) = W := ⟨_, rfl⟩
  obtain ⟨B5, hB5⟩ : ∃ B, w4.heap.size = B := ⟨_, rfl⟩
  rw [hW5] at X5 b5_0
  rw [hB5] at b5_0
  have HZ5 : Hid (w4.heap.size ≤ B5) := Lib.hid (by omega)
  have HW5 := Lib.hid hW5; have HB5 := Lib.hid hB5
  clear hW5 hB5
  have X5' := x4.trans X5
  have HZZ : Hid (W3.heap.size ≤ B5) := Lib.hid (by have := x4.size; have := HZ5.out; omega)
  have HB5C := Lib.hid b5_0
  have HX5 := Lib.hid X5'
  clear S4 hpo hpr K4 K5 HK4 HK5 b5_0 X5
  go_upto_region 8 with fail
  rw [HW5.out, HB5.out]
  clear HW5 HB5 k0 k1 k2 q0 q1 q2 q3 q4 q5 q6 q7 q8 t1 t2 t3 t3' t4 t4'
  have k1 := e1 _ X5'
  go_wp2
  clear k1 X5' x4 X4
  go_loopw [11, 66] (fun x i wr => ∃ (k : Nat) (y : Int) (t : V6), k ≤ steps.length ∧ x = .int .i64 y ∧ i = .int .i64 k ∧ wr.heap[B5]? = some (.cells (#[.int .i64 t.a, .int .i64 t.b, .int .i64 t.c, .int .i64 t.d, .int .i64 t.e, .int .i64 t.f] : Array Value) 41 (0, 0)) ∧ Hid (runF s h m steps pr.a V6.zero = runF s h m (steps.drop k) y t) ∧ Hid (Sml (72 * k) t) ∧ Ext W3 wr) (fun _ i _ => steps.length - (intOf i).toNat)
  case atStart => exact ⟨0, pr.a, V6.zero, by omega, by first | rfl | trivial, by first | rfl | trivial, HB5C.out, Lib.hid rfl, Lib.hid (Sml.zero (by omega)), HX5.out⟩
  case round =>
    obtain ⟨k, y, t, hk, rfl, rfl, hb, HR, HS, X⟩ := hrel
    by_cases hlt : k < steps.length
    case neg =>
      obtain rfl : k = steps.length := by omega
      have HRF := Lib.hid (HK5'.out y t (HR.out.trans (by rw [List.drop_length]; rfl)))
      obtain ⟨bp', op', e', A⟩ := Sl.pr (S3.pr.ext X) n hn
      obtain ⟨rfl, rfl⟩ : bp = bp' ∧ op = op' := by simpa using e'
      rw [← Sc.P_eq hn, HPR.out] at A
      obtain ⟨q0, q1, q2, q3, q4, q5, q6, q7, q8⟩ := A
      have hB1r := block_ext X hB1
      have z2 := fun w' (x : Ext wr w') => f2 w' (X.trans x)
      have z0 := fun w' (x : Ext wr w') => e0 w' (X.trans x)
      have p1 := ext_cells q1; have p2 := ext_cells q2; have p3 := ext_cells q3; have p4 := ext_cells q4; have p5 := ext_cells q5; have p6 := ext_cells q6; have p7 := ext_cells q7
      have r2 := ext_cells (block_cell hB1r 2 _ rfl); have r3 := ext_cells (block_cell hB1r 3 _ rfl); have r4 := ext_cells (block_cell hB1r 4 _ rfl); have r5 := ext_cells (block_cell hB1r 5 _ rfl); have r6 := ext_cells (block_cell hB1r 6 _ rfl); have r7 := ext_cells (block_cell hB1r 7 _ rfl)
      have f0 := ext_cells (block_cell hb 0 _ rfl); have f1' := ext_cells (block_cell hb 1 _ rfl); have f2' := ext_cells (block_cell hb 2 _ rfl); have f3 := ext_cells (block_cell hb 3 _ rfl); have f4 := ext_cells (block_cell hb 4 _ rfl); have f5 := ext_cells (block_cell hb 5 _ rfl)
      obtain ⟨wo, rfl⟩ : ∃ z : World, z = wr := ⟨_, rfl⟩
      have HX9 := Lib.hid (HZ3'.out.trans X)
      obtain ⟨r, hr⟩ : ∃ z, t.add pr.want (-1) = z := ⟨_, rfl⟩
      have AW := Lib.hid fun w' => padd_walk t pr.want (-1) (.inr rfl) (HS.out.mono (by omega)) ((Sml.of hpw).mono (by omega)) w'
      rw [hr] at AW HRF
      clear e' q0 q1 q2 q3 q4 q5 q6 q7 q8 hB1r hb hr e0 f2 e1 t0 X
      by_cases hy : y = pr.b
      · obtain ⟨cc', hcc⟩ : ∃ z, decide (r = cm) = z := ⟨_, rfl⟩
        have VQ : ∀ w', (Op.equalIn 10000 41 (.agg #[.int .i64 r.a, .int .i64 r.b, .int .i64 r.c, .int .i64 r.d, .int .i64 r.e, .int .i64 r.f]) (.agg #[.int .i64 cm.a, .int .i64 cm.b, .int .i64 cm.c, .int .i64 cm.d, .int .i64 cm.e, .int .i64 cm.f])).run Tryd.prog w' = .ok cc' w' := by rw [← hcc]; exact run_eq_v6 (P := Tryd.prog) Tryd.underlying41 Tryd.underlying3 (by kernel_rfl) r cm 9998
        have HF : Hid (sb = cc') := Lib.hid (by rw [HRF.out, decide_eq_true hy, hcc]; rfl)
        have t6 : (y == pr.b) = true := by rw [beq_iff_eq]; exact hy
        clear hy hcc HRF
        go_upto_region 20 with fail
        refine wp_region_ord [(0,true), (1,true), (2,true), (3,true), (4,true), (5,true), (6,true), (7,true), (8,true), (9,true), (10,true), (11,true), (12,true), (13,true), (14,true), (15,true), (16,true), (17,true), (18,true), (19,true), (20,true), (21,true), (22,true)] 23 Ext (Ext wo) wide (by kernel_rfl) (stable_ext _) (Ext.drawn _ _) ?_
        iterate 18 (first | (apply wpOrd_no rfl; rfl; (simp only [List.getElem_toArray, List.getElem_cons_succ, List.getElem_cons_zero, Act.put, List.setIfInBounds_toArray, List.set_cons_succ, List.set_cons_zero]; rfl)) | (apply wpOrd_yes rfl; rfl; (intro w' hw'; unfold opR; go_simp; exact ⟨Ext.refl _, rfl⟩); (simp only [List.getElem_toArray, List.getElem_cons_succ, List.getElem_cons_zero, Act.put, List.setIfInBounds_toArray, List.set_cons_succ, List.set_cons_zero]; rfl)))
        (apply wpOrd_yes rfl (by rfl); (intro w' hw'; refine opR_call rfl (Go.Proofs.enters_of Tryd.func39 (by kernel_rfl) rfl) (by simp only [List.map_toArray, List.map_cons, List.map_nil, Act.eval, Array.getD_eq_getD_getElem?, List.getElem?_toArray, List.getElem?_cons_succ, List.getElem?_cons_zero, Option.getD_some]; rfl) ?_; refine (AW.out _).mono ?_; rintro e w'' ⟨rfl, hx⟩; exact ⟨_, rfl, hx, rfl⟩); (simp only [List.getElem_toArray, List.getElem_cons_succ, List.getElem_cons_zero, Act.put, List.setIfInBounds_toArray, List.set_cons_succ, List.set_cons_zero]; rfl))
        iterate 4 (first | (apply wpOrd_no rfl; rfl; (simp only [List.getElem_toArray, List.getElem_cons_succ, List.getElem_cons_zero, Act.put, List.setIfInBounds_toArray, List.set_cons_succ, List.set_cons_zero]; rfl)) | (apply wpOrd_yes rfl; rfl; (intro w' hw'; unfold opR; go_simp; exact ⟨Ext.refl _, rfl⟩); (simp only [List.getElem_toArray, List.getElem_cons_succ, List.getElem_cons_zero, Act.put, List.setIfInBounds_toArray, List.set_cons_succ, List.set_cons_zero]; rfl)))
        refine wpOrd_nil (l := [_, _]) rfl ?_
        intro w9 x9
        clear z0 z2 p1 p2 p3 p4 p5 p6 p7 r2 r3 r4 r5 r6 r7 f0 f1' f2' f3 f4 f5 VQ
        go_wp2
        go_ret2
        exact ⟨by rw [HC.out, HSB.out, HF.out] <;> first | rfl | simp, HX9.out.trans x9⟩
      · have HF : Hid (sb = false) := Lib.hid (by rw [HRF.out, decide_eq_false hy]; rfl)
        have t6 : (y == pr.b) = false := by rw [beq_eq_false_iff_ne]; exact hy
        clear hy HRF
        go_upto_region 20 with fail
        refine wp_region_ord [(0,true), (1,true), (2,true), (3,true), (4,true), (5,true), (6,true), (7,true), (8,true), (9,true), (10,true), (11,true), (12,true), (13,true), (14,true), (15,true), (16,true), (17,true), (18,true), (19,true), (20,true), (21,true), (22,true)] 23 Ext (Ext wo) wide (by kernel_rfl) (stable_ext _) (Ext.drawn _ _) ?_
        iterate 23 (first | (apply wpOrd_no rfl; rfl; (simp only [List.getElem_toArray, List.getElem_cons_succ, List.getElem_cons_zero, Act.put, List.setIfInBounds_toArray, List.set_cons_succ, List.set_cons_zero]; rfl)) | (apply wpOrd_yes rfl; rfl; (intro w' hw'; unfold opR; go_simp; exact ⟨Ext.refl _, rfl⟩); (simp only [List.getElem_toArray, List.getElem_cons_succ, List.getElem_cons_zero, Act.put, List.setIfInBounds_toArray, List.set_cons_succ, List.set_cons_zero]; rfl)))
        refine wpOrd_nil (l := [_, _]) rfl ?_
        intro w9 x9
        clear z0 z2 p1 p2 p3 p4 p5 p6 p7 r2 r3 r4 r5 r6 r7 f0 f1' f2' f3 f4 f5
        go_wp2
        go_ret2
        exact ⟨by rw [HC.out, HSB.out, HF.out] <;> first | rfl | simp, HX9.out.trans x9⟩
    case pos =>
    have L4 := L3.ext X
    obtain ⟨bl, ol, rfl, r0, r1, r2⟩ := Sl.st L4 k hlt
    have hdr := List.drop_eq_getElem_cons hlt
    obtain ⟨p, hp⟩ : ∃ z, steps[k] = z := ⟨_, rfl⟩
    rw [hp] at r0 r1 r2 hdr
    have HR2 := Lib.hid (HR.out.trans (by rw [hdr]))
    have X7 : Ext wr (wr.alloc (.cells #[.int .i64 p.a, .int .i64 p.b, .int .i64 p.k] 35)) := (by repeat (first | with_reducible exact Ext.refl _ | with_reducible assumption | with_reducible apply Ext.alloc | with_reducible apply Ext.drew | (with_reducible refine Ext.setCell ?_ (by (try simp) <;> omega) _)))
    have b7_0 := block_new wr (.cells #[.int .i64 p.a, .int .i64 p.b, .int .i64 p.k] 35)
    obtain ⟨W7, hW7⟩ : ∃ W, (wr.alloc (.cells #[.int .i64 p.a, .int .i64 p.b, .int .i64 p.k] 35)) = W := ⟨_, rfl⟩
    obtain ⟨B7, hB7⟩ : ∃ B, wr.heap.size = B := ⟨_, rfl⟩
    rw [hW7] at X7 b7_0
    rw [hB7] at b7_0
    have HZ7 : Hid (wr.heap.size ≤ B7) := Lib.hid (by omega)
    have HW7 := Lib.hid hW7; have HB7 := Lib.hid hB7
    clear hW7 hB7
    have X7' := X.trans X7
    have j1 : (0 : Int) ≤ (k : Int) := by omega
    have j2 : (k : Int) < (steps.length : Int) := by omega
    have HBS := Lib.hid (block_ext X7 hb)
    have HBP := Lib.hid b7_0
    have d0 := block_cell b7_0 0 _ rfl
    clear hdr hp L4 HR b7_0 hb
    go_upto_region 12 with fail
    rw [HW7.out, HB7.out]
    clear HW7 HB7 r0 r1 r2
    by_cases hpa : p.a = y
    case neg =>
      have HF := Lib.hid (HK4'.out (HR2.out.trans (run_bad hpa)))
      have t5 : (p.a != y) = true := by rw [bne_iff_ne]; exact hpa
      have HX := Lib.hid (HZ3'.out.trans X7')
      clear hpa
      go_wp2
      go_ret2
      exact ⟨by rw [HC.out, HSB.out, HF.out] <;> first | rfl | simp, HX.out⟩
    case pos =>
    subst hpa
    have t5 : (p.a != p.a) = false := by rw [bne_eq_false_iff_eq]
    have d1 := block_cell HBP.out 1 _ rfl; have d2 := block_cell HBP.out 2 _ rfl
    go_wp2_with fail
    refine (chk1_walk B3 g u q s.voices (.slice an s.notes.length cn) (.slice (some ⟨bp, op, none⟩) s.pairs.length cp) (.slice ac s.cads.length cc) vx s (prodG s h m) xs hlen2 p _ (block_ext X7' HB3T.out) (HT.out.ext X7') (XS.out.ext X7')).mono ?_
    rw [HXL.out]
    obtain ⟨uu, huu⟩ : ∃ z, isUpB s m p = z := ⟨_, rfl⟩
    rw [huu]
    have HUU := Lib.hid huu
    clear huu
    rintro e W8 ⟨rfl, x8⟩
    have X8 := X7'.trans x8
    cases uu with
    | true =>
      obtain ⟨⟨hu0, hu1⟩, hu2⟩ := isUp_iff.1 HUU.out
      have HR3 := Lib.hid (HR2.out.trans (run_yes rfl HUU.out))
      obtain ⟨b', hb'⟩ : ∃ b' : Nat, p.b = b' := ⟨p.b.toNat, by first | omega | (simp only [St.flip] at hu0; omega)⟩
      have hbm : b' < m := by first | omega | (simp only [St.flip] at hu1; omega)
      have hbn : b' < s.notes.length := by have := HXL.out; omega
      have T8 := HT.out.ext X8
      obtain ⟨⟨g0, g1, g2, g3, g4, g5⟩, -⟩ := T8.prC b' hbn
      have hsm : Sml 72 (prodF s h b') := sml_prod hok HTA.out hbn
      rw [prodG_at s h hbm] at g0 g1 g2 g3 g4 g5
      obtain ⟨x, hx⟩ : ∃ z, prodF s h b' = z := ⟨_, rfl⟩
      rw [hx] at g0 g1 g2 g3 g4 g5 hsm
      obtain ⟨t', ht'⟩ : ∃ z, t.add x (1) = z := ⟨_, rfl⟩
      have hs' : Sml (72 * (k + 1 : Nat)) t' := by rw [← ht']; exact (Sml.add HS.out hsm (.inl rfl)).mono (by omega)
      have AW := Lib.hid fun w' => padd_walk t x (1) (.inl rfl) (HS.out.mono (by omega)) (hsm.mono (by omega)) w'
      rw [ht'] at AW
      have HS' := Lib.hid hs'
      have bs8 := block_ext x8 HBS.out
      have bp8 := block_ext x8 HBP.out
      have HPB' := Lib.hid hb'
      have HR4 : Hid (runF s h m steps pr.a V6.zero = runF s h m (steps.drop (k + 1)) b' t') := Lib.hid (by rw [HR3.out, hb', Int.toNat_natCast, hx, ht'])
      have HBS8 := Lib.hid bs8; have HBP8 := Lib.hid (And.intro bp8 (block_cell bp8 1 (.int .i64 b') (by rw [← hb']; rfl)))
      have f0 := ext_cells (block_cell bs8 0 _ rfl); have f1' := ext_cells (block_cell bs8 1 _ rfl); have f2' := ext_cells (block_cell bs8 2 _ rfl); have f3 := ext_cells (block_cell bs8 3 _ rfl); have f4 := ext_cells (block_cell bs8 4 _ rfl); have f5 := ext_cells (block_cell bs8 5 _ rfl)
      have m1 := ext_cells HBP8.out.2
      have m2 := ext_cells (block_cell (block_ext X8 HB3T.out) 0 (.pointer (some ⟨g, 0, none⟩)) rfl)
      have m3 := ext_cells T8.c5
      have g0 := ext_cells g0; have g1 := ext_cells g1; have g2 := ext_cells g2; have g3 := ext_cells g3; have g4 := ext_cells g4; have g5 := ext_cells g5
      have l1 : (0 : Int) ≤ (b' : Int) := by omega
      have l2 : (b' : Int) < (s.notes.length : Int) := by omega
      clear d0 d1 d2 hu0 hu1 hu2 hb' T8 hx ht' hs' hsm bs8 bp8 hbm hbn
      go_wp2_with fail
      refine wp_region_ord [(0,true), (1,true), (2,true), (3,true), (4,true), (5,true), (6,true), (7,true), (8,true), (9,true)] 10 Ext (Ext W8) wide (by kernel_rfl) (stable_ext _) (Ext.drawn _ _) ?_
      iterate 9 (first | (apply wpOrd_no rfl; rfl; (simp only [List.getElem_toArray, List.getElem_cons_succ, List.getElem_cons_zero, Act.put, List.setIfInBounds_toArray, List.set_cons_succ, List.set_cons_zero]; rfl)) | (apply wpOrd_yes rfl; rfl; (intro w' hw'; unfold opR; go_simp; exact ⟨Ext.refl _, rfl⟩); (simp only [List.getElem_toArray, List.getElem_cons_succ, List.getElem_cons_zero, Act.put, List.setIfInBounds_toArray, List.set_cons_succ, List.set_cons_zero]; rfl)))
      (apply wpOrd_det rfl rfl; (intro w' hw'; refine opR_call rfl (Go.Proofs.enters_of Tryd.func39 (by kernel_rfl) rfl) (by simp only [List.map_toArray, List.map_cons, List.map_nil, Act.eval, Array.getD_eq_getD_getElem?, List.getElem?_toArray, List.getElem?_cons_succ, List.getElem?_cons_zero, Option.getD_some]; rfl) ?_; refine (AW.out _).mono ?_; rintro e w'' ⟨rfl, hx⟩; exact ⟨_, rfl, hx, rfl⟩); (simp only [List.getElem_toArray, List.getElem_cons_succ, List.getElem_cons_zero, Act.put, List.setIfInBounds_toArray, List.set_cons_succ, List.set_cons_zero]; rfl))
      refine wpOrd_nil (l := [_]) rfl ?_
      intro w9 x9
      have X9 := X8.trans x9
      have b9 := block_ext x9 HBS8.out
      have n2 := setRow_at b9 (#[.int .i64 t'.a, .int .i64 t'.b, .int .i64 t'.c, .int .i64 t'.d, .int .i64 t'.e, .int .i64 t'.f] : Array Value)
      have XX := X9.setRow (g := B5) HZZ.out (#[.int .i64 t'.a, .int .i64 t'.b, .int .i64 t'.c, .int .i64 t'.d, .int .i64 t'.e, .int .i64 t'.f] : Array Value)
      have np : B7 ≠ B5 := fun e => by
        have h1 := HBP8.out.1; rw [e, HBS8.out] at h1; simp at h1
      have n7 := block_cell (setRow_ne (block_ext x9 HBP8.out.1) np (#[.int .i64 t'.a, .int .i64 t'.b, .int .i64 t'.c, .int .i64 t'.d, .int .i64 t'.e, .int .i64 t'.f] : Array Value)) 1 (.int .i64 b') (by rw [← HPB'.out]; rfl)
      have FIN := Lib.hid (And.intro n2 XX)
      have HB9 := Lib.hid b9
      clear f0 f1' f2' f3 f4 f5 m1 m2 m3 g0 g1 g2 g3 g4 g5 n2 XX np b9 X9 x9
      refine wpList_store_row rfl _ _ _ rfl B5 _ rfl rfl _ _ HB9.out (by kernel_rfl) rfl (by simp [Value.oneCell']) ?_
      go_wp2
      go_roundw
      case rel => exact ⟨k + 1, _, t', by omega, by first | rfl | trivial, by go_num, FIN.out.1, HR4, HS', FIN.out.2⟩
      case measure => simp [intOf] <;> omega
    | false =>
      have d0 := block_cell (block_ext x8 HBP.out) 0 _ rfl; have d1 := block_cell (block_ext x8 HBP.out) 1 _ rfl; have d2 := block_cell (block_ext x8 HBP.out) 2 _ rfl
      go_wp2_with fail
      refine (pround_walk p _).mono ?_
      rintro e w5 ⟨rfl, x5⟩
      have X5a := X8.trans x5
      go_wp2_with fail
      refine (chk1_walk B3 g u q s.voices (.slice an s.notes.length cn) (.slice (some ⟨bp, op, none⟩) s.pairs.length cp) (.slice ac s.cads.length cc) vx s (prodG s h m) xs hlen2 p.flip _ (block_ext X5a HB3T.out) (HT.out.ext X5a) (XS.out.ext X5a)).mono ?_
      rw [HXL.out]
      obtain ⟨uv, huv⟩ : ∃ z, isUpB s m p.flip = z := ⟨_, rfl⟩
      rw [huv]
      have HUV := Lib.hid huv
      clear huv d0 d1 d2
      rintro e W9 ⟨rfl, x6⟩
      have x9a := x8.trans (x5.trans x6)
      have X9a := X7'.trans x9a
      have d0 := block_cell (block_ext x9a HBP.out) 0 _ rfl; have d1 := block_cell (block_ext x9a HBP.out) 1 _ rfl; have d2 := block_cell (block_ext x9a HBP.out) 2 _ rfl
      cases uv with
      | true =>
        obtain ⟨⟨hu0, hu1⟩, hu2⟩ := isUp_iff.1 HUV.out
        have HR3 := Lib.hid (HR2.out.trans (run_flip rfl HUU.out HUV.out))
        obtain ⟨b', hb'⟩ : ∃ b' : Nat, p.a = b' := ⟨p.a.toNat, by first | omega | (simp only [St.flip] at hu0; omega)⟩
        have hbm : b' < m := by first | omega | (simp only [St.flip] at hu1; omega)
        have hbn : b' < s.notes.length := by have := HXL.out; omega
        have T8 := HT.out.ext X9a
        obtain ⟨⟨g0, g1, g2, g3, g4, g5⟩, -⟩ := T8.prC b' hbn
        have hsm : Sml 72 (prodF s h b') := sml_prod hok HTA.out hbn
        rw [prodG_at s h hbm] at g0 g1 g2 g3 g4 g5
        obtain ⟨x, hx⟩ : ∃ z, prodF s h b' = z := ⟨_, rfl⟩
        rw [hx] at g0 g1 g2 g3 g4 g5 hsm
        obtain ⟨t', ht'⟩ : ∃ z, t.add x (-1) = z := ⟨_, rfl⟩
        have hs' : Sml (72 * (k + 1 : Nat)) t' := by rw [← ht']; exact (Sml.add HS.out hsm (.inr rfl)).mono (by omega)
        have AW := Lib.hid fun w' => padd_walk t x (-1) (.inr rfl) (HS.out.mono (by omega)) (hsm.mono (by omega)) w'
        rw [ht'] at AW
        have HS' := Lib.hid hs'
        have bs8 := block_ext x9a HBS.out
        have bp8 := block_ext x9a HBP.out
        have HPB' := Lib.hid hb'
        have HR4 : Hid (runF s h m steps pr.a V6.zero = runF s h m (steps.drop (k + 1)) p.b t') := Lib.hid (by rw [HR3.out, hb', Int.toNat_natCast, hx, ht'])
        have HBS8 := Lib.hid bs8; have HBP8 := Lib.hid (And.intro bp8 (block_cell bp8 0 (.int .i64 b') (by rw [← hb']; rfl)))
        have f0 := ext_cells (block_cell bs8 0 _ rfl); have f1' := ext_cells (block_cell bs8 1 _ rfl); have f2' := ext_cells (block_cell bs8 2 _ rfl); have f3 := ext_cells (block_cell bs8 3 _ rfl); have f4 := ext_cells (block_cell bs8 4 _ rfl); have f5 := ext_cells (block_cell bs8 5 _ rfl)
        have m1 := ext_cells HBP8.out.2
        have m2 := ext_cells (block_cell (block_ext X9a HB3T.out) 0 (.pointer (some ⟨g, 0, none⟩)) rfl)
        have m3 := ext_cells T8.c5
        have g0 := ext_cells g0; have g1 := ext_cells g1; have g2 := ext_cells g2; have g3 := ext_cells g3; have g4 := ext_cells g4; have g5 := ext_cells g5
        have l1 : (0 : Int) ≤ (b' : Int) := by omega
        have l2 : (b' : Int) < (s.notes.length : Int) := by omega
        clear d0 d1 d2 hu0 hu1 hu2 hb' T8 hx ht' hs' hsm bs8 bp8 hbm hbn
        go_wp2_with fail
        refine wp_region_ord [(0,true), (1,true), (2,true), (3,true), (4,true), (5,true), (6,true), (7,true), (8,true), (9,true)] 10 Ext (Ext W9) wide (by kernel_rfl) (stable_ext _) (Ext.drawn _ _) ?_
        iterate 9 (first | (apply wpOrd_no rfl; rfl; (simp only [List.getElem_toArray, List.getElem_cons_succ, List.getElem_cons_zero, Act.put, List.setIfInBounds_toArray, List.set_cons_succ, List.set_cons_zero]; rfl)) | (apply wpOrd_yes rfl; rfl; (intro w' hw'; unfold opR; go_simp; exact ⟨Ext.refl _, rfl⟩); (simp only [List.getElem_toArray, List.getElem_cons_succ, List.getElem_cons_zero, Act.put, List.setIfInBounds_toArray, List.set_cons_succ, List.set_cons_zero]; rfl)))
        (apply wpOrd_det rfl rfl; (intro w' hw'; refine opR_call rfl (Go.Proofs.enters_of Tryd.func39 (by kernel_rfl) rfl) (by simp only [List.map_toArray, List.map_cons, List.map_nil, Act.eval, Array.getD_eq_getD_getElem?, List.getElem?_toArray, List.getElem?_cons_succ, List.getElem?_cons_zero, Option.getD_some]; rfl) ?_; refine (AW.out _).mono ?_; rintro e w'' ⟨rfl, hx⟩; exact ⟨_, rfl, hx, rfl⟩); (simp only [List.getElem_toArray, List.getElem_cons_succ, List.getElem_cons_zero, Act.put, List.setIfInBounds_toArray, List.set_cons_succ, List.set_cons_zero]; rfl))
        refine wpOrd_nil (l := [_]) rfl ?_
        intro w9 x9
        have X9 := X9a.trans x9
        have b9 := block_ext x9 HBS8.out
        have n2 := setRow_at b9 (#[.int .i64 t'.a, .int .i64 t'.b, .int .i64 t'.c, .int .i64 t'.d, .int .i64 t'.e, .int .i64 t'.f] : Array Value)
        have XX := X9.setRow (g := B5) HZZ.out (#[.int .i64 t'.a, .int .i64 t'.b, .int .i64 t'.c, .int .i64 t'.d, .int .i64 t'.e, .int .i64 t'.f] : Array Value)
        have np : B7 ≠ B5 := fun e => by
          have h1 := HBP8.out.1; rw [e, HBS8.out] at h1; simp at h1
        have n7 := block_cell (setRow_ne (block_ext x9 HBP8.out.1) np (#[.int .i64 t'.a, .int .i64 t'.b, .int .i64 t'.c, .int .i64 t'.d, .int .i64 t'.e, .int .i64 t'.f] : Array Value)) 1 (.int .i64 p.b) rfl
        have FIN := Lib.hid (And.intro n2 XX)
        have HB9 := Lib.hid b9
        clear f0 f1' f2' f3 f4 f5 m1 m2 m3 g0 g1 g2 g3 g4 g5 n2 XX np b9 X9 x9
        refine wpList_store_row rfl _ _ _ rfl B5 _ rfl rfl _ _ HB9.out (by kernel_rfl) rfl (by simp [Value.oneCell']) ?_
        go_wp2
        go_roundw
        case rel => exact ⟨k + 1, _, t', by omega, by first | rfl | trivial, by go_num, FIN.out.1, HR4, HS', FIN.out.2⟩
        case measure => simp [intOf] <;> omega
      | false =>
        have HF := Lib.hid (HK4'.out (HR2.out.trans (run_no rfl HUU.out HUV.out)))
        have HX := Lib.hid (HZ3'.out.trans X9a)
        clear d0 d1 d2
        go_wp2
        go_ret2
        exact ⟨by rw [HC.out, HSB.out, HF.out] <;> first | rfl | simp, HX.out⟩
end Go.Proofs.YtdpegkkbhanjkaaDoor
