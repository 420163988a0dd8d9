/-
  Walks of schismaref40: Pitches, Deviates, Deviants.
-/
import Derived.Test.YtbemjekkojgbpaaGreatDoorR40C
import Derived.Test.YtbemjekkojgbpaaGreatDoorR39F
import Derived.Test.YtbemjekkojgbpaaGreatDoorLibK
import Derived.Test.YtbemjekkojgbpaaGreatDoorBlN
set_option linter.unusedVariables false
namespace Go.Sx.Bl
open Go.Sx.Sz Go.Sx.Sc Go.Sx.Au Go.Sx.Po
def pitR (s : Sc) (h : List V6) (l : List S2) : List V6 × Int := (if hearE s h l = 0 then (tuneR s h).1 else [], hearE s h l)
theorem pit_one {s : Sc} {h : List V6} {l : List S2} (h1 : (tuneR s h).2 = 1) : pitR s h l = ([], 1) := by
  have : hearE s h l = 1 := by unfold hearE; rw [if_pos (.inl h1)]
  unfold pitR; rw [this, if_neg (by decide)]
theorem pit_bad {s : Sc} {h : List V6} {l : List S2} (h1 : tonesB s l = false) : pitR s h l = ([], 1) := by
  have : hearE s h l = 1 := by unfold hearE; rw [if_pos (.inr h1)]
  unfold pitR; rw [this, if_neg (by decide)]
theorem pit_ok {s : Sc} {h : List V6} {l : List S2} (h1 : (tuneR s h).2 ≠ 1) (h2 : tonesB s l = true) : pitR s h l = tuneR s h := by
  have : hearE s h l = (tuneR s h).2 := by unfold hearE; rw [if_neg (by rw [h2]; simp; exact h1)]
  unfold pitR; rw [this]
  rcases tune_cases s h with ⟨e, -⟩ | ⟨e, e2⟩
  · rw [if_pos e]
  · rw [if_neg e, ← e2]
theorem pit_cases (s : Sc) (h : List V6) (l : List S2) : (hearE s h l ≠ 0 ∧ pitR s h l = ([], hearE s h l) ∧ devR s h l = ([], hearE s h l) ∧ chgR s h l = ([], hearE s h l) ∧ voiR s h l = ([], hearE s h l)) ∨
    (hearE s h l = 0 ∧ pitR s h l = ((tuneR s h).1, 0) ∧ tonesOk s l ∧ allB (tuneR s h).1 = true ∧ (tuneR s h).1.length ≤ s.notes.length) := by
  by_cases he : hearE s h l = 0
  · obtain ⟨h1, h2⟩ := hear_ok.1 he
    obtain ⟨-, hx, ha⟩ := tune_ok h1
    refine .inr ⟨he, by unfold pitR; rw [if_pos he, he], h2, by rw [hx]; exact ha, by rw [hx, xsL_len]; exact tun_le _ _⟩
  · refine .inl ⟨he, by unfold pitR; rw [if_neg he], (dev_out he).1, by unfold chgR; rw [if_neg he], (dev_out he).2⟩
end Go.Sx.Bl
namespace Go.Proofs.YtbemjekkojgbpaaGreatDoor
open Go.RowKit Go.Sx Go.Sx.Sz Go.Sx.Sc Go.Sx.Au Go.Sx.Po Go.Sx.Bl

set_option maxRecDepth 100000 in
set_option maxHeartbeats 4000000 in
theorem rpitches_walk (vn vp vc vh vt : Value) (s : Sc) (h : List V6) (l : List S2) (w : World) (G : Gl 0 w) (S : ScR w vn vp vc s) (V : Sl w 6 V6.list vh h) (R : Sl w 2 encS vt l) :
    Calls Tryz.prog 18 #[.agg #[.int .i64 s.voices, vn, vp, vc], vh, vt] w fun e w' => ∃ v, e = .returned (.tuple #[v, .int .i64 (pitR s h l).2]) ∧ Sl w' 6 V6.list v (pitR s h l).1 ∧ Ext w w' := by
  obtain ⟨an, cn, rfl, -, -, hln⟩ := S.nt.len
  obtain ⟨ap, cp, rfl, -, -, hlp⟩ := S.pr.len
  obtain ⟨ac, cc, rfl, -, -, hlc⟩ := S.cd.len
  obtain ⟨ah, ch, rfl, -, -, hlh⟩ := V.len
  obtain ⟨at', ct, rfl, -, -, hlt⟩ := R.len
  have TW := @rtune_walk (.slice an s.notes.length cn) (.slice ap s.pairs.length cp) (.slice ac s.cads.length cc) (.slice ah h.length ch) s h
  have RW := Lib.hid (@rtones_walk (.slice an s.notes.length cn) (.slice ap s.pairs.length cp) (.slice ac s.cads.length cc) (.slice at' l.length ct) s l)
  have h1 := @pit_one s h l; have h2 := @pit_bad s h l; have h3 := @pit_ok s h l
  obtain ⟨⟨tl, te⟩, e1⟩ : ∃ z, tuneR s h = z := ⟨_, rfl⟩
  obtain ⟨⟨pl, pe⟩, e2⟩ : ∃ z, pitR s h l = z := ⟨_, rfl⟩
  rw [e1] at TW h1 h3; rw [e2] at h1 h2 h3 ⊢
  simp only at TW h1 h3 ⊢
  have HTW := Lib.hid TW; have H1 := Lib.hid h1; have H2 := Lib.hid h2; have H3 := Lib.hid h3
  clear TW h1 h2 h3 e1 e2
  have X0 : Ext w (w.alloc (.cells #[.int .i64 s.voices, .slice an s.notes.length cn, .slice ap s.pairs.length cp, .slice ac s.cads.length cc] 26)) := (by repeat (first | with_reducible exact Ext.refl _ | with_reducible assumption | with_reducible apply Ext.alloc | with_reducible apply Ext.drew | (with_reducible refine Ext.setCell ?_ (by (try simp) <;> omega) _)))
  have b0_0 := block_new w (.cells #[.int .i64 s.voices, .slice an s.notes.length cn, .slice ap s.pairs.length cp, .slice ac s.cads.length cc] 26)
  obtain ⟨W0, hW0⟩ : ∃ W, (w.alloc (.cells #[.int .i64 s.voices, .slice an s.notes.length cn, .slice ap s.pairs.length cp, .slice ac s.cads.length cc] 26)) = W := ⟨_, rfl⟩
  obtain ⟨B0, hB0⟩ : ∃ B, w.heap.size = B := ⟨_, rfl⟩
  rw [hW0] at X0 b0_0
  rw [hB0] at b0_0
  have HZ0 : Hid (w.heap.size ≤ B0) := Lib.hid (by omega)
  have HW0 := Lib.hid hW0; have HB0 := Lib.hid hB0
  clear hW0 hB0
  have CB := Lib.hid (boxS b0_0)
  have S1 := S.ext X0; have V1 := V.ext X0; have R1 := R.ext X0
  clear S V G R b0_0
  go_enter Tryz.func18, Tryz.ntmps18
  go_wp2_with fail
  rw [HW0.out, HB0.out]
  clear HW0 HB0
  refine (HTW.out _ S1 V1).mono ?_
  rintro e w1 ⟨v1, rfl, T1, x1⟩
  obtain ⟨a1, q1, rfl, -, -, -⟩ := T1.len
  by_cases h1 : te = 1
  · obtain ⟨rfl, rfl⟩ := Prod.mk.inj (H1.out h1)
    have t1 : (te == 1) = true := beq_iff_eq.2 h1
    have HX := Lib.hid (X0.trans x1)
    clear h1
    go_wp2
    go_ret2
    exact ⟨_, rfl, Sl.nil _ _ _, HX.out⟩
  · have t1 : (te == 1) = false := beq_eq_false_iff_ne.2 h1
    obtain ⟨c0, c1, c2, c3⟩ := CB.out _ x1
    have HN1 := Lib.hid h1
    clear h1
    go_wp2_with fail
    refine (RW.out _ (S1.ext x1) (R1.ext x1)).mono ?_
    obtain ⟨tb, htb⟩ : ∃ z, tonesB s l = z := ⟨_, rfl⟩
    rw [htb]
    rintro e w2 ⟨rfl, x2⟩
    have HX := Lib.hid (X0.trans (x1.trans x2))
    have HT := Lib.hid (T1.ext x2)
    clear c0 c1 c2 c3
    cases tb with
    | false =>
      obtain ⟨rfl, rfl⟩ := Prod.mk.inj (H2.out htb)
      clear htb
      go_wp2
      go_ret2
      exact ⟨_, rfl, Sl.nil _ _ _, HX.out⟩
    | true =>
      obtain ⟨rfl, rfl⟩ := Prod.mk.inj (H3.out HN1.out htb)
      clear htb
      go_wp2
      go_ret2
      exact ⟨_, rfl, HT.out, HX.out⟩

set_option maxRecDepth 100000 in
set_option maxHeartbeats 4000000 in
theorem rdeviates_walk (x : V6) (z : S2) (hx : within x 48 = true) (w : World) :
    Calls Tryz.prog 19 #[.agg #[.int .i64 x.a, .int .i64 x.b, .int .i64 x.c, .int .i64 x.d, .int .i64 x.e, .int .i64 x.f], .agg #[.int .i64 z.lo, .int .i64 z.hi]] w fun e w' => e = .returned (.bool (devB z x)) ∧ Ext w w' := by
  have h12 := (want_ok hx).1
  have PW := Lib.hid fun w' => pure_walk x (fun k hk => by have := Sz.within_iff.1 hx k hk; omega) w'
  have XW := Lib.hid fun w' => rexpo_walk (x.times 12) (within_mono (by omega) h12) w'
  have hd : devB z x = decide ((expo (x.times 12)).hi < z.lo ∨ z.hi < (expo (x.times 12)).lo) := rfl
  obtain ⟨y, hy⟩ : ∃ u, x.times 12 = u := ⟨_, rfl⟩
  rw [hy] at PW XW hd
  obtain ⟨⟨zl, zh⟩, hz⟩ : ∃ u, expo y = u := ⟨_, rfl⟩
  rw [hz] at XW hd
  simp only at XW hd
  have HD := Lib.hid hd
  have X0 : Ext w ((w.alloc (.cells (#[.int .i64 x.a, .int .i64 x.b, .int .i64 x.c, .int .i64 x.d, .int .i64 x.e, .int .i64 x.f] : Array Value) 45)).alloc (.cells (#[.int .i64 z.lo, .int .i64 z.hi] : Array Value) 47)) := (by repeat (first | with_reducible exact Ext.refl _ | with_reducible assumption | with_reducible apply Ext.alloc | with_reducible apply Ext.drew | (with_reducible refine Ext.setCell ?_ (by (try simp) <;> omega) _)))
  have b0_0 := block_alloc (block_new w (.cells (#[.int .i64 x.a, .int .i64 x.b, .int .i64 x.c, .int .i64 x.d, .int .i64 x.e, .int .i64 x.f] : Array Value) 45)) (.cells (#[.int .i64 z.lo, .int .i64 z.hi] : Array Value) 47)
  have b0_1 := block_at (w := (w.alloc (.cells (#[.int .i64 x.a, .int .i64 x.b, .int .i64 x.c, .int .i64 x.d, .int .i64 x.e, .int .i64 x.f] : Array Value) 45))) (n := w.heap.size + 1) (by simp) (.cells (#[.int .i64 z.lo, .int .i64 z.hi] : Array Value) 47)
  obtain ⟨W0, hW0⟩ : ∃ W, ((w.alloc (.cells (#[.int .i64 x.a, .int .i64 x.b, .int .i64 x.c, .int .i64 x.d, .int .i64 x.e, .int .i64 x.f] : Array Value) 45)).alloc (.cells (#[.int .i64 z.lo, .int .i64 z.hi] : Array Value) 47)) = W := ⟨_, rfl⟩
  obtain ⟨B0, hB0⟩ : ∃ B, w.heap.size = B := ⟨_, rfl⟩
  rw [hW0] at X0 b0_0 b0_1
  rw [hB0] at b0_0 b0_1
  have HZ0 : Hid (w.heap.size ≤ B0) := Lib.hid (by omega)
  have HW0 := Lib.hid hW0; have HB0 := Lib.hid hB0
  clear hW0 hB0
  have a0 := block_cell b0_0 0 _ rfl; have a1 := block_cell b0_0 1 _ rfl; have a2 := block_cell b0_0 2 _ rfl; have a3 := block_cell b0_0 3 _ rfl; have a4 := block_cell b0_0 4 _ rfl; have a5 := block_cell b0_0 5 _ rfl
  have D0 := ext_cells (block_cell b0_1 0 _ rfl); have D1 := ext_cells (block_cell b0_1 1 _ rfl)
  clear hy hz h12 hd b0_0 b0_1 hx
  go_enter Tryz.func19, Tryz.ntmps19
  go_wp2_with fail
  rw [HW0.out, HB0.out]
  clear HW0 HB0
  refine (PW.out _).mono ?_
  rintro e w1 ⟨rfl, x1⟩
  clear a0 a1 a2 a3 a4 a5
  go_wp2_with fail
  refine (XW.out _).mono ?_
  rintro e w2 ⟨rfl, x2⟩
  have X3 : Ext w2 (w2.alloc (.cells #[.int .i64 zl, .int .i64 zh] 47)) := (by repeat (first | with_reducible exact Ext.refl _ | with_reducible assumption | with_reducible apply Ext.alloc | with_reducible apply Ext.drew | (with_reducible refine Ext.setCell ?_ (by (try simp) <;> omega) _)))
  have b3_0 := block_new w2 (.cells #[.int .i64 zl, .int .i64 zh] 47)
  obtain ⟨W3, hW3⟩ : ∃ W, (w2.alloc (.cells #[.int .i64 zl, .int .i64 zh] 47)) = W := ⟨_, rfl⟩
  obtain ⟨B3, hB3⟩ : ∃ B, w2.heap.size = B := ⟨_, rfl⟩
  rw [hW3] at X3 b3_0
  rw [hB3] at b3_0
  have HZ3 : Hid (w2.heap.size ≤ B3) := Lib.hid (by omega)
  have HW3 := Lib.hid hW3; have HB3 := Lib.hid hB3
  clear hW3 hB3
  have x3 := x1.trans (x2.trans X3)
  have d0 := D0 _ x3; have d1 := D1 _ x3
  have s0 := block_cell b3_0 0 _ rfl; have s1 := block_cell b3_0 1 _ rfl
  have HX := Lib.hid (X0.trans x3)
  clear b3_0 X3 x1 x2 x3 D0 D1 X0
  go_upto_region 2 with fail
  rw [HW3.out, HB3.out]
  clear HW3 HB3
  by_cases h1 : zh < z.lo
  · have t1 : decide (zh < z.lo) = true := decide_eq_true h1
    have HV : Hid (devB z x = true) := Lib.hid (by rw [HD.out]; exact decide_eq_true (.inl h1))
    clear h1
    go_wp2
    go_ret
    exact ⟨by rw [HV.out] <;> rfl, HX.out⟩
  · have t1 : decide (zh < z.lo) = false := decide_eq_false h1
    by_cases h2 : z.hi < zl
    · have t2 : decide (z.hi < zl) = true := decide_eq_true h2
      have HV : Hid (devB z x = true) := Lib.hid (by rw [HD.out]; exact decide_eq_true (.inr h2))
      clear h1 h2
      go_wp2
      go_ret
      exact ⟨by rw [HV.out] <;> rfl, HX.out⟩
    · have t2 : decide (z.hi < zl) = false := decide_eq_false h2
      have HV : Hid (devB z x = false) := Lib.hid (by rw [HD.out]; exact decide_eq_false (by omega))
      clear h1 h2
      go_wp2
      go_ret
      exact ⟨by rw [HV.out] <;> rfl, HX.out⟩

set_option maxRecDepth 100000 in
set_option maxHeartbeats 8000000 in
theorem rdeviants_walk (vn vp vc vh vt : Value) (s : Sc) (h : List V6) (l : List S2) (w : World) (G : Gl 0 w) (S : ScR w vn vp vc s) (V : Sl w 6 V6.list vh h) (R : Sl w 2 encS vt l) :
    Calls Tryz.prog 7 #[.agg #[.int .i64 s.voices, vn, vp, vc], vh, vt] w fun e w' => ∃ v, e = .returned (.tuple #[v, .int .i64 (devR s h l).2]) ∧ Sl w' 1 encZ v (devR s h l).1 ∧ Ext w w' := by
  obtain ⟨an, cn, rfl, -, -, hln⟩ := S.nt.len
  obtain ⟨ap, cp, rfl, -, -, hlp⟩ := S.pr.len
  obtain ⟨ac, cc, rfl, -, -, hlc⟩ := S.cd.len
  obtain ⟨ah, ch, rfl, -, -, hlh⟩ := V.len
  obtain ⟨at', ct, rfl, -, -, hlt⟩ := R.len
  have PW := @rpitches_walk (.slice an s.notes.length cn) (.slice ap s.pairs.length cp) (.slice ac s.cads.length cc) (.slice ah h.length ch) (.slice at' l.length ct) s h l
  have hpc := pit_cases s h l
  have hyes : hearE s h l = 0 → devR s h l = (devK (tuneR s h).1 l (tuneR s h).1.length, 0) := devR_yes
  obtain ⟨⟨dl, de⟩, ed⟩ : ∃ z, devR s h l = z := ⟨_, rfl⟩
  obtain ⟨⟨pl, pe⟩, ep⟩ : ∃ z, pitR s h l = z := ⟨_, rfl⟩
  obtain ⟨xs, hxs⟩ : ∃ z, (tuneR s h).1 = z := ⟨_, rfl⟩
  obtain ⟨he, hhe⟩ : ∃ z, hearE s h l = z := ⟨_, rfl⟩
  rw [ep] at PW hpc; rw [ed] at hpc hyes ⊢
  rw [hxs] at hpc hyes; rw [hhe] at hpc hyes
  simp only at PW ⊢
  clear hxs hhe
  have HPW := Lib.hid PW; have HPC := Lib.hid hpc; have HYES := Lib.hid hyes
  clear PW hpc hyes ed ep
  have X0 : Ext w (w.alloc (.cells #[.int .i64 s.voices, .slice an s.notes.length cn, .slice ap s.pairs.length cp, .slice ac s.cads.length cc] 26)) := (by repeat (first | with_reducible exact Ext.refl _ | with_reducible assumption | with_reducible apply Ext.alloc | with_reducible apply Ext.drew | (with_reducible refine Ext.setCell ?_ (by (try simp) <;> omega) _)))
  have b0_0 := block_new w (.cells #[.int .i64 s.voices, .slice an s.notes.length cn, .slice ap s.pairs.length cp, .slice ac s.cads.length cc] 26)
  obtain ⟨W0, hW0⟩ : ∃ W, (w.alloc (.cells #[.int .i64 s.voices, .slice an s.notes.length cn, .slice ap s.pairs.length cp, .slice ac s.cads.length cc] 26)) = W := ⟨_, rfl⟩
  obtain ⟨B0, hB0⟩ : ∃ B, w.heap.size = B := ⟨_, rfl⟩
  rw [hW0] at X0 b0_0
  rw [hB0] at b0_0
  have HZ0 : Hid (w.heap.size ≤ B0) := Lib.hid (by omega)
  have HW0 := Lib.hid hW0; have HB0 := Lib.hid hB0
  clear hW0 hB0
  have CB := Lib.hid (boxS b0_0)
  have S1 := S.ext X0; have V1 := V.ext X0; have R1 := R.ext X0; have G1 := G.ext X0
  clear S V G R b0_0
  go_enter Tryz.func7, Tryz.ntmps7
  go_wp2_with fail
  rw [HW0.out, HB0.out]
  clear HW0 HB0
  refine (HPW.out _ G1 S1 V1 R1).mono ?_
  rintro e w1 ⟨v1, rfl, T1, x1⟩
  obtain ⟨a1, q1, rfl, -, -, -⟩ := T1.len
  rcases HPC.out with ⟨h0, hp, hd, -⟩ | ⟨h0, hp, ht, ha, hle⟩
  · obtain ⟨rfl, rfl⟩ := Prod.mk.inj hp
    obtain ⟨rfl, rfl⟩ := Prod.mk.inj hd
    have t1 : (de != 0) = true := by rw [bne_iff_ne]; exact h0
    have HX := Lib.hid (X0.trans x1)
    clear h0 hp hd HPC HYES
    go_wp2
    go_ret2
    exact ⟨_, rfl, Sl.nil _ _ _, HX.out⟩
  obtain ⟨e1, rfl⟩ := Prod.mk.inj hp
  have e1 := e1.symm
  subst e1
  obtain ⟨rfl, rfl⟩ := Prod.mk.inj (HYES.out h0)
  have hxl : xs.length ≤ l.length := by rw [ht.2.1]; exact hle
  have hl2 : l.length ≤ 200 := by rw [ht.2.1]; exact ht.1.sz.2.1
  have HA := Lib.hid ha
  clear h0 hp ht ha HPC HYES HPW
  have HT1 := Lib.hid T1
  clear T1
  go_wp2
  go_loopw [10, 11] (fun v i wr => ∃ k : Nat, k ≤ xs.length ∧ i = .int .i64 k ∧ OwnR wr w1.heap.size 3 1 encZ v (devK xs l k) ∧ Ext w1 wr) (fun _ i _ => xs.length - (intOf i).toNat)
  case atStart => exact ⟨0, by omega, by first | rfl | trivial, OwnR.nil, Ext.refl _⟩
  case round =>
    obtain ⟨k, hk, rfl, own, X⟩ := hrel
    have hkl := devK_len xs l k
    by_cases hlt : k < xs.length
    case neg =>
      obtain rfl : k = xs.length := by omega
      have SF := Lib.hid (own.sl (fun _ _ => rfl) (by omega))
      have HX := Lib.hid (X0.trans (x1.trans X))
      clear own
      go_wp2
      go_ret2
      exact ⟨_, rfl, SF.out, HX.out⟩
    case pos =>
    have hlt2 : k < l.length := by omega
    obtain ⟨bX, oX, rfl, p0, p1, p2, p3, p4, p5⟩ := Sl.vec (HT1.out.ext X) k hlt
    obtain ⟨bT, oT, rfl, z0, z1⟩ := Sl.sz (R1.ext (x1.trans X)) k hlt2
    have hdt : devT xs l k = devB l[k] xs[k] := by unfold devT T; rw [xAt_get hlt, List.getD_eq_getElem?_getD, List.getElem?_eq_getElem hlt2]; rfl
    have hw := within_mono (A := 32) (B := 48) (by omega) (List.all_eq_true.1 HA.out _ (List.getElem_mem hlt))
    obtain ⟨x, hx⟩ : ∃ u, xs[k] = u := ⟨_, rfl⟩
    obtain ⟨z, hz⟩ : ∃ u, l[k] = u := ⟨_, rfl⟩
    rw [hx] at p0 p1 p2 p3 p4 p5 hdt hw
    rw [hz] at z0 z1 hdt
    have DW := Lib.hid fun w' => rdeviates_walk x z hw w'
    rw [← hdt] at DW
    have hyy := @devK_yes xs l k; have hnn' := @devK_no xs l k
    obtain ⟨b, hb⟩ : ∃ u, devT xs l k = u := ⟨_, rfl⟩
    rw [hb] at DW hyy hnn'
    have HYY := Lib.hid hyy; have HNN := Lib.hid hnn'
    have p0 := ext_cells p0; have p1 := ext_cells p1; have p2 := ext_cells p2; have p3 := ext_cells p3; have p4 := ext_cells p4; have p5 := ext_cells p5; have z0 := ext_cells z0; have z1 := ext_cells z1
    have i1 : (0 : Int) ≤ (k : Int) := by omega
    have i2 : (k : Int) < (xs.length : Int) := by omega
    have i3 : (k : Int) < (l.length : Int) := by omega
    have HO := Lib.hid own; have HXX := Lib.hid X
    obtain ⟨va, vm, vd, rfl⟩ := own.shape
    clear own X hdt hw hx hz hb hyy hnn' hlt2
    go_wp2_with fail
    refine wp_region_ord [(0,true), (1,true), (2,true), (3,true), (4,true), (5,true), (6,true), (7,true), (8,true)] 9 Ext (Ext wr) wide (by kernel_rfl) (stable_ext _) (Ext.drawn _ _) ?_
    iterate 8 (first | (apply wpOrd_no rfl; rfl; (simp only [List.getElem_toArray, List.getElem_cons_succ, List.getElem_cons_zero, Act.put, List.setIfInBounds_toArray, List.set_cons_succ, List.set_cons_zero]; rfl)) | (apply wpOrd_yes rfl; rfl; (intro w' hw'; unfold opR; go_simp; exact ⟨Ext.refl _, rfl⟩); (simp only [List.getElem_toArray, List.getElem_cons_succ, List.getElem_cons_zero, Act.put, List.setIfInBounds_toArray, List.set_cons_succ, List.set_cons_zero]; rfl)))
    (apply wpOrd_det rfl rfl; (intro w' hw'; refine opR_call rfl (Go.Proofs.enters_of Tryz.func19 (by kernel_rfl) rfl) (by simp only [List.map_toArray, List.map_cons, List.map_nil, Act.eval, Array.getD_eq_getD_getElem?, List.getElem?_toArray, List.getElem?_cons_succ, List.getElem?_cons_zero, Option.getD_some]; rfl) ?_; refine (DW.out w').mono ?_; rintro e w'' ⟨rfl, hx⟩; exact ⟨_, rfl, hx, rfl⟩); (simp only [List.getElem_toArray, List.getElem_cons_succ, List.getElem_cons_zero, Act.put, List.setIfInBounds_toArray, List.set_cons_succ, List.set_cons_zero]; rfl))
    refine wpOrd_nil (l := []) rfl ?_
    intro w5 x5
    have X5 := HXX.out.trans x5
    have own := HO.out.ext x5
    have hsz := X5.size
    clear p0 p1 p2 p3 p4 p5 z0 z1
    cases b with
    | true =>
      have HX5 := Lib.hid X5
      clear x5 X5
      go_wp2_with (first | (at_builtin; go_must (refine wpList_own1 et_zb rfl _ _ rfl own rfl (k : Int) rfl rfl rfl (by simp [encZ, Value.oneCell']) (by omega) hsz ?_; intro v' w6 hown' hb' happ _)) | fail)
      rw [← HYY.out rfl] at hown'
      have FIN := Lib.hid (And.intro hown' (Below.trans HX5.out hb'))
      clear hown' hb' happ own
      go_roundw
      case rel => exact ⟨k + 1, by omega, by go_num, FIN.out.1, FIN.out.2⟩
      case measure => simp [intOf] <;> omega
    | false =>
      have FIN := Lib.hid (And.intro own X5)
      have HN := Lib.hid (HNN.out rfl)
      clear own x5 X5
      go_wp2
      go_roundw
      case rel => exact ⟨k + 1, by omega, by go_num, by rw [HN.out]; exact FIN.out.1, FIN.out.2⟩
      case measure => simp [intOf] <;> omega
end Go.Proofs.YtbemjekkojgbpaaGreatDoor
