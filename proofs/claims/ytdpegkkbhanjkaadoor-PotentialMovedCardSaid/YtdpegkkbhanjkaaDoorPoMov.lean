/-
  Proved: 'PotentialMoved' returns true for every input and leaves its arguments as they were. No condition.
-/
import Derived.Test.YtdpegkkbhanjkaaDoorPoH
import Derived.Test.YtdpegkkbhanjkaaDoorR23A
import Derived.Test.YtdpegkkbhanjkaaDoorR4A
import Derived.Test.YtdpegkkbhanjkaaDoorArgL
import Derived.Test.YtdpegkkbhanjkaaDoorLdB
set_option linter.unusedVariables false
namespace Go.Proofs.YtdpegkkbhanjkaaDoor
open Go.RowKit Go.Sx Go.Sx.Sz Go.Sx.Sc Go.Sx.Po Go.ChangeShapes Go.WideShapes Go.ChangeAt

theorem tune_arg {s : Sc} {h : List V6} (he : (tuneR s h).2 ≠ 1) : tunB s h = true := by
  unfold tuneR at he
  cases hb : tunB s h with
  | true => rfl
  | false => rw [hb, if_neg (by simp)] at he; exact absurd rfl he
theorem moved_facts {s : Sc} {h : List V6} {b : V6} (h1 : (tuneR s h).2 = 0) (h2 : (tuneR s (moveH h b)).2 = 0) : (tuneR s (moveH h b)).1 = (tuneR s h).1.map (fun x => x.add b 1) ∧ brkR s (moveH h b) = brkR s h := by
  obtain ⟨hs, e1, -⟩ := tune_ok h1
  obtain ⟨-, e2, -⟩ := tune_ok h2
  have e : (tuneR s (moveH h b)).1 = (tuneR s h).1.map (fun x => x.add b 1) := by
    rw [e2, e1, moveH_len, xsL_move hs (Nat.le_refl _)]
  refine ⟨e, ?_⟩
  unfold brkR
  rw [if_pos h1, if_pos h2, e, brkL_move hs]
theorem moveH_step {h : List V6} {b : V6} {k : Nat} (hk : k < h.length) : moveH (h.take (k + 1)) b = moveH (h.take k) b ++ [h[k].add b 1] := by
  unfold moveH; rw [List.take_succ_eq_append_getElem hk, List.map_append]; rfl

set_option maxRecDepth 100000 in
set_option maxHeartbeats 16000000 in
theorem potmov_law (vn vp vc vh : Value) (s : Sc) (h : List V6) (b : V6) (w : World) (GL : Gl 0 w) (S : ScR w vn vp vc s) (V : Sl w 6 V6.list vh h) :
    Calls Tryd.prog 7 #[.agg #[.int .i64 s.voices, vn, vp, vc], vh, .agg #[.int .i64 b.a, .int .i64 b.b, .int .i64 b.c, .int .i64 b.d, .int .i64 b.e, .int .i64 b.f]] w fun e w' => e = .returned (.bool true) ∧ Ext w w' := by
  obtain ⟨an, cn, rfl, -, -, hln⟩ := S.nt.len
  obtain ⟨ap, cp, rfl, -, -, hlp⟩ := S.pr.len
  obtain ⟨ac, cc, rfl, -, -, hlc⟩ := S.cd.len
  obtain ⟨ah, ch, rfl, hch, -, hlh⟩ := V.len
  have TW := @tune_walk (.slice an s.notes.length cn) (.slice ap s.pairs.length cp) (.slice ac s.cads.length cc) (.slice ah h.length ch) s h
  have TM := fun (v : Value) => @tune_walk (.slice an s.notes.length cn) (.slice ap s.pairs.length cp) (.slice ac s.cads.length cc) v s (moveH h b)
  have BW := @broken0_walk (.slice an s.notes.length cn) (.slice ap s.pairs.length cp) (.slice ac s.cads.length cc) (.slice ah h.length ch) s h
  have BM := fun (v : Value) => @broken0_walk (.slice an s.notes.length cn) (.slice ap s.pairs.length cp) (.slice ac s.cads.length cc) v s (moveH h b)
  have hta := @tune_arg s h
  have hmf := @moved_facts s h b
  have hto := @tune_ok s h
  have hbo : (tuneR s h).2 = 0 → (brkR s h).2 = 0 := fun ht => by unfold brkR; rw [if_pos ht]
  obtain ⟨⟨tl, te⟩, ht⟩ : ∃ z, tuneR s h = z := ⟨_, rfl⟩
  obtain ⟨⟨ml, me⟩, hm⟩ : ∃ z, tuneR s (moveH h b) = z := ⟨_, rfl⟩
  obtain ⟨⟨bl, be⟩, hb⟩ : ∃ z, brkR s h = z := ⟨_, rfl⟩
  obtain ⟨⟨nl, ne⟩, hn⟩ : ∃ z, brkR s (moveH h b) = z := ⟨_, rfl⟩
  rw [ht] at TW hta hmf hto hbo
  rw [hm] at TM hmf
  rw [hb] at BW hmf hbo
  rw [hn] at BM hmf
  simp only at TW TM BW BM hta hmf hto hbo
  have HTW := Lib.hid TW; have HTM := Lib.hid TM; have HBW := Lib.hid BW; have HBM := Lib.hid BM; have HTA := Lib.hid hta; have HMF := Lib.hid hmf; have HTO := Lib.hid hto; have HBO := Lib.hid hbo
  clear ht hm hb hn TW TM BW BM hta hmf hto hbo
  have X0 : Ext w ((w.alloc (.cells #[.int .i64 s.voices, .slice an s.notes.length cn, .slice ap s.pairs.length cp, .slice ac s.cads.length cc] 26)).alloc (.cells (#[.int .i64 b.a, .int .i64 b.b, .int .i64 b.c, .int .i64 b.d, .int .i64 b.e, .int .i64 b.f] : Array Value) 41)) := (by repeat (first | with_reducible exact Ext.refl _ | with_reducible assumption | with_reducible apply Ext.alloc | with_reducible apply Ext.drew | (with_reducible refine Ext.setCell ?_ (by (try simp) <;> omega) _)))
  have b0_0 := block_alloc (block_new w (.cells #[.int .i64 s.voices, .slice an s.notes.length cn, .slice ap s.pairs.length cp, .slice ac s.cads.length cc] 26)) (.cells (#[.int .i64 b.a, .int .i64 b.b, .int .i64 b.c, .int .i64 b.d, .int .i64 b.e, .int .i64 b.f] : Array Value) 41)
  have b0_1 := block_at (w := (w.alloc (.cells #[.int .i64 s.voices, .slice an s.notes.length cn, .slice ap s.pairs.length cp, .slice ac s.cads.length cc] 26))) (n := w.heap.size + 1) (by simp) (.cells (#[.int .i64 b.a, .int .i64 b.b, .int .i64 b.c, .int .i64 b.d, .int .i64 b.e, .int .i64 b.f] : Array Value) 41)
  obtain ⟨W0, hW0⟩ : ∃ W, ((w.alloc (.cells #[.int .i64 s.voices, .slice an s.notes.length cn, .slice ap s.pairs.length cp, .slice ac s.cads.length cc] 26)).alloc (.cells (#[.int .i64 b.a, .int .i64 b.b, .int .i64 b.c, .int .i64 b.d, .int .i64 b.e, .int .i64 b.f] : Array Value) 41)) = W := ⟨_, rfl⟩
  obtain ⟨B0, hB0⟩ : ∃ B, w.heap.size = B := ⟨_, rfl⟩
  rw [hW0] at X0 b0_0 b0_1
  rw [hB0] at b0_0 b0_1
  have HZ0 : Hid (w.heap.size ≤ B0) := Lib.hid (by omega)
  have HW0 := Lib.hid hW0; have HB0 := Lib.hid hB0
  clear hW0 hB0
  have CB := Lib.hid (boxS b0_0)
  have HB1 := Lib.hid b0_1
  have S1 := S.ext X0; have V1 := V.ext X0; have G1 := GL.ext X0
  clear S V GL b0_0 b0_1
  go_enter Tryd.func7, Tryd.ntmps7
  go_wp2_with fail
  rw [HW0.out, HB0.out]
  clear HW0 HB0
  refine (head_walk _ G1).mono ?_
  rintro e w1 ⟨rfl, x1⟩
  have d := block_ext x1 HB1.out
  have d0 := block_cell d 0 _ rfl; have d1 := block_cell d 1 _ rfl; have d2 := block_cell d 2 _ rfl; have d3 := block_cell d 3 _ rfl; have d4 := block_cell d 4 _ rfl; have d5 := block_cell d 5 _ rfl
  clear d
  go_wp2_with fail
  refine (rinterval_walk b _).mono ?_
  obtain ⟨iv, hiv⟩ : ∃ z, within b 48 = z := ⟨_, rfl⟩
  rw [hiv]
  have HIV := Lib.hid hiv
  clear hiv
  rintro e w1' ⟨rfl, y1⟩
  have x1' := x1.trans y1
  clear d0 d1 d2 d3 d4 d5
  obtain ⟨c0, c1, c2, c3⟩ := CB.out _ x1'
  go_wp2_with fail
  refine (rfew_walk _ _ _ s _ (S1.ext x1')).mono ?_
  obtain ⟨fw, hfw⟩ : ∃ z, (decide (s.notes.length ≤ 40) && decide (s.pairs.length ≤ 60)) = z := ⟨_, rfl⟩
  rw [hfw]
  clear hfw
  rintro e w2 ⟨rfl, y2⟩
  have x2 := x1'.trans y2
  clear c0 c1 c2 c3
  cases fw with
  | false =>
    have HX := Lib.hid (X0.trans x2)
    go_wp2
    go_ret
    exact ⟨by first | rfl | simp, HX.out⟩
  | true =>
  cases iv with
  | false =>
    have HX := Lib.hid (X0.trans x2)
    go_wp2
    go_ret
    exact ⟨by first | rfl | simp, HX.out⟩
  | true =>
  obtain ⟨c0, c1, c2, c3⟩ := CB.out _ x2
  go_wp2_with fail
  refine (HTW.out _ (S1.ext x2) (V1.ext x2)).mono ?_
  rintro e w3 ⟨v3, rfl, T3, y3⟩
  have x3 := x2.trans y3
  obtain ⟨a3, q3, rfl, -, -, -⟩ := T3.len
  clear c0 c1 c2 c3
  by_cases hte : te = 1
  case pos =>
    have t1 : (te == 1) = true := by rw [beq_iff_eq]; exact hte
    have HX := Lib.hid (X0.trans x3)
    clear hte T3
    go_wp2
    go_ret
    exact ⟨by first | rfl | simp, HX.out⟩
  case neg =>
  have htb := HTA.out hte
  obtain ⟨hok, hhl, hwi⟩ := tunB_iff.1 htb
  have t1 : (te == 1) = false := by rw [beq_eq_false_iff_ne]; exact hte
  have hcn := hok.sz.2.2.2
  have HOK := Lib.hid hok; have HWI := Lib.hid hwi; have HT3 := Lib.hid T3; have HX3 := Lib.hid x3
  have HBS := Lib.hid (Sml.of HIV.out)
  clear htb hok hwi T3 hte
  go_wp2
  clear t1
  go_loopw [11, 12] (fun v i wr => ∃ k : Nat, k ≤ h.length ∧ i = .int .i64 k ∧ OwnR wr w3.heap.size 41 6 V6.list v (moveH (h.take k) b) ∧ Ext w3 wr) (fun _ i _ => h.length - (intOf i).toNat)
  case atStart => exact ⟨0, by omega, by first | rfl | trivial, OwnR.nil, Ext.refl _⟩
  case round =>
    obtain ⟨k, hk, rfl, own, X⟩ := hrel
    by_cases hlt : k < h.length
    case pos =>
      have hxl : (moveH (h.take k) b).length = k := by rw [moveH_len, List.length_take]; omega
      have hst := moveH_step (b := b) hlt
      obtain ⟨z, hz⟩ : ∃ z, h[k] = z := ⟨_, rfl⟩
      have hzs : Sml 48 z := by rw [← hz]; exact Sml.of (HWI.out _ (List.getElem_mem hlt))
      rw [hz] at hst
      obtain ⟨z', hz'⟩ : ∃ t, z.add b 1 = t := ⟨_, rfl⟩
      rw [hz'] at hst
      have PL := Lib.hid fun w' => rplus_walk z b (hzs.mono (by omega)) (HBS.out.mono (by omega)) w'
      rw [hz'] at PL
      obtain ⟨xs0, hx0⟩ : ∃ l, moveH (h.take k) b = l := ⟨_, rfl⟩
      rw [hx0] at own hxl hst
      have HXL := Lib.hid hxl; have HST := Lib.hid hst
      obtain ⟨va, vm, vd, rfl⟩ := own.shape
      obtain ⟨gg, hgg⟩ : ∃ t, (Value.slice va vm vd).ownBlock = t := ⟨_, rfl⟩
      have HLO : Hid (∀ i, gg = some i → w3.heap.size ≤ i) := Lib.hid (fun i hi => (World.ownsRow.lt own i (hgg.trans hi)).1)
      have XK := Lib.hid fun w' (y : Kb gg wr w') => (Below.trans X (y.below X.size (fun i e => HLO.out i e)) : Ext w3 w')
      obtain ⟨bh, oh, rfl, t0, t1, t2, t3, t4, t5⟩ := Sl.vec (V1.ext HX3.out) k hlt
      rw [hz] at t0 t1 t2 t3 t4 t5
      have dd := block_ext HX3.out HB1.out
      have f0 := fun w' (y : Kb gg wr w') => ext_cells t0 w' (XK.out w' y); have f1 := fun w' (y : Kb gg wr w') => ext_cells t1 w' (XK.out w' y); have f2 := fun w' (y : Kb gg wr w') => ext_cells t2 w' (XK.out w' y); have f3 := fun w' (y : Kb gg wr w') => ext_cells t3 w' (XK.out w' y); have f4 := fun w' (y : Kb gg wr w') => ext_cells t4 w' (XK.out w' y); have f5 := fun w' (y : Kb gg wr w') => ext_cells t5 w' (XK.out w' y)
      have g0 := fun w' (y : Kb gg wr w') => ext_cells (block_cell dd 0 _ rfl) w' (XK.out w' y); have g1 := fun w' (y : Kb gg wr w') => ext_cells (block_cell dd 1 _ rfl) w' (XK.out w' y); have g2 := fun w' (y : Kb gg wr w') => ext_cells (block_cell dd 2 _ rfl) w' (XK.out w' y); have g3 := fun w' (y : Kb gg wr w') => ext_cells (block_cell dd 3 _ rfl) w' (XK.out w' y); have g4 := fun w' (y : Kb gg wr w') => ext_cells (block_cell dd 4 _ rfl) w' (XK.out w' y); have g5 := fun w' (y : Kb gg wr w') => ext_cells (block_cell dd 5 _ rfl) w' (XK.out w' y)
      have i1 : (0 : Int) ≤ (k : Int) := by omega
      have i2 : (k : Int) < (h.length : Int) := by omega
      have OW := Lib.hid own; have HGG := Lib.hid hgg
      have hsz := X.size
      obtain ⟨wo, rfl⟩ : ∃ t : World, t = wr := ⟨_, rfl⟩
      clear own hgg t0 t1 t2 t3 t4 t5 dd hz hz' hzs hx0 hxl hst X
      go_wp2_with fail
      apply wp_region_ordX [(0,.det _),(1,.det _),(2,.det _),(3,.det _),(4,.det _),(5,.det _),(6,.det _),
        (7, .one (fun _ => True) (fun v w' => OwnR w' w3.heap.size 41 6 V6.list (.slice va vm vd) xs0 ∧ Sl1 w3.heap.size 41 (#[.int .i64 z'.a, .int .i64 z'.b, .int .i64 z'.c, .int .i64 z'.d, .int .i64 z'.e, .int .i64 z'.f] : Array Value) v w') undef trivial),
        (8, .one (fun _ => True) (fun v w' => OwnR w' w3.heap.size 41 6 V6.list v (xs0 ++ [z'])) undef trivial)] 9 Ext (Kb gg) (Kb gg wo)
        (fun w' => OwnR w' w3.heap.size 41 6 V6.list (.slice va vm vd) xs0) wide [(0,true),(1,true),(2,true),(3,true),(4,true),(5,true),(6,true),(7,false),(8,false)] (by kernel_rfl) rfl (by decide) (sub_kb gg) (stable_kb gg wo) (fun _ _ h k => h.ext k) (Kb.drawn _ _ _) (OW.out.ext (Ext.drawn _ _)) ?main12
      case main12 =>
        iterate 6 (apply ordX_det rfl rfl; (intro w' hw'; unfold opR; go_simp; exact ⟨Ext.refl _, rfl⟩); (simp only [List.getElem_toArray, List.getElem_cons_succ, List.getElem_cons_zero, Act.put, List.setIfInBounds_toArray, List.set_cons_succ, List.set_cons_zero]; rfl))
        (apply ordX_det rfl rfl; (intro w' hw'; refine opR_call rfl (Go.Proofs.enters_of Tryd.func17 (by kernel_rfl) rfl) (by simp only [List.map_toArray, List.map_cons, List.map_nil, Act.eval, Array.getD_eq_getD_getElem?, List.getElem?_toArray, List.getElem?_cons_succ, List.getElem?_cons_zero, Option.getD_some]; rfl) ?_; refine (PL.out _).mono ?_; rintro e w'' ⟨rfl, hx⟩; exact ⟨_, rfl, hx, rfl⟩); (simp only [List.getElem_toArray, List.getElem_cons_succ, List.getElem_cons_zero, Act.put, List.setIfInBounds_toArray, List.set_cons_succ, List.set_cons_zero]; rfl))
        apply ordX_one (fun v => stable_and (fun _ _ h k => h.ext k) (stable_sl1 _ _ _ _)) rfl rfl
        · intro w' hw' hc'; unfold opR; go_simp
          exact ⟨(Ext.alloc' _ _).kb gg, hc'.alloc _, Sl1.new w' _ _ (by have := hw'.size; omega)⟩
        · intro v; (simp only [List.getElem_toArray, List.getElem_cons_succ, List.getElem_cons_zero, Act.put, List.setIfInBounds_toArray, List.set_cons_succ, List.set_cons_zero]; rfl)
        intro sv _
        apply ordX_one (fun v => (fun _ _ h k => h.ext k)) rfl rfl
        · rintro w' hw' ⟨ho, b7, rfl, hbb, hrow⟩
          refine opR_own_app et_xs _ _ rfl ho rfl [z'] ⟨b7, 0, none⟩ 1 rfl (by simp [V6.list]) (fun j u hu => row_cells hrow j u hu) (by simp [V6.list, Value.oneCell']) (by rw [HXL.out]; simp; omega) (by have := hw'.size; omega) ?_
          intro v' w4 hown' hb' happ'
          exact ⟨HGG.out ▸ happ'.kb, trivial, hown'⟩
        · intro v; (simp only [List.getElem_toArray, List.getElem_cons_succ, List.getElem_cons_zero, Act.put, List.setIfInBounds_toArray, List.set_cons_succ, List.set_cons_zero]; rfl)
        intro av _
        refine ordX_nil (l := [_]) rfl ?_
        intro w9 hw9 ho9 _
        have FIN := Lib.hid (And.intro ho9 (XK.out w9 hw9))
        clear ho9 hw9 f0 f1 f2 f3 f4 f5 g0 g1 g2 g3 g4 g5
        go_wp2
        go_roundw
        case rel => exact ⟨k + 1, by omega, by go_num, by rw [HST.out]; exact FIN.out.1, FIN.out.2⟩
        case measure => simp [intOf] <;> omega
    case neg =>
      obtain rfl : k = h.length := by omega
      rw [List.take_length] at own
      have hml : (moveH h b).length = h.length := moveH_len h b
      have SM := Lib.hid (own.sl (fun _ _ => rfl) (by omega))
      have X4 := HX3.out.trans X
      obtain ⟨va, vm, vd, rfl⟩ := own.shape
      obtain ⟨c0, c1, c2, c3⟩ := CB.out _ X4
      clear own
      go_wp2_with fail
      refine (HTM.out _ _ (S1.ext X4) SM.out).mono ?_
      rintro e w5 ⟨v5, rfl, T5, y5⟩
      have X5 := X4.trans y5
      obtain ⟨a5, q5, rfl, -, -, -⟩ := T5.len
      clear c0 c1 c2 c3
      by_cases h0 : te = 0
      case neg =>
        have t1 : (te != 0) = true := by rw [bne_iff_ne]; exact h0
        have HX := Lib.hid (X0.trans X5)
        clear h0
        go_wp2
        go_ret
        exact ⟨by first | rfl | simp, HX.out⟩
      case pos =>
      subst h0
      by_cases h2 : me = 0
      case neg =>
        have t1 : (me != 0) = true := by rw [bne_iff_ne]; exact h2
        have HX := Lib.hid (X0.trans X5)
        clear h2
        go_wp2
        go_ret
        exact ⟨by first | rfl | simp, HX.out⟩
      case pos =>
      subst h2
      obtain ⟨rfl, hbn⟩ := HMF.out rfl rfl
      obtain ⟨rfl, rfl⟩ : nl = bl ∧ ne = be := by simpa using hbn
      obtain rfl : ne = 0 := HBO.out rfl
      obtain ⟨-, hxs, hall⟩ := HTO.out rfl
      rw [← hxs] at hall
      have htl : tl.length ≤ 200 := by rw [hxs]; exact tune_len HOK.out
      obtain ⟨ys, hys⟩ : ∃ l, tl.map (fun x => x.add b 1) = l := ⟨_, rfl⟩
      have hyl : ys.length = tl.length := by rw [← hys, List.length_map]
      have hya : ∀ n (hn : n < tl.length) (hn' : n < ys.length), ys[n] = tl[n].add b 1 := fun n hn hn' => by subst hys; rw [List.getElem_map]
      rw [hys] at T5 HTM ⊢
      have HYA := Lib.hid hya; have HAL := Lib.hid hall; have HT5 := Lib.hid T5; have HX5 := Lib.hid X5; have HYL := Lib.hid hyl
      have HSM := Lib.hid (SM.out.ext y5)
      have HT3' := Lib.hid (HT3.out.ext (X.trans y5))
      have t2 : ((tl.length : Int) != (ys.length : Int)) = false := by rw [bne_eq_false_iff_eq]; omega
      clear hxs hall hys hya T5 hbn X4 X5 X y5
      go_wp2
      clear t2
      go_loopw [7, 15] (fun up i wr => ∃ n : Nat, n ≤ tl.length ∧ up = .bool true ∧ i = .int .i64 n ∧ Ext w5 wr) (fun _ i _ => tl.length - (intOf i).toNat)
      case atStart => exact ⟨0, by omega, by first | rfl | trivial, by first | rfl | trivial, Ext.refl _⟩
      case round =>
        obtain ⟨n, hn, rfl, rfl, X⟩ := hrel
        have X6 := HX5.out.trans X
        by_cases hlt : n < tl.length
        case pos =>
          have hlt' : n < ys.length := by have := HYL.out; omega
          have hyn := HYA.out n hlt hlt'
          obtain ⟨b1, o1, rfl, r0, r1, r2, r3, r4, r5⟩ := Sl.vec (HT3'.out.ext X) n hlt
          obtain ⟨b2, o2, rfl, t0, t1, t2, t3, t4, t5⟩ := Sl.vec (HT5.out.ext X) n hlt'
          have hsx : Sml 32 tl[n] := Sml.of (within_at HAL.out hlt)
          rw [hyn] at t0 t1 t2 t3 t4 t5
          obtain ⟨x, hx⟩ : ∃ t, tl[n] = t := ⟨_, rfl⟩
          rw [hx] at r0 r1 r2 r3 r4 r5 t0 t1 t2 t3 t4 t5 hsx
          obtain ⟨x', hx'⟩ : ∃ t, x.add b 1 = t := ⟨_, rfl⟩
          rw [hx'] at t0 t1 t2 t3 t4 t5
          have PL := Lib.hid fun w' => rplus_walk x b (hsx.mono (by omega)) (HBS.out.mono (by omega)) w'
          rw [hx'] at PL
          have VQ : ∀ w', (Op.equalIn 10000 41 (.agg #[.int .i64 x'.a, .int .i64 x'.b, .int .i64 x'.c, .int .i64 x'.d, .int .i64 x'.e, .int .i64 x'.f]) (.agg #[.int .i64 x'.a, .int .i64 x'.b, .int .i64 x'.c, .int .i64 x'.d, .int .i64 x'.e, .int .i64 x'.f])).run Tryd.prog w' = .ok true w' := fun w' => by
            have := run_eq_v6 (P := Tryd.prog) Tryd.underlying41 Tryd.underlying3 (by kernel_rfl) x' x' 9998 w'
            rwa [decide_eq_true rfl] at this
          have dd := block_ext X6 HB1.out
          have g0 := ext_cells (block_cell dd 0 _ rfl); have g1 := ext_cells (block_cell dd 1 _ rfl); have g2 := ext_cells (block_cell dd 2 _ rfl); have g3 := ext_cells (block_cell dd 3 _ rfl); have g4 := ext_cells (block_cell dd 4 _ rfl); have g5 := ext_cells (block_cell dd 5 _ rfl)
          have r0 := ext_cells r0; have r1 := ext_cells r1; have r2 := ext_cells r2; have r3 := ext_cells r3; have r4 := ext_cells r4; have r5 := ext_cells r5
          have t0 := ext_cells t0; have t1 := ext_cells t1; have t2 := ext_cells t2; have t3 := ext_cells t3; have t4 := ext_cells t4; have t5 := ext_cells t5
          have i1 : (0 : Int) ≤ (n : Int) := by omega
          have i2 : (n : Int) < (tl.length : Int) := by omega
          have i3 : (n : Int) < (ys.length : Int) := by omega
          obtain ⟨wo, rfl⟩ : ∃ t : World, t = wr := ⟨_, rfl⟩
          clear dd hx hx' hsx hyn hlt' X6
          go_wp2_with fail
          refine wp_region_ord [(0,true), (1,true), (2,true), (3,true), (4,true), (5,true), (6,true), (7,true), (8,true), (9,true), (10,true), (11,true), (12,true), (13,true)] 14 Ext (Ext wo) wide (by kernel_rfl) (stable_ext _) (Ext.drawn _ _) ?_
          iterate 11 (first | (apply wpOrd_no rfl; rfl; (simp only [List.getElem_toArray, List.getElem_cons_succ, List.getElem_cons_zero, Act.put, List.setIfInBounds_toArray, List.set_cons_succ, List.set_cons_zero]; rfl)) | (apply wpOrd_yes rfl; rfl; (intro w' hw'; unfold opR; go_simp; exact ⟨Ext.refl _, rfl⟩); (simp only [List.getElem_toArray, List.getElem_cons_succ, List.getElem_cons_zero, Act.put, List.setIfInBounds_toArray, List.set_cons_succ, List.set_cons_zero]; rfl)))
          (apply wpOrd_yes rfl (by rfl); (intro w' hw'; refine opR_call rfl (Go.Proofs.enters_of Tryd.func17 (by kernel_rfl) rfl) (by simp only [List.map_toArray, List.map_cons, List.map_nil, Act.eval, Array.getD_eq_getD_getElem?, List.getElem?_toArray, List.getElem?_cons_succ, List.getElem?_cons_zero, Option.getD_some]; rfl) ?_; refine (PL.out _).mono ?_; rintro e w'' ⟨rfl, hx⟩; exact ⟨_, rfl, hx, rfl⟩); (simp only [List.getElem_toArray, List.getElem_cons_succ, List.getElem_cons_zero, Act.put, List.setIfInBounds_toArray, List.set_cons_succ, List.set_cons_zero]; rfl))
          iterate 2 (first | (apply wpOrd_no rfl; rfl; (simp only [List.getElem_toArray, List.getElem_cons_succ, List.getElem_cons_zero, Act.put, List.setIfInBounds_toArray, List.set_cons_succ, List.set_cons_zero]; rfl)) | (apply wpOrd_yes rfl; rfl; (intro w' hw'; unfold opR; go_simp; exact ⟨Ext.refl _, rfl⟩); (simp only [List.getElem_toArray, List.getElem_cons_succ, List.getElem_cons_zero, Act.put, List.setIfInBounds_toArray, List.set_cons_succ, List.set_cons_zero]; rfl)))
          refine wpOrd_nil (l := [_]) rfl ?_
          intro w9 x9
          have HX9 := Lib.hid (X.trans x9)
          clear r0 r1 r2 r3 r4 r5 t0 t1 t2 t3 t4 t5 g0 g1 g2 g3 g4 g5 x9 VQ
          go_wp2
          go_roundw
          case rel => exact ⟨n + 1, by omega, by first | rfl | simp, by go_num, HX9.out⟩
          case measure => simp [intOf] <;> omega
        case neg =>
          obtain rfl : n = tl.length := by omega
          obtain ⟨c0, c1, c2, c3⟩ := CB.out _ X6
          go_wp2_with fail
          refine (HBW.out _ (G1.ext X6) (S1.ext X6) (V1.ext X6)).mono ?_
          rintro e w7 ⟨v7, rfl, C7, y7⟩
          have X7 := X6.trans y7
          clear c0 c1 c2 c3
          obtain ⟨c0, c1, c2, c3⟩ := CB.out _ X7
          go_wp2_with fail
          refine (HBM.out _ _ (G1.ext X7) (S1.ext X7) (HSM.out.ext (X.trans y7))).mono ?_
          rintro e w8 ⟨v8, rfl, C8, y8⟩
          have X8 := X7.trans y8
          clear c0 c1 c2 c3
          go_wp2_with fail
          refine (rchains_walk _ _ _ _ (C7.ext y8) C8).mono ?_
          rintro e w9 ⟨rfl, y9⟩
          have HX := Lib.hid (X0.trans (X8.trans y9))
          go_wp2
          go_ret
          exact ⟨by first | rfl | simp, HX.out⟩

theorem potentialMoved_args (H : Type) (enc : TypeId × Value → H) (W : World) (base : Nat) (vs : List Value) (ds : List (DataW H)) (_ : ∀ k, (OpenSpec.ofChange Rows.potentialMovedSpec).cond = some k → k H ds = true) (hL : laidMetH Tryd.prog Rows.potentialMovedRow.laid W) (hA : Args enc Tryd.prog W base Tryd.f7.params.toList vs ds) :
    Calls Tryd.prog 7 vs.toArray W fun e W' => e = .returned (.bool true) ∧ Ext W W' := by
  rw [Tryd.params7] at hA
  obtain ⟨v0, _, d0, _, rfl, rfl, h0, hA⟩ := hA.cons
  obtain ⟨v1, _, d1, _, rfl, rfl, h1, hA⟩ := hA.cons
  obtain ⟨v2, _, d2, _, rfl, rfl, h2, hA⟩ := hA.cons
  obtain ⟨rfl, rfl⟩ := hA.nil
  obtain ⟨s0, vn0, vp0, vc0, rfl, S0⟩ := arg_score h0
  obtain ⟨l1, S1, n1⟩ := arg_vecs h1
  obtain ⟨x2, rfl, b2⟩ := arg_vec1 h2
  exact potmov_law _ _ _ _ s0 l1 x2 W (gv_of hL) S0 S1

theorem potentialMoved_met (os : Os) : laidMet Tryd.prog Rows.potentialMovedRow.laid ((laidWorld os).forCall (fun _ _ => 0) ⟨#[], #[.agg #[.int .i64 0, .slice none 0 0, .slice none 0 0, .slice none 0 0], .slice none 0 0, .agg #[.int .i64 0, .int .i64 0, .int .i64 0, .int .i64 0, .int .i64 0, .int .i64 0]], []⟩).memory := laidMet_of_run' 8 (by kernel_rfl) (by kernel_rfl)
theorem potentialMoved_reads (os : Os) {H : Type} (enc : TypeId × Value → H) : ∃ places, DataW.whole enc Tryd.prog ((laidWorld os).forCall (fun _ _ => 0) ⟨#[], #[.agg #[.int .i64 0, .slice none 0 0, .slice none 0 0, .slice none 0 0], .slice none 0 0, .agg #[.int .i64 0, .int .i64 0, .int .i64 0, .int .i64 0, .int .i64 0, .int .i64 0]], []⟩).memory Tryd.f7.params.toList Rows.potentialMovedSpec.vars false #[.agg #[.int .i64 0, .slice none 0 0, .slice none 0 0, .slice none 0 0], .slice none 0 0, .agg #[.int .i64 0, .int .i64 0, .int .i64 0, .int .i64 0, .int .i64 0, .int .i64 0]].toList 8 = some ([.agg [.lit (.int .i64 0), .nil, .nil, .nil], .nil, .agg [.lit (.int .i64 0), .lit (.int .i64 0), .lit (.int .i64 0), .lit (.int .i64 0), .lit (.int .i64 0), .lit (.int .i64 0)]], [], places) := ⟨[], by kernel_rfl⟩
set_option maxRecDepth 100000 in
theorem potentialMoved_lifted (os : Os) (started : os.Started) (H : Type) (enc : TypeId × Value → H) (F : Stop.Interp) :
    ReturnsInHanded {} Tryd.checked os 7 .any ((OpenSpec.ofChange Rows.potentialMovedSpec).preRow enc Tryd.prog Tryd.f7 Rows.potentialMovedRow.domain false Rows.potentialMovedRow.laid) (((OpenSpec.ofChange Rows.potentialMovedSpec).at F).post enc Tryd.prog Tryd.f7 false true false false) := by
  obtain ⟨places, hx⟩ := potentialMoved_reads os enc
  exact law_row (C := Tryd.checked) (s := (OpenSpec.ofChange Rows.potentialMovedSpec)) (by kernel_rfl) started (by kernel_rfl) Tryd.func7
    (witness_row_at (enc := enc) (C := Tryd.checked) false (laidWorld os) #[.agg #[.int .i64 0, .slice none 0 0, .slice none 0 0, .slice none 0 0], .slice none 0 0, .agg #[.int .i64 0, .int .i64 0, .int .i64 0, .int .i64 0, .int .i64 0, .int .i64 0]] rfl (by kernel_rfl) (by kernel_rfl) (by kernel_rfl) (OpenSpec.preRow_of_cond 8 hx (by kernel_rfl) (fun k hk => by cases hk) (by kernel_rfl) (potentialMoved_met os)))
    (by kernel_rfl) (by kernel_rfl) (by kernel_rfl) rfl (fun ds h => by match ds, h with | [_, _, _], _ => rfl) (potentialMoved_args H enc)
theorem potentialMoved_said : Rows.PotentialMovedSaid :=
  OpenClaim.holds_of_cond 7 Tryd.f7 rfl rfl rfl rfl rfl rfl rfl ⟨rfl, rfl, rfl, rfl, rfl⟩ rfl rfl rfl rfl rfl (by kernel_rfl) Tryd.func7 (by kernel_rfl)
    (of_decide_eq_true (by kernel_rfl)) (by unfold Func.isWrapper; first | (rw [if_pos (by decide +kernel)]; kernel_rfl) | (rw [if_neg (by decide +kernel)]; exact ⟨rfl, rfl⟩))
    (fun os started H enc _ F => by rw [OpenClaim.pre_eq_preRow]; exact potentialMoved_lifted os started H enc F)
theorem potentialMoved_plain (f : FuncId) (fn : Func) (hf : Tryd.pinned.checked.prog.funcNamed "schisma/schismalaw23.PotentialMoved" = some f) (hfn : Tryd.pinned.checked.prog.funcs[f]? = some fn) :
    false = Tryd.pinned.checked.prog.looks [] ∧ ∀ (j : Nat) t, fn.params[j]? = some t → Tryd.pinned.checked.prog.wantsStandIn t = false := by
  obtain rfl : f = 7 := Option.some.inj ((show Tryd.prog.funcNamed "schisma/schismalaw23.PotentialMoved" = some 7 by kernel_rfl).symm.trans hf) |>.symm
  obtain rfl : fn = Tryd.f7 := (Option.some.inj (Tryd.func7.symm.trans hfn)).symm
  refine ⟨by kernel_rfl, fun j t ht => ?_⟩
  have hall : Tryd.f7.params.all (fun t => !Tryd.prog.wantsStandIn t) = true := by kernel_rfl
  have := (Array.all_eq_true'.1 hall) t (Array.mem_of_getElem? ht)
  have e : Tryd.prog.wantsStandIn t = false := by simpa using this
  exact e
/-- The card. -/
theorem potentialMoved_holds : Rows.PotentialMovedCardSaid :=
  Claim7.holds_tied_plain_at .later [] _ _ _ _ potentialMoved_said (fun _ h => by cases h) (by kernel_rfl) (fun _ h => by cases h) potentialMoved_row_tie rfl ⟨rfl, rfl⟩ (by kernel_rfl) rfl potentialMoved_plain (by kernel_rfl)
end Go.Proofs.YtdpegkkbhanjkaaDoor
