/-
  Walks of potential: Tune, Broken.
-/
import Derived.Test.YtgfaiihekibcbaaGreatDoorPlW
import Derived.Test.YtgfaiihekibcbaaGreatDoorPlJ
import Derived.Test.YtgfaiihekibcbaaGreatDoorPlF
set_option linter.unusedVariables false
namespace Go.Proofs.YtgfaiihekibcbaaGreatDoor
open Go.RowKit Go.Sx Go.Sx.Sz Go.Sx.Sc Go.Sx.Po

theorem Sl.st {w : World} {a? : Option Addr} {n cap : Nat} {xs : List St} (h : Sl w 3 encSt (.slice a? n cap) xs) (k : Nat) (hk : k < xs.length) : ∃ b o, a? = some ⟨b, o, none⟩ ∧ w.cell? ⟨b, o + k * 3, none⟩ = some (.int .i64 xs[k].a) ∧ w.cell? ⟨b, o + k * 3 + 1, none⟩ = some (.int .i64 xs[k].b) ∧ w.cell? ⟨b, o + k * 3 + 2, none⟩ = some (.int .i64 xs[k].k) := by
  obtain ⟨b, o, e, hc⟩ := h.at (by omega) k hk
  exact ⟨b, o, e, hc 0 (by omega), hc 1 (by omega), hc 2 (by omega)⟩
/-- A chain, with its steps' slice. -/
def encCk (x : Value × Cn) : List Value := [.int .i64 x.2.pair, x.1, .int .i64 x.2.comma.a, .int .i64 x.2.comma.b, .int .i64 x.2.comma.c, .int .i64 x.2.comma.d, .int .i64 x.2.comma.e, .int .i64 x.2.comma.f]
/-- A slice reads as a list of chains. -/
def ChR (w : World) (v : Value) (l : List Cn) : Prop := ∃ zs : List (Value × Cn), zs.map Prod.snd = l ∧ Sl w 8 encCk v zs ∧ ∀ z ∈ zs, Sl w 3 encSt z.1 z.2.steps
theorem ChR.ext {w w' : World} {v : Value} {l : List Cn} (h : ChR w v l) (x : Ext w w') : ChR w' v l := by
  obtain ⟨zs, a, b, c⟩ := h
  exact ⟨zs, a, b.ext x, fun z hz => (c z hz).ext x⟩
theorem ChR.nil (w : World) : ChR w (.slice none 0 0) [] := ⟨[], rfl, Sl.nil _ _ _, fun z hz => by cases hz⟩
theorem tune_len {s : Sc} {h : List V6} (hs : ScOk s) : (xsL s h (tunN s h.length)).length ≤ 200 := by
  have := tun_le s h.length
  have := hs.sz.2.1
  rw [xsL_len]; omega

theorem et_ch : ET Tryz.prog 42 46 8 80 := .mk' (z := .agg #[.int .i64 0, .slice none 0 0, .int .i64 0, .int .i64 0, .int .i64 0, .int .i64 0, .int .i64 0, .int .i64 0]) Tryz.underlying42 (by kernel_rfl) rfl (by decide) (by decide)
/-- The first k pairs' chains. -/
def brkK (s : Sc) (xs : List V6) (k : Nat) : List Cn := ((List.range k).filter (brkT s xs)).map (cnF s xs)
theorem brkK_yes {s : Sc} {xs : List V6} {k : Nat} (h : brkT s xs k = true) : brkK s xs (k + 1) = brkK s xs k ++ [cnF s xs k] := by
  unfold brkK; rw [List.range_succ, List.filter_append, List.map_append]; simp [h]
theorem brkK_no {s : Sc} {xs : List V6} {k : Nat} (h : brkT s xs k = false) : brkK s xs (k + 1) = brkK s xs k := by
  unfold brkK; rw [List.range_succ, List.filter_append, List.map_append]; simp [h]
theorem brkK_len (s : Sc) (xs : List V6) (k : Nat) : (brkK s xs k).length ≤ k := by
  unfold brkK; rw [List.length_map]
  exact Nat.le_trans (List.length_filter_le _ _) (by simp)

set_option maxRecDepth 100000 in
set_option maxHeartbeats 8000000 in
theorem broken0_walk (vn vp vc vh : Value) (s : Sc) (h : List V6) (w : World) (GL : Gl 0 w) (S : ScR w vn vp vc s) (V : Sl w 6 V6.list vh h) :
    Calls Tryz.prog 10 #[.agg #[.int .i64 s.voices, vn, vp, vc], vh] w fun e w' => ∃ v, e = .returned (.tuple #[v, .int .i64 (brkR s h).2]) ∧ ChR w' v (brkR s h).1 ∧ Ext w w' := by
  obtain ⟨an, cn, rfl, -, -, hln⟩ := S.nt.len
  obtain ⟨ap, cp, rfl, -, -, hlp⟩ := S.pr.len
  obtain ⟨ac, cc, rfl, -, -, hlc⟩ := S.cd.len
  obtain ⟨ah, ch, rfl, -, -, hlh⟩ := V.len
  have X0 : Ext w (w.alloc (.cells #[.int .i64 s.voices, .slice an s.notes.length cn, .slice ap s.pairs.length cp, .slice ac s.cads.length cc] 26)) := (by repeat (first | with_reducible exact Ext.refl _ | with_reducible assumption | with_reducible apply Ext.alloc | with_reducible apply Ext.drew | (with_reducible refine Ext.setCell ?_ (by (try simp) <;> omega) _)))
  have b0_0 := block_new w (.cells #[.int .i64 s.voices, .slice an s.notes.length cn, .slice ap s.pairs.length cp, .slice ac s.cads.length cc] 26)
  obtain ⟨W0, hW0⟩ : ∃ W, (w.alloc (.cells #[.int .i64 s.voices, .slice an s.notes.length cn, .slice ap s.pairs.length cp, .slice ac s.cads.length cc] 26)) = W := ⟨_, rfl⟩
  obtain ⟨B0, hB0⟩ : ∃ B, w.heap.size = B := ⟨_, rfl⟩
  rw [hW0] at X0 b0_0
  rw [hB0] at b0_0
  have HZ0 : Hid (w.heap.size ≤ B0) := Lib.hid (by omega)
  have HW0 := Lib.hid hW0; have HB0 := Lib.hid hB0
  clear hW0 hB0
  have CB := Lib.hid (boxS b0_0)
  have S1 := S.ext X0; have V1 := V.ext X0; have G1 := GL.ext X0
  clear S V b0_0 GL
  have TW := Lib.hid (tuned_walk _ _ _ _ s h _ S1 V1)
  have hcs := tune_cases s h
  have htok := @tune_ok s h
  have hbr : brkR s h = if (tuneR s h).2 = 0 then (brkL s (tuneR s h).1, 0) else ([], (tuneR s h).2) := rfl
  obtain ⟨⟨tl, tc⟩, htr⟩ : ∃ r, tuneR s h = r := ⟨_, rfl⟩
  rw [htr] at TW hcs htok hbr
  have HBR := Lib.hid hbr
  have HCS := Lib.hid hcs; have HTK := Lib.hid htok
  clear htr hcs htok hbr
  go_enter Tryz.func10, Tryz.ntmps10
  go_wp2_with fail
  rw [HW0.out, HB0.out]
  clear HW0 HB0
  refine TW.out.mono ?_
  rintro e W2 ⟨x1, ⟨hne, rfl⟩ | ⟨heq, g, u, q, vx, rfl, -, -, -, T, own⟩⟩
  · have HBN : Hid (brkR s h = ([], tc)) := Lib.hid (by rw [HBR.out]; exact if_neg hne)
    have t1 : (tc != 0) = true := by rw [bne_iff_ne]; exact hne
    have HX := Lib.hid (X0.trans x1)
    clear hne
    go_wp2
    go_ret2
    exact ⟨_, by rw [HBN.out] <;> first | rfl | simp, by rw [HBN.out]; exact ChR.nil _, HX.out⟩
  · obtain ⟨rfl, rfl⟩ : tl = xsL s h (tunN s h.length) ∧ tc = 0 := by simpa using heq
    have hok : ScOk s := (HTK.out rfl).1
    have hall := (HTK.out rfl).2.2
    have hlen := tune_len (h := h) hok
    have hlen2 : (xsL s h (tunN s h.length)).length ≤ s.notes.length := by rw [xsL_len]; exact tun_le _ _
    have HBN : Hid (brkR s h = (brkL s (xsL s h (tunN s h.length)), 0)) := Lib.hid (by rw [HBR.out]; exact if_pos rfl)
    obtain ⟨xs, hxs⟩ : ∃ l, xsL s h (tunN s h.length) = l := ⟨_, rfl⟩
    rw [hxs] at hall hlen hlen2 HBN own
    have XS := Lib.hid (own.sl (fun _ _ => rfl) (by omega))
    have HT := Lib.hid T
    have G2 := G1.ext x1
    have S2 := S1.ext x1
    have hpn := hok.sz.2.2.1
    have HAL := Lib.hid hall
    obtain ⟨c0, c1, c2, c3⟩ := CB.out _ x1
    clear heq hxs own T hall TW HCS HTK G1 V1
    go_wp2
    clear c0 c1 c2 c3
    go_loopw [8, 23] (fun v i wr => ∃ (k : Nat) (zs : List (Value × Cn)), k ≤ s.pairs.length ∧ i = .int .i64 k ∧ OwnR wr W2.heap.size 46 8 encCk v zs ∧ Hid (zs.map Prod.snd = brkK s xs k) ∧ (∀ z ∈ zs, OwnR wr W2.heap.size 39 3 encSt z.1 z.2.steps) ∧ Ext W2 wr) (fun _ i _ => s.pairs.length - (intOf i).toNat)
    case atStart => exact ⟨0, [], by omega, by first | rfl | trivial, OwnR.nil, Lib.hid rfl, (fun z hz => by simp at hz), Ext.refl _⟩
    case round =>
      obtain ⟨k, zs, hk, rfl, own, HZ, hst, X⟩ := hrel
      by_cases hlt : k < s.pairs.length
      case neg =>
        obtain rfl : k = s.pairs.length := by omega
        have hzl : zs.length ≤ s.pairs.length := by
          have := congrArg List.length HZ.out
          rw [List.length_map] at this
          have := brkK_len s xs s.pairs.length
          omega
        have SF := Lib.hid (own.sl (fun _ _ => rfl) (by omega))
        have HX := Lib.hid (X0.trans (x1.trans X))
        have HST := Lib.hid hst
        have HBL : Hid (brkL s xs = brkK s xs s.pairs.length) := Lib.hid rfl
        obtain ⟨va, vm, vd, rfl⟩ := own.shape
        clear own hst
        go_wp2
        go_ret2
        exact ⟨_, by rw [HBN.out] <;> first | rfl | simp, by rw [HBN.out, HBL.out]; exact ⟨zs, HZ.out, SF.out, fun z hz => (HST.out z hz).sl (fun _ _ => rfl) (by
          have hm : z.2 ∈ brkK s xs s.pairs.length := by rw [← HZ.out]; exact List.mem_map_of_mem hz
          unfold brkK at hm
          obtain ⟨i, hi, e⟩ := List.mem_map.1 hm
          obtain ⟨hi1, hi2⟩ := List.mem_filter.1 hi
          have hi1 := List.mem_range.1 hi1
          have hb := (brkT_iff.1 hi2).1
          have hp := hok.pr.1 i hi1
          unfold pairOk at hp
          have := way_len hok (Nat.le_refl _) (a := (s.P i).a) (b := (s.P i).b) ⟨by omega, by omega⟩ ⟨by omega, by omega⟩
          have h200 := hok.sz.2.1
          rw [← e]
          show (wayF s (s.P i).a (s.P i).b).length ≤ _
          omega)⟩, HX.out⟩
      case pos =>
      have hpo := hok.pr.1 k hlt
      have S3 := S2.pr.ext X
      obtain ⟨bp, op, rfl, A⟩ := Sl.pr S3 k hlt
      rw [← Sc.P_eq hlt] at A
      have hcn : cnF s xs k = ⟨k, wayF s (s.P k).a (s.P k).b, excF xs (s.P k)⟩ := rfl
      have hbT : brkT s xs k = true → (s.P k).b < xs.length := fun h => (brkT_iff.1 h).1
      obtain ⟨p, hp⟩ : ∃ p, s.P k = p := ⟨_, rfl⟩
      rw [hp] at A hpo hcn hbT
      unfold pairOk at hpo
      obtain ⟨⟨ha0, hab⟩, hbn, hpw, -, -⟩ := hpo
      obtain ⟨a, hpa⟩ : ∃ a : Nat, p.a = a := ⟨p.a.toNat, by omega⟩
      obtain ⟨b, hpb⟩ : ∃ b : Nat, p.b = b := ⟨p.b.toNat, by omega⟩
      obtain ⟨q0, q1, q2, q3, q4, q5, q6, q7, q8⟩ := A
      have X5 : Ext wr (wr.alloc (.cells #[.int .i64 p.a, .int .i64 p.b, .int .i64 p.want.a, .int .i64 p.want.b, .int .i64 p.want.c, .int .i64 p.want.d, .int .i64 p.want.e, .int .i64 p.want.f, .int .i64 p.bound] 48)) := (by repeat (first | with_reducible exact Ext.refl _ | with_reducible assumption | with_reducible apply Ext.alloc | with_reducible apply Ext.drew | (with_reducible refine Ext.setCell ?_ (by (try simp) <;> omega) _)))
      have b5_0 := block_new wr (.cells #[.int .i64 p.a, .int .i64 p.b, .int .i64 p.want.a, .int .i64 p.want.b, .int .i64 p.want.c, .int .i64 p.want.d, .int .i64 p.want.e, .int .i64 p.want.f, .int .i64 p.bound] 48)
      obtain ⟨W5, hW5⟩ : ∃ W, (wr.alloc (.cells #[.int .i64 p.a, .int .i64 p.b, .int .i64 p.want.a, .int .i64 p.want.b, .int .i64 p.want.c, .int .i64 p.want.d, .int .i64 p.want.e, .int .i64 p.want.f, .int .i64 p.bound] 48)) = W := ⟨_, rfl⟩
      obtain ⟨B5, hB5⟩ : ∃ B, wr.heap.size = B := ⟨_, rfl⟩
      rw [hW5] at X5 b5_0
      rw [hB5] at b5_0
      have HZ5 : Hid (wr.heap.size ≤ B5) := Lib.hid (by omega)
      have HW5 := Lib.hid hW5; have HB5 := Lib.hid hB5
      clear hW5 hB5
      have X5' := X.trans X5
      have BW := Lib.hid fun w' (y : Ext W5 w') => broken_walk g u q s.voices (.slice an s.notes.length cn) (.slice (some ⟨bp, op, none⟩) s.pairs.length cp) (.slice ac s.cads.length cc) vx s hok (upF s) (prodG s h (tunN s h.length)) xs hlen2 HAL.out k hlt w' (G2.ext (X5'.trans y)) (HT.out.ext (X5'.trans y)) (S2.pr.ext (X5'.trans y)) (XS.out.ext (X5'.trans y))
      have HB5C := Lib.hid b5_0
      have j1 : (0 : Int) ≤ (k : Int) := by omega
      have j2 : (k : Int) < (s.pairs.length : Int) := by omega
      have HPA := Lib.hid hpa; have HPB := Lib.hid hpb; have HCN := Lib.hid hcn; have HP := Lib.hid hp
      have OW5 := Lib.hid (own.ext X5); have OWR := Lib.hid own
      have HST := Lib.hid fun z hz => (hst z hz).ext X5
      obtain ⟨va, vm, vd, rfl⟩ := own.shape
      clear b5_0 own hst S3 hpa hpb hcn hp
      go_upto_region 8 with fail
      rw [HW5.out, HB5.out]
      clear q0 q1 q2 q3 q4 q5 q6 q7 q8 HW5 HB5
      go_wp2_with fail
      refine (BW.out _ (Ext.refl _)).mono ?_
      obtain ⟨bb, hbb⟩ : ∃ c, brkT s xs k = c := ⟨_, rfl⟩
      rw [hbb] at hbT ⊢
      have HBB := Lib.hid hbb
      clear hbb
      rintro e W6 ⟨rfl, x6⟩
      have X6' := X5'.trans x6
      cases bb with
      | false =>
        have FIN := Lib.hid (And.intro (OW5.out.ext x6) (And.intro (fun z hz => (HST.out z hz).ext x6) X6'))
        have HZ2 : Hid (zs.map Prod.snd = brkK s xs (k + 1)) := Lib.hid (by rw [brkK_no HBB.out]; exact HZ.out)
        clear X X5 X5' X6' x6 hbT
        go_wp2
        go_roundw
        case rel => exact ⟨k + 1, zs, by omega, by go_num, FIN.out.1, HZ2, FIN.out.2.1, FIN.out.2.2⟩
        case measure => simp [intOf] <;> omega
      | true =>
        have hbx : b < xs.length := by have := hbT rfl; have := HPB.out; omega
        have hax : a < xs.length := by have := HPA.out; have := HPB.out; omega
        obtain ⟨gg, hgg⟩ : ∃ z, (Value.slice va vm vd).ownBlock = z := ⟨_, rfl⟩
        obtain ⟨wy, hwy⟩ : ∃ l, wayF s a b = l := ⟨_, rfl⟩
        obtain ⟨cm, hcm⟩ : ∃ l, (xs[b].add xs[a] (-1)).add p.want (-1) = l := ⟨_, rfl⟩
        have HCE : Hid (cnF s xs k = ⟨k, wy, cm⟩) := Lib.hid (by
          rw [HCN.out, HPA.out, HPB.out, hwy]
          congr 1
          unfold excF; rw [HPA.out, HPB.out, pAt_nat hax, pAt_nat hbx]; exact hcm)
        have OW6 := OW5.out.ext x6
        have HLO : Hid (∀ i, gg = some i → W2.heap.size ≤ i ∧ i < wr.heap.size) := Lib.hid (fun i hi => World.ownsRow.lt OWR.out i (hgg.trans hi))
        have hzr := X5.size; have hz6 := x6.size; have hz2 := X.size
        have XK := Lib.hid fun w' (y : Kb gg W6 w') => (Below.trans X6' (y.below X6'.size (fun i e => (HLO.out i e).1)) : Ext W2 w')
        have WW := Lib.hid fun w' (y : Kb gg W6 w') => way_walk g u q s.voices (.slice an s.notes.length cn) (.slice (some ⟨bp, op, none⟩) s.pairs.length cp) (.slice ac s.cads.length cc) vx s (prodG s h (tunN s h.length)) hok a b (by omega) (by omega) w' (HT.out.ext (XK.out w' y))
        have EW := Lib.hid fun w' (y : Kb gg W6 w') => exc_walk g u q s.voices (.slice an s.notes.length cn) (.slice (some ⟨bp, op, none⟩) s.pairs.length cp) (.slice ac s.cads.length cc) vx s.notes.length (upF s) (prodG s h (tunN s h.length)) xs p a b HPA.out HPB.out hax hbx (Sml.of (within_at HAL.out hax)) (Sml.of (within_at HAL.out hbx)) (Sml.of hpw) w' (HT.out.ext (XK.out w' y)) (XS.out.ext (XK.out w' y))
        rw [hwy] at WW
        rw [hcm, HPA.out, HPB.out] at EW
        have nb5 : some B5 ≠ gg := fun e => by have := HLO.out _ e.symm; have := HZ5.out; omega
        have bs := block_ext x6 HB5C.out
        have zp : ∀ (j : Nat) (v : Value), (#[.int .i64 p.a, .int .i64 p.b, .int .i64 p.want.a, .int .i64 p.want.b, .int .i64 p.want.c, .int .i64 p.want.d, .int .i64 p.want.e, .int .i64 p.want.f, .int .i64 p.bound] : Array Value)[j]? = some v → ∀ w, Kb gg W6 w → w.cell? ⟨B5, j, none⟩ = some v := fun j v hv => kb_cells (block_cell bs j v hv) nb5
        have p0 := zp 0 (.int .i64 a) (by rw [← HPA.out]; rfl); have p1 := zp 1 (.int .i64 b) (by rw [← HPB.out]; rfl); have p2 := zp 2 _ rfl; have p3 := zp 3 _ rfl; have p4 := zp 4 _ rfl; have p5 := zp 5 _ rfl; have p6 := zp 6 _ rfl; have p7 := zp 7 _ rfl; have p8 := zp 8 _ rfl
        have HGG := Lib.hid hgg
        have OW6 := Lib.hid OW6
        have HST6 := Lib.hid fun z hz => (HST.out z hz).ext x6
        have hzl : zs.length ≤ k := by
          have := congrArg List.length HZ.out
          rw [List.length_map] at this
          have := brkK_len s xs k
          omega
        have HZL := Lib.hid hzl
        have HX6 := Lib.hid X6'
        clear hbT hgg hwy hcm zp bs nb5 hzl X X5 X5' X6' x6
        go_wp2_with fail
        apply Z.wp_region_ordZ [(0,.det _),(1,.det _),(2,.det _),(3,.det _),(4,.det _),(5,.det _),(6,.det _),
          (7, .new (fun v => ∃ sa sn sc, v = .slice sa sn sc) (fun v w' => OwnR w' W6.heap.size 39 3 encSt v wy ∧ ∀ i, v.ownBlock = some i → some i ≠ gg) (.slice none 0 0) ⟨_, _, _, rfl⟩),
          (8,.det _),(9,.det _),(10,.det _),
          (11, .new (fun v => ∃ sa sn sc, v = .agg #[.int .i64 k, .slice sa sn sc, .int .i64 cm.a, .int .i64 cm.b, .int .i64 cm.c, .int .i64 cm.d, .int .i64 cm.e, .int .i64 cm.f]) (fun v w' => ∃ sv, v = .agg #[.int .i64 k, sv, .int .i64 cm.a, .int .i64 cm.b, .int .i64 cm.c, .int .i64 cm.d, .int .i64 cm.e, .int .i64 cm.f] ∧ OwnR w' W6.heap.size 39 3 encSt sv wy ∧ ∀ i, sv.ownBlock = some i → some i ≠ gg) (.agg #[.int .i64 k, .slice none 0 0, .int .i64 cm.a, .int .i64 cm.b, .int .i64 cm.c, .int .i64 cm.d, .int .i64 cm.e, .int .i64 cm.f]) ⟨_, _, _, rfl⟩ [7]),
          (12, .one (fun _ => True) (fun vs v w' => OwnR w' W2.heap.size 46 8 encCk (.slice va vm vd) zs ∧ ∃ sv, Sl1 W2.heap.size 46 #[.int .i64 k, sv, .int .i64 cm.a, .int .i64 cm.b, .int .i64 cm.c, .int .i64 cm.d, .int .i64 cm.e, .int .i64 cm.f] v w' ∧ sv.oneCell' = true ∧ OwnR w' W6.heap.size 39 3 encSt sv wy ∧ ∀ i, sv.ownBlock = some i → some i ≠ gg) undef trivial [11]),
          (13, .one (fun _ => True) (fun vs v w' => ∃ sv, OwnR w' W2.heap.size 46 8 encCk v (zs ++ [(sv, ⟨k, wy, cm⟩)]) ∧ OwnR w' W6.heap.size 39 3 encSt sv wy) undef trivial)]
          14 Ext (Kb gg) (Kb gg W6) (fun w' => OwnR w' W2.heap.size 46 8 encCk (.slice va vm vd) zs) wide
          [(0,true),(1,true),(2,true),(3,true),(4,true),(5,true),(6,true),(7,true),(8,true),(9,true),(10,true),(11,true),(12,false),(13,false)]
          [(0,[]),(1,[]),(2,[]),(3,[]),(4,[]),(5,[]),(6,[]),(7,[]),(8,[]),(9,[]),(10,[]),(11,[7]),(12,[11]),(13,[])] (by kernel_rfl) (by kernel_rfl) rfl rfl (by simp [Z.Kd.new, Z.Kd.det, Z.Kd.one, Z.Kd.fn, Z.kdOf]) (by decide) (sub_kb gg) (stable_kb gg W6) (fun _ _ h k => h.ext k) (Kb.drawn _ _ _) (OW6.out.ext (Ext.drawn _ _)) ?main9
        case main9 =>
          iterate 7 (apply Z.ordX_det rfl rfl; (intro w' hw'; unfold opR; go_simp; exact ⟨Ext.refl _, rfl⟩); (simp only [List.getElem_toArray, List.getElem_cons_succ, List.getElem_cons_zero, Act.put, List.setIfInBounds_toArray, List.set_cons_succ, List.set_cons_zero]; rfl))
          apply Z.ordX_new (fun v w1 w2 ⟨h1, h2⟩ k => ⟨OwnR.stays h1 (fun i hi => k.kept i (World.ownsRow.lt h1 i hi).2 (h2 i hi)), h2⟩) rfl rfl
          · intro w' hw' _
            refine opR_call rfl (Go.Proofs.enters_of Tryz.func24 (by kernel_rfl) rfl) (by simp only [List.map_toArray, List.map_cons, List.map_nil, Act.eval, Array.getD_eq_getD_getElem?, List.getElem?_toArray, List.getElem?_cons_succ, List.getElem?_cons_zero, Option.getD_some]; rfl) ?_
            refine (WW.out w' hw').mono ?_
            rintro e w'' ⟨v, rfl, ho, hx⟩
            obtain ⟨sa, sn, sc, hv⟩ := ho.shape
            refine ⟨_, rfl, hx, ⟨sa, sn, sc, hv⟩, ho.mono hw'.size, fun i hi e => ?_⟩
            have h1 := (World.ownsRow.lt ho i hi).1
            have h2 := HLO.out i e.symm
            have h3 := hw'.size
            omega
          · intro v; (simp only [List.getElem_toArray, List.getElem_cons_succ, List.getElem_cons_zero, Act.put, List.setIfInBounds_toArray, List.set_cons_succ, List.set_cons_zero]; rfl)
          rintro _ ⟨sa, sn, sc, rfl⟩
          iterate 2 (apply Z.ordX_det rfl rfl; (intro w' hw'; unfold opR; go_simp; exact ⟨Ext.refl _, rfl⟩); (simp only [List.getElem_toArray, List.getElem_cons_succ, List.getElem_cons_zero, Act.put, List.setIfInBounds_toArray, List.set_cons_succ, List.set_cons_zero]; rfl))
          (apply Z.ordX_det rfl rfl; (intro w' hw'; refine opR_call rfl (Go.Proofs.enters_of Tryz.func25 (by kernel_rfl) rfl) (by simp only [List.map_toArray, List.map_cons, List.map_nil, Act.eval, Array.getD_eq_getD_getElem?, List.getElem?_toArray, List.getElem?_cons_succ, List.getElem?_cons_zero, Option.getD_some]; rfl) ?_; refine (EW.out w' hw').mono ?_; rintro e w'' ⟨rfl, hx⟩; exact ⟨_, rfl, hx, rfl⟩); (simp only [List.getElem_toArray, List.getElem_cons_succ, List.getElem_cons_zero, Act.put, List.setIfInBounds_toArray, List.set_cons_succ, List.set_cons_zero]; rfl))
          apply Z.ordX_new (fun v w1 w2 ⟨sv, e, h1, h2⟩ k => ⟨sv, e, OwnR.stays h1 (fun i hi => k.kept i (World.ownsRow.lt h1 i hi).2 (h2 i hi)), h2⟩) rfl rfl
          · intro w' hw' hN
            have h7 := hN 7 (by simp)
            simp only [Z.upd, Nat.reduceEqDiff, if_false, if_true] at h7
            unfold opR
            go_simp
            exact ⟨Ext.refl _, ⟨sa, sn, sc, rfl⟩, _, rfl, h7⟩
          · intro v; (simp only [List.getElem_toArray, List.getElem_cons_succ, List.getElem_cons_zero, Act.put, List.setIfInBounds_toArray, List.set_cons_succ, List.set_cons_zero]; rfl)
          rintro _ ⟨sa', sn', sc', rfl⟩
          apply Z.ordX_one (fun vs v => stable_and (fun _ _ h k => h.ext k) (fun _ _ ⟨sv, a, b, c, d⟩ k => ⟨sv, Sl1.stable _ _ _ _ _ _ a k, b, c.ext k, d⟩)) rfl rfl
          · intro w' hw' hc' hN
            have h11 := hN 11 (by simp)
            simp only [Z.upd, Nat.reduceEqDiff, if_false, if_true] at h11
            obtain ⟨sv, he, h1, h2⟩ := h11
            obtain rfl : sv = .slice sa' sn' sc' := by simpa using he.symm
            unfold opR
            go_simp
            exact ⟨(Ext.alloc' _ _).kb gg, hc'.alloc _, _, Sl1.new w' _ _ (by have := hw'.size; omega), rfl, h1.alloc _, h2⟩
          · intro v; (simp only [List.getElem_toArray, List.getElem_cons_succ, List.getElem_cons_zero, Act.put, List.setIfInBounds_toArray, List.set_cons_succ, List.set_cons_zero]; rfl)
          intro sv _
          apply Z.ordX_one (fun vs v => (fun _ _ ⟨sv, a, b⟩ k => ⟨sv, a.ext k, b.ext k⟩)) rfl rfl
          · rintro w' hw' ⟨ho, sv, ⟨b7, rfl, hbb, hrow⟩, h1c, hsv, hsg⟩ _
            refine opR_own_app et_ch _ _ rfl ho rfl [(sv, (⟨k, wy, cm⟩ : Cn))] ⟨b7, 0, none⟩ 1 rfl (by simp [encCk]) (fun j u hu => row_cells hrow j u hu) (by
              intro y hy u hu
              rw [List.mem_singleton.1 hy] at hu
              simp only [encCk, List.mem_cons, List.not_mem_nil, or_false] at hu
              rcases hu with rfl | rfl | rfl | rfl | rfl | rfl | rfl | rfl
              all_goals first | exact h1c | rfl) (by have := HZL.out; simp; omega) (by have := hw'.size; omega) ?_
            intro v' w4 hown' hb' happ'
            have hk : Kb gg w' w4 := HGG.out ▸ happ'.kb
            exact ⟨hk, trivial, sv, hown', OwnR.stays hsv (fun i hi => hk.kept i (World.ownsRow.lt hsv i hi).2 (hsg i hi))⟩
          · intro v; (simp only [List.getElem_toArray, List.getElem_cons_succ, List.getElem_cons_zero, Act.put, List.setIfInBounds_toArray, List.set_cons_succ, List.set_cons_zero]; rfl)
          intro av _
          refine Z.ordX_nil (l := [_]) rfl ?_
          rintro w9 hw9 ⟨sw, ho9, hs9⟩ -
          have HZ2 : Hid ((zs ++ [(sw, (⟨k, wy, cm⟩ : Cn))]).map Prod.snd = brkK s xs (k + 1)) := Lib.hid (by rw [List.map_append, HZ.out, brkK_yes HBB.out, HCE.out]; rfl)
          have hst9 : ∀ z ∈ zs ++ [(sw, (⟨k, wy, cm⟩ : Cn))], OwnR w9 W2.heap.size 39 3 encSt z.1 z.2.steps := fun z hz => by
            rcases List.mem_append.1 hz with h | h
            · have o := HST6.out z h
              refine OwnR.stays o (fun i hi => hw9.kept i (World.ownsRow.lt o i hi).2 (fun e => ?_))
              obtain ⟨cs, h1⟩ := o.kind hi
              obtain ⟨cs', h2⟩ := OW6.out.kind (HGG.out.trans e.symm)
              rw [h1] at h2; simp at h2
            · rw [List.mem_singleton.1 h]; exact hs9.mono (by omega)
          have FIN := Lib.hid (And.intro ho9 (And.intro hst9 (XK.out w9 hw9)))
          clear ho9 hs9 hst9 hw9 p0 p1 p2 p3 p4 p5 p6 p7 p8
          go_wp2
          go_roundw
          case rel => exact ⟨k + 1, _, by omega, by go_num, FIN.out.1, HZ2, FIN.out.2.1, FIN.out.2.2⟩
          case measure => simp [intOf] <;> omega
end Go.Proofs.YtgfaiihekibcbaaGreatDoor
