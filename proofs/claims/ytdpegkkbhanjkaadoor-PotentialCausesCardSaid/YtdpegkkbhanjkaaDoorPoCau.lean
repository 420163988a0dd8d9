/-
  Proved: 'PotentialCauses' returns true for every input and leaves its arguments as they were. No condition.
-/
import Derived.Test.YtdpegkkbhanjkaaDoorPoH
import Derived.Test.YtdpegkkbhanjkaaDoorR23A
import Derived.Test.YtdpegkkbhanjkaaDoorR19E
import Derived.Test.YtdpegkkbhanjkaaDoorArgL
import Derived.Test.YtdpegkkbhanjkaaDoorLdB
import Derived.Deep.CutRange
set_option linter.unusedVariables false
namespace Go.Proofs.YtdpegkkbhanjkaaDoor
open Go.RowKit Go.Sx Go.Sx.Sz Go.Sx.Sc Go.Sx.Po Go.ChangeShapes Go.WideShapes Go.ChangeAt

def tup0 : List Value → Value := fun vs => match vs.headD undef with | .tuple cs => cs.getD 0 undef | _ => undef
/-- A tied note has the pitch of the note before. -/
theorem bef_pitch {s : Sc} (hok : ScOk s) (h : List V6) {n m : Nat} (hn : n < m) (hm : m ≤ s.notes.length) : befR s n = (-1, 0) ∨ ∃ j : Nat, befR s n = ((j : Int), 0) ∧ j < n ∧ (xsL s h m).getD n V6.zero = (xsL s h m).getD j V6.zero := by
  have hnl : n < s.notes.length := by omega
  have hb : befR s n = ((if (s.N n).tied = true then aheadF s n else -1), 0) := by
    unfold befR; rw [if_pos ⟨scB_iff.2 hok, by omega, by omega⟩, Int.toNat_natCast]; rfl
  rw [hb]
  by_cases ht : (s.N n).tied = true
  · rw [if_pos ht]
    obtain ⟨j, e, hj, -⟩ := ahead_tie hok hnl ht
    right
    refine ⟨j, by rw [e], hj, ?_⟩
    have hx := x_step hok h hn hm
    have hu : upF s n = ⟨j, n, 1⟩ := by unfold upF; rw [if_pos ht, e]
    have hp : prodF s h n = V6.zero := by unfold prodF; rw [hu]; simp only; rw [if_neg (by decide)]; unfold wantF; rw [if_pos ht]
    rw [hu, hp] at hx
    unfold pAt at hx
    simp only at hx
    rw [if_neg (by omega), if_neg (by omega), Int.toNat_natCast, Int.toNat_natCast] at hx
    rw [hx]
    refine V6.ext' fun k hk => ?_
    rw [V6.add_get _ _ _ hk, zero_get hk]; omega
  · rw [if_neg ht]; exact .inl rfl

set_option maxRecDepth 100000 in
set_option maxHeartbeats 16000000 in
theorem potcau_law (vn vp vc vh : Value) (s : Sc) (h : List V6) (an' : Nat) (ha : an' ≤ 255) (w : World) (GL : Gl 0 w) (S : ScR w vn vp vc s) (V : Sl w 6 V6.list vh h) (hhl : h.length * 48 ≤ 140737488351232) :
    Calls Tryd.prog 3 #[.agg #[.int .i64 s.voices, vn, vp, vc], vh, .int .u8 an'] w fun e w' => e = .returned (.bool true) ∧ Ext w w' := by
  obtain ⟨an, cn, rfl, -, -, hln⟩ := S.nt.len
  obtain ⟨ap, cp, rfl, -, -, hlp⟩ := S.pr.len
  obtain ⟨ac, cc, rfl, -, -, hlc⟩ := S.cd.len
  obtain ⟨ah, ch, rfl, hch, -, hlh⟩ := V.len
  have TW := @tune_walk (.slice an s.notes.length cn) (.slice ap s.pairs.length cp) (.slice ac s.cads.length cc) (.slice ah h.length ch) s h
  have htc := tune_cases s h
  have htk := @tune_take s h
  have hto := @tune_ok s h
  obtain ⟨⟨tl, te⟩, ht⟩ : ∃ z, tuneR s h = z := ⟨_, rfl⟩
  rw [ht] at TW htc htk hto
  simp only at TW htc htk hto
  have HTW := Lib.hid TW; have HTC := Lib.hid htc; have HTK := Lib.hid htk; have HTO := Lib.hid hto
  clear ht TW htc htk hto
  have X0 : Ext w (w.alloc (.cells #[.int .i64 s.voices, .slice an s.notes.length cn, .slice ap s.pairs.length cp, .slice ac s.cads.length cc] 26)) := (by repeat (first | with_reducible exact Ext.refl _ | with_reducible assumption | with_reducible apply Ext.alloc | with_reducible apply Ext.drew | (with_reducible refine Ext.setCell ?_ (by (try simp) <;> omega) _)))
  have b0_0 := block_new w (.cells #[.int .i64 s.voices, .slice an s.notes.length cn, .slice ap s.pairs.length cp, .slice ac s.cads.length cc] 26)
  obtain ⟨W0, hW0⟩ : ∃ W, (w.alloc (.cells #[.int .i64 s.voices, .slice an s.notes.length cn, .slice ap s.pairs.length cp, .slice ac s.cads.length cc] 26)) = W := ⟨_, rfl⟩
  obtain ⟨B0, hB0⟩ : ∃ B, w.heap.size = B := ⟨_, rfl⟩
  rw [hW0] at X0 b0_0
  rw [hB0] at b0_0
  have HZ0 : Hid (w.heap.size ≤ B0) := Lib.hid (by omega)
  have HW0 := Lib.hid hW0; have HB0 := Lib.hid hB0
  clear hW0 hB0
  have CB := Lib.hid (boxS b0_0)
  have S1 := S.ext X0; have V1 := V.ext X0; have G1 := GL.ext X0
  have HCH := Lib.hid hch
  clear S V GL b0_0 hch
  go_enter Tryd.func3, Tryd.ntmps3
  go_wp2_with fail
  rw [HW0.out, HB0.out]
  clear HW0 HB0
  refine (head_walk _ G1).mono ?_
  rintro e w1 ⟨rfl, x1⟩
  obtain ⟨c0, c1, c2, c3⟩ := CB.out _ x1
  go_wp2_with fail
  refine (rfew_walk _ _ _ s _ (S1.ext x1)).mono ?_
  obtain ⟨fw, hfw⟩ : ∃ z, (decide (s.notes.length ≤ 40) && decide (s.pairs.length ≤ 60)) = z := ⟨_, rfl⟩
  rw [hfw]
  clear hfw
  rintro e w2 ⟨rfl, y2⟩
  have x2 := x1.trans y2
  clear c0 c1 c2 c3
  cases fw with
  | false =>
    have HX := Lib.hid (X0.trans x2)
    go_wp2
    go_ret
    exact ⟨by first | rfl | simp, HX.out⟩
  | true =>
  obtain ⟨c0, c1, c2, c3⟩ := CB.out _ x2
  go_wp2_with fail
  refine (HTW.out _ (S1.ext x2) (V1.ext x2)).mono ?_
  rintro e w3 ⟨v3, rfl, T3, y3⟩
  have x3 := x2.trans y3
  clear c0 c1 c2 c3
  by_cases hte : te = 0
  case neg =>
    obtain rfl : tl = [] := by
      rcases HTC.out with ⟨a, -⟩ | ⟨-, b⟩
      · exact absurd a hte
      · exact b
    obtain ⟨a3, q3, rfl, -, -, -⟩ := T3.len
    have t1 : (te != 0) = true := by rw [bne_iff_ne]; exact hte
    have HX := Lib.hid (X0.trans x3)
    clear hte T3
    go_wp2
    go_ret
    exact ⟨by first | rfl | simp, HX.out⟩
  case pos =>
  subst hte
  obtain ⟨hok, rfl, -⟩ := HTO.out rfl
  have hmod : an' % (h.length + 1) ≤ h.length := by have := Nat.mod_lt an' (show 0 < h.length + 1 by omega); omega
  have emod : (an' : Int) % ((h.length : Int) + 1) = ((an' % (h.length + 1) : Nat) : Int) := by push_cast; rfl
  obtain ⟨k, hkk⟩ : ∃ k, an' % (h.length + 1) = k := ⟨_, rfl⟩
  rw [hkk] at hmod emod
  have htk := HTK.out rfl k hmod
  obtain ⟨m, hm⟩ : ∃ z, tunN s h.length = z := ⟨_, rfl⟩
  obtain ⟨mk, hmk⟩ : ∃ z, tunN s k = z := ⟨_, rfl⟩
  have hmkm : mk ≤ m := by rw [← hm, ← hmk]; exact tun_mono s hmod
  have hmn : m ≤ s.notes.length := by rw [← hm]; exact tun_le s _
  have hn200 := hok.sz.2.1
  have htun := fun n (hn : n < s.notes.length) => tun_iff hok.nt k hn
  have hbef := fun n (hn : n < m) => bef_pitch hok h hn hmn
  have hxl : (xsL s h m).length = m := xsL_len _ _
  rw [hm] at T3 htk
  rw [hmk] at htk htun
  obtain ⟨xs, hxs⟩ : ∃ l, xsL s h m = l := ⟨_, rfl⟩
  rw [hxs] at T3 htk hxl
  simp only [hxs] at hbef
  have HTU := Lib.hid htun; have HBE := Lib.hid hbef; have HXL := Lib.hid hxl; have HTT := Lib.hid htk
  have HOK := Lib.hid hok
  obtain ⟨a3, q3, rfl, hq3, -, -⟩ := T3.len
  have hne0 : ¬ ((h.length : Int) + 1 = 0) := by omega
  have hgt : (0 : Int) < (h.length : Int) + 1 := by omega
  have E1 : IntKind.i64.wrap ((h.length : Int) + 1) = (h.length : Int) + 1 := IntWalk.i64_in _ (by omega)
  clear hkk hm hmk hok htk htun hbef hxs hxl
  go_upto_region 8 with fail
  try rw [emod]
  obtain ⟨c0, c1, c2, c3⟩ := CB.out _ x3
  have z0 := ext_cells c0; have z1 := ext_cells c1; have z2 := ext_cells c2; have z3 := ext_cells c3
  have VC := V1.cut (by omega) 0 k (Nat.zero_le _) hmod
  rw [List.drop_zero] at VC
  obtain ⟨vk, hvk⟩ : ∃ v, sliced ah 0 k ch 6 = v := ⟨_, rfl⟩
  rw [hvk] at VC
  have TK := Lib.hid fun w' (y : Ext w3 w') => @tune_walk (.slice an s.notes.length cn) (.slice ap s.pairs.length cp) (.slice ac s.cads.length cc) vk s (h.take k) w' (S1.ext (x3.trans y)) (VC.ext (x3.trans y))
  rw [HTT.out] at TK
  have hch := HCH.out
  have i1 : (0 : Int) ≤ (k : Int) := by omega
  have i2 : (k : Int) ≤ (ch : Int) := by omega
  have HVK := Lib.hid hvk
  clear c0 c1 c2 c3 E1 emod hne0 hgt hvk VC
  apply Z.wp_region_ordZ [(0,.det _),(1,.det _),(2,.det _),(3,.det (sliced ah 0 k ch 6)),
    (4, .new (fun u => ∃ a n c, u = .tuple #[.slice a n c, .int .i64 0]) (fun u w' => ∃ v, u = .tuple #[v, .int .i64 0] ∧ Sl w' 6 V6.list v (xs.take mk)) (.tuple #[.slice none 0 0, .int .i64 0]) ⟨_, _, _, rfl⟩),
    (5, .fn [4] (fun vs => vs.headD undef)), (6, .fn [5] tup0), (7,.det _), (8, .fn [6] (fun vs => vs.headD undef)), (9,.det _)] 10 Ext Ext (Ext w3) (fun _ => True) wide
    [(0,true), (1,true), (2,true), (3,true), (4,true), (5,true), (6,true), (7,true), (8,true), (9,true)] [(0,[]),(1,[]),(2,[]),(3,[]),(4,[]),(5,[4]),(6,[5]),(7,[]),(8,[6]),(9,[])] (by kernel_rfl) (by kernel_rfl) rfl rfl (by simp [Z.Kd.new, Z.Kd.det, Z.Kd.fn, Z.kdOf]) (by decide) (fun _ _ h => h) (stable_ext _) (fun _ _ _ _ => trivial) (Ext.drawn _ _) trivial ?main8
  case main8 =>
    iterate 3 (apply Z.ordX_det rfl rfl; (intro w' hw'; unfold opR; go_simp; exact ⟨Ext.refl _, rfl⟩); (simp only [List.getElem_toArray, List.getElem_cons_succ, List.getElem_cons_zero, Act.put, List.setIfInBounds_toArray, List.set_cons_succ, List.set_cons_zero]; rfl))
    apply Z.ordX_det rfl rfl
    · intro w' hw'
      unfold opR
      go_simp
      exact ⟨Ext.refl _, rfl⟩
    · (simp only [List.getElem_toArray, List.getElem_cons_succ, List.getElem_cons_zero, Act.put, List.setIfInBounds_toArray, List.set_cons_succ, List.set_cons_zero]; rfl)
    apply Z.ordX_new (fun v w1 w2 ⟨v', e, h1⟩ k => ⟨v', e, h1.ext k⟩) rfl rfl
    · intro w' hw' _
      refine opR_call rfl (Go.Proofs.enters_of Tryd.func12 (by kernel_rfl) rfl) (by simp only [List.map_toArray, List.map_cons, List.map_nil, Act.eval, Array.getD_eq_getD_getElem?, List.getElem?_toArray, List.getElem?_cons_succ, List.getElem?_cons_zero, Option.getD_some]; rfl) ?_
      rw [HVK.out]
      refine (TK.out w' hw').mono ?_
      rintro e w'' ⟨v, rfl, hv, hx⟩
      obtain ⟨a, c, rfl, -, -, -⟩ := hv.len
      exact ⟨_, rfl, hx, ⟨_, _, _, rfl⟩, _, rfl, hv⟩
    · intro v; (simp only [List.getElem_toArray, List.getElem_cons_succ, List.getElem_cons_zero, Act.put, List.setIfInBounds_toArray, List.set_cons_succ, List.set_cons_zero]; rfl)
    rintro _ ⟨ya, yn, yc, rfl⟩
    apply Z.ordX_fn (v := .tuple #[.slice ya yn yc, .int .i64 0]) rfl rfl
    · intro w' hw' _; unfold opR; go_simp; exact ⟨Ext.refl _, rfl⟩
    · rfl
    · (simp only [List.getElem_toArray, List.getElem_cons_succ, List.getElem_cons_zero, Act.put, List.setIfInBounds_toArray, List.set_cons_succ, List.set_cons_zero]; rfl)
    apply Z.ordX_fn (v := .slice ya yn yc) rfl rfl
    · intro w' hw' _; unfold opR; go_simp; exact ⟨Ext.refl _, rfl⟩
    · rfl
    · (simp only [List.getElem_toArray, List.getElem_cons_succ, List.getElem_cons_zero, Act.put, List.setIfInBounds_toArray, List.set_cons_succ, List.set_cons_zero]; rfl)
    iterate 1 (apply Z.ordX_det rfl rfl; (intro w' hw'; unfold opR; go_simp; exact ⟨Ext.refl _, rfl⟩); (simp only [List.getElem_toArray, List.getElem_cons_succ, List.getElem_cons_zero, Act.put, List.setIfInBounds_toArray, List.set_cons_succ, List.set_cons_zero]; rfl))
    apply Z.ordX_fn (v := .slice ya yn yc) rfl rfl
    · intro w' hw' _; unfold opR; go_simp; exact ⟨Ext.refl _, rfl⟩
    · rfl
    · (simp only [List.getElem_toArray, List.getElem_cons_succ, List.getElem_cons_zero, Act.put, List.setIfInBounds_toArray, List.set_cons_succ, List.set_cons_zero]; rfl)
    iterate 1 (apply Z.ordX_det rfl rfl; (intro w' hw'; unfold opR; go_simp; exact ⟨Ext.refl _, rfl⟩); (simp only [List.getElem_toArray, List.getElem_cons_succ, List.getElem_cons_zero, Act.put, List.setIfInBounds_toArray, List.set_cons_succ, List.set_cons_zero]; rfl))
    refine Z.ordX_nil (l := []) rfl ?_
    rintro w4 x4 - ⟨-, vy, hvy, Y4⟩
    obtain rfl : .slice ya yn yc = vy := by simpa using hvy
    rw [HVK.out]
    have x4' := x3.trans x4
    have T4 := T3.ext x4
    have hyl : (xs.take mk).length = mk := by have := HXL.out; rw [List.length_take]; omega
    obtain ⟨ya', yc', eY, hyc, -, -⟩ := Y4.len
    rw [hyl] at eY hyc
    obtain ⟨rfl, rfl, rfl⟩ : ya = ya' ∧ yn = mk ∧ yc = yc' := by simpa using eY
    obtain ⟨d0, d1, d2, d3⟩ := CB.out _ x4'
    have u1 : decide (s.notes.length < xs.length) = false := decide_eq_false (by have := HXL.out; omega)
    have u2 : decide (xs.length < yn) = false := decide_eq_false (by have := HXL.out; omega)
    have i3 : (0 : Int) ≤ (yn : Int) := by omega
    have i4 : (yn : Int) ≤ (q3 : Int) := by have := HXL.out; omega
    have HYL := Lib.hid hyl
    clear z0 z1 z2 z3 hvy eY i1 i2 hch
    go_wp2_with fail
    refine (rsamev_walk _ _ (xs.take yn) _ Y4 (T4.front yn (by have := HXL.out; omega))).mono ?_
    rintro e w5 ⟨rfl, x5⟩
    have X5 := x4'.trans x5
    have HT5 := Lib.hid (T4.ext x5)
    have HX5 := Lib.hid X5
    have HQ := Lib.hid hq3
    clear d0 d1 d2 d3 u1 u2 i3 i4 T3 T4 Y4 x3 x4 x4' x5 X5 y3 hyl hq3
    go_wp2
    go_loopw [7, 13] (fun up i wr => ∃ n : Nat, n ≤ xs.length ∧ up = .bool true ∧ i = .int .i64 n ∧ Ext w5 wr) (fun _ i _ => xs.length - (intOf i).toNat)
    case atStart => exact ⟨0, by omega, by first | rfl | trivial, by first | rfl | trivial, Ext.refl _⟩
    case round =>
      obtain ⟨n, hn, rfl, rfl, X⟩ := hrel
      have X5 := HX5.out.trans X
      by_cases hlt : n < xs.length
      case neg =>
        have HX := Lib.hid (X0.trans X5)
        obtain rfl : n = xs.length := by omega
        go_wp2
        go_ret
        exact ⟨by first | rfl | simp, HX.out⟩
      case pos =>
      obtain ⟨c0, c1, c2, c3⟩ := CB.out _ X5
      have hnl : n < s.notes.length := by have := HXL.out; omega
      have hpar : parR s n = (upF s n, 0) := by unfold parR; rw [if_pos ⟨scB_iff.2 HOK.out, by omega, by omega⟩, Int.toNat_natCast]
      have hup := up_lt HOK.out hnl
      have hupb := upF_b (s := s) n
      have hbe := HBE.out n (by have := HXL.out; omega)
      have htu := HTU.out n hnl
      obtain ⟨⟨pa, pb, pk⟩, hpp⟩ : ∃ p, upF s n = p := ⟨_, rfl⟩
      rw [hpp] at hpar hup hupb
      obtain rfl : pb = n := hupb
      have PW := Lib.hid (parent_walk _ _ _ s n _ (S1.ext X5))
      rw [hpar] at PW
      clear hpp hpar
      go_wp2_with fail
      refine PW.out.mono ?_
      rintro e w6 ⟨rfl, x6⟩
      have u3 : ((n : Int) != (n : Int)) = false := by rw [bne_eq_false_iff_eq]
      have u4 : decide (pa < -1) = false := decide_eq_false (by have := hup.1; omega)
      have u5 : decide ((n : Int) ≤ pa) = false := decide_eq_false (by have := hup.2.1; omega)
      have X7 : Ext w6 (w6.alloc (.cells #[.int .i64 pa, .int .i64 n, .int .i64 pk] 35)) := (by repeat (first | with_reducible exact Ext.refl _ | with_reducible assumption | with_reducible apply Ext.alloc | with_reducible apply Ext.drew | (with_reducible refine Ext.setCell ?_ (by (try simp) <;> omega) _)))
      have b7_0 := block_new w6 (.cells #[.int .i64 pa, .int .i64 n, .int .i64 pk] 35)
      obtain ⟨W7, hW7⟩ : ∃ W, (w6.alloc (.cells #[.int .i64 pa, .int .i64 n, .int .i64 pk] 35)) = W := ⟨_, rfl⟩
      obtain ⟨B7, hB7⟩ : ∃ B, w6.heap.size = B := ⟨_, rfl⟩
      rw [hW7] at X7 b7_0
      rw [hB7] at b7_0
      have HZ7 : Hid (w6.heap.size ≤ B7) := Lib.hid (by omega)
      have HW7 := Lib.hid hW7; have HB7 := Lib.hid hB7
      clear hW7 hB7
      have k0 := block_cell b7_0 0 _ rfl; have k1 := block_cell b7_0 1 _ rfl
      have X7 := X5.trans (x6.trans X7)
      clear c0 c1 c2 c3 hup b7_0
      obtain ⟨c0, c1, c2, c3⟩ := CB.out _ X7
      go_upto_region 15 with fail
      rw [HW7.out, HB7.out]
      clear HW7 HB7
      go_wp2_with fail
      refine (rbefore19_walk _ _ _ s n _ (S1.ext X7)).mono ?_
      obtain ⟨jb, hjb, hcase⟩ : ∃ jb : Int, befR s n = (jb, 0) ∧ (jb = -1 ∨ ∃ j : Nat, jb = j ∧ j < n ∧ xs.getD n V6.zero = xs.getD j V6.zero) := by
        rcases hbe with hbe | ⟨j, hbe, hj, hxe⟩
        · exact ⟨-1, hbe, .inl rfl⟩
        · exact ⟨j, hbe, .inr ⟨j, rfl, hj, hxe⟩⟩
      rw [hjb]
      have HCA := Lib.hid hcase
      clear hjb hcase hbe
      rintro e w8 ⟨rfl, x8⟩
      have X8 := X7.trans x8
      have HX8 := Lib.hid X8
      have HX58 : Hid (Ext w5 w8) := Lib.hid (by
        refine X.trans ?_
        exact (x6.trans (by assumption)).trans x8)
      have HTU2 := Lib.hid htu
      clear c0 c1 c2 c3 k0 k1 u3 u4 u5 htu
      obtain ⟨qq, hqq⟩ : ∃ z, decide (0 ≤ jb) = z := ⟨_, rfl⟩
      have HQQ := Lib.hid hqq
      clear hqq
      go_upto_region 18 with fail
      go_cut [124] from 114 to 124 (fun s124 wx => s124 = .bool qq ∧ w8 = wx)
      case first =>
        rcases HCA.out with rfl | ⟨j, rfl, hj, hxe⟩
        · have HQ2 : Hid (qq = false) := Lib.hid (by rw [← HQQ.out]; rfl)
          have v1 : decide ((0 : Int) ≤ -1) = false := rfl
          go_wp2_with fail
          go_meet
          exact ⟨by rw [HQ2.out], rfl⟩
        · have v1 : decide ((0 : Int) ≤ (j : Int)) = true := decide_eq_true (by omega)
          have v2 : decide (j < n) = true := decide_eq_true hj
          have HQ2 : Hid (qq = true) := Lib.hid (by rw [← HQQ.out]; exact v1)
          clear hj hxe
          go_wp2_with fail
          go_meet
          exact ⟨by rw [HQ2.out], rfl⟩
      obtain ⟨rfl, hww⟩ := hcut
      subst hww
      go_upto_if 124 with fail
      go_cut [7] from 125 to 136 (fun up wx => up = .bool true ∧ Ext w8 wx)
      case first =>
        rcases HCA.out with rfl | ⟨j, rfl, hj, hxe⟩
        · obtain rfl : qq = false := by rw [← HQQ.out]; rfl
          go_wp2
          go_meet
          exact ⟨rfl, Ext.refl _⟩
        · obtain rfl : qq = true := by rw [← HQQ.out]; exact decide_eq_true (by omega)
          have T8 := HT5.out.ext HX58.out
          have v1 : decide ((0 : Int) ≤ (j : Int)) = true := decide_eq_true (by omega)
          have v2 : decide (j < n) = true := decide_eq_true hj
          obtain ⟨ba, oa, e1, r0, r1, r2, r3, r4, r5⟩ := Sl.vec T8 n hlt
          subst e1
          obtain ⟨ba', oa', e1, t0, t1, t2, t3, t4, t5⟩ := Sl.vec T8 j (by omega)
          obtain ⟨rfl, rfl⟩ : ba = ba' ∧ oa = oa' := by simpa using e1
          have hxe' : xs[j]'(by omega) = xs[n] := by
            rw [List.getD_eq_getElem?_getD, List.getD_eq_getElem?_getD, List.getElem?_eq_getElem hlt, List.getElem?_eq_getElem (show j < xs.length by omega)] at hxe
            exact hxe.symm
          rw [hxe'] at t0 t1 t2 t3 t4 t5
          obtain ⟨x, hx⟩ : ∃ x, xs[n] = x := ⟨_, rfl⟩
          rw [hx] at r0 r1 r2 r3 r4 r5 t0 t1 t2 t3 t4 t5
          have VQ : ∀ w', (Op.equalIn 10000 41 (.agg #[.int .i64 x.a, .int .i64 x.b, .int .i64 x.c, .int .i64 x.d, .int .i64 x.e, .int .i64 x.f]) (.agg #[.int .i64 x.a, .int .i64 x.b, .int .i64 x.c, .int .i64 x.d, .int .i64 x.e, .int .i64 x.f])).run Tryd.prog w' = .ok true w' := fun w' => by
            have := run_eq_v6 (P := Tryd.prog) Tryd.underlying41 Tryd.underlying3 (by kernel_rfl) x x 9998 w'
            rwa [decide_eq_true rfl] at this
          have i1 : (0 : Int) ≤ (n : Int) := by omega
          have i2 : (n : Int) < (xs.length : Int) := by omega
          have i3 : (0 : Int) ≤ (j : Int) := by omega
          have i4 : (j : Int) < (xs.length : Int) := by omega
          clear e1 hx hxe hxe' T8 X8
          go_wp2
          go_quiet (fail)
          go_wp2
          go_meet
          exact ⟨by first | rfl | simp, (Ext.refl _).drewN _⟩
      case rest =>
        obtain ⟨hup, hxw⟩ := hcut
        obtain ⟨w9, rfl⟩ : ∃ z : World, z = wc := ⟨_, rfl⟩
        subst hup
        have X9 := HX8.out.trans hxw
        obtain ⟨c0, c1, c2, c3⟩ := CB.out _ X9
        obtain ⟨bn, on, rfl, A⟩ := Sl.nt (S1.nt.ext X9) n hnl
        rw [← Sc.N_eq hnl] at A
        obtain ⟨y, hy⟩ : ∃ y, s.N n = y := ⟨_, rfl⟩
        rw [hy] at A
        have htu3 := HTU2.out
        rw [hy] at htu3
        have g1 := ext_cells A.c1
        have z0 := ext_cells c0; have z1 := ext_cells c1; have z2 := ext_cells c2; have z3 := ext_cells c3
        have SW := Lib.hid fun w' (e : Ext w9 w') => rof19_walk _ _ _ s y.f w' (S1.ext (X9.trans e))
        obtain ⟨sc, hsc⟩ : ∃ z, secF s y.f = z := ⟨_, rfl⟩
        rw [hsc] at SW htu3
        obtain ⟨bb, hbb⟩ : ∃ z, decide (sc < k) = z := ⟨_, rfl⟩
        have hbb2 : decide (n < yn) = bb := by rw [← hbb]; exact decide_eq_decide.2 htu3
        have eb : (bb == bb) = true := beq_self_eq_true _
        have i1 : (0 : Int) ≤ (n : Int) := by omega
        have i2 : (n : Int) < (s.notes.length : Int) := by omega
        have HXF := Lib.hid (HX58.out.trans hxw)
        clear A hy hsc htu3 c0 c1 c2 c3 hxw
        go_upto_region 20 with fail
        refine wp_region_ord [(0,true), (1,true), (2,true), (3,true), (4,true), (5,true), (6,true), (7,true), (8,true), (9,true), (10,true), (11,true), (12,true), (13,true), (14,true), (15,true), (16,true), (17,true)] 18 Ext (Ext w9) wide (by kernel_rfl) (stable_ext _) (Ext.drawn _ _) ?_
        iterate 9 (first | (apply wpOrd_no rfl; rfl; (simp only [List.getElem_toArray, List.getElem_cons_succ, List.getElem_cons_zero, Act.put, List.setIfInBounds_toArray, List.set_cons_succ, List.set_cons_zero]; rfl)) | (apply wpOrd_yes rfl; rfl; (intro w' hw'; unfold opR; go_simp; exact ⟨Ext.refl _, rfl⟩); (simp only [List.getElem_toArray, List.getElem_cons_succ, List.getElem_cons_zero, Act.put, List.setIfInBounds_toArray, List.set_cons_succ, List.set_cons_zero]; rfl)))
        (apply wpOrd_yes rfl (by rfl); (intro w' hw'; refine opR_call rfl (Go.Proofs.enters_of Tryd.func16 (by kernel_rfl) rfl) (by simp only [List.map_toArray, List.map_cons, List.map_nil, Act.eval, Array.getD_eq_getD_getElem?, List.getElem?_toArray, List.getElem?_cons_succ, List.getElem?_cons_zero, Option.getD_some]; rfl) ?_; refine (SW.out _ hw').mono ?_; rintro e w'' ⟨rfl, hx⟩; exact ⟨_, rfl, hx, rfl⟩); (simp only [List.getElem_toArray, List.getElem_cons_succ, List.getElem_cons_zero, Act.put, List.setIfInBounds_toArray, List.set_cons_succ, List.set_cons_zero]; rfl))
        iterate 8 (first | (apply wpOrd_no rfl; rfl; (simp only [List.getElem_toArray, List.getElem_cons_succ, List.getElem_cons_zero, Act.put, List.setIfInBounds_toArray, List.set_cons_succ, List.set_cons_zero]; rfl)) | (apply wpOrd_yes rfl; rfl; (intro w' hw'; unfold opR; go_simp; exact ⟨Ext.refl _, rfl⟩); (simp only [List.getElem_toArray, List.getElem_cons_succ, List.getElem_cons_zero, Act.put, List.setIfInBounds_toArray, List.set_cons_succ, List.set_cons_zero]; rfl)))
        refine wpOrd_nil (l := [_]) rfl ?_
        intro w10 x10
        have HXG := Lib.hid (HXF.out.trans x10)
        clear g1 z0 z1 z2 z3 x10 X9
        go_wp2
        go_roundw
        case rel => exact ⟨n + 1, by omega, by first | rfl | simp, by go_num, HXG.out⟩
        case measure => simp [intOf] <;> omega

theorem potentialCauses_args (H : Type) (enc : TypeId × Value → H) (W : World) (base : Nat) (vs : List Value) (ds : List (DataW H)) (_ : ∀ k, (OpenSpec.ofChange Rows.potentialCausesSpec).cond = some k → k H ds = true) (hL : laidMetH Tryd.prog Rows.potentialCausesRow.laid W) (hA : Args enc Tryd.prog W base Tryd.f3.params.toList vs ds) :
    Calls Tryd.prog 3 vs.toArray W fun e W' => e = .returned (.bool true) ∧ Ext W W' := by
  rw [Tryd.params3] at hA
  obtain ⟨v0, _, d0, _, rfl, rfl, h0, hA⟩ := hA.cons
  obtain ⟨v1, _, d1, _, rfl, rfl, h1, hA⟩ := hA.cons
  obtain ⟨v2, _, d2, _, rfl, rfl, h2, hA⟩ := hA.cons
  obtain ⟨rfl, rfl⟩ := hA.nil
  obtain ⟨s0, vn0, vp0, vc0, rfl, S0⟩ := arg_score h0
  obtain ⟨l1, S1, n1⟩ := arg_vecs h1
  obtain ⟨k2, rfl, b2⟩ := h2.int Tryd.underlying5
  exact (by obtain ⟨k, rfl⟩ : ∃ k : Nat, k2 = (k : Int) := ⟨k2.toNat, by have := b2.1; have h0 : (0 : Int) ≤ k2 := b2.1; omega⟩; exact potcau_law _ _ _ _ s0 l1 k (by have h1 : (k : Int) ≤ 255 := b2.2; omega) W (gv_of hL) S0 S1 n1)

theorem potentialCauses_met (os : Os) : laidMet Tryd.prog Rows.potentialCausesRow.laid ((laidWorld os).forCall (fun _ _ => 0) ⟨#[], #[.agg #[.int .i64 0, .slice none 0 0, .slice none 0 0, .slice none 0 0], .slice none 0 0, .int .u8 0], []⟩).memory := laidMet_of_run' 8 (by kernel_rfl) (by kernel_rfl)
theorem potentialCauses_reads (os : Os) {H : Type} (enc : TypeId × Value → H) : ∃ places, DataW.whole enc Tryd.prog ((laidWorld os).forCall (fun _ _ => 0) ⟨#[], #[.agg #[.int .i64 0, .slice none 0 0, .slice none 0 0, .slice none 0 0], .slice none 0 0, .int .u8 0], []⟩).memory Tryd.f3.params.toList Rows.potentialCausesSpec.vars false #[.agg #[.int .i64 0, .slice none 0 0, .slice none 0 0, .slice none 0 0], .slice none 0 0, .int .u8 0].toList 8 = some ([.agg [.lit (.int .i64 0), .nil, .nil, .nil], .nil, .lit (.int .u8 0)], [], places) := ⟨[], by kernel_rfl⟩
set_option maxRecDepth 100000 in
theorem potentialCauses_lifted (os : Os) (started : os.Started) (H : Type) (enc : TypeId × Value → H) (F : Stop.Interp) :
    ReturnsInHanded {} Tryd.checked os 3 .any ((OpenSpec.ofChange Rows.potentialCausesSpec).preRow enc Tryd.prog Tryd.f3 Rows.potentialCausesRow.domain false Rows.potentialCausesRow.laid) (((OpenSpec.ofChange Rows.potentialCausesSpec).at F).post enc Tryd.prog Tryd.f3 false true false false) := by
  obtain ⟨places, hx⟩ := potentialCauses_reads os enc
  exact law_row (C := Tryd.checked) (s := (OpenSpec.ofChange Rows.potentialCausesSpec)) (by kernel_rfl) started (by kernel_rfl) Tryd.func3
    (witness_row_at (enc := enc) (C := Tryd.checked) false (laidWorld os) #[.agg #[.int .i64 0, .slice none 0 0, .slice none 0 0, .slice none 0 0], .slice none 0 0, .int .u8 0] rfl (by kernel_rfl) (by kernel_rfl) (by kernel_rfl) (OpenSpec.preRow_of_cond 8 hx (by kernel_rfl) (fun k hk => by cases hk) (by kernel_rfl) (potentialCauses_met os)))
    (by kernel_rfl) (by kernel_rfl) (by kernel_rfl) rfl (fun ds h => by match ds, h with | [_, _, _], _ => rfl) (potentialCauses_args H enc)
theorem potentialCauses_said : Rows.PotentialCausesSaid :=
  OpenClaim.holds_of_cond 3 Tryd.f3 rfl rfl rfl rfl rfl rfl rfl ⟨rfl, rfl, rfl, rfl, rfl⟩ rfl rfl rfl rfl rfl (by kernel_rfl) Tryd.func3 (by kernel_rfl)
    (of_decide_eq_true (by kernel_rfl)) (by unfold Func.isWrapper; first | (rw [if_pos (by decide +kernel)]; kernel_rfl) | (rw [if_neg (by decide +kernel)]; exact ⟨rfl, rfl⟩))
    (fun os started H enc _ F => by rw [OpenClaim.pre_eq_preRow]; exact potentialCauses_lifted os started H enc F)
theorem potentialCauses_plain (f : FuncId) (fn : Func) (hf : Tryd.pinned.checked.prog.funcNamed "schisma/schismalaw23.PotentialCauses" = some f) (hfn : Tryd.pinned.checked.prog.funcs[f]? = some fn) :
    false = Tryd.pinned.checked.prog.looks [] ∧ ∀ (j : Nat) t, fn.params[j]? = some t → Tryd.pinned.checked.prog.wantsStandIn t = false := by
  obtain rfl : f = 3 := Option.some.inj ((show Tryd.prog.funcNamed "schisma/schismalaw23.PotentialCauses" = some 3 by kernel_rfl).symm.trans hf) |>.symm
  obtain rfl : fn = Tryd.f3 := (Option.some.inj (Tryd.func3.symm.trans hfn)).symm
  refine ⟨by kernel_rfl, fun j t ht => ?_⟩
  have hall : Tryd.f3.params.all (fun t => !Tryd.prog.wantsStandIn t) = true := by kernel_rfl
  have := (Array.all_eq_true'.1 hall) t (Array.mem_of_getElem? ht)
  have e : Tryd.prog.wantsStandIn t = false := by simpa using this
  exact e
/-- The card. -/
theorem potentialCauses_holds : Rows.PotentialCausesCardSaid :=
  Claim7.holds_tied_plain_at .later [] _ _ _ _ potentialCauses_said (fun _ h => by cases h) (by kernel_rfl) (fun _ h => by cases h) potentialCauses_row_tie rfl ⟨rfl, rfl⟩ (by kernel_rfl) rfl potentialCauses_plain (by kernel_rfl)
end Go.Proofs.YtdpegkkbhanjkaaDoor
