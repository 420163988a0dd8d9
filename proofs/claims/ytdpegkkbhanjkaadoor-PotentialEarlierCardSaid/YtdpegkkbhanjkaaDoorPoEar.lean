/-
  Proved: 'PotentialEarlier' returns true for every input and leaves its arguments as they were. No condition.
-/
import Derived.Test.YtdpegkkbhanjkaaDoorPoH
import Derived.Test.YtdpegkkbhanjkaaDoorPoNam
import Derived.Test.YtdpegkkbhanjkaaDoorR19A
import Derived.Test.YtdpegkkbhanjkaaDoorArgL
import Derived.Test.YtdpegkkbhanjkaaDoorLdB
set_option linter.unusedVariables false
namespace Go.Proofs.YtdpegkkbhanjkaaDoor
open Go.RowKit Go.Sx Go.Sx.Sz Go.Sx.Sc Go.Sx.Po Go.ChangeShapes Go.WideShapes Go.ChangeAt

def tupE : List Value → Value := fun vs => match vs.headD undef with | .tuple cs => cs.getD 0 undef | _ => undef
theorem ChR.one {w : World} {a? : Option Addr} {n cap : Nat} {l : List Cn} (h : ChR w (.slice a? n cap) l) {j : Nat} (hj : j < l.length) : ChR w (sliced a? j (j + 1) cap 8) [l[j]] := by
  obtain ⟨zs, rfl, S, hz⟩ := h
  have hj' : j < zs.length := by rw [List.length_map] at hj; exact hj
  have hd : (zs.take (j + 1)).drop j = [zs[j]] := by
    rw [List.take_succ_eq_append_getElem hj', List.drop_append_of_le_length (by rw [List.length_take]; omega), List.drop_of_length_le (by rw [List.length_take]; omega)]; rfl
  refine ⟨[zs[j]], by simp, ?_, fun z hm => by rw [List.mem_singleton.1 hm]; exact hz _ (List.getElem_mem hj')⟩
  have := S.cut (by omega) j (j + 1) (by omega) (by omega)
  rwa [hd] at this
/-- What the first shifts break. -/
theorem sliced_one {a? : Option Addr} {j cap : Nat} : sliced a? j (j + 1) cap 8 = .slice (if cap = j then a? else Option.map (fun x => x.add (j * 8)) a?) 1 (cap - j) := by
  unfold sliced
  rw [show j + 1 - j = 1 by omega]
theorem ChR.cap {w : World} {a? : Option Addr} {n c : Nat} {l : List Cn} (h : ChR w (.slice a? n c) l) : n = l.length ∧ l.length ≤ c := by
  obtain ⟨zs, rfl, S, hz⟩ := h
  obtain ⟨a', c', e, h1, -, -⟩ := S.len
  obtain ⟨rfl, rfl, rfl⟩ : a? = a' ∧ n = zs.length ∧ c = c' := by simpa using e
  rw [List.length_map]
  exact ⟨rfl, h1⟩
theorem earlier_facts {s : Sc} {h : List V6} (ht : (tuneR s h).2 = 0) {k : Nat} (hk : k ≤ h.length) : brkR s (h.take k) = (brkL s ((tuneR s h).1.take (tunN s k)), 0) := by
  have := tune_take ht k hk
  unfold brkR
  rw [this]; rfl
theorem fnd_of {s : Sc} {xs : List V6} {i : Nat} (hi : i < s.pairs.length) : (brkT s xs i = true ∧ ∃ k : Nat, ∃ hk : k < (brkL s xs).length, fndC (brkL s xs) i = k ∧ (brkL s xs)[k] = cnF s xs i) ∨ (brkT s xs i = false ∧ fndC (brkL s xs) i = -1) := by
  rcases find_cn (s := s) (xs := xs) hi with ⟨k, hk, f1, f2, f3⟩ | ⟨f1, f2⟩
  · exact .inl ⟨f3, k, hk, by unfold fndC; rw [f1], f2⟩
  · exact .inr ⟨f2, by unfold fndC; rw [f1]⟩

set_option maxRecDepth 100000 in
set_option maxHeartbeats 16000000 in
theorem potear_law (vn vp vc vh : Value) (s : Sc) (h : List V6) (an' : Nat) (ha : an' ≤ 255) (w : World) (GL : Gl 0 w) (S : ScR w vn vp vc s) (V : Sl w 6 V6.list vh h) (hhl : h.length * 48 ≤ 140737488351232) :
    Calls Tryd.prog 9 #[.agg #[.int .i64 s.voices, vn, vp, vc], vh, .int .u8 an'] w fun e w' => e = .returned (.bool true) ∧ Ext w w' := by
  obtain ⟨an, cn, rfl, -, -, hln⟩ := S.nt.len
  obtain ⟨ap, cp, rfl, -, -, hlp⟩ := S.pr.len
  obtain ⟨ac, cc, rfl, -, -, hlc⟩ := S.cd.len
  obtain ⟨ah, ch, rfl, hch, -, hlh⟩ := V.len
  have TW := @broken0_walk (.slice an s.notes.length cn) (.slice ap s.pairs.length cp) (.slice ac s.cads.length cc) (.slice ah h.length ch) s h
  have htk := @earlier_facts s h
  have hto := @tune_ok s h
  have hbe := @brkR_err s h
  have hbo := @brkR_ok s h
  obtain ⟨⟨bl, be⟩, hb⟩ : ∃ z, brkR s h = z := ⟨_, rfl⟩
  obtain ⟨⟨tl, te⟩, ht⟩ : ∃ z, tuneR s h = z := ⟨_, rfl⟩
  rw [hb] at TW hbe hbo
  rw [ht] at htk hto hbe hbo
  simp only at TW htk hto hbe hbo
  have HTW := Lib.hid TW; have HTK := Lib.hid htk; have HTO := Lib.hid hto; have HBE' := Lib.hid hbe; have HBO := Lib.hid hbo
  clear ht hb TW htk hto hbe hbo
  have X0 : Ext w (w.alloc (.cells #[.int .i64 s.voices, .slice an s.notes.length cn, .slice ap s.pairs.length cp, .slice ac s.cads.length cc] 26)) := (by repeat (first | with_reducible exact Ext.refl _ | with_reducible assumption | with_reducible apply Ext.alloc | with_reducible apply Ext.drew | (with_reducible refine Ext.setCell ?_ (by (try simp) <;> omega) _)))
  have b0_0 := block_new w (.cells #[.int .i64 s.voices, .slice an s.notes.length cn, .slice ap s.pairs.length cp, .slice ac s.cads.length cc] 26)
  obtain ⟨W0, hW0⟩ : ∃ W, (w.alloc (.cells #[.int .i64 s.voices, .slice an s.notes.length cn, .slice ap s.pairs.length cp, .slice ac s.cads.length cc] 26)) = W := ⟨_, rfl⟩
  obtain ⟨B0, hB0⟩ : ∃ B, w.heap.size = B := ⟨_, rfl⟩
  rw [hW0] at X0 b0_0
  rw [hB0] at b0_0
  have HZ0 : Hid (w.heap.size ≤ B0) := Lib.hid (by omega)
  have HW0 := Lib.hid hW0; have HB0 := Lib.hid hB0
  clear hW0 hB0
  have CB := Lib.hid (boxS b0_0)
  have S1 := S.ext X0; have V1 := V.ext X0; have G1 := GL.ext X0
  have HCH := Lib.hid hch
  clear S V GL b0_0 hch
  go_enter Tryd.func9, Tryd.ntmps9
  go_wp2_with fail
  rw [HW0.out, HB0.out]
  clear HW0 HB0
  refine (head_walk _ G1).mono ?_
  rintro e w1 ⟨rfl, x1⟩
  obtain ⟨c0, c1, c2, c3⟩ := CB.out _ x1
  go_wp2_with fail
  refine (rfew_walk _ _ _ s _ (S1.ext x1)).mono ?_
  obtain ⟨fw, hfw⟩ : ∃ z, (decide (s.notes.length ≤ 40) && decide (s.pairs.length ≤ 60)) = z := ⟨_, rfl⟩
  rw [hfw]
  clear hfw
  rintro e w2 ⟨rfl, y2⟩
  have x2 := x1.trans y2
  clear c0 c1 c2 c3
  cases fw with
  | false =>
    have HX := Lib.hid (X0.trans x2)
    go_wp2
    go_ret
    exact ⟨by first | rfl | simp, HX.out⟩
  | true =>
  obtain ⟨c0, c1, c2, c3⟩ := CB.out _ x2
  go_wp2_with fail
  refine (HTW.out _ (G1.ext x2) (S1.ext x2) (V1.ext x2)).mono ?_
  rintro e w3 ⟨v3, rfl, T3, y3⟩
  have x3 := x2.trans y3
  clear c0 c1 c2 c3
  by_cases hte : te = 0
  case neg =>
    obtain ⟨rfl, rfl⟩ : bl = [] ∧ be = te := by simpa using HBE'.out hte
    obtain ⟨a3, q3, rfl, -, -⟩ := T3.at
    have t1 : (be != 0) = true := by rw [bne_iff_ne]; exact hte
    have HX := Lib.hid (X0.trans x3)
    clear hte T3
    go_wp2
    go_ret
    exact ⟨by first | rfl | simp, HX.out⟩
  case pos =>
  subst hte
  obtain ⟨hok, rfl, -⟩ := HTO.out rfl
  obtain ⟨rfl, rfl⟩ : bl = brkL s (xsL s h (tunN s h.length)) ∧ be = 0 := by simpa using HBO.out rfl
  have hmod : an' % (h.length + 1) ≤ h.length := by have := Nat.mod_lt an' (show 0 < h.length + 1 by omega); omega
  have emod : (an' : Int) % ((h.length : Int) + 1) = ((an' % (h.length + 1) : Nat) : Int) := by push_cast; rfl
  obtain ⟨k, hkk⟩ : ∃ k, an' % (h.length + 1) = k := ⟨_, rfl⟩
  rw [hkk] at hmod emod
  have htk := HTK.out rfl hmod
  obtain ⟨m, hm⟩ : ∃ z, tunN s h.length = z := ⟨_, rfl⟩
  obtain ⟨mk, hmk⟩ : ∃ z, tunN s k = z := ⟨_, rfl⟩
  have hmkm : mk ≤ m := by rw [← hm, ← hmk]; exact tun_mono s hmod
  have hmn : m ≤ s.notes.length := by rw [← hm]; exact tun_le s _
  have hn200 := hok.sz.2.1
  have htun := fun n (hn : n < s.notes.length) => tun_iff hok.nt k hn
  have hxl : (xsL s h m).length = m := xsL_len _ _
  rw [hm] at T3 htk
  rw [hmk] at htk htun
  obtain ⟨xs, hxs⟩ : ∃ l, xsL s h m = l := ⟨_, rfl⟩
  rw [hxs] at T3 htk hxl
  have HTU := Lib.hid htun; have HXL := Lib.hid hxl; have HTT := Lib.hid htk
  have HOK := Lib.hid hok
  have hpn := hok.sz.2.2.1
  have hpok := Lib.hid hok.pr
  have T3' := T3
  obtain ⟨a3, q3, rfl, -, AT3⟩ := T3.at
  have hne0 : ¬ ((h.length : Int) + 1 = 0) := by omega
  have hgt : (0 : Int) < (h.length : Int) + 1 := by omega
  have E1 : IntKind.i64.wrap ((h.length : Int) + 1) = (h.length : Int) + 1 := IntWalk.i64_in _ (by omega)
  clear hkk hm hmk hok htk htun hxs hxl
  go_upto_region 8 with fail
  try rw [emod]
  obtain ⟨c0, c1, c2, c3⟩ := CB.out _ x3
  have z0 := ext_cells c0; have z1 := ext_cells c1; have z2 := ext_cells c2; have z3 := ext_cells c3
  have VC := V1.cut (by omega) 0 k (Nat.zero_le _) hmod
  rw [List.drop_zero] at VC
  obtain ⟨vk, hvk⟩ : ∃ v, sliced ah 0 k ch 6 = v := ⟨_, rfl⟩
  rw [hvk] at VC
  have TK := Lib.hid fun w' (y : Ext w3 w') => @broken0_walk (.slice an s.notes.length cn) (.slice ap s.pairs.length cp) (.slice ac s.cads.length cc) vk s (h.take k) w' (G1.ext (x3.trans y)) (S1.ext (x3.trans y)) (VC.ext (x3.trans y))
  rw [HTT.out] at TK
  have hch := HCH.out
  have i1 : (0 : Int) ≤ (k : Int) := by omega
  have i2 : (k : Int) ≤ (ch : Int) := by omega
  have HVK := Lib.hid hvk
  clear c0 c1 c2 c3 E1 emod hne0 hgt hvk VC
  apply Z.wp_region_ordZ [(0,.det _),(1,.det _),(2,.det _),(3,.det (sliced ah 0 k ch 6)),
    (4, .new (fun u => ∃ a n c, u = .tuple #[.slice a n c, .int .i64 0]) (fun u w' => ∃ v, u = .tuple #[v, .int .i64 0] ∧ ChR w' v (brkL s (xs.take mk))) (.tuple #[.slice none 0 0, .int .i64 0]) ⟨_, _, _, rfl⟩),
    (5, .fn [4] (fun vs => vs.headD undef)), (6, .fn [5] tupE), (7,.det _), (8, .fn [6] (fun vs => vs.headD undef)), (9,.det _)] 10 Ext Ext (Ext w3) (fun _ => True) wide
    [(0,true), (1,true), (2,true), (3,true), (4,true), (5,true), (6,true), (7,true), (8,true), (9,true)] [(0,[]),(1,[]),(2,[]),(3,[]),(4,[]),(5,[4]),(6,[5]),(7,[]),(8,[6]),(9,[])] (by kernel_rfl) (by kernel_rfl) rfl rfl (by simp [Z.Kd.new, Z.Kd.det, Z.Kd.fn, Z.kdOf]) (by decide) (fun _ _ h => h) (stable_ext _) (fun _ _ _ _ => trivial) (Ext.drawn _ _) trivial ?main8
  case main8 =>
    iterate 3 (apply Z.ordX_det rfl rfl; (intro w' hw'; unfold opR; go_simp; exact ⟨Ext.refl _, rfl⟩); (simp only [List.getElem_toArray, List.getElem_cons_succ, List.getElem_cons_zero, Act.put, List.setIfInBounds_toArray, List.set_cons_succ, List.set_cons_zero]; rfl))
    apply Z.ordX_det rfl rfl
    · intro w' hw'
      unfold opR
      go_simp
      exact ⟨Ext.refl _, rfl⟩
    · (simp only [List.getElem_toArray, List.getElem_cons_succ, List.getElem_cons_zero, Act.put, List.setIfInBounds_toArray, List.set_cons_succ, List.set_cons_zero]; rfl)
    apply Z.ordX_new (fun v w1 w2 ⟨v', e, h1⟩ k => ⟨v', e, h1.ext k⟩) rfl rfl
    · intro w' hw' _
      refine opR_call rfl (Go.Proofs.enters_of Tryd.func19 (by kernel_rfl) rfl) (by simp only [List.map_toArray, List.map_cons, List.map_nil, Act.eval, Array.getD_eq_getD_getElem?, List.getElem?_toArray, List.getElem?_cons_succ, List.getElem?_cons_zero, Option.getD_some]; rfl) ?_
      rw [HVK.out]
      refine (TK.out w' hw').mono ?_
      rintro e w'' ⟨v, rfl, hv, hx⟩
      obtain ⟨a, c, rfl, -, -⟩ := hv.at
      exact ⟨_, rfl, hx, ⟨_, _, _, rfl⟩, _, rfl, hv⟩
    · intro v; (simp only [List.getElem_toArray, List.getElem_cons_succ, List.getElem_cons_zero, Act.put, List.setIfInBounds_toArray, List.set_cons_succ, List.set_cons_zero]; rfl)
    rintro _ ⟨ya, yn, yc, rfl⟩
    apply Z.ordX_fn (v := .tuple #[.slice ya yn yc, .int .i64 0]) rfl rfl
    · intro w' hw' _; unfold opR; go_simp; exact ⟨Ext.refl _, rfl⟩
    · rfl
    · (simp only [List.getElem_toArray, List.getElem_cons_succ, List.getElem_cons_zero, Act.put, List.setIfInBounds_toArray, List.set_cons_succ, List.set_cons_zero]; rfl)
    apply Z.ordX_fn (v := .slice ya yn yc) rfl rfl
    · intro w' hw' _; unfold opR; go_simp; exact ⟨Ext.refl _, rfl⟩
    · rfl
    · (simp only [List.getElem_toArray, List.getElem_cons_succ, List.getElem_cons_zero, Act.put, List.setIfInBounds_toArray, List.set_cons_succ, List.set_cons_zero]; rfl)
    iterate 1 (apply Z.ordX_det rfl rfl; (intro w' hw'; unfold opR; go_simp; exact ⟨Ext.refl _, rfl⟩); (simp only [List.getElem_toArray, List.getElem_cons_succ, List.getElem_cons_zero, Act.put, List.setIfInBounds_toArray, List.set_cons_succ, List.set_cons_zero]; rfl))
    apply Z.ordX_fn (v := .slice ya yn yc) rfl rfl
    · intro w' hw' _; unfold opR; go_simp; exact ⟨Ext.refl _, rfl⟩
    · rfl
    · (simp only [List.getElem_toArray, List.getElem_cons_succ, List.getElem_cons_zero, Act.put, List.setIfInBounds_toArray, List.set_cons_succ, List.set_cons_zero]; rfl)
    iterate 1 (apply Z.ordX_det rfl rfl; (intro w' hw'; unfold opR; go_simp; exact ⟨Ext.refl _, rfl⟩); (simp only [List.getElem_toArray, List.getElem_cons_succ, List.getElem_cons_zero, Act.put, List.setIfInBounds_toArray, List.set_cons_succ, List.set_cons_zero]; rfl))
    refine Z.ordX_nil (l := []) rfl ?_
    rintro w4 x4 - ⟨-, vy, hvy, Y4⟩
    obtain rfl : .slice ya yn yc = vy := by simpa using hvy
    rw [HVK.out]
    have x4' := x3.trans x4
    have T4 := Lib.hid (T3'.ext x4)
    have HY4 := Lib.hid Y4
    obtain ⟨d0, d1, d2, d3⟩ := CB.out _ x4'
    have HX4 := Lib.hid x4'
    have hmn' : mk ≤ xs.length := by have := HXL.out; omega
    have HMM := Lib.hid hmn'
    clear z0 z1 z2 z3 hvy x4' x3 x4 x2 x1 T3 T3' Y4 AT3 i1 i2 hch hmn' y3
    go_wp2
    clear d0 d1 d2 d3
    go_loopw [7, 13] (fun up i wr => ∃ n : Nat, n ≤ s.pairs.length ∧ up = .bool true ∧ i = .int .i64 n ∧ Ext w4 wr) (fun _ i _ => s.pairs.length - (intOf i).toNat)
    case atStart => exact ⟨0, by omega, by first | rfl | trivial, by first | rfl | trivial, Ext.refl _⟩
    case round =>
      obtain ⟨n, hn, rfl, rfl, X⟩ := hrel
      have X5 := HX4.out.trans X
      obtain ⟨c0, c1, c2, c3⟩ := CB.out _ X5
      by_cases hlt : n < s.pairs.length
      case neg =>
        obtain rfl : n = s.pairs.length := by omega
        have HX := Lib.hid (X0.trans X5)
        go_wp2
        go_ret
        exact ⟨by first | rfl | simp, HX.out⟩
      case pos =>
      have hpo := hpok.out.1 n hlt
      obtain ⟨bp, op, rfl, A⟩ := Sl.pr (S1.pr.ext X5) n hlt
      rw [← Sc.P_eq hlt] at A
      have hf1 := fnd_of (xs := xs) hlt
      have hf2 := fnd_of (xs := xs.take mk) hlt
      have hbt := brkT_take HOK.out (xs := xs) (m := mk) hlt HMM.out
      have hct := fun (hh : (s.P n).b < mk) => cnF_take HOK.out (xs := xs) hlt hh
      rw [hbt] at hf2
      obtain ⟨p, hp⟩ : ∃ p, s.P n = p := ⟨_, rfl⟩
      rw [hp] at A hpo hf2 hct
      unfold pairOk at hpo
      obtain ⟨⟨ha0, hab⟩, hbn, -, -, -⟩ := hpo
      obtain ⟨b, hpb⟩ : ∃ b : Nat, p.b = b := ⟨p.b.toNat, by omega⟩
      have hbl : b < s.notes.length := by omega
      rw [hpb, dec_lt] at hf2
      obtain ⟨ra, hra⟩ : ∃ z, fndC (brkL s xs) n = z := ⟨_, rfl⟩
      obtain ⟨rb, hrb⟩ : ∃ z, fndC (brkL s (xs.take mk)) n = z := ⟨_, rfl⟩
      obtain ⟨q0, q1, q2, q3', q4, q5, q6, q7, q8⟩ := A
      have X5w := X5
      have X5 : Ext wr (wr.alloc (.cells #[.int .i64 p.a, .int .i64 p.b, .int .i64 p.want.a, .int .i64 p.want.b, .int .i64 p.want.c, .int .i64 p.want.d, .int .i64 p.want.e, .int .i64 p.want.f, .int .i64 p.bound] 53)) := (by repeat (first | with_reducible exact Ext.refl _ | with_reducible assumption | with_reducible apply Ext.alloc | with_reducible apply Ext.drew | (with_reducible refine Ext.setCell ?_ (by (try simp) <;> omega) _)))
      have b5_0 := block_new wr (.cells #[.int .i64 p.a, .int .i64 p.b, .int .i64 p.want.a, .int .i64 p.want.b, .int .i64 p.want.c, .int .i64 p.want.d, .int .i64 p.want.e, .int .i64 p.want.f, .int .i64 p.bound] 53)
      obtain ⟨W5, hW5⟩ : ∃ W, (wr.alloc (.cells #[.int .i64 p.a, .int .i64 p.b, .int .i64 p.want.a, .int .i64 p.want.b, .int .i64 p.want.c, .int .i64 p.want.d, .int .i64 p.want.e, .int .i64 p.want.f, .int .i64 p.bound] 53)) = W := ⟨_, rfl⟩
      obtain ⟨B5, hB5⟩ : ∃ B, wr.heap.size = B := ⟨_, rfl⟩
      rw [hW5] at X5 b5_0
      rw [hB5] at b5_0
      have HZ5 : Hid (wr.heap.size ≤ B5) := Lib.hid (by omega)
      have HW5 := Lib.hid hW5; have HB5 := Lib.hid hB5
      clear hW5 hB5
      have X6 := X.trans X5
      have HB5C := Lib.hid b5_0
      have HPB := Lib.hid hpb
      have j1 : (0 : Int) ≤ (n : Int) := by omega
      have j2 : (n : Int) < (s.pairs.length : Int) := by omega
      have u1 : decide (p.b < 0) = false := decide_eq_false (by omega)
      have u2 : decide ((s.notes.length : Int) ≤ p.b) = false := decide_eq_false (by omega)
      have p1 := block_cell b5_0 1 _ rfl
      have HF1 := Lib.hid hf1; have HF2 := Lib.hid hf2; have HCT := Lib.hid hct; have HRA := Lib.hid hra; have HRB := Lib.hid hrb
      have htu := HTU.out b hbl
      clear hf1 hf2 hct hra hrb hbt b5_0 ha0 hab hbn hp hpb
      go_upto_region 15 with fail
      rw [HW5.out, HB5.out]
      clear q0 q1 q2 q3' q4 q5 q6 q7 q8 HW5 HB5 c0 c1 c2 c3
      obtain ⟨c0, c1, c2, c3⟩ := CB.out _ (HX4.out.trans X6)
      go_wp2_with fail
      refine (find_walk _ _ _ _ (T4.out.ext X6)).mono ?_
      rw [HRA.out]
      rintro e w6 ⟨rfl, x6⟩
      clear c0 c1 c2 c3 p1 u1 u2
      go_wp2_with fail
      refine (find_walk _ _ _ _ (HY4.out.ext (X6.trans x6))).mono ?_
      rw [HRB.out]
      rintro e w7 ⟨rfl, x7⟩
      have X7 := X6.trans (x6.trans x7)
      have X7' := HX4.out.trans X7
      obtain ⟨c0, c1, c2, c3⟩ := CB.out _ X7'
      obtain ⟨bn, on, rfl, A⟩ := Sl.nt (S1.nt.ext X7') b hbl
      rw [← Sc.N_eq hbl] at A
      obtain ⟨y, hy⟩ : ∃ y, s.N b = y := ⟨_, rfl⟩
      rw [hy] at A htu
      have g1 := ext_cells A.c1
      have z0 := ext_cells c0; have z1 := ext_cells c1; have z2 := ext_cells c2; have z3 := ext_cells c3
      have SW := Lib.hid fun w' (e : Ext w7 w') => rof19_walk _ _ _ s y.f w' (S1.ext (X7'.trans e))
      obtain ⟨sc, hsc⟩ : ∃ z, secF s y.f = z := ⟨_, rfl⟩
      rw [hsc] at SW htu
      have bp7 := block_ext (x6.trans x7) HB5C.out
      have m1 := ext_cells (block_cell bp7 1 (.int .i64 b) (by rw [← HPB.out]; rfl))
      have i1 : (0 : Int) ≤ (b : Int) := by omega
      have i2 : (b : Int) < (s.notes.length : Int) := by omega
      have HTU2 := Lib.hid htu
      obtain ⟨bb, hbb⟩ : ∃ z, decide (k ≤ sc) = z := ⟨_, rfl⟩
      have HBBB := Lib.hid hbb
      clear A hy hsc htu c0 c1 c2 c3 bp7
      go_wp2_with fail
      refine wp_region_ord [(0,true), (1,true), (2,true), (3,true), (4,true), (5,true), (6,true), (7,true), (8,true), (9,true), (10,true)] 11 Ext (Ext w7) wide (by kernel_rfl) (stable_ext _) (Ext.drawn _ _) ?_
      iterate 8 (first | (apply wpOrd_no rfl; rfl; (simp only [List.getElem_toArray, List.getElem_cons_succ, List.getElem_cons_zero, Act.put, List.setIfInBounds_toArray, List.set_cons_succ, List.set_cons_zero]; rfl)) | (apply wpOrd_yes rfl; rfl; (intro w' hw'; unfold opR; go_simp; exact ⟨Ext.refl _, rfl⟩); (simp only [List.getElem_toArray, List.getElem_cons_succ, List.getElem_cons_zero, Act.put, List.setIfInBounds_toArray, List.set_cons_succ, List.set_cons_zero]; rfl)))
      (apply wpOrd_det rfl rfl; (intro w' hw'; refine opR_call rfl (Go.Proofs.enters_of Tryd.func16 (by kernel_rfl) rfl) (by simp only [List.map_toArray, List.map_cons, List.map_nil, Act.eval, Array.getD_eq_getD_getElem?, List.getElem?_toArray, List.getElem?_cons_succ, List.getElem?_cons_zero, Option.getD_some]; rfl) ?_; refine (SW.out _ hw').mono ?_; rintro e w'' ⟨rfl, hx⟩; exact ⟨_, rfl, hx, rfl⟩); (simp only [List.getElem_toArray, List.getElem_cons_succ, List.getElem_cons_zero, Act.put, List.setIfInBounds_toArray, List.set_cons_succ, List.set_cons_zero]; rfl))
      iterate 2 (first | (apply wpOrd_no rfl; rfl; (simp only [List.getElem_toArray, List.getElem_cons_succ, List.getElem_cons_zero, Act.put, List.setIfInBounds_toArray, List.set_cons_succ, List.set_cons_zero]; rfl)) | (apply wpOrd_yes rfl; rfl; (intro w' hw'; unfold opR; go_simp; exact ⟨Ext.refl _, rfl⟩); (simp only [List.getElem_toArray, List.getElem_cons_succ, List.getElem_cons_zero, Act.put, List.setIfInBounds_toArray, List.set_cons_succ, List.set_cons_zero]; rfl)))
      refine wpOrd_nil (l := []) rfl ?_
      intro w8 x8
      have X8 := X7.trans x8
      have HX8 := Lib.hid X8
      clear g1 z0 z1 z2 z3 m1 x8 X7 X7' hbb
      by_cases hbm : b < mk
      case neg =>
        obtain rfl : bb = true := by rw [← HBBB.out]; exact decide_eq_true (by have := HTU2.out; omega)
        obtain rfl : rb = -1 := by
          rcases HF2.out with ⟨hh, -⟩ | ⟨-, hh⟩
          · rw [decide_eq_false hbm] at hh; cases hh
          · rw [← HRB.out]; exact hh
        clear hbm
        go_wp2
        go_roundw
        case rel => exact ⟨n + 1, by omega, by first | rfl | simp, by go_num, HX8.out⟩
        case measure => simp [intOf] <;> omega
      case pos =>
      obtain rfl : bb = false := by rw [← HBBB.out]; exact decide_eq_false (by have := HTU2.out; omega)
      have hf2 := HF2.out
      rw [decide_eq_true hbm, Bool.true_and] at hf2
      rcases HF1.out with ⟨hb1, ja, hja, hfa, hla⟩ | ⟨hb1, hfa⟩
      · rcases hf2 with ⟨-, jb, hjb, hfb, hlb⟩ | ⟨hb2, -⟩
        · have hcn := HCT.out (by rw [HPB.out]; omega)
          obtain rfl : ra = ja := by rw [← HRA.out]; exact hfa
          obtain rfl : rb = jb := by rw [← HRB.out]; exact hfb
          rw [hcn] at hlb
          have CA := Lib.hid fun w' (y : Ext w8 w') => ChR.one (T4.out.ext (X8.trans y)) hja
          have CB2 := Lib.hid fun w' (y : Ext w8 w') => ChR.one (HY4.out.ext (X8.trans y)) hjb
          have cp1 := ChR.cap T4.out
          have cp2 := ChR.cap HY4.out
          rw [hla] at CA; rw [hlb] at CB2
          simp only [sliced_one] at CA CB2
          have RW := Lib.hid fun w' (y : Ext w8 w') => rchains_walk _ _ [cnF s xs n] w' (CA.out w' y) (CB2.out w' y)
          have hl1 := brkL_len s xs
          have hl2 := brkL_len s (xs.take mk)
          have e1 : (0 : Int) ≤ (ja : Int) := by omega
          have e2 : (ja : Int) ≤ (ja : Int) + 1 := by omega
          have e3 : (ja : Int) + 1 ≤ (q3 : Int) := by omega
          have e4 : (0 : Int) ≤ (jb : Int) := by omega
          have e5 : (jb : Int) ≤ (jb : Int) + 1 := by omega
          have e6 : (jb : Int) + 1 ≤ (yc : Int) := by omega
          have E1 : IntKind.i64.wrap ((ja : Int) + 1) = (ja : Int) + 1 := IntWalk.i64_in _ (by omega)
          have E2 : IntKind.i64.wrap ((jb : Int) + 1) = (jb : Int) + 1 := IntWalk.i64_in _ (by omega)
          have w1' : decide ((ja : Int) < 0) = false := decide_eq_false (by omega)
          have w2' : decide ((jb : Int) < 0) = false := decide_eq_false (by omega)
          have w3' : decide ((0 : Int) ≤ (ja : Int)) = true := decide_eq_true (by omega)
          have hq3 : ja + 1 ≤ q3 := by omega
          have hyc : jb + 1 ≤ yc := by omega
          clear hb1 hfa hla hfb hlb hcn hbm CA CB2
          go_upto_region 24 with fail
          refine wp_region_ord [(0,true), (1,true), (2,true), (3,true), (4,true), (5,true), (6,true), (7,true), (8,true), (9,true), (10,true), (11,true), (12,true), (13,true)] 14 Ext (Ext w8) wide (by kernel_rfl) (stable_ext _) (Ext.drawn _ _) ?_
          iterate 12 (first | (apply wpOrd_no rfl; rfl; (simp only [List.getElem_toArray, List.getElem_cons_succ, List.getElem_cons_zero, Act.put, List.setIfInBounds_toArray, List.set_cons_succ, List.set_cons_zero]; rfl)) | (apply wpOrd_yes rfl; rfl; (intro w' hw'; unfold opR; go_simp; exact ⟨Ext.refl _, rfl⟩); (simp only [List.getElem_toArray, List.getElem_cons_succ, List.getElem_cons_zero, Act.put, List.setIfInBounds_toArray, List.set_cons_succ, List.set_cons_zero]; rfl)))
          (apply wpOrd_yes rfl (by rfl); (intro w' hw'; refine opR_call rfl (Go.Proofs.enters_of Tryd.func24 (by kernel_rfl) rfl) (by simp only [List.map_toArray, List.map_cons, List.map_nil, Act.eval, Array.getD_eq_getD_getElem?, List.getElem?_toArray, List.getElem?_cons_succ, List.getElem?_cons_zero, Option.getD_some]; rfl) ?_; refine (RW.out _ hw').mono ?_; rintro e w'' ⟨rfl, hx⟩; exact ⟨_, rfl, hx, rfl⟩); (simp only [List.getElem_toArray, List.getElem_cons_succ, List.getElem_cons_zero, Act.put, List.setIfInBounds_toArray, List.set_cons_succ, List.set_cons_zero]; rfl))
          iterate 1 (first | (apply wpOrd_no rfl; rfl; (simp only [List.getElem_toArray, List.getElem_cons_succ, List.getElem_cons_zero, Act.put, List.setIfInBounds_toArray, List.set_cons_succ, List.set_cons_zero]; rfl)) | (apply wpOrd_yes rfl; rfl; (intro w' hw'; unfold opR; go_simp; exact ⟨Ext.refl _, rfl⟩); (simp only [List.getElem_toArray, List.getElem_cons_succ, List.getElem_cons_zero, Act.put, List.setIfInBounds_toArray, List.set_cons_succ, List.set_cons_zero]; rfl)))
          refine wpOrd_nil (l := [_]) rfl ?_
          intro w9 x9
          have HX9 := Lib.hid (X8.trans x9)
          clear x9
          go_wp2
          go_roundw
          case rel => exact ⟨n + 1, by omega, by first | rfl | simp, by go_num, HX9.out⟩
          case measure => simp [intOf] <;> omega
        · rw [hb1] at hb2; cases hb2
      · rcases hf2 with ⟨hb2, -⟩ | ⟨-, hfb⟩
        · rw [hb1] at hb2; cases hb2
        · obtain rfl : ra = -1 := by rw [← HRA.out]; exact hfa
          obtain rfl : rb = -1 := by rw [← HRB.out]; exact hfb
          clear hbm hb1 hfa hfb
          go_wp2
          go_roundw
          case rel => exact ⟨n + 1, by omega, by first | rfl | simp, by go_num, HX8.out⟩
          case measure => simp [intOf] <;> omega

theorem potentialEarlier_args (H : Type) (enc : TypeId × Value → H) (W : World) (base : Nat) (vs : List Value) (ds : List (DataW H)) (_ : ∀ k, (OpenSpec.ofChange Rows.potentialEarlierSpec).cond = some k → k H ds = true) (hL : laidMetH Tryd.prog Rows.potentialEarlierRow.laid W) (hA : Args enc Tryd.prog W base Tryd.f9.params.toList vs ds) :
    Calls Tryd.prog 9 vs.toArray W fun e W' => e = .returned (.bool true) ∧ Ext W W' := by
  rw [Tryd.params9] at hA
  obtain ⟨v0, _, d0, _, rfl, rfl, h0, hA⟩ := hA.cons
  obtain ⟨v1, _, d1, _, rfl, rfl, h1, hA⟩ := hA.cons
  obtain ⟨v2, _, d2, _, rfl, rfl, h2, hA⟩ := hA.cons
  obtain ⟨rfl, rfl⟩ := hA.nil
  obtain ⟨s0, vn0, vp0, vc0, rfl, S0⟩ := arg_score h0
  obtain ⟨l1, S1, n1⟩ := arg_vecs h1
  obtain ⟨k2, rfl, b2⟩ := h2.int Tryd.underlying5
  exact (by obtain ⟨k, rfl⟩ : ∃ k : Nat, k2 = (k : Int) := ⟨k2.toNat, by have := b2.1; have h0 : (0 : Int) ≤ k2 := b2.1; omega⟩; exact potear_law _ _ _ _ s0 l1 k (by have h1 : (k : Int) ≤ 255 := b2.2; omega) W (gv_of hL) S0 S1 n1)

theorem potentialEarlier_met (os : Os) : laidMet Tryd.prog Rows.potentialEarlierRow.laid ((laidWorld os).forCall (fun _ _ => 0) ⟨#[], #[.agg #[.int .i64 0, .slice none 0 0, .slice none 0 0, .slice none 0 0], .slice none 0 0, .int .u8 0], []⟩).memory := laidMet_of_run' 8 (by kernel_rfl) (by kernel_rfl)
theorem potentialEarlier_reads (os : Os) {H : Type} (enc : TypeId × Value → H) : ∃ places, DataW.whole enc Tryd.prog ((laidWorld os).forCall (fun _ _ => 0) ⟨#[], #[.agg #[.int .i64 0, .slice none 0 0, .slice none 0 0, .slice none 0 0], .slice none 0 0, .int .u8 0], []⟩).memory Tryd.f9.params.toList Rows.potentialEarlierSpec.vars false #[.agg #[.int .i64 0, .slice none 0 0, .slice none 0 0, .slice none 0 0], .slice none 0 0, .int .u8 0].toList 8 = some ([.agg [.lit (.int .i64 0), .nil, .nil, .nil], .nil, .lit (.int .u8 0)], [], places) := ⟨[], by kernel_rfl⟩
set_option maxRecDepth 100000 in
theorem potentialEarlier_lifted (os : Os) (started : os.Started) (H : Type) (enc : TypeId × Value → H) (F : Stop.Interp) :
    ReturnsInHanded {} Tryd.checked os 9 .any ((OpenSpec.ofChange Rows.potentialEarlierSpec).preRow enc Tryd.prog Tryd.f9 Rows.potentialEarlierRow.domain false Rows.potentialEarlierRow.laid) (((OpenSpec.ofChange Rows.potentialEarlierSpec).at F).post enc Tryd.prog Tryd.f9 false true false false) := by
  obtain ⟨places, hx⟩ := potentialEarlier_reads os enc
  exact law_row (C := Tryd.checked) (s := (OpenSpec.ofChange Rows.potentialEarlierSpec)) (by kernel_rfl) started (by kernel_rfl) Tryd.func9
    (witness_row_at (enc := enc) (C := Tryd.checked) false (laidWorld os) #[.agg #[.int .i64 0, .slice none 0 0, .slice none 0 0, .slice none 0 0], .slice none 0 0, .int .u8 0] rfl (by kernel_rfl) (by kernel_rfl) (by kernel_rfl) (OpenSpec.preRow_of_cond 8 hx (by kernel_rfl) (fun k hk => by cases hk) (by kernel_rfl) (potentialEarlier_met os)))
    (by kernel_rfl) (by kernel_rfl) (by kernel_rfl) rfl (fun ds h => by match ds, h with | [_, _, _], _ => rfl) (potentialEarlier_args H enc)
theorem potentialEarlier_said : Rows.PotentialEarlierSaid :=
  OpenClaim.holds_of_cond 9 Tryd.f9 rfl rfl rfl rfl rfl rfl rfl ⟨rfl, rfl, rfl, rfl, rfl⟩ rfl rfl rfl rfl rfl (by kernel_rfl) Tryd.func9 (by kernel_rfl)
    (of_decide_eq_true (by kernel_rfl)) (by unfold Func.isWrapper; first | (rw [if_pos (by decide +kernel)]; kernel_rfl) | (rw [if_neg (by decide +kernel)]; exact ⟨rfl, rfl⟩))
    (fun os started H enc _ F => by rw [OpenClaim.pre_eq_preRow]; exact potentialEarlier_lifted os started H enc F)
theorem potentialEarlier_plain (f : FuncId) (fn : Func) (hf : Tryd.pinned.checked.prog.funcNamed "schisma/schismalaw23.PotentialEarlier" = some f) (hfn : Tryd.pinned.checked.prog.funcs[f]? = some fn) :
    false = Tryd.pinned.checked.prog.looks [] ∧ ∀ (j : Nat) t, fn.params[j]? = some t → Tryd.pinned.checked.prog.wantsStandIn t = false := by
  obtain rfl : f = 9 := Option.some.inj ((show Tryd.prog.funcNamed "schisma/schismalaw23.PotentialEarlier" = some 9 by kernel_rfl).symm.trans hf) |>.symm
  obtain rfl : fn = Tryd.f9 := (Option.some.inj (Tryd.func9.symm.trans hfn)).symm
  refine ⟨by kernel_rfl, fun j t ht => ?_⟩
  have hall : Tryd.f9.params.all (fun t => !Tryd.prog.wantsStandIn t) = true := by kernel_rfl
  have := (Array.all_eq_true'.1 hall) t (Array.mem_of_getElem? ht)
  have e : Tryd.prog.wantsStandIn t = false := by simpa using this
  exact e
/-- The card. -/
theorem potentialEarlier_holds : Rows.PotentialEarlierCardSaid :=
  Claim7.holds_tied_plain_at .later [] _ _ _ _ potentialEarlier_said (fun _ h => by cases h) (by kernel_rfl) (fun _ h => by cases h) potentialEarlier_row_tie rfl ⟨rfl, rfl⟩ (by kernel_rfl) rfl potentialEarlier_plain (by kernel_rfl)
end Go.Proofs.YtdpegkkbhanjkaaDoor
