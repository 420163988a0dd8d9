/-
  Proved: 'PotentialSteps' returns true for every input and leaves its arguments as they were. No condition.
-/
import Derived.Test.YtdpegkkbhanjkaaDoorPoH
import Derived.Test.YtdpegkkbhanjkaaDoorR23A
import Derived.Test.YtdpegkkbhanjkaaDoorR19A
import Derived.Test.YtdpegkkbhanjkaaDoorArgL
import Derived.Test.YtdpegkkbhanjkaaDoorLdB
import Derived.Deep.CutRange
set_option linter.unusedVariables false
namespace Go.Sx.Po
open Go.Sx.Sz Go.Sx.Sc
def wnP (a b : Int) (p : Pr) : Bool := decide (p.a = a) && decide (p.b = b)
/-- The interval of the pair of two notes, or the unison. -/
def wnF (s : Sc) (a b : Int) : V6 := match s.pairs.find? (wnP a b) with
  | some p => p.want
  | none => V6.zero
theorem wn_hit {s : Sc} {a b : Int} {k : Nat} (hk : k < s.pairs.length) (h1 : wnP a b s.pairs[k] = true) (h2 : ∀ x ∈ s.pairs.take k, wnP a b x = false) : wnF s a b = (s.P k).want := by
  have hf : s.pairs.find? (wnP a b) = some s.pairs[k] := List.find?_eq_some_iff_getElem.2 ⟨h1, k, hk, rfl, fun j hj => by
    have hm : s.pairs[j]'(by omega) ∈ s.pairs.take k := by
      rw [show s.pairs[j]'(by omega) = (s.pairs.take k)[j]'(by rw [List.length_take]; omega) by rw [List.getElem_take]]
      exact List.getElem_mem _
    rw [h2 _ hm]; rfl⟩
  unfold wnF; rw [hf, Sc.P_eq hk]
theorem wn_miss {s : Sc} {a b : Int} (h2 : ∀ x ∈ s.pairs.take s.pairs.length, wnP a b x = false) : wnF s a b = V6.zero := by
  unfold wnF
  rw [List.take_length] at h2
  rw [List.find?_eq_none.2 (fun x hx => by rw [h2 x hx]; simp)]
/-- Of a note whose parent step is a pair's: its interval. -/
theorem wn_up {s : Sc} (hok : ScOk s) {n : Nat} (h : (upF s n).k = 2) : wnF s (upF s n).a n = wantF s n := by
  have ht : ¬ (s.N n).tied = true := fun ht => by
    unfold upF at h; rw [if_pos ht] at h; simp at h
  cases hp : purF s n with
  | none => unfold upF at h; rw [if_neg ht, hp] at h; simp at h
  | some p =>
    obtain ⟨hm, hb, -⟩ := pur_some hp
    have hu : (upF s n).a = p.a := by unfold upF; rw [if_neg ht, hp]
    have hw : wantF s n = p.want := by unfold wantF; rw [if_neg ht, hp]
    rw [hu, hw]
    unfold wnF
    cases hf : s.pairs.find? (wnP p.a n) with
    | none =>
      have := List.find?_eq_none.1 hf p hm
      unfold wnP at this
      rw [decide_eq_true rfl, decide_eq_true hb] at this
      simp at this
    | some q =>
      have hq := List.mem_of_find?_eq_some hf
      have hq2 := List.find?_some hf
      unfold wnP at hq2
      rw [Bool.and_eq_true, decide_eq_true_eq, decide_eq_true_eq] at hq2
      simp only
      rw [pair_one hok hq hm hq2.1 (hq2.2.trans hb.symm)]
/-- What a step's pitch is made of. -/
theorem stp_facts {s : Sc} (hok : ScOk s) (h : List V6) {n m : Nat} (hn : n < m) (hm : m ≤ s.notes.length) :
    ((upF s n).k = 1 ∧ 0 ≤ (upF s n).a ∧ (s.N n).tied = true ∧ pAt (xsL s h m) (upF s n).a = pAt (xsL s h m) n) ∨
    ((upF s n).k = 2 ∧ 0 ≤ (upF s n).a ∧ (s.N n).tied = false ∧ (pAt (xsL s h m) (upF s n).a).add (wnF s (upF s n).a n) 1 = pAt (xsL s h m) n) ∨
    ((upF s n).k = 3 ∧ (upF s n).a = -1 ∧ (s.N n).tied = false ∧ (s.N n).x.add (hF h (secF s (s.N n).f)) 1 = pAt (xsL s h m) n) := by
  have hnl : n < s.notes.length := by omega
  have hu := up_lt hok hnl
  have hx := x_step hok h hn hm
  have hw := @wn_up s hok n
  rcases upF_k (s := s) n with ⟨k1, ht⟩ | ⟨ht, k2 | k3⟩
  · left
    refine ⟨k1, by omega, ht, ?_⟩
    have hp : prodF s h n = V6.zero := by unfold prodF; rw [if_neg (by omega)]; unfold wantF; rw [if_pos ht]
    rw [hp] at hx
    rw [hx]
    refine V6.ext' fun k hk => ?_
    rw [V6.add_get _ _ _ hk, zero_get hk]; omega
  · right; left
    refine ⟨k2, by omega, ht, ?_⟩
    have hp : prodF s h n = wantF s n := by unfold prodF; rw [if_neg (by omega)]
    rw [hw k2, hx, hp]
  · right; right
    have ha := hu.2.2.1 k3
    refine ⟨k3, ha, ht, ?_⟩
    have hp : prodF s h n = (s.N n).x.add (hF h (secF s (s.N n).f)) 1 := by unfold prodF; rw [if_pos k3]
    rw [hx, hp, ha]
    have : pAt (xsL s h m) (-1) = V6.zero := rfl
    rw [this]
    refine V6.ext' fun k hk => ?_
    simp only [V6.add_get _ _ _ hk]
    rw [zero_get hk]; omega
end Go.Sx.Po
namespace Go.Proofs.YtdpegkkbhanjkaaDoor
open Go.RowKit Go.Sx Go.Sx.Sz Go.Sx.Sc Go.Sx.Po Go.ChangeShapes Go.WideShapes Go.ChangeAt

set_option maxRecDepth 100000 in
set_option maxHeartbeats 4000000 in
theorem want_walk (vn vp vc : Value) (s : Sc) (a b : Int) (w : World) (S : ScR w vn vp vc s) :
    Calls Tryd.prog 18 #[.agg #[.int .i64 s.voices, vn, vp, vc], .int .i64 a, .int .i64 b] w fun e w' => e = .returned (.agg #[.int .i64 (wnF s a b).a, .int .i64 (wnF s a b).b, .int .i64 (wnF s a b).c, .int .i64 (wnF s a b).d, .int .i64 (wnF s a b).e, .int .i64 (wnF s a b).f]) ∧ Ext w w' := by
  obtain ⟨an, cn, rfl, -, -, hln⟩ := S.nt.len
  obtain ⟨ap, cp, rfl, -, -, hlp⟩ := S.pr.len
  obtain ⟨ac, cc, rfl, -, -, hlc⟩ := S.cd.len
  have X0 : Ext w ((w.alloc (.cells #[.int .i64 s.voices, .slice an s.notes.length cn, .slice ap s.pairs.length cp, .slice ac s.cads.length cc] 26)).alloc (.cells #[.int .i64 0, .int .i64 0, .int .i64 0, .int .i64 0, .int .i64 0, .int .i64 0] 41)) := (by repeat (first | with_reducible exact Ext.refl _ | with_reducible assumption | with_reducible apply Ext.alloc | with_reducible apply Ext.drew | (with_reducible refine Ext.setCell ?_ (by (try simp) <;> omega) _)))
  have b0_0 := block_alloc (block_new w (.cells #[.int .i64 s.voices, .slice an s.notes.length cn, .slice ap s.pairs.length cp, .slice ac s.cads.length cc] 26)) (.cells #[.int .i64 0, .int .i64 0, .int .i64 0, .int .i64 0, .int .i64 0, .int .i64 0] 41)
  have b0_1 := block_at (w := (w.alloc (.cells #[.int .i64 s.voices, .slice an s.notes.length cn, .slice ap s.pairs.length cp, .slice ac s.cads.length cc] 26))) (n := w.heap.size + 1) (by simp) (.cells #[.int .i64 0, .int .i64 0, .int .i64 0, .int .i64 0, .int .i64 0, .int .i64 0] 41)
  obtain ⟨W0, hW0⟩ : ∃ W, ((w.alloc (.cells #[.int .i64 s.voices, .slice an s.notes.length cn, .slice ap s.pairs.length cp, .slice ac s.cads.length cc] 26)).alloc (.cells #[.int .i64 0, .int .i64 0, .int .i64 0, .int .i64 0, .int .i64 0, .int .i64 0] 41)) = W := ⟨_, rfl⟩
  obtain ⟨B0, hB0⟩ : ∃ B, w.heap.size = B := ⟨_, rfl⟩
  rw [hW0] at X0 b0_0 b0_1
  rw [hB0] at b0_0 b0_1
  have HZ0 : Hid (w.heap.size ≤ B0) := Lib.hid (by omega)
  have HW0 := Lib.hid hW0; have HB0 := Lib.hid hB0
  clear hW0 hB0
  have CB := Lib.hid (boxS b0_0)
  have HR := Lib.hid b0_1
  have S1 := S.ext X0
  have hh := fun (k : Nat) (hk : k < s.pairs.length) => @wn_hit s a b k hk
  have hm := @wn_miss s a b
  obtain ⟨r, hr⟩ : ∃ r, wnF s a b = r := ⟨_, rfl⟩
  rw [hr] at hh hm ⊢
  have HH := Lib.hid hh; have HM := Lib.hid hm
  clear S b0_0 b0_1 hr hh hm
  go_enter Tryd.func18, Tryd.ntmps18
  go_upto_region 1 with fail
  rw [HW0.out, HB0.out]
  clear HW0 HB0
  go_wp2
  go_loopw [7] (fun i wr => ∃ k : Nat, k ≤ s.pairs.length ∧ i = .int .i64 k ∧ Hid (∀ x ∈ s.pairs.take k, wnP a b x = false) ∧ Ext W0 wr) (fun i _ => s.pairs.length - (intOf i).toNat)
  case atStart => exact ⟨0, by omega, by first | rfl | trivial, Lib.hid (fun x hx => by simp at hx), Ext.refl _⟩
  case round =>
    obtain ⟨k, hk, rfl, HT, X⟩ := hrel
    obtain ⟨c0, c1, c2, c3⟩ := CB.out _ X
    have hR := block_ext X HR.out
    by_cases hlt : k < s.pairs.length
    case neg =>
      obtain rfl : k = s.pairs.length := by omega
      obtain rfl : r = V6.zero := HM.out HT.out
      have n2 := setRow_at hR #[.int .i64 0, .int .i64 0, .int .i64 0, .int .i64 0, .int .i64 0, .int .i64 0]
      have XX := (X0.trans X).setRow (g := B0 + 1) (by have := HZ0.out; omega) #[.int .i64 0, .int .i64 0, .int .i64 0, .int .i64 0, .int .i64 0, .int .i64 0]
      have e0 := block_cell n2 0 _ rfl; have e1 := block_cell n2 1 _ rfl; have e2 := block_cell n2 2 _ rfl; have e3 := block_cell n2 3 _ rfl; have e4 := block_cell n2 4 _ rfl; have e5 := block_cell n2 5 _ rfl
      have HRR := Lib.hid hR
      clear hR n2
      go_wp2_with (first | (refine wpList_store_row rfl _ _ _ rfl (B0 + 1) _ rfl rfl _ _ HRR.out (by kernel_rfl) rfl (by simp [Value.oneCell']) ?_) | fail)
      refine bodyPost_ret (v := .agg #[.int .i64 0, .int .i64 0, .int .i64 0, .int .i64 0, .int .i64 0, .int .i64 0]) (by simp [results, Tryd.results18, go_sem, e0, e1, e2, e3, e4, e5]) rfl ⟨rfl, XX⟩
    case pos =>
    obtain ⟨bp, op, rfl, A⟩ := Sl.pr (S1.pr.ext X) k hlt
    have hhk := HH.out k hlt
    have htk := List.take_succ_eq_append_getElem hlt
    rw [← Sc.P_eq hlt] at A htk hhk
    obtain ⟨p, hp⟩ : ∃ p, s.P k = p := ⟨_, rfl⟩
    rw [hp] at A htk hhk
    obtain ⟨q0, q1, q2, q3, q4, q5, q6, q7, q8⟩ := A
    have HHK := Lib.hid hhk; have HTK := Lib.hid htk
    have j1 : (0 : Int) ≤ (k : Int) := by omega
    have j2 : (k : Int) < (s.pairs.length : Int) := by omega
    have hwn : wnP a b p = (decide (p.a = a) && decide (p.b = b)) := rfl
    have HWN := Lib.hid hwn
    have HRR := Lib.hid hR
    clear hR hhk htk hp hwn
    by_cases ha : p.a = a
    · have e1 : (p.a == a) = true := beq_iff_eq.2 ha
      by_cases hb : p.b = b
      · have e2 : (p.b == b) = true := beq_iff_eq.2 hb
        have HE : Hid (r = p.want) := Lib.hid (HHK.out (by rw [HWN.out, decide_eq_true ha, decide_eq_true hb]; rfl) HT.out)
        obtain ⟨x, hx⟩ : ∃ x, p.want = x := ⟨_, rfl⟩
        rw [hx] at HE q2 q3 q4 q5 q6 q7
        have n2 := setRow_at HRR.out (#[.int .i64 x.a, .int .i64 x.b, .int .i64 x.c, .int .i64 x.d, .int .i64 x.e, .int .i64 x.f] : Array Value)
        have XX := (X0.trans X).setRow (g := B0 + 1) (by have := HZ0.out; omega) (#[.int .i64 x.a, .int .i64 x.b, .int .i64 x.c, .int .i64 x.d, .int .i64 x.e, .int .i64 x.f] : Array Value)
        have t0 := block_cell n2 0 _ rfl; have t1 := block_cell n2 1 _ rfl; have t2 := block_cell n2 2 _ rfl; have t3 := block_cell n2 3 _ rfl; have t4 := block_cell n2 4 _ rfl; have t5 := block_cell n2 5 _ rfl
        clear n2 hx ha hb
        go_wp2_with (first | (refine wpList_store_row rfl _ _ _ rfl (B0 + 1) _ rfl rfl _ _ HRR.out (by kernel_rfl) rfl (by simp [Value.oneCell']) ?_) | fail)
        refine bodyPost_ret (v := .agg #[.int .i64 x.a, .int .i64 x.b, .int .i64 x.c, .int .i64 x.d, .int .i64 x.e, .int .i64 x.f]) (by simp [results, Tryd.results18, go_sem, t0, t1, t2, t3, t4, t5]) rfl ⟨by rw [HE.out], XX⟩
      · have e2 : (p.b == b) = false := beq_eq_false_iff_ne.2 hb
        have HT2 : Hid (∀ y ∈ s.pairs.take (k + 1), wnP a b y = false) := Lib.hid (fun y hy => by
          rw [HTK.out] at hy
          rcases List.mem_append.1 hy with h | h
          · exact HT.out y h
          · rw [List.mem_singleton.1 h, HWN.out, decide_eq_false hb, Bool.and_false])
        clear ha hb
        go_wp2
        go_roundw
        case rel => exact ⟨k + 1, by omega, by go_num, HT2, X⟩
        case measure => simp [intOf] <;> omega
    · have e1 : (p.a == a) = false := beq_eq_false_iff_ne.2 ha
      have HT2 : Hid (∀ y ∈ s.pairs.take (k + 1), wnP a b y = false) := Lib.hid (fun y hy => by
        rw [HTK.out] at hy
        rcases List.mem_append.1 hy with h | h
        · exact HT.out y h
        · rw [List.mem_singleton.1 h, HWN.out, decide_eq_false ha, Bool.false_and])
      clear ha
      go_wp2
      go_roundw
      case rel => exact ⟨k + 1, by omega, by go_num, HT2, X⟩
      case measure => simp [intOf] <;> omega
set_option maxRecDepth 100000 in
set_option maxHeartbeats 16000000 in
theorem potstp_law (vn vp vc vh : Value) (s : Sc) (h : List V6) (w : World) (GL : Gl 0 w) (S : ScR w vn vp vc s) (V : Sl w 6 V6.list vh h) :
    Calls Tryd.prog 4 #[.agg #[.int .i64 s.voices, vn, vp, vc], vh] w fun e w' => e = .returned (.bool true) ∧ Ext w w' := by
  obtain ⟨an, cn, rfl, -, -, hln⟩ := S.nt.len
  obtain ⟨ap, cp, rfl, -, -, hlp⟩ := S.pr.len
  obtain ⟨ac, cc, rfl, -, -, hlc⟩ := S.cd.len
  obtain ⟨ah, ch, rfl, hch, -, hlh⟩ := V.len
  have TW := @tune_walk (.slice an s.notes.length cn) (.slice ap s.pairs.length cp) (.slice ac s.cads.length cc) (.slice ah h.length ch) s h
  have htc := tune_cases s h
  have hto := @tune_ok s h
  obtain ⟨⟨tl, te⟩, ht⟩ : ∃ z, tuneR s h = z := ⟨_, rfl⟩
  rw [ht] at TW htc hto
  simp only at TW htc hto
  have HTW := Lib.hid TW; have HTC := Lib.hid htc; have HTO := Lib.hid hto
  clear ht TW htc hto
  have X0 : Ext w (w.alloc (.cells #[.int .i64 s.voices, .slice an s.notes.length cn, .slice ap s.pairs.length cp, .slice ac s.cads.length cc] 26)) := (by repeat (first | with_reducible exact Ext.refl _ | with_reducible assumption | with_reducible apply Ext.alloc | with_reducible apply Ext.drew | (with_reducible refine Ext.setCell ?_ (by (try simp) <;> omega) _)))
  have b0_0 := block_new w (.cells #[.int .i64 s.voices, .slice an s.notes.length cn, .slice ap s.pairs.length cp, .slice ac s.cads.length cc] 26)
  obtain ⟨W0, hW0⟩ : ∃ W, (w.alloc (.cells #[.int .i64 s.voices, .slice an s.notes.length cn, .slice ap s.pairs.length cp, .slice ac s.cads.length cc] 26)) = W := ⟨_, rfl⟩
  obtain ⟨B0, hB0⟩ : ∃ B, w.heap.size = B := ⟨_, rfl⟩
  rw [hW0] at X0 b0_0
  rw [hB0] at b0_0
  have HZ0 : Hid (w.heap.size ≤ B0) := Lib.hid (by omega)
  have HW0 := Lib.hid hW0; have HB0 := Lib.hid hB0
  clear hW0 hB0
  have CB := Lib.hid (boxS b0_0)
  have S1 := S.ext X0; have V1 := V.ext X0; have G1 := GL.ext X0
  have HCH := Lib.hid hch
  clear S V GL b0_0 hch
  go_enter Tryd.func4, Tryd.ntmps4
  go_wp2_with fail
  rw [HW0.out, HB0.out]
  clear HW0 HB0
  refine (head_walk _ G1).mono ?_
  rintro e w1 ⟨rfl, x1⟩
  obtain ⟨c0, c1, c2, c3⟩ := CB.out _ x1
  go_wp2_with fail
  refine (rfew_walk _ _ _ s _ (S1.ext x1)).mono ?_
  obtain ⟨fw, hfw⟩ : ∃ z, (decide (s.notes.length ≤ 40) && decide (s.pairs.length ≤ 60)) = z := ⟨_, rfl⟩
  rw [hfw]
  clear hfw
  rintro e w2 ⟨rfl, y2⟩
  have x2 := x1.trans y2
  clear c0 c1 c2 c3
  cases fw with
  | false =>
    have HX := Lib.hid (X0.trans x2)
    go_wp2
    go_ret
    exact ⟨by first | rfl | simp, HX.out⟩
  | true =>
  obtain ⟨c0, c1, c2, c3⟩ := CB.out _ x2
  go_wp2_with fail
  refine (HTW.out _ (S1.ext x2) (V1.ext x2)).mono ?_
  rintro e w3 ⟨v3, rfl, T3, y3⟩
  have x3 := x2.trans y3
  clear c0 c1 c2 c3
  by_cases hte : te = 0
  case neg =>
    obtain rfl : tl = [] := by
      rcases HTC.out with ⟨a, -⟩ | ⟨-, b⟩
      · exact absurd a hte
      · exact b
    obtain ⟨a3, q3, rfl, -, -, -⟩ := T3.len
    have t1 : (te != 0) = true := by rw [bne_iff_ne]; exact hte
    have HX := Lib.hid (X0.trans x3)
    clear hte T3
    go_wp2
    go_ret
    exact ⟨by first | rfl | simp, HX.out⟩
  case pos =>
  subst hte
  obtain ⟨hok, rfl, -⟩ := HTO.out rfl
  obtain ⟨m, hm⟩ : ∃ z, tunN s h.length = z := ⟨_, rfl⟩
  have hmn : m ≤ s.notes.length := by rw [← hm]; exact tun_le s _
  have hn200 := hok.sz.2.1
  have htun := fun n (hn : n < s.notes.length) => tun_iff hok.nt h.length hn
  have hstp := fun n (hn : n < m) => stp_facts hok h hn hmn
  have hxl : (xsL s h m).length = m := xsL_len _ _
  have hmx : ∀ n, n < s.notes.length → (n < m ↔ secF s (s.N n).f < h.length) := fun n hn => by rw [← hm]; exact htun n hn
  rw [hm] at T3
  have hallx : allB (xsL s h m) = true := by rw [← hm]; exact (HTO.out rfl).2.2
  have htwx : ∀ x ∈ h, within x 48 = true := by
    rcases HTC.out with ⟨-, a, -⟩ | ⟨a, -⟩
    · exact (tunB_iff.1 a).2.2
    · exact absurd rfl a
  obtain ⟨xs, hxs⟩ : ∃ l, xsL s h m = l := ⟨_, rfl⟩
  rw [hxs] at T3 hxl hallx
  simp only [hxs] at hstp
  have HTU := Lib.hid hmx; have HST := Lib.hid hstp; have HXL := Lib.hid hxl; have HAX := Lib.hid hallx; have HTWX := Lib.hid htwx
  have HOK := Lib.hid hok
  obtain ⟨a3, q3, rfl, hq3, -, -⟩ := T3.len
  have HT5 := Lib.hid T3
  have HX3 := Lib.hid x3
  have u0 : decide (s.notes.length < xs.length) = false := decide_eq_false (by omega)
  obtain ⟨c0, c1, c2, c3⟩ := CB.out _ x3
  clear hm hok htun hmx hstp hxs hxl T3 y3 x2 x1 y2 hallx htwx
  go_wp2
  clear c0 c1 c2 c3 u0 x3
  go_loopw [5, 8] (fun up i wr => ∃ n : Nat, n ≤ xs.length ∧ up = .bool true ∧ i = .int .i64 n ∧ Ext w3 wr) (fun _ i _ => xs.length - (intOf i).toNat)
  case atStart => exact ⟨0, by omega, by first | rfl | trivial, by first | rfl | trivial, Ext.refl _⟩
  case round =>
    obtain ⟨n, hn, rfl, rfl, X⟩ := hrel
    have X5 := HX3.out.trans X
    by_cases hlt : n < xs.length
    case neg =>
      have HX := Lib.hid (X0.trans X5)
      obtain rfl : n = xs.length := by omega
      go_wp2
      go_ret
      exact ⟨by first | rfl | simp, HX.out⟩
    case pos =>
    obtain ⟨c0, c1, c2, c3⟩ := CB.out _ X5
    have hnl : n < s.notes.length := by have := HXL.out; omega
    have hpar : parR s n = (upF s n, 0) := by unfold parR; rw [if_pos ⟨scB_iff.2 HOK.out, by omega, by omega⟩, Int.toNat_natCast]
    have hup := up_lt HOK.out hnl
    have hupb := upF_b (s := s) n
    have hst := HST.out n (by have := HXL.out; omega)
    have htu := HTU.out n hnl
    obtain ⟨⟨pa, pb, pk⟩, hpp⟩ : ∃ p, upF s n = p := ⟨_, rfl⟩
    rw [hpp] at hpar hup hupb hst
    simp only at hst
    have hwnn : pk = 2 → wnF s pa n = wantF s n := fun e => by have := @wn_up s HOK.out n; rw [hpp] at this; exact this e
    obtain rfl : pb = n := hupb
    have PW := Lib.hid (parent_walk _ _ _ s n _ (S1.ext X5))
    rw [hpar] at PW
    have hp1 : -1 ≤ pa := hup.1
    have hp2 : pa < n := hup.2.1
    obtain ⟨xv, hxv⟩ : ∃ x, xs[n] = x := ⟨_, rfl⟩
    have hpan : pAt xs n = xv := by rw [pAt_nat hlt]; exact hxv
    have hxn : xs[n] = xv := hxv
    rw [hpan] at hst
    have HWNN := Lib.hid hwnn
    clear hpp hpar hup hxv hpan hwnn
    go_wp2_with fail
    refine PW.out.mono ?_
    rintro e w6 ⟨rfl, x6⟩
    have u4 : decide (pa < -1) = false := decide_eq_false (by omega)
    have u5 : decide ((n : Int) ≤ pa) = false := decide_eq_false (by omega)
    have X7 : Ext w6 (w6.alloc (.cells #[.int .i64 pa, .int .i64 n, .int .i64 pk] 35)) := (by repeat (first | with_reducible exact Ext.refl _ | with_reducible assumption | with_reducible apply Ext.alloc | with_reducible apply Ext.drew | (with_reducible refine Ext.setCell ?_ (by (try simp) <;> omega) _)))
    have b7_0 := block_new w6 (.cells #[.int .i64 pa, .int .i64 n, .int .i64 pk] 35)
    obtain ⟨W7, hW7⟩ : ∃ W, (w6.alloc (.cells #[.int .i64 pa, .int .i64 n, .int .i64 pk] 35)) = W := ⟨_, rfl⟩
    obtain ⟨B7, hB7⟩ : ∃ B, w6.heap.size = B := ⟨_, rfl⟩
    rw [hW7] at X7 b7_0
    rw [hB7] at b7_0
    have HZ7 : Hid (w6.heap.size ≤ B7) := Lib.hid (by omega)
    have HW7 := Lib.hid hW7; have HB7 := Lib.hid hB7
    clear hW7 hB7
    have k0 := block_cell b7_0 0 _ rfl
    have XB7 := X.trans (x6.trans X7)
    have HBP7 := Lib.hid b7_0
    clear c0 c1 c2 c3 b7_0
    go_upto_region 13 with fail
    rw [HW7.out, HB7.out]
    clear HW7 HB7
    have X8 : Ext W7 (W7.alloc (.cells #[.int .i64 0, .int .i64 0, .int .i64 0, .int .i64 0, .int .i64 0, .int .i64 0] 41)) := (by repeat (first | with_reducible exact Ext.refl _ | with_reducible assumption | with_reducible apply Ext.alloc | with_reducible apply Ext.drew | (with_reducible refine Ext.setCell ?_ (by (try simp) <;> omega) _)))
    have b8_0 := block_new W7 (.cells #[.int .i64 0, .int .i64 0, .int .i64 0, .int .i64 0, .int .i64 0, .int .i64 0] 41)
    obtain ⟨W8, hW8⟩ : ∃ W, (W7.alloc (.cells #[.int .i64 0, .int .i64 0, .int .i64 0, .int .i64 0, .int .i64 0, .int .i64 0] 41)) = W := ⟨_, rfl⟩
    obtain ⟨B8, hB8⟩ : ∃ B, W7.heap.size = B := ⟨_, rfl⟩
    rw [hW8] at X8 b8_0
    rw [hB8] at b8_0
    have HZ8 : Hid (W7.heap.size ≤ B8) := Lib.hid (by omega)
    have HW8 := Lib.hid hW8; have HB8 := Lib.hid hB8
    clear hW8 hB8
    have HXB := Lib.hid (XB7.trans X8)
    have HBP := Lib.hid (block_ext X8 HBP7.out)
    have HBV := Lib.hid b8_0
    have hz8 : B7 < B8 := by have h1 := (Array.getElem?_eq_some_iff.1 HBP7.out).1; have := HB8.out; omega
    have hw3 : w3.heap.size ≤ B8 := by have h1 := XB7.size; have := HB8.out; omega
    clear X5 X7 X8 XB7 b8_0 x6 X
    go_upto_region 16 with fail
    rw [HW8.out, HB8.out]
    clear HW8 HB8 k0 u4 u5
    have HX8 := Lib.hid (HX3.out.trans HXB.out)
    rcases hst with ⟨rfl, ha0, htd, hpx⟩ | ⟨rfl, ha0, htd, hpx⟩ | ⟨rfl, rfl, htd, hpx⟩
    · obtain ⟨j, rfl⟩ : ∃ j : Nat, pa = j := ⟨pa.toNat, by omega⟩
      have hxj : xs[j]'(by omega) = xv := by rw [← pAt_nat (show j < xs.length by omega)]; exact hpx
      have T8 := HT5.out.ext HXB.out
      obtain ⟨ba, oa, e1, t0, t1, t2, t3, t4, t5⟩ := Sl.vec T8 j (by omega)
      subst e1
      rw [hxj] at t0 t1 t2 t3 t4 t5
      have v1 : decide ((0 : Int) ≤ (j : Int)) = true := decide_eq_true (by omega)
      have i1 : (0 : Int) ≤ (j : Int) := by omega
      have i2 : (j : Int) < (xs.length : Int) := by omega
      have k0 := block_cell HBP.out 0 _ rfl; have k2 := block_cell HBP.out 2 _ rfl
      have HBVC := HBV.out
      clear T8
      have n9 := setRow_at HBVC (#[.int .i64 xv.a, .int .i64 xv.b, .int .i64 xv.c, .int .i64 xv.d, .int .i64 xv.e, .int .i64 xv.f] : Array Value)
      have n7 := setRow_ne HBP.out (show B7 ≠ B8 by omega) (#[.int .i64 xv.a, .int .i64 xv.b, .int .i64 xv.c, .int .i64 xv.d, .int .i64 xv.e, .int .i64 xv.f] : Array Value)
      have X9 := HXB.out.setRow (g := B8) hw3 (#[.int .i64 xv.a, .int .i64 xv.b, .int .i64 xv.c, .int .i64 xv.d, .int .i64 xv.e, .int .i64 xv.f] : Array Value)
      obtain ⟨W9, hW9⟩ : ∃ z, W8.setRow B8 (#[.int .i64 xv.a, .int .i64 xv.b, .int .i64 xv.c, .int .i64 xv.d, .int .i64 xv.e, .int .i64 xv.f] : Array Value) = z := ⟨_, rfl⟩
      rw [hW9] at n9 n7 X9
      have HW9 := Lib.hid hW9
      have N9 := Lib.hid (And.intro n9 (And.intro n7 X9))
      clear n9 n7 X9 hW9 hpx hxj
      go_wp2_with (first | (refine wpList_store_row rfl _ _ _ rfl B8 _ rfl rfl _ _ HBV.out (by kernel_rfl) rfl (by simp [Value.oneCell']) ?_; rw [HW9.out]; clear k0 k2 t0 t1 t2 t3 t4 t5; have k0 := block_cell N9.out.2.1 0 _ rfl; have k2 := block_cell N9.out.2.1 2 _ rfl) | fail)
      have hbv := N9.out.1; have hbp := N9.out.2.1
      have X9' := HX3.out.trans N9.out.2.2
      clear k0 k2
      have T9 := HT5.out.ext N9.out.2.2
      obtain ⟨ba9, oa9, e1', r0, r1, r2, r3, r4, r5⟩ := Sl.vec T9 n hlt
      obtain ⟨rfl, rfl⟩ : ba = ba9 ∧ oa = oa9 := by simpa using e1'
      rw [hxn] at r0 r1 r2 r3 r4 r5
      obtain ⟨c0, c1, c2, c3⟩ := CB.out _ X9'
      obtain ⟨bn, on, rfl, A⟩ := Sl.nt (S1.nt.ext X9') n hnl
      rw [← Sc.N_eq hnl] at A
      have a9 := A.c9
      rw [htd] at a9
      have g9 := ext_cells a9
      have z1 := ext_cells c1
      have f0 := ext_cells (block_cell hbv 0 _ rfl); have f1 := ext_cells (block_cell hbv 1 _ rfl); have f2 := ext_cells (block_cell hbv 2 _ rfl); have f3 := ext_cells (block_cell hbv 3 _ rfl); have f4 := ext_cells (block_cell hbv 4 _ rfl); have f5 := ext_cells (block_cell hbv 5 _ rfl)
      have m0 := ext_cells (block_cell hbp 0 _ rfl); have m2 := ext_cells (block_cell hbp 2 _ rfl)
      have r0 := ext_cells r0; have r1 := ext_cells r1; have r2 := ext_cells r2; have r3 := ext_cells r3; have r4 := ext_cells r4; have r5 := ext_cells r5
      have VQ : ∀ w', (Op.equalIn 10000 41 (.agg #[.int .i64 xv.a, .int .i64 xv.b, .int .i64 xv.c, .int .i64 xv.d, .int .i64 xv.e, .int .i64 xv.f]) (.agg #[.int .i64 xv.a, .int .i64 xv.b, .int .i64 xv.c, .int .i64 xv.d, .int .i64 xv.e, .int .i64 xv.f])).run Tryd.prog w' = .ok true w' := fun w' => by
        have := run_eq_v6 (P := Tryd.prog) Tryd.underlying41 Tryd.underlying3 (by kernel_rfl) xv xv 9998 w'
        rwa [decide_eq_true rfl] at this
      have i1 : (0 : Int) ≤ (n : Int) := by omega
      have i2 : (n : Int) < (xs.length : Int) := by omega
      have i3 : (n : Int) < (s.notes.length : Int) := by omega
      have HXW := Lib.hid N9.out.2.2
      clear T9 A a9 c0 c1 c2 c3 hbv hbp
      try go_upto_region 25 with fail
      refine wp_region_ord [(0,true), (1,true), (2,true), (3,true), (4,true), (5,true), (6,true), (7,true), (8,true), (9,true), (10,true), (11,true), (12,true), (13,true), (14,true), (15,true), (16,true), (17,true), (18,true), (19,true), (20,true), (21,true), (22,true), (23,true), (24,true), (25,true), (26,true), (27,true), (28,true), (29,true), (30,true), (31,true), (32,true), (33,true), (34,true), (35,true), (36,true), (37,true), (38,true), (39,true)] 40 Ext (Ext W9) wide (by kernel_rfl) (stable_ext _) (Ext.drawn _ _) ?_
      iterate 40 (first | (apply wpOrd_no rfl; rfl; (simp only [List.getElem_toArray, List.getElem_cons_succ, List.getElem_cons_zero, Act.put, List.setIfInBounds_toArray, List.set_cons_succ, List.set_cons_zero]; rfl)) | (apply wpOrd_yes rfl; rfl; (intro w' hw'; unfold opR; go_simp; exact ⟨Ext.refl _, rfl⟩); (simp only [List.getElem_toArray, List.getElem_cons_succ, List.getElem_cons_zero, Act.put, List.setIfInBounds_toArray, List.set_cons_succ, List.set_cons_zero]; rfl)))
      refine wpOrd_nil (l := [_]) rfl ?_
      intro w20 x20
      have HXE := Lib.hid (HXW.out.trans x20)
      clear f0 f1 f2 f3 f4 f5 m0 m2 r0 r1 r2 r3 r4 r5 g9 z1 x20
      go_wp2
      go_roundw
      case rel => exact ⟨n + 1, by omega, by first | rfl | simp, by go_num, HXE.out⟩
      case measure => simp [intOf] <;> omega
    · obtain ⟨j, rfl⟩ : ∃ j : Nat, pa = j := ⟨pa.toNat, by omega⟩
      obtain ⟨x', hxj⟩ : ∃ z, xs[j]'(by omega) = z := ⟨_, rfl⟩
      rw [pAt_nat (show j < xs.length by omega), hxj] at hpx
      have hsx : Sml 32 x' := by rw [← hxj]; exact Sml.of (within_at HAX.out (by omega))
      have hsw : Sml 48 (wnF s j n) := by rw [HWNN.out rfl]; exact sml_want HOK.out
      obtain ⟨wn, hwn⟩ : ∃ z, wnF s (j : Int) (n : Int) = z := ⟨_, rfl⟩
      rw [hwn] at hpx hsw
      have WW := Lib.hid fun w' (y : Ext W0 w') => want_walk _ _ _ s (j : Int) (n : Int) w' (S1.ext y)
      rw [hwn] at WW
      have PL := Lib.hid fun w' => rplus_walk x' wn (hsx.mono (by omega)) (hsw.mono (by omega)) w'
      rw [hpx] at PL
      have T8 := HT5.out.ext HXB.out
      obtain ⟨ba, oa, e1, t0, t1, t2, t3, t4, t5⟩ := Sl.vec T8 j (by omega)
      subst e1
      rw [hxj] at t0 t1 t2 t3 t4 t5
      have v1 : decide ((0 : Int) ≤ (j : Int)) = true := decide_eq_true (by omega)
      have i1 : (0 : Int) ≤ (j : Int) := by omega
      have i2 : (j : Int) < (xs.length : Int) := by omega
      have k0 := block_cell HBP.out 0 _ rfl; have k2 := block_cell HBP.out 2 _ rfl
      have HBVC := HBV.out
      clear T8
      have n9 := setRow_at HBVC (#[.int .i64 x'.a, .int .i64 x'.b, .int .i64 x'.c, .int .i64 x'.d, .int .i64 x'.e, .int .i64 x'.f] : Array Value)
      have n7 := setRow_ne HBP.out (show B7 ≠ B8 by omega) (#[.int .i64 x'.a, .int .i64 x'.b, .int .i64 x'.c, .int .i64 x'.d, .int .i64 x'.e, .int .i64 x'.f] : Array Value)
      have X9 := HXB.out.setRow (g := B8) hw3 (#[.int .i64 x'.a, .int .i64 x'.b, .int .i64 x'.c, .int .i64 x'.d, .int .i64 x'.e, .int .i64 x'.f] : Array Value)
      obtain ⟨W9, hW9⟩ : ∃ z, W8.setRow B8 (#[.int .i64 x'.a, .int .i64 x'.b, .int .i64 x'.c, .int .i64 x'.d, .int .i64 x'.e, .int .i64 x'.f] : Array Value) = z := ⟨_, rfl⟩
      rw [hW9] at n9 n7 X9
      have HW9 := Lib.hid hW9
      have N9 := Lib.hid (And.intro n9 (And.intro n7 X9))
      clear n9 n7 X9 hW9 hpx hxj hsx hsw hwn
      go_wp2_with (first | (refine wpList_store_row rfl _ _ _ rfl B8 _ rfl rfl _ _ HBV.out (by kernel_rfl) rfl (by simp [Value.oneCell']) ?_; rw [HW9.out]; clear k0 k2 t0 t1 t2 t3 t4 t5; have k0 := block_cell N9.out.2.1 0 _ rfl; have k2 := block_cell N9.out.2.1 2 _ rfl) | fail)
      have X9' := HX3.out.trans N9.out.2.2
      obtain ⟨c0, c1, c2, c3⟩ := CB.out _ X9'
      have z0 := ext_cells c0; have z1 := ext_cells c1; have z2 := ext_cells c2; have z3 := ext_cells c3
      have f0 := ext_cells (block_cell N9.out.1 0 _ rfl); have f1 := ext_cells (block_cell N9.out.1 1 _ rfl); have f2 := ext_cells (block_cell N9.out.1 2 _ rfl); have f3 := ext_cells (block_cell N9.out.1 3 _ rfl); have f4 := ext_cells (block_cell N9.out.1 4 _ rfl); have f5 := ext_cells (block_cell N9.out.1 5 _ rfl)
      have m0 := ext_cells k0
      clear k0 k2 c0 c1 c2 c3
      refine wp_region_ord [(0,true), (1,true), (2,true), (3,true), (4,true), (5,true), (6,true)] 7 Ext (Ext W9) wide (by kernel_rfl) (stable_ext _) (Ext.drawn _ _) ?_
      iterate 5 (first | (apply wpOrd_no rfl; rfl; (simp only [List.getElem_toArray, List.getElem_cons_succ, List.getElem_cons_zero, Act.put, List.setIfInBounds_toArray, List.set_cons_succ, List.set_cons_zero]; rfl)) | (apply wpOrd_yes rfl; rfl; (intro w' hw'; unfold opR; go_simp; exact ⟨Ext.refl _, rfl⟩); (simp only [List.getElem_toArray, List.getElem_cons_succ, List.getElem_cons_zero, Act.put, List.setIfInBounds_toArray, List.set_cons_succ, List.set_cons_zero]; rfl)))
      (apply wpOrd_det rfl rfl; (intro w' hw'; refine opR_call rfl (Go.Proofs.enters_of Tryd.func18 (by kernel_rfl) rfl) (by simp only [List.map_toArray, List.map_cons, List.map_nil, Act.eval, Array.getD_eq_getD_getElem?, List.getElem?_toArray, List.getElem?_cons_succ, List.getElem?_cons_zero, Option.getD_some]; rfl) ?_; refine (WW.out _ (X9'.trans hw')).mono ?_; rintro e w'' ⟨rfl, hx⟩; exact ⟨_, rfl, hx, rfl⟩); (simp only [List.getElem_toArray, List.getElem_cons_succ, List.getElem_cons_zero, Act.put, List.setIfInBounds_toArray, List.set_cons_succ, List.set_cons_zero]; rfl))
      (apply wpOrd_det rfl rfl; (intro w' hw'; refine opR_call rfl (Go.Proofs.enters_of Tryd.func17 (by kernel_rfl) rfl) (by simp only [List.map_toArray, List.map_cons, List.map_nil, Act.eval, Array.getD_eq_getD_getElem?, List.getElem?_toArray, List.getElem?_cons_succ, List.getElem?_cons_zero, Option.getD_some]; rfl) ?_; refine (PL.out _).mono ?_; rintro e w'' ⟨rfl, hx⟩; exact ⟨_, rfl, hx, rfl⟩); (simp only [List.getElem_toArray, List.getElem_cons_succ, List.getElem_cons_zero, Act.put, List.setIfInBounds_toArray, List.set_cons_succ, List.set_cons_zero]; rfl))
      refine wpOrd_nil (l := [_]) rfl ?_
      intro w10 x10
      have X10 := N9.out.2.2.trans x10
      have b10 := block_ext x10 N9.out.1
      have n9 := setRow_at b10 (#[.int .i64 xv.a, .int .i64 xv.b, .int .i64 xv.c, .int .i64 xv.d, .int .i64 xv.e, .int .i64 xv.f] : Array Value)
      have n7 := setRow_ne (block_ext x10 N9.out.2.1) (show B7 ≠ B8 by omega) (#[.int .i64 xv.a, .int .i64 xv.b, .int .i64 xv.c, .int .i64 xv.d, .int .i64 xv.e, .int .i64 xv.f] : Array Value)
      have X11 := X10.setRow (g := B8) hw3 (#[.int .i64 xv.a, .int .i64 xv.b, .int .i64 xv.c, .int .i64 xv.d, .int .i64 xv.e, .int .i64 xv.f] : Array Value)
      have HB10 := Lib.hid b10
      obtain ⟨W11, hW11⟩ : ∃ z, w10.setRow B8 (#[.int .i64 xv.a, .int .i64 xv.b, .int .i64 xv.c, .int .i64 xv.d, .int .i64 xv.e, .int .i64 xv.f] : Array Value) = z := ⟨_, rfl⟩
      rw [hW11] at n9 n7 X11
      have HW11 := Lib.hid hW11
      have N11 := Lib.hid (And.intro n9 (And.intro n7 X11))
      clear z0 z1 z2 z3 f0 f1 f2 f3 f4 f5 m0 n9 n7 X11 hW11 b10 x10 X10
      refine wpList_store_row rfl _ _ _ rfl B8 _ rfl rfl _ _ HB10.out (by kernel_rfl) rfl (by simp [Value.oneCell']) ?_
      rw [HW11.out]
      have k2 := block_cell N11.out.2.1 2 _ rfl
      go_upto_region 25 with fail
      have hbv := N11.out.1; have hbp := N11.out.2.1
      have X11' := HX3.out.trans N11.out.2.2
      clear k2
      have T9 := HT5.out.ext N11.out.2.2
      obtain ⟨ba9, oa9, e1', r0, r1, r2, r3, r4, r5⟩ := Sl.vec T9 n hlt
      obtain ⟨rfl, rfl⟩ : ba = ba9 ∧ oa = oa9 := by simpa using e1'
      rw [hxn] at r0 r1 r2 r3 r4 r5
      obtain ⟨c0, c1, c2, c3⟩ := CB.out _ X11'
      obtain ⟨bn, on, rfl, A⟩ := Sl.nt (S1.nt.ext X11') n hnl
      rw [← Sc.N_eq hnl] at A
      have a9 := A.c9
      rw [htd] at a9
      have g9 := ext_cells a9
      have z1 := ext_cells c1
      have f0 := ext_cells (block_cell hbv 0 _ rfl); have f1 := ext_cells (block_cell hbv 1 _ rfl); have f2 := ext_cells (block_cell hbv 2 _ rfl); have f3 := ext_cells (block_cell hbv 3 _ rfl); have f4 := ext_cells (block_cell hbv 4 _ rfl); have f5 := ext_cells (block_cell hbv 5 _ rfl)
      have m0 := ext_cells (block_cell hbp 0 _ rfl); have m2 := ext_cells (block_cell hbp 2 _ rfl)
      have r0 := ext_cells r0; have r1 := ext_cells r1; have r2 := ext_cells r2; have r3 := ext_cells r3; have r4 := ext_cells r4; have r5 := ext_cells r5
      have VQ : ∀ w', (Op.equalIn 10000 41 (.agg #[.int .i64 xv.a, .int .i64 xv.b, .int .i64 xv.c, .int .i64 xv.d, .int .i64 xv.e, .int .i64 xv.f]) (.agg #[.int .i64 xv.a, .int .i64 xv.b, .int .i64 xv.c, .int .i64 xv.d, .int .i64 xv.e, .int .i64 xv.f])).run Tryd.prog w' = .ok true w' := fun w' => by
        have := run_eq_v6 (P := Tryd.prog) Tryd.underlying41 Tryd.underlying3 (by kernel_rfl) xv xv 9998 w'
        rwa [decide_eq_true rfl] at this
      have i1 : (0 : Int) ≤ (n : Int) := by omega
      have i2 : (n : Int) < (xs.length : Int) := by omega
      have i3 : (n : Int) < (s.notes.length : Int) := by omega
      have HXW := Lib.hid N11.out.2.2
      clear T9 A a9 c0 c1 c2 c3 hbv hbp
      try go_upto_region 25 with fail
      refine wp_region_ord [(0,true), (1,true), (2,true), (3,true), (4,true), (5,true), (6,true), (7,true), (8,true), (9,true), (10,true), (11,true), (12,true), (13,true), (14,true), (15,true), (16,true), (17,true), (18,true), (19,true), (20,true), (21,true), (22,true), (23,true), (24,true), (25,true), (26,true), (27,true), (28,true), (29,true), (30,true), (31,true), (32,true), (33,true), (34,true), (35,true), (36,true), (37,true), (38,true), (39,true)] 40 Ext (Ext W11) wide (by kernel_rfl) (stable_ext _) (Ext.drawn _ _) ?_
      iterate 40 (first | (apply wpOrd_no rfl; rfl; (simp only [List.getElem_toArray, List.getElem_cons_succ, List.getElem_cons_zero, Act.put, List.setIfInBounds_toArray, List.set_cons_succ, List.set_cons_zero]; rfl)) | (apply wpOrd_yes rfl; rfl; (intro w' hw'; unfold opR; go_simp; exact ⟨Ext.refl _, rfl⟩); (simp only [List.getElem_toArray, List.getElem_cons_succ, List.getElem_cons_zero, Act.put, List.setIfInBounds_toArray, List.set_cons_succ, List.set_cons_zero]; rfl)))
      refine wpOrd_nil (l := [_]) rfl ?_
      intro w20 x20
      have HXE := Lib.hid (HXW.out.trans x20)
      clear f0 f1 f2 f3 f4 f5 m0 m2 r0 r1 r2 r3 r4 r5 g9 z1 x20
      go_wp2
      go_roundw
      case rel => exact ⟨n + 1, by omega, by first | rfl | simp, by go_num, HXE.out⟩
      case measure => simp [intOf] <;> omega
    · have k0 := block_cell HBP.out 0 _ rfl; have k2 := block_cell HBP.out 2 _ rfl
      have hlts := htu.1 (by have := HXL.out; omega)
      obtain ⟨c0, c1, c2, c3⟩ := CB.out _ HX8.out
      obtain ⟨bn', on', rfl, A⟩ := Sl.nt (S1.nt.ext HX8.out) n hnl
      rw [← Sc.N_eq hnl] at A
      have hno := HOK.out.nt.note hnl
      obtain ⟨y, hy⟩ : ∃ y, s.N n = y := ⟨_, rfl⟩
      rw [hy] at A hpx hlts hno
      have HY := Lib.hid hy
      have z0 := ext_cells c0; have z1 := ext_cells c1; have z2 := ext_cells c2; have z3 := ext_cells c3
      have g1 := ext_cells A.c1
      have SW := Lib.hid fun w' (e : Ext W8 w') => rof19_walk _ _ _ s y.f w' (S1.ext (HX8.out.trans e))
      obtain ⟨sc, hsc⟩ : ∃ z, secF s y.f = z := ⟨_, rfl⟩
      rw [hsc] at SW hpx hlts
      obtain ⟨z, hz⟩ : ∃ z, h[sc]'hlts = z := ⟨_, rfl⟩
      have hzh : hF h sc = z := by unfold hF; rw [List.getD_eq_getElem?_getD, List.getElem?_eq_getElem hlts]; exact hz
      rw [hzh] at hpx
      have PL := Lib.hid fun w' => rplus_walk y.x z ((Sml.of hno.2.2.2).mono (by omega)) ((by rw [← hz]; exact Sml.of (HTWX.out _ (List.getElem_mem hlts)) : Sml 48 z).mono (by omega)) w'
      rw [hpx] at PL
      have i1 : (0 : Int) ≤ (n : Int) := by omega
      have i2 : (n : Int) < (s.notes.length : Int) := by omega
      have HLTS := Lib.hid hlts; have HZ := Lib.hid hz
      have v1 : decide (h.length ≤ sc) = false := decide_eq_false (by omega)
      clear A hy hsc hzh hpx hno c0 c1 c2 c3 hz
      go_upto_region 21 with fail
      refine wp_region_ord [(0,true), (1,true), (2,true), (3,true), (4,true), (5,true), (6,true), (7,true)] 8 Ext (Ext W8) wide (by kernel_rfl) (stable_ext _) (Ext.drawn _ _) ?_
      iterate 7 (first | (apply wpOrd_no rfl; rfl; (simp only [List.getElem_toArray, List.getElem_cons_succ, List.getElem_cons_zero, Act.put, List.setIfInBounds_toArray, List.set_cons_succ, List.set_cons_zero]; rfl)) | (apply wpOrd_yes rfl; rfl; (intro w' hw'; unfold opR; go_simp; exact ⟨Ext.refl _, rfl⟩); (simp only [List.getElem_toArray, List.getElem_cons_succ, List.getElem_cons_zero, Act.put, List.setIfInBounds_toArray, List.set_cons_succ, List.set_cons_zero]; rfl)))
      (apply wpOrd_det rfl rfl; (intro w' hw'; refine opR_call rfl (Go.Proofs.enters_of Tryd.func16 (by kernel_rfl) rfl) (by simp only [List.map_toArray, List.map_cons, List.map_nil, Act.eval, Array.getD_eq_getD_getElem?, List.getElem?_toArray, List.getElem?_cons_succ, List.getElem?_cons_zero, Option.getD_some]; rfl) ?_; refine (SW.out _ hw').mono ?_; rintro e w'' ⟨rfl, hx⟩; exact ⟨_, rfl, hx, rfl⟩); (simp only [List.getElem_toArray, List.getElem_cons_succ, List.getElem_cons_zero, Act.put, List.setIfInBounds_toArray, List.set_cons_succ, List.set_cons_zero]; rfl))
      refine wpOrd_nil (l := [_]) rfl ?_
      intro w9 x9
      have X9 := HX8.out.trans x9
      have HX9 := Lib.hid (HXB.out.trans x9)
      have HBV9 := Lib.hid (block_ext x9 HBV.out); have HBP9 := Lib.hid (block_ext x9 HBP.out)
      clear k0 k2 z0 z1 z2 z3 g1
      obtain ⟨c0, c1, c2, c3⟩ := CB.out _ X9
      obtain ⟨bn2, on2, e2, A⟩ := Sl.nt (S1.nt.ext X9) n hnl
      obtain ⟨rfl, rfl⟩ : bn' = bn2 ∧ on' = on2 := by simpa using e2
      rw [← Sc.N_eq hnl, HY.out] at A
      obtain ⟨-, -, -, q3', q4, q5, q6, q7, q8, -⟩ := A
      obtain ⟨bh, oh, rfl, t0, t1, t2, t3, t4, t5⟩ := Sl.vec (V1.ext X9) sc HLTS.out
      rw [HZ.out] at t0 t1 t2 t3 t4 t5
      have z1 := ext_cells c1
      have g3 := ext_cells q3'; have g4 := ext_cells q4; have g5 := ext_cells q5; have g6 := ext_cells q6; have g7 := ext_cells q7; have g8 := ext_cells q8
      have b0 := ext_cells t0; have b1 := ext_cells t1; have b2 := ext_cells t2; have b3 := ext_cells t3; have b4 := ext_cells t4; have b5 := ext_cells t5
      have i3 : (0 : Int) ≤ (sc : Int) := by omega
      have i4 : (sc : Int) < (h.length : Int) := by have := HLTS.out; omega
      clear c0 c1 c2 c3 q3' q4 q5 q6 q7 q8 t0 t1 t2 t3 t4 t5 e2 x9
      go_upto_region 24 with fail
      refine wp_region_ord [(0,true), (1,true), (2,true), (3,true), (4,true), (5,true), (6,true), (7,true), (8,true), (9,true), (10,true)] 11 Ext (Ext w9) wide (by kernel_rfl) (stable_ext _) (Ext.drawn _ _) ?_
      iterate 10 (first | (apply wpOrd_no rfl; rfl; (simp only [List.getElem_toArray, List.getElem_cons_succ, List.getElem_cons_zero, Act.put, List.setIfInBounds_toArray, List.set_cons_succ, List.set_cons_zero]; rfl)) | (apply wpOrd_yes rfl; rfl; (intro w' hw'; unfold opR; go_simp; exact ⟨Ext.refl _, rfl⟩); (simp only [List.getElem_toArray, List.getElem_cons_succ, List.getElem_cons_zero, Act.put, List.setIfInBounds_toArray, List.set_cons_succ, List.set_cons_zero]; rfl)))
      (apply wpOrd_det rfl rfl; (intro w' hw'; refine opR_call rfl (Go.Proofs.enters_of Tryd.func17 (by kernel_rfl) rfl) (by simp only [List.map_toArray, List.map_cons, List.map_nil, Act.eval, Array.getD_eq_getD_getElem?, List.getElem?_toArray, List.getElem?_cons_succ, List.getElem?_cons_zero, Option.getD_some]; rfl) ?_; refine (PL.out _).mono ?_; rintro e w'' ⟨rfl, hx⟩; exact ⟨_, rfl, hx, rfl⟩); (simp only [List.getElem_toArray, List.getElem_cons_succ, List.getElem_cons_zero, Act.put, List.setIfInBounds_toArray, List.set_cons_succ, List.set_cons_zero]; rfl))
      refine wpOrd_nil (l := [_]) rfl ?_
      intro w10 x10
      have X10 := HX9.out.trans x10
      have b10 := block_ext x10 HBV9.out
      have n9 := setRow_at b10 (#[.int .i64 xv.a, .int .i64 xv.b, .int .i64 xv.c, .int .i64 xv.d, .int .i64 xv.e, .int .i64 xv.f] : Array Value)
      have n7 := setRow_ne (block_ext x10 HBP9.out) (show B7 ≠ B8 by omega) (#[.int .i64 xv.a, .int .i64 xv.b, .int .i64 xv.c, .int .i64 xv.d, .int .i64 xv.e, .int .i64 xv.f] : Array Value)
      have X11 := X10.setRow (g := B8) hw3 (#[.int .i64 xv.a, .int .i64 xv.b, .int .i64 xv.c, .int .i64 xv.d, .int .i64 xv.e, .int .i64 xv.f] : Array Value)
      have HB10 := Lib.hid b10
      obtain ⟨W11, hW11⟩ : ∃ z, w10.setRow B8 (#[.int .i64 xv.a, .int .i64 xv.b, .int .i64 xv.c, .int .i64 xv.d, .int .i64 xv.e, .int .i64 xv.f] : Array Value) = z := ⟨_, rfl⟩
      rw [hW11] at n9 n7 X11
      have HW11 := Lib.hid hW11
      have N11 := Lib.hid (And.intro n9 (And.intro n7 X11))
      clear z1 g3 g4 g5 g6 g7 g8 b0 b1 b2 b3 b4 b5 n9 n7 X11 hW11 b10 x10 X10 X9
      refine wpList_store_row rfl _ _ _ rfl B8 _ rfl rfl _ _ HB10.out (by kernel_rfl) rfl (by simp [Value.oneCell']) ?_
      rw [HW11.out]
      go_wp2_with fail
      have hbv := N11.out.1; have hbp := N11.out.2.1
      have X11' := HX3.out.trans N11.out.2.2
      clear i1 i2 v1
      have T9 := HT5.out.ext N11.out.2.2
      obtain ⟨ba, oa, e1', r0, r1, r2, r3, r4, r5⟩ := Sl.vec T9 n hlt
      subst e1'
      rw [hxn] at r0 r1 r2 r3 r4 r5
      obtain ⟨c0, c1, c2, c3⟩ := CB.out _ X11'
      obtain ⟨bn, on, e9, A⟩ := Sl.nt (S1.nt.ext X11') n hnl
      obtain ⟨rfl, rfl⟩ : bn' = bn ∧ on' = on := by simpa using e9
      rw [← Sc.N_eq hnl] at A
      have a9 := A.c9
      rw [htd] at a9
      have g9 := ext_cells a9
      have z1 := ext_cells c1
      have f0 := ext_cells (block_cell hbv 0 _ rfl); have f1 := ext_cells (block_cell hbv 1 _ rfl); have f2 := ext_cells (block_cell hbv 2 _ rfl); have f3 := ext_cells (block_cell hbv 3 _ rfl); have f4 := ext_cells (block_cell hbv 4 _ rfl); have f5 := ext_cells (block_cell hbv 5 _ rfl)
      have m0 := ext_cells (block_cell hbp 0 _ rfl); have m2 := ext_cells (block_cell hbp 2 _ rfl)
      have r0 := ext_cells r0; have r1 := ext_cells r1; have r2 := ext_cells r2; have r3 := ext_cells r3; have r4 := ext_cells r4; have r5 := ext_cells r5
      have VQ : ∀ w', (Op.equalIn 10000 41 (.agg #[.int .i64 xv.a, .int .i64 xv.b, .int .i64 xv.c, .int .i64 xv.d, .int .i64 xv.e, .int .i64 xv.f]) (.agg #[.int .i64 xv.a, .int .i64 xv.b, .int .i64 xv.c, .int .i64 xv.d, .int .i64 xv.e, .int .i64 xv.f])).run Tryd.prog w' = .ok true w' := fun w' => by
        have := run_eq_v6 (P := Tryd.prog) Tryd.underlying41 Tryd.underlying3 (by kernel_rfl) xv xv 9998 w'
        rwa [decide_eq_true rfl] at this
      have i1 : (0 : Int) ≤ (n : Int) := by omega
      have i2 : (n : Int) < (xs.length : Int) := by omega
      have i3 : (n : Int) < (s.notes.length : Int) := by omega
      have HXW := Lib.hid N11.out.2.2
      clear T9 A a9 c0 c1 c2 c3 hbv hbp
      try go_upto_region 25 with fail
      refine wp_region_ord [(0,true), (1,true), (2,true), (3,true), (4,true), (5,true), (6,true), (7,true), (8,true), (9,true), (10,true), (11,true), (12,true), (13,true), (14,true), (15,true), (16,true), (17,true), (18,true), (19,true), (20,true), (21,true), (22,true), (23,true), (24,true), (25,true), (26,true), (27,true), (28,true), (29,true), (30,true), (31,true), (32,true), (33,true), (34,true), (35,true), (36,true), (37,true), (38,true), (39,true)] 40 Ext (Ext W11) wide (by kernel_rfl) (stable_ext _) (Ext.drawn _ _) ?_
      iterate 40 (first | (apply wpOrd_no rfl; rfl; (simp only [List.getElem_toArray, List.getElem_cons_succ, List.getElem_cons_zero, Act.put, List.setIfInBounds_toArray, List.set_cons_succ, List.set_cons_zero]; rfl)) | (apply wpOrd_yes rfl; rfl; (intro w' hw'; unfold opR; go_simp; exact ⟨Ext.refl _, rfl⟩); (simp only [List.getElem_toArray, List.getElem_cons_succ, List.getElem_cons_zero, Act.put, List.setIfInBounds_toArray, List.set_cons_succ, List.set_cons_zero]; rfl)))
      refine wpOrd_nil (l := [_]) rfl ?_
      intro w20 x20
      have HXE := Lib.hid (HXW.out.trans x20)
      clear f0 f1 f2 f3 f4 f5 m0 m2 r0 r1 r2 r3 r4 r5 g9 z1 x20
      go_wp2
      go_roundw
      case rel => exact ⟨n + 1, by omega, by first | rfl | simp, by go_num, HXE.out⟩
      case measure => simp [intOf] <;> omega

theorem potentialSteps_args (H : Type) (enc : TypeId × Value → H) (W : World) (base : Nat) (vs : List Value) (ds : List (DataW H)) (_ : ∀ k, (OpenSpec.ofChange Rows.potentialStepsSpec).cond = some k → k H ds = true) (hL : laidMetH Tryd.prog Rows.potentialStepsRow.laid W) (hA : Args enc Tryd.prog W base Tryd.f4.params.toList vs ds) :
    Calls Tryd.prog 4 vs.toArray W fun e W' => e = .returned (.bool true) ∧ Ext W W' := by
  rw [Tryd.params4] at hA
  obtain ⟨v0, _, d0, _, rfl, rfl, h0, hA⟩ := hA.cons
  obtain ⟨v1, _, d1, _, rfl, rfl, h1, hA⟩ := hA.cons
  obtain ⟨rfl, rfl⟩ := hA.nil
  obtain ⟨s0, vn0, vp0, vc0, rfl, S0⟩ := arg_score h0
  obtain ⟨l1, S1, n1⟩ := arg_vecs h1
  exact potstp_law _ _ _ _ s0 l1 W (gv_of hL) S0 S1

theorem potentialSteps_met (os : Os) : laidMet Tryd.prog Rows.potentialStepsRow.laid ((laidWorld os).forCall (fun _ _ => 0) ⟨#[], #[.agg #[.int .i64 0, .slice none 0 0, .slice none 0 0, .slice none 0 0], .slice none 0 0], []⟩).memory := laidMet_of_run' 8 (by kernel_rfl) (by kernel_rfl)
theorem potentialSteps_reads (os : Os) {H : Type} (enc : TypeId × Value → H) : ∃ places, DataW.whole enc Tryd.prog ((laidWorld os).forCall (fun _ _ => 0) ⟨#[], #[.agg #[.int .i64 0, .slice none 0 0, .slice none 0 0, .slice none 0 0], .slice none 0 0], []⟩).memory Tryd.f4.params.toList Rows.potentialStepsSpec.vars false #[.agg #[.int .i64 0, .slice none 0 0, .slice none 0 0, .slice none 0 0], .slice none 0 0].toList 8 = some ([.agg [.lit (.int .i64 0), .nil, .nil, .nil], .nil], [], places) := ⟨[], by kernel_rfl⟩
set_option maxRecDepth 100000 in
theorem potentialSteps_lifted (os : Os) (started : os.Started) (H : Type) (enc : TypeId × Value → H) (F : Stop.Interp) :
    ReturnsInHanded {} Tryd.checked os 4 .any ((OpenSpec.ofChange Rows.potentialStepsSpec).preRow enc Tryd.prog Tryd.f4 Rows.potentialStepsRow.domain false Rows.potentialStepsRow.laid) (((OpenSpec.ofChange Rows.potentialStepsSpec).at F).post enc Tryd.prog Tryd.f4 false true false false) := by
  obtain ⟨places, hx⟩ := potentialSteps_reads os enc
  exact law_row (C := Tryd.checked) (s := (OpenSpec.ofChange Rows.potentialStepsSpec)) (by kernel_rfl) started (by kernel_rfl) Tryd.func4
    (witness_row_at (enc := enc) (C := Tryd.checked) false (laidWorld os) #[.agg #[.int .i64 0, .slice none 0 0, .slice none 0 0, .slice none 0 0], .slice none 0 0] rfl (by kernel_rfl) (by kernel_rfl) (by kernel_rfl) (OpenSpec.preRow_of_cond 8 hx (by kernel_rfl) (fun k hk => by cases hk) (by kernel_rfl) (potentialSteps_met os)))
    (by kernel_rfl) (by kernel_rfl) (by kernel_rfl) rfl (fun ds h => by match ds, h with | [_, _], _ => rfl) (potentialSteps_args H enc)
theorem potentialSteps_said : Rows.PotentialStepsSaid :=
  OpenClaim.holds_of_cond 4 Tryd.f4 rfl rfl rfl rfl rfl rfl rfl ⟨rfl, rfl, rfl, rfl, rfl⟩ rfl rfl rfl rfl rfl (by kernel_rfl) Tryd.func4 (by kernel_rfl)
    (of_decide_eq_true (by kernel_rfl)) (by unfold Func.isWrapper; first | (rw [if_pos (by decide +kernel)]; kernel_rfl) | (rw [if_neg (by decide +kernel)]; exact ⟨rfl, rfl⟩))
    (fun os started H enc _ F => by rw [OpenClaim.pre_eq_preRow]; exact potentialSteps_lifted os started H enc F)
theorem potentialSteps_plain (f : FuncId) (fn : Func) (hf : Tryd.pinned.checked.prog.funcNamed "schisma/schismalaw23.PotentialSteps" = some f) (hfn : Tryd.pinned.checked.prog.funcs[f]? = some fn) :
    false = Tryd.pinned.checked.prog.looks [] ∧ ∀ (j : Nat) t, fn.params[j]? = some t → Tryd.pinned.checked.prog.wantsStandIn t = false := by
  obtain rfl : f = 4 := Option.some.inj ((show Tryd.prog.funcNamed "schisma/schismalaw23.PotentialSteps" = some 4 by kernel_rfl).symm.trans hf) |>.symm
  obtain rfl : fn = Tryd.f4 := (Option.some.inj (Tryd.func4.symm.trans hfn)).symm
  refine ⟨by kernel_rfl, fun j t ht => ?_⟩
  have hall : Tryd.f4.params.all (fun t => !Tryd.prog.wantsStandIn t) = true := by kernel_rfl
  have := (Array.all_eq_true'.1 hall) t (Array.mem_of_getElem? ht)
  have e : Tryd.prog.wantsStandIn t = false := by simpa using this
  exact e
/-- The card. -/
theorem potentialSteps_holds : Rows.PotentialStepsCardSaid :=
  Claim7.holds_tied_plain_at .later [] _ _ _ _ potentialSteps_said (fun _ h => by cases h) (by kernel_rfl) (fun _ h => by cases h) potentialSteps_row_tie rfl ⟨rfl, rfl⟩ (by kernel_rfl) rfl potentialSteps_plain (by kernel_rfl)
end Go.Proofs.YtdpegkkbhanjkaaDoor
