/-
  Proved: 'AlignBackwards' returns true for every input and leaves its arguments as they were. No condition.
-/
import Derived.Test.YthomegempfedaaaDoorAlL
import Derived.Test.YthomegempfedaaaDoorIns
set_option linter.unusedVariables false
namespace Go.Proofs.YthomegempfedaaaDoor
open Go.RowKit Go.Sx Go.Sx.Sz Go.Sx.Al Go.ChangeShapes Go.WideShapes Go.ChangeAt

def turD (d : Due) : Due := ⟨100000 - d.t, d.x⟩
def turH (h : Hrd) : Hrd := ⟨100000 - h.t, h.s⟩
theorem mc_tur (p : Prc) (d : Due) (h : Hrd) : mc p (turD d) (turH h) = mc p d h := by
  have e : absd (100000 - d.t) (100000 - h.t) = absd d.t h.t := by unfold absd; split <;> split <;> omega
  unfold mc
  show (if (cmpR (dsz d) h.s).1 = 0 then absd (100000 - d.t) (100000 - h.t) else absd (100000 - d.t) (100000 - h.t) + p.off) = _
  rw [e]
def revD (ds : List Due) : List Due := (ds.map turD).reverse
def revH (hs : List Hrd) : List Hrd := (hs.map turH).reverse
theorem rise_rev {l : List Int} (h : rise l = true) : rise ((l.map (fun t => 100000 - t)).reverse) = true := by
  rw [rise_pair] at h ⊢
  rw [List.pairwise_reverse, List.pairwise_map]
  exact h.imp fun h => by omega
theorem rev_ok {ds : List Due} {hs : List Hrd} {p : Prc} (h : alOk ds hs p = true) : alOk (revD ds) (revH hs) p = true := by
  have hv := alOk_iff.1 h
  refine alOk_iff.2 ⟨fun d hd => ?_, fun x hx => ?_, by simp [revD]; exact hv.dn, by simp [revH]; exact hv.hn, ?_, fun d hd => ?_, ?_, fun x hx => ?_, hv.skip, hv.off⟩
  · rw [revD, List.mem_reverse] at hd
    obtain ⟨y, hy, rfl⟩ := List.mem_map.1 hd
    exact hv.dx y hy
  · rw [revH, List.mem_reverse] at hx
    obtain ⟨y, hy, rfl⟩ := List.mem_map.1 hx
    exact hv.hx y hy
  · have := rise_rev hv.dr
    rw [revD, List.map_reverse, List.map_map]
    rw [List.map_map] at this
    exact this
  · rw [revD, List.mem_reverse] at hd
    obtain ⟨y, hy, rfl⟩ := List.mem_map.1 hd
    have := hv.dt y hy
    show 0 ≤ 100000 - y.t ∧ 100000 - y.t ≤ 100000
    omega
  · have := rise_rev hv.hr
    rw [revH, List.map_reverse, List.map_map]
    rw [List.map_map] at this
    exact this
  · rw [revH, List.mem_reverse] at hx
    obtain ⟨y, hy, rfl⟩ := List.mem_map.1 hx
    have := hv.ht y hy
    show 0 ≤ 100000 - y.t ∧ 100000 - y.t ≤ 100000
    omega
/-- Lists that are turned round: the reversed table bounds the costs, too. -/
theorem rev_le {ds ds' : List Due} {hs hs' : List Hrd} {p : Prc} (h : alOk ds hs p = true) (hl : ds'.length = ds.length) (hk : hs'.length = hs.length)
    (hm : ∀ i j (hi : i < ds.length) (hj : j < hs.length), mc p (ds'[ds.length - 1 - i]'(by omega)) (hs'[hs.length - 1 - j]'(by omega)) = mc p ds[i] hs[j]) : tab ds' hs' p 0 0 ≤ tab ds hs p 0 0 := by
  have B := @tab_bnd ds' hs' p
  have B' : Bnd ds hs p (fun i j => tab ds' hs' p 0 0 - tab ds' hs' p (ds.length - i) (hs.length - j)) := by
    refine ⟨by simp, fun i j hi hj => ?_, fun i j hi hj => ?_, fun i j hi hj => ?_⟩
    · have := B.due (ds.length - (i + 1)) (hs.length - j) (by omega) (by omega)
      rw [show ds.length - (i + 1) + 1 = ds.length - i by omega] at this
      omega
    · have := B.tone (ds.length - i) (hs.length - (j + 1)) (by omega) (by omega)
      rw [show hs.length - (j + 1) + 1 = hs.length - j by omega] at this
      omega
    · have := B.both (ds.length - 1 - i) (hs.length - 1 - j) (by omega) (by omega)
      rw [hm i j hi hj, show ds.length - 1 - i + 1 = ds.length - i by omega, show hs.length - 1 - j + 1 = hs.length - j by omega] at this
      rw [show ds.length - (i + 1) = ds.length - 1 - i by omega, show hs.length - (j + 1) = hs.length - 1 - j by omega]
      omega
  have := cost_least B' (l := pathL ds hs p) (by rw [cost_path h])
  rw [cost_path h] at this
  simp only [Nat.sub_zero] at this
  have e : tab ds' hs' p ds.length hs.length = 0 := by rw [← hl, ← hk]; exact tab_nm
  omega
theorem revD_get (ds : List Due) (i : Nat) (h : i < (revD ds).length) : (revD ds)[i] = turD (ds[ds.length - 1 - i]'(by simp [revD] at h; omega)) := by
  simp [revD, List.getElem_reverse]
theorem revH_get (hs : List Hrd) (i : Nat) (h : i < (revH hs).length) : (revH hs)[i] = turH (hs[hs.length - 1 - i]'(by simp [revH] at h; omega)) := by
  simp [revH, List.getElem_reverse]
theorem revD_len (ds : List Due) : (revD ds).length = ds.length := by simp [revD]
theorem revH_len (hs : List Hrd) : (revH hs).length = hs.length := by simp [revH]
theorem tab_rev {ds : List Due} {hs : List Hrd} {p : Prc} (h : alOk ds hs p = true) : tab (revD ds) (revH hs) p 0 0 = tab ds hs p 0 0 := by
  have a : tab (revD ds) (revH hs) p 0 0 ≤ tab ds hs p 0 0 := rev_le h (revD_len ds) (revH_len hs) fun i j hi hj => by
    rw [revD_get, revH_get, mc_tur]
    congr 2 <;> (congr 1; omega)
  have b : tab ds hs p 0 0 ≤ tab (revD ds) (revH hs) p 0 0 := rev_le (rev_ok h) (revD_len ds).symm (revH_len hs).symm fun i j hi hj => by
    rw [revD_get, revH_get, mc_tur]
    congr 1
    · congr 1; rw [revD_len]
    · congr 1; rw [revH_len]
  omega


theorem et_d : ET Tryd.prog 22 48 7 56 := .mk' (z := .agg #[.int .i64 0, .int .i64 0, .int .i64 0, .int .i64 0, .int .i64 0, .int .i64 0, .int .i64 0]) Tryd.underlying22 (by kernel_rfl) rfl (by decide) (by decide)
theorem et_h : ET Tryd.prog 23 54 3 24 := .mk' (z := .agg #[.int .i64 0, .int .i64 0, .int .i64 0]) Tryd.underlying23 (by kernel_rfl) rfl (by decide) (by decide)

set_option maxHeartbeats 4000000 in
theorem backwards_walk (vd vh : Value) (ds : List Due) (hs : List Hrd) (p : Prc) (hn1 : ds.length * 56 ≤ 140737488351232) (hn2 : hs.length * 24 ≤ 140737488351232) (w : World) (G : Gl 0 w)
    (Sd : Sl w 7 encD vd ds) (Sh : Sl w 3 encH vh hs) :
    Calls Tryd.prog 9 #[vd, vh, .agg #[.int .i64 p.skip, .int .i64 p.off]] w fun e w' => e = .returned (.bool true) ∧ Ext w w' := by
  obtain ⟨ad, cd, rfl, -, -, -⟩ := Sd.len
  obtain ⟨ah, ch, rfl, -, -, -⟩ := Sh.len
  go_enter Tryd.func9, Tryd.ntmps9
  go_wp2_with fail
  refine (head_walk _ (G.ext (by repeat (first | with_reducible exact Ext.refl _ | with_reducible assumption | with_reducible apply Ext.alloc | with_reducible apply Ext.drew | (with_reducible refine Ext.setCell ?_ (by (try simp) <;> omega) _))))).mono ?_
  rintro e w1 ⟨rfl, x1⟩
  have X1 : Ext w w1 := Ext.trans (by repeat (first | with_reducible exact Ext.refl _ | with_reducible assumption | with_reducible apply Ext.alloc | with_reducible apply Ext.drew | (with_reducible refine Ext.setCell ?_ (by (try simp) <;> omega) _))) x1
  have b1 := block_ext x1 (block_new w (.cells #[.int .i64 p.skip, .int .i64 p.off] 25))
  have c10 := block_cell b1 0 (.int .i64 p.skip) rfl
  have c11 := block_cell b1 1 (.int .i64 p.off) rfl
  have B1 := Lib.hid b1
  clear x1 b1
  go_wp2_with fail
  refine (align_walk _ _ ds hs p hn1 hn2 _ (G.ext X1) (Sd.ext X1) (Sh.ext X1)).mono ?_
  cases hok : alOk ds hs p with
  | false =>
    have h1 : alCr ds hs p = 0 := by rw [alCr, hok]; rfl
    have h2 : alEr ds hs p = 1 := by rw [alEr, hok]; rfl
    rw [h1, h2]
    clear hok h1 h2
    rintro e w2 ⟨vl, vt, rfl, SL, TT, x2⟩
    have X2 := X1.trans x2
    clear x2 B1 c10 c11
    go_wp2
    go_ret
    exact ⟨rfl, X2⟩
  | true =>
    have h1 : alCr ds hs p = tab ds hs p 0 0 := by rw [alCr, hok]; rfl
    have h2 : alEr ds hs p = 0 := by rw [alEr, hok]; rfl
    have q1 := rev_ok hok
    have hle := tab_rev hok
    have hv := alOk_iff.1 hok
    have k1 : alCr (revD ds) (revH hs) p = tab ds hs p 0 0 := by rw [alCr, q1, ← hle]; rfl
    have k2 : alEr (revD ds) (revH hs) p = 0 := by rw [alEr, q1]; rfl
    obtain ⟨c, hcc⟩ : ∃ c, tab ds hs p 0 0 = c := ⟨_, rfl⟩
    rw [h1, h2]
    rw [hcc] at k1 ⊢
    have K1 := Lib.hid k1; have K2 := Lib.hid k2; have HV := Lib.hid hv
    have hhn := hv.hn; have hdn := hv.dn
    clear hok h1 h2 hcc k1 k2 q1 hv hle
    rintro e w2 ⟨vl, vt, rfl, SL, TT, x2⟩
    have X2 := X1.trans x2
    have B2 := Lib.hid (block_ext x2 B1.out)
    clear x2 B1 c10 c11
    have SD2 := Sd.ext X2
    go_wp2
    go_loopw [12, 13] (fun v i wr => ∃ k : Nat, k ≤ ds.length ∧ i = .int .i64 ((ds.length : Int) - 1 - (k : Int)) ∧ OwnR wr w2.heap.size 48 7 encD v ((revD ds).take k) ∧ Ext w2 wr) (fun _ i _ => (intOf i + 1).toNat)
    case atStart => exact ⟨0, by omega, by simp, OwnR.nil, Ext.refl _⟩
    case round =>
      obtain ⟨k, hk, rfl, own, X⟩ := hrel
      by_cases hlt : k < ds.length
      · obtain ⟨j, hj⟩ : ∃ j : Nat, ds.length - 1 - k = j := ⟨_, rfl⟩
        have hji : (ds.length : Int) - 1 - (k : Int) = (j : Int) := by omega
        rw [hji]
        have hjl : j < ds.length := by omega
        obtain ⟨g, o, rfl, q0, q1, q2, q3, q4, q5, q6⟩ := Sl.due (SD2.ext X) j hjl
        obtain ⟨tn, hh⟩ : ∃ h, ds[j] = h := ⟨_, rfl⟩
        rw [hh] at q0 q1 q2 q3 q4 q5 q6
        have hdt := HV.out.dt tn (by rw [← hh]; exact List.getElem_mem _)
        obtain ⟨z1, z2⟩ := hdt
        have hts : (revD ds).take (k + 1) = (revD ds).take k ++ [turD tn] := by
          rw [List.take_succ_eq_append_getElem (by rw [revD_len]; exact hlt), revD_get]
          congr 2
          rw [← hh]
          congr 1
          simp only [hj]
        have HTS := Lib.hid hts; have HJI := Lib.hid hji
        have i1 : (0 : Int) ≤ (j : Int) := by omega
        have i2 : (j : Int) < (ds.length : Int) := by omega
        have e1 : IntKind.i64.wrap (100000 - tn.t) = 100000 - tn.t := IntWalk.i64_in _ (by omega)
        have hll : ((revD ds).take k).length = k := by rw [List.length_take, revD_len]; omega
        have HLL := Lib.hid hll
        have n0 := ext_cells q0; have n1 := ext_cells q1; have n2 := ext_cells q2; have n3 := ext_cells q3; have n4 := ext_cells q4; have n5 := ext_cells q5; have n6 := ext_cells q6
        clear hts hh q0 q1 q2 q3 q4 q5 q6 hj hji hll
        go_wp2
        apply wp_region_ordX [(0, .det _), (1, .det _), (2, .det _), (3, .det _), (4, .det _), (5, .det _), (6, .det _), (7, .det _), (8, .det _), (9, .det _), (10, .det _), (11, .det _), (12, .det _), (13, .new (fun _ => True) (Sl1 wr.heap.size 48 #[.int .i64 (100000 - tn.t), .int .i64 tn.x.a, .int .i64 tn.x.b, .int .i64 tn.x.c, .int .i64 tn.x.d, .int .i64 tn.x.e, .int .i64 tn.x.f]) undef trivial)] 14 Ext Ext (Ext wr) (fun _ => True) wide
          [(0,true), (1,true), (2,true), (3,true), (4,true), (5,true), (6,true), (7,true), (8,true), (9,true), (10,true), (11,true), (12,true), (13,true)] (by kernel_rfl) rfl (by decide) (fun _ _ h => h) (stable_ext _) stable_true (Ext.drawn _ _) trivial ?main
        case main =>
          iterate 13 (apply ordX_det rfl rfl; (intro w' hw'; unfold opR; go_simp; exact ⟨Ext.refl _, rfl⟩); (simp only [List.getElem_toArray, List.getElem_cons_succ, List.getElem_cons_zero, Act.put, List.setIfInBounds_toArray, List.set_cons_succ, List.set_cons_zero]; rfl))
          apply ordX_new (Sl1.stable _ _ _) rfl rfl
          · intro w' hw'
            unfold opR
            go_simp
            exact ⟨Ext.alloc' _ _, Sl1.new w' _ _ hw'.size⟩
          · intro v; (simp only [List.getElem_toArray, List.getElem_cons_succ, List.getElem_cons_zero, Act.put, List.setIfInBounds_toArray, List.set_cons_succ, List.set_cons_zero]; rfl)
          intro v8 _
          refine ordX_nil rfl ?_
          rintro w4 hw4 - ⟨-, g8, rfl, hg8, hrow⟩
          refine wpList_own_app et_d rfl (.tmp 40) (.tmp 53) rfl (own.ext hw4) rfl [turD tn] ⟨g8, 0, none⟩ 1 rfl (fun _ _ => rfl) (fun j u hu => row_news hrow j u hu) (by simp [encD, Value.oneCell']) (by rw [HLL.out]; simp; omega) (X.trans hw4).size ?_
          intro v5 w5 o5 b5 a5 _
          have XF : Ext w2 w5 := Below.trans (X.trans hw4) b5
          have O5 := Lib.hid o5
          clear n0 n1 n2 n3 n4 n5 n6 hrow o5 b5 a5 hw4 own X e1
          go_wp2
          go_roundw
          case rel => exact ⟨k + 1, by omega, congrArg (Value.int .i64) (by have := HJI.out; omega), by rw [HTS.out]; exact O5.out, XF⟩
          case measure => have := HJI.out; simp [intOf] <;> omega
      · obtain rfl : k = ds.length := by omega
        have e0 : (ds.length : Int) - 1 - (ds.length : Int) = -1 := by omega
        rw [List.take_of_length_le (by rw [revD_len]; exact Nat.le_refl _)] at own
        rw [e0]
        have SR := own.sl (fun _ _ => rfl) (by rw [revD_len]; omega)
        have X3 := X2.trans X
        have B3 := Lib.hid (block_ext X B2.out)
        have SH3 := Sh.ext X3
        have e9 := SR.len
        rw [revD_len] at e9
        obtain ⟨a9, c9, rfl, -, -, -⟩ := e9
        clear own SD2 X B2 e0
        obtain ⟨wo, rfl⟩ : ∃ wo : World, wo = wr := ⟨_, rfl⟩
        go_wp2
        go_loopw [14, 15] (fun v i wr => ∃ k : Nat, k ≤ hs.length ∧ i = .int .i64 ((hs.length : Int) - 1 - (k : Int)) ∧ OwnR wr wo.heap.size 54 3 encH v ((revH hs).take k) ∧ Ext wo wr) (fun _ i _ => (intOf i + 1).toNat)
        case atStart => exact ⟨0, by omega, by simp, OwnR.nil, Ext.refl _⟩
        case round =>
          obtain ⟨k, hk, rfl, own, X⟩ := hrel
          by_cases hlt : k < hs.length
          · obtain ⟨j, hj⟩ : ∃ j : Nat, hs.length - 1 - k = j := ⟨_, rfl⟩
            have hji : (hs.length : Int) - 1 - (k : Int) = (j : Int) := by omega
            rw [hji]
            have hjl : j < hs.length := by omega
            obtain ⟨g, o, rfl, q0, q1, q2⟩ := Sl.hrd (SH3.ext X) j hjl
            obtain ⟨tn, hh⟩ : ∃ h, hs[j] = h := ⟨_, rfl⟩
            rw [hh] at q0 q1 q2
            have hdt := HV.out.ht tn (by rw [← hh]; exact List.getElem_mem _)
            obtain ⟨z1, z2⟩ := hdt
            have hts : (revH hs).take (k + 1) = (revH hs).take k ++ [turH tn] := by
              rw [List.take_succ_eq_append_getElem (by rw [revH_len]; exact hlt), revH_get]
              congr 2
              rw [← hh]
              congr 1
              simp only [hj]
            have HTS := Lib.hid hts; have HJI := Lib.hid hji
            have i1 : (0 : Int) ≤ (j : Int) := by omega
            have i2 : (j : Int) < (hs.length : Int) := by omega
            have e1 : IntKind.i64.wrap (100000 - tn.t) = 100000 - tn.t := IntWalk.i64_in _ (by omega)
            have hll : ((revH hs).take k).length = k := by rw [List.length_take, revH_len]; omega
            have HLL := Lib.hid hll
            have n0 := ext_cells q0; have n1 := ext_cells q1; have n2 := ext_cells q2
            clear hts hh q0 q1 q2 hj hji hll
            go_wp2
            apply wp_region_ordX [(0, .det _), (1, .det _), (2, .det _), (3, .det _), (4, .det _), (5, .det _), (6, .det _), (7, .det _), (8, .det _), (9, .det _), (10, .det _), (11, .det _), (12, .det _), (13, .new (fun _ => True) (Sl1 wr.heap.size 54 #[.int .i64 (100000 - tn.t), .int .i64 tn.s.lo, .int .i64 tn.s.hi]) undef trivial)] 14 Ext Ext (Ext wr) (fun _ => True) wide
              [(0,true), (1,true), (2,true), (3,true), (4,true), (5,true), (6,true), (7,true), (8,true), (9,true), (10,true), (11,true), (12,true), (13,true)] (by kernel_rfl) rfl (by decide) (fun _ _ h => h) (stable_ext _) stable_true (Ext.drawn _ _) trivial ?main2
            case main2 =>
              iterate 13 (apply ordX_det rfl rfl; (intro w' hw'; unfold opR; go_simp; exact ⟨Ext.refl _, rfl⟩); (simp only [List.getElem_toArray, List.getElem_cons_succ, List.getElem_cons_zero, Act.put, List.setIfInBounds_toArray, List.set_cons_succ, List.set_cons_zero]; rfl))
              apply ordX_new (Sl1.stable _ _ _) rfl rfl
              · intro w' hw'
                unfold opR
                go_simp
                exact ⟨Ext.alloc' _ _, Sl1.new w' _ _ hw'.size⟩
              · intro v; (simp only [List.getElem_toArray, List.getElem_cons_succ, List.getElem_cons_zero, Act.put, List.setIfInBounds_toArray, List.set_cons_succ, List.set_cons_zero]; rfl)
              intro v8 _
              refine ordX_nil rfl ?_
              rintro w4 hw4 - ⟨-, g8, rfl, hg8, hrow⟩
              refine wpList_own_app et_h rfl (.tmp 62) (.tmp 75) rfl (own.ext hw4) rfl [turH tn] ⟨g8, 0, none⟩ 1 rfl (fun _ _ => rfl) (fun j u hu => row_news hrow j u hu) (by simp [encH, Value.oneCell']) (by rw [HLL.out]; simp; omega) (X.trans hw4).size ?_
              intro v5 w5 o5 b5 a5 _
              have XF : Ext wo w5 := Below.trans (X.trans hw4) b5
              have O5 := Lib.hid o5
              clear n0 n1 n2 hrow o5 b5 a5 hw4 own X e1
              go_wp2
              go_roundw
              case rel => exact ⟨k + 1, by omega, congrArg (Value.int .i64) (by have := HJI.out; omega), by rw [HTS.out]; exact O5.out, XF⟩
              case measure => have := HJI.out; simp [intOf] <;> omega
          · obtain rfl : k = hs.length := by omega
            have e0 : (hs.length : Int) - 1 - (hs.length : Int) = -1 := by omega
            rw [List.take_of_length_le (by rw [revH_len]; exact Nat.le_refl _)] at own
            rw [e0]
            have SR2 := own.sl (fun _ _ => rfl) (by rw [revH_len]; omega)
            have X4 := X3.trans X
            have B4 := Lib.hid (block_ext X B3.out)
            have c0 := block_cell B4.out 0 (.int .i64 p.skip) rfl
            have c1 := block_cell B4.out 1 (.int .i64 p.off) rfl
            have SR4 := SR.ext X
            have e9 := SR2.len
            rw [revH_len] at e9
            obtain ⟨a8, c8, rfl, -, -, -⟩ := e9
            clear own SH3 X B3 e0 SR
            go_wp2_with fail
            refine (align_walk _ _ (revD ds) (revH hs) p (by rw [revD_len]; exact hn1) (by rw [revH_len]; exact hn2) _ (G.ext X4) SR4 SR2).mono ?_
            rw [K1.out, K2.out]
            rintro e w3 ⟨vl', vt', rfl, SL', TT', x3⟩
            have XE := X4.trans x3
            go_wp2
            go_ret
            exact ⟨by first | rfl | simp, XE⟩

theorem alignBackwards_args (H : Type) (enc : TypeId × Value → H) (W : World) (base : Nat) (vs : List Value) (ds : List (DataW H)) (_ : ∀ k, (OpenSpec.ofChange Rows.alignBackwardsSpec).cond = some k → k H ds = true) (hL : laidMetH Tryd.prog Rows.alignBackwardsRow.laid W) (hA : Args enc Tryd.prog W base Tryd.f9.params.toList vs ds) :
    Calls Tryd.prog 9 vs.toArray W fun e W' => e = .returned (.bool true) ∧ Ext W W' := by
  rw [Tryd.params9] at hA
  obtain ⟨v0, _, d0, _, rfl, rfl, h0, hA⟩ := hA.cons
  obtain ⟨v1, _, d1, _, rfl, rfl, h1, hA⟩ := hA.cons
  obtain ⟨v2, _, d2, _, rfl, rfl, h2, hA⟩ := hA.cons
  obtain ⟨rfl, rfl⟩ := hA.nil
  obtain ⟨l0, S0, n0⟩ := arg_dues h0
  obtain ⟨l1, S1, n1⟩ := arg_heard h1
  obtain ⟨p, rfl, _⟩ := arg_price h2
  exact backwards_walk _ _ l0 l1 p n0 n1 W (gv_of hL) S0 S1

theorem alignBackwards_met (os : Os) : laidMet Tryd.prog Rows.alignBackwardsRow.laid ((laidWorld os).forCall (fun _ _ => 0) ⟨#[], #[.slice none 0 0, .slice none 0 0, .agg #[.int .i64 0, .int .i64 0]], []⟩).memory := laidMet_of_run' 8 (by kernel_rfl) (by kernel_rfl)
theorem alignBackwards_reads (os : Os) {H : Type} (enc : TypeId × Value → H) : ∃ places, DataW.whole enc Tryd.prog ((laidWorld os).forCall (fun _ _ => 0) ⟨#[], #[.slice none 0 0, .slice none 0 0, .agg #[.int .i64 0, .int .i64 0]], []⟩).memory Tryd.f9.params.toList Rows.alignBackwardsSpec.vars false #[.slice none 0 0, .slice none 0 0, .agg #[.int .i64 0, .int .i64 0]].toList 8 = some ([.nil, .nil, .agg [.lit (.int .i64 0), .lit (.int .i64 0)]], [], places) := ⟨[], by kernel_rfl⟩
set_option maxRecDepth 100000 in
theorem alignBackwards_lifted (os : Os) (started : os.Started) (H : Type) (enc : TypeId × Value → H) (F : Stop.Interp) :
    ReturnsInHanded {} Tryd.checked os 9 .any ((OpenSpec.ofChange Rows.alignBackwardsSpec).preRow enc Tryd.prog Tryd.f9 Rows.alignBackwardsRow.domain false Rows.alignBackwardsRow.laid) (((OpenSpec.ofChange Rows.alignBackwardsSpec).at F).post enc Tryd.prog Tryd.f9 false true false false) := by
  obtain ⟨places, hx⟩ := alignBackwards_reads os enc
  exact law_row (C := Tryd.checked) (s := (OpenSpec.ofChange Rows.alignBackwardsSpec)) (by kernel_rfl) started (by kernel_rfl) Tryd.func9
    (witness_row_at (enc := enc) (C := Tryd.checked) false (laidWorld os) #[.slice none 0 0, .slice none 0 0, .agg #[.int .i64 0, .int .i64 0]] rfl (by kernel_rfl) (by kernel_rfl) (by kernel_rfl) (OpenSpec.preRow_of_cond 8 hx (by kernel_rfl) (fun k hk => by cases hk) (by kernel_rfl) (alignBackwards_met os)))
    (by kernel_rfl) (by kernel_rfl) (by kernel_rfl) rfl (fun ds h => by match ds, h with | [_, _, _], _ => rfl) (alignBackwards_args H enc)
theorem alignBackwards_said : Rows.AlignBackwardsSaid :=
  OpenClaim.holds_of_cond 9 Tryd.f9 rfl rfl rfl rfl rfl rfl rfl ⟨rfl, rfl, rfl, rfl, rfl⟩ rfl rfl rfl rfl rfl (by kernel_rfl) Tryd.func9 (by kernel_rfl)
    (of_decide_eq_true (by kernel_rfl)) (by unfold Func.isWrapper; first | (rw [if_pos (by decide +kernel)]; kernel_rfl) | (rw [if_neg (by decide +kernel)]; exact ⟨rfl, rfl⟩))
    (fun os started H enc _ F => by rw [OpenClaim.pre_eq_preRow]; exact alignBackwards_lifted os started H enc F)
theorem alignBackwards_plain (f : FuncId) (fn : Func) (hf : Tryd.pinned.checked.prog.funcNamed "schisma/schismalaw38.AlignBackwards" = some f) (hfn : Tryd.pinned.checked.prog.funcs[f]? = some fn) :
    false = Tryd.pinned.checked.prog.looks [] ∧ ∀ (j : Nat) t, fn.params[j]? = some t → Tryd.pinned.checked.prog.wantsStandIn t = false := by
  obtain rfl : f = 9 := Option.some.inj ((show Tryd.prog.funcNamed "schisma/schismalaw38.AlignBackwards" = some 9 by kernel_rfl).symm.trans hf) |>.symm
  obtain rfl : fn = Tryd.f9 := (Option.some.inj (Tryd.func9.symm.trans hfn)).symm
  refine ⟨by kernel_rfl, fun j t ht => ?_⟩
  have hall : Tryd.f9.params.all (fun t => !Tryd.prog.wantsStandIn t) = true := by kernel_rfl
  have := (Array.all_eq_true'.1 hall) t (Array.mem_of_getElem? ht)
  have e : Tryd.prog.wantsStandIn t = false := by simpa using this
  exact e
/-- The card. -/
theorem alignBackwards_holds : Rows.AlignBackwardsCardSaid :=
  Claim7.holds_tied_plain_at .later [] _ _ _ _ alignBackwards_said (fun _ h => by cases h) (by kernel_rfl) (fun _ h => by cases h) alignBackwards_row_tie rfl ⟨rfl, rfl⟩ (by kernel_rfl) rfl alignBackwards_plain (by kernel_rfl)
end Go.Proofs.YthomegempfedaaaDoor
