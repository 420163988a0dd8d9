/-
  Proved: 'AlignNarrow' returns true for every input and leaves its arguments as they were. No condition.
-/
import Derived.Test.YthomegempfedaaaDoorAlL
import Derived.Test.YthomegempfedaaaDoorIns
set_option linter.unusedVariables false
namespace Go.Proofs.YthomegempfedaaaDoor
open Go.RowKit Go.Sx Go.Sx.Sz Go.Sx.Al Go.ChangeShapes Go.WideShapes Go.ChangeAt

/-- Lists of the same lengths whose matches cost no less. -/
theorem tab_le {ds ds' : List Due} {hs hs' : List Hrd} {p : Prc} (h' : alOk ds' hs' p = true) (hl : ds'.length = ds.length) (hk : hs'.length = hs.length)
    (hm : ∀ i j (hi : i < ds.length) (hj : j < hs.length), mc p ds[i] hs[j] ≤ mc p (ds'[i]'(by omega)) (hs'[j]'(by omega))) : tab ds hs p 0 0 ≤ tab ds' hs' p 0 0 := by
  have B := @tab_bnd ds hs p
  have B' : Bnd ds' hs' p (tab ds hs p) := ⟨by rw [hl, hk]; exact B.last, fun i j hi hj => B.due i j (by omega) (by omega), fun i j hi hj => B.tone i j (by omega) (by omega), fun i j hi hj => by
    have := B.both i j (by omega) (by omega); have := hm i j (by omega) (by omega); omega⟩
  have := cost_least B' (l := pathL ds' hs' p) (by rw [cost_path h'])
  rwa [cost_path h'] at this

def narS (a b : Int) (s : S2) : S2 := ⟨if s.lo + a < s.hi then s.lo + a else s.hi, if (if s.lo + a < s.hi then s.lo + a else s.hi) < s.hi - b then s.hi - b else (if s.lo + a < s.hi then s.lo + a else s.hi)⟩
def nar (a b : Int) (h : Hrd) : Hrd := ⟨h.t, narS a b h.s⟩
theorem narS_ok {a b : Int} {s : S2} (ha : 0 ≤ a) (hb : 0 ≤ b) (h : szOk s = true) : szOk (narS a b s) = true ∧ s.lo ≤ (narS a b s).lo ∧ (narS a b s).hi ≤ s.hi := by
  rw [szOk_iff] at h
  have : s.lo ≤ (narS a b s).lo ∧ (narS a b s).lo ≤ (narS a b s).hi ∧ (narS a b s).hi ≤ s.hi := by
    unfold narS
    simp only
    by_cases h1 : s.lo + a < s.hi
    · rw [if_pos h1]
      by_cases h2 : s.lo + a < s.hi - b
      · rw [if_pos h2]; omega
      · rw [if_neg h2]; omega
    · rw [if_neg h1]
      by_cases h2 : s.hi < s.hi - b
      · omega
      · rw [if_neg h2]; omega
  exact ⟨szOk_iff.2 ⟨by omega, this.2.1, by omega⟩, this.1, this.2.2⟩
theorem mc_nar {p : Prc} {a b : Int} (ha : 0 ≤ a) (hb : 0 ≤ b) (ho : 0 ≤ p.off) (d : Due) {h : Hrd} (hh : szOk h.s = true) : mc p d h ≤ mc p d (nar a b h) := by
  obtain ⟨h1, h2, h3⟩ := narS_ok ha hb hh
  unfold mc
  show (if (cmpR (dsz d) h.s).1 = 0 then absd d.t h.t else absd d.t h.t + p.off) ≤ (if (cmpR (dsz d) (narS a b h.s)).1 = 0 then absd d.t h.t else absd d.t h.t + p.off)
  by_cases e : (cmpR (dsz d) (narS a b h.s)).1 = 0
  · rw [if_pos e]
    rw [if_pos]
    · exact Int.le_refl _
    · unfold cmpR at e ⊢
      cases hd : szOk (dsz d) with
      | false => simp
      | true =>
        rw [if_pos ⟨hd, h1⟩] at e
        rw [if_pos ⟨rfl, hh⟩]
        by_cases k1 : (dsz d).hi < (narS a b h.s).lo
        · rw [if_pos k1] at e; cases e
        · rw [if_neg k1] at e
          by_cases k2 : (narS a b h.s).hi < (dsz d).lo
          · rw [if_pos k2] at e; cases e
          · rw [if_neg (by omega), if_neg (by omega)]
  · rw [if_neg e]; split <;> omega
theorem nar_ok {ds : List Due} {hs : List Hrd} {p : Prc} {a b : Int} (ha : 0 ≤ a) (hb : 0 ≤ b) (h : alOk ds hs p = true) : alOk ds (hs.map (nar a b)) p = true ∧ tab ds hs p 0 0 ≤ tab ds (hs.map (nar a b)) p 0 0 := by
  have hv := alOk_iff.1 h
  have hok : alOk ds (hs.map (nar a b)) p = true := alOk_iff.2 ⟨hv.dx, fun x hx => by
    obtain ⟨y, hy, rfl⟩ := List.mem_map.1 hx
    exact (narS_ok ha hb (hv.hx y hy)).1, hv.dn, by rw [List.length_map]; exact hv.hn, hv.dr, hv.dt, by rw [List.map_map]; exact hv.hr, fun x hx => by
    obtain ⟨y, hy, rfl⟩ := List.mem_map.1 hx
    exact hv.ht y hy, hv.skip, hv.off⟩
  refine ⟨hok, tab_le hok rfl (by simp) fun i j hi hj => ?_⟩
  rw [List.getElem_map]
  exact mc_nar ha hb hv.off.1 _ (hv.hx _ (List.getElem_mem _))

theorem et_h : ET Tryd.prog 23 54 3 24 := .mk' (z := .agg #[.int .i64 0, .int .i64 0, .int .i64 0]) Tryd.underlying23 (by kernel_rfl) rfl (by decide) (by decide)
theorem sl1_hrd {B : Nat} {h : Hrd} {v : Value} {w : World} (s : Sl1 B 54 #[.int .i64 h.t, .int .i64 h.s.lo, .int .i64 h.s.hi] v w) : ∃ g, v = .slice (some ⟨g, 0, none⟩) 1 1 ∧ w.heap[g]? = some (.cells #[.int .i64 h.t, .int .i64 h.s.lo, .int .i64 h.s.hi] 54 (0, 0)) := by
  obtain ⟨g, h1, _, h2⟩ := s; exact ⟨g, h1, h2⟩

set_option maxHeartbeats 4000000 in
theorem narrow_walk (vd vh : Value) (ds : List Due) (hs : List Hrd) (p : Prc) (a b : Int) (ha0 : 0 ≤ a) (ha1 : a ≤ 4294967295) (hb0 : 0 ≤ b) (hb1 : b ≤ 4294967295) (hn1 : ds.length * 56 ≤ 140737488351232) (hn2 : hs.length * 24 ≤ 140737488351232) (w : World) (G : Gl 0 w)
    (Sd : Sl w 7 encD vd ds) (Sh : Sl w 3 encH vh hs) :
    Calls Tryd.prog 10 #[vd, vh, .agg #[.int .i64 p.skip, .int .i64 p.off], .int .u32 a, .int .u32 b] w fun e w' => e = .returned (.bool true) ∧ Ext w w' := by
  obtain ⟨ad, cd, rfl, -, -, -⟩ := Sd.len
  obtain ⟨ah, ch, rfl, -, -, -⟩ := Sh.len
  go_enter Tryd.func10, Tryd.ntmps10
  go_wp2_with fail
  refine (head_walk _ (G.ext (by repeat (first | with_reducible exact Ext.refl _ | with_reducible assumption | with_reducible apply Ext.alloc | with_reducible apply Ext.drew | (with_reducible refine Ext.setCell ?_ (by (try simp) <;> omega) _))))).mono ?_
  rintro e w1 ⟨rfl, x1⟩
  have X1 : Ext w w1 := Ext.trans (by repeat (first | with_reducible exact Ext.refl _ | with_reducible assumption | with_reducible apply Ext.alloc | with_reducible apply Ext.drew | (with_reducible refine Ext.setCell ?_ (by (try simp) <;> omega) _))) x1
  have b1 := block_ext x1 (block_new w (.cells #[.int .i64 p.skip, .int .i64 p.off] 25))
  have c10 := block_cell b1 0 (.int .i64 p.skip) rfl
  have c11 := block_cell b1 1 (.int .i64 p.off) rfl
  have B1 := Lib.hid b1
  clear x1 b1
  go_wp2_with fail
  refine (align_walk _ _ ds hs p hn1 hn2 _ (G.ext X1) (Sd.ext X1) (Sh.ext X1)).mono ?_
  cases hok : alOk ds hs p with
  | false =>
    have h1 : alCr ds hs p = 0 := by rw [alCr, hok]; rfl
    have h2 : alEr ds hs p = 1 := by rw [alEr, hok]; rfl
    rw [h1, h2]
    clear hok h1 h2
    rintro e w2 ⟨vl, vt, rfl, SL, TT, x2⟩
    have X2 := X1.trans x2
    clear x2 B1 c10 c11
    go_wp2
    go_ret
    exact ⟨rfl, X2⟩
  | true =>
    have h1 : alCr ds hs p = tab ds hs p 0 0 := by rw [alCr, hok]; rfl
    have h2 : alEr ds hs p = 0 := by rw [alEr, hok]; rfl
    obtain ⟨q1, hle⟩ := nar_ok ha0 hb0 hok
    have hv := alOk_iff.1 hok
    have k1 : alCr ds (hs.map (nar a b)) p = tab ds (hs.map (nar a b)) p 0 0 := by rw [alCr, q1]; rfl
    have k2 : alEr ds (hs.map (nar a b)) p = 0 := by rw [alEr, q1]; rfl
    obtain ⟨c, hcc⟩ : ∃ c, tab ds hs p 0 0 = c := ⟨_, rfl⟩
    obtain ⟨c', hcc'⟩ : ∃ c, tab ds (hs.map (nar a b)) p 0 0 = c := ⟨_, rfl⟩
    rw [h1, h2]
    rw [hcc'] at k1 hle
    rw [hcc] at hle ⊢
    have K1 := Lib.hid k1; have K2 := Lib.hid k2; have HV := Lib.hid hv; have HLE := Lib.hid hle
    have hhn := hv.hn
    clear hok h1 h2 hcc hcc' k1 k2 q1 hv hle
    rintro e w2 ⟨vl, vt, rfl, SL, TT, x2⟩
    have X2 := X1.trans x2
    have B2 := Lib.hid (block_ext x2 B1.out)
    clear x2 B1 c10 c11
    have SH2 := Sh.ext X2
    go_wp2
    go_loopw [16, 17] (fun v i wr => ∃ k : Nat, k ≤ hs.length ∧ i = .int .i64 k ∧ OwnR wr w2.heap.size 54 3 encH v ((hs.take k).map (nar a b)) ∧ Ext w2 wr) (fun _ i _ => hs.length - (intOf i).toNat)
    case atStart => exact ⟨0, by omega, rfl, OwnR.nil, Ext.refl _⟩
    case round =>
      obtain ⟨k, hk, rfl, own, X⟩ := hrel
      by_cases hlt : k < hs.length
      · obtain ⟨g, o, rfl, q0, q1, q2⟩ := Sl.hrd (SH2.ext X) k hlt
        obtain ⟨tn, hh⟩ : ∃ h, hs[k] = h := ⟨_, rfl⟩
        rw [hh] at q0 q1 q2
        have hsz := szOk_iff.1 (HV.out.hx tn (by rw [← hh]; exact List.getElem_mem _))
        obtain ⟨z1, z2, z3⟩ := hsz
        have hts : (hs.take (k + 1)).map (nar a b) = (hs.take k).map (nar a b) ++ [nar a b tn] := by rw [List.take_succ_eq_append_getElem hlt, List.map_append, hh]; rfl
        have HTS := Lib.hid hts
        have i1 : (0 : Int) ≤ (k : Int) := by omega
        have i2 : (k : Int) < (hs.length : Int) := by omega
        have Q0 := Lib.hid q0
        clear hts hh q0
        rcases Int.lt_trichotomy (tn.s.lo + a) tn.s.hi with m1 | m1 | m1
        · rcases Int.lt_trichotomy (tn.s.lo + a) (tn.s.hi - b) with m2 | m2 | m2
          · have hnr : nar a b tn = ⟨tn.t, ⟨tn.s.lo + a, tn.s.hi - b⟩⟩ := by
              unfold nar narS
              have e1 : (if tn.s.lo + a < tn.s.hi then tn.s.lo + a else tn.s.hi) = tn.s.lo + a := by split <;> omega
              rw [e1]
              have e2 : (if tn.s.lo + a < tn.s.hi - b then tn.s.hi - b else tn.s.lo + a) = tn.s.hi - b := by split <;> omega
              rw [e2]
            have HNR := Lib.hid hnr
            clear hnr
            go_wp2
            obtain ⟨x, hx⟩ : ∃ x, tn.s.lo + a = x := ⟨_, rfl⟩
            obtain ⟨y, hy⟩ : ∃ y, tn.s.hi - b = y := ⟨_, rfl⟩
            have hnr := HNR.out
            rw [hx, hy] at hnr
            obtain ⟨N, hN⟩ : ∃ N, wr.heap.size = N := ⟨_, rfl⟩
            have bN := block_at hN (.cells #[.int .i64 x, .int .i64 y] 50)
            have yN := Ext.alloc' wr (.cells #[.int .i64 x, .int .i64 y] 50)
            obtain ⟨W3, hW3⟩ : ∃ W3, wr.alloc (.cells #[.int .i64 x, .int .i64 y] 50) = W3 := ⟨_, rfl⟩
            rw [hW3] at bN yN
            rw [hx, hy, hN, hW3]
            have HNY := Lib.hid hnr
            clear hx hy hN hW3 HNR hnr q1 q2 z1 z2 z3 m1 m2
            have n0 := ext_cells (block_cell bN 0 (.int .i64 x) rfl)
            have n1 := ext_cells (block_cell bN 1 (.int .i64 y) rfl)
            have n2 := ext_cells (yN.cell Q0.out)
            have own3 := own.ext yN
            have X3 := X.trans yN
            apply wp_region_ordX [(0, .det _), (1, .det _), (2, .det _), (3, .det _), (4, .det _), (5, .det _), (6, .det _), (7, .det _), (8, .new (fun _ => True) (Sl1 W3.heap.size 54 #[.int .i64 tn.t, .int .i64 x, .int .i64 y]) undef trivial)] 9 Ext Ext (Ext W3) (fun _ => True) wide
              [(0,true), (1,true), (2,true), (3,true), (4,true), (5,true), (6,true), (7,true), (8,true)] (by kernel_rfl) rfl (by decide) (fun _ _ h => h) (stable_ext _) stable_true (Ext.drawn _ _) trivial ?main
            case main =>
              iterate 8 (apply ordX_det rfl rfl; (intro w' hw'; unfold opR; go_simp; exact ⟨Ext.refl _, rfl⟩); (simp only [List.getElem_toArray, List.getElem_cons_succ, List.getElem_cons_zero, Act.put, List.setIfInBounds_toArray, List.set_cons_succ, List.set_cons_zero]; rfl))
              apply ordX_new (Sl1.stable _ _ _) rfl rfl
              · intro w' hw'
                unfold opR
                go_simp
                exact ⟨Ext.alloc' _ _, Sl1.new w' _ _ hw'.size⟩
              · intro v; (simp only [List.getElem_toArray, List.getElem_cons_succ, List.getElem_cons_zero, Act.put, List.setIfInBounds_toArray, List.set_cons_succ, List.set_cons_zero]; rfl)
              intro v8 _
              refine ordX_nil rfl ?_
              rintro w4 hw4 - ⟨-, g8, rfl, hg8, hrow⟩
              refine wpList_own_app et_h rfl (.tmp 65) (.tmp 73) rfl (own3.ext hw4) rfl [(⟨tn.t, ⟨x, y⟩⟩ : Hrd)] ⟨g8, 0, none⟩ 1 rfl (fun _ _ => rfl) (fun j u hu => row_news hrow j u hu) (by simp [encH, Value.oneCell']) (by simp; omega) (X3.trans hw4).size ?_
              intro v5 w5 o5 b5 a5 _
              have XF : Ext w2 w5 := Below.trans (X3.trans hw4) b5
              have O5 := Lib.hid o5
              clear n0 n1 n2 own3 X3 hrow o5 b5 a5 hw4 own X
              go_wp2
              go_roundw
              case rel => exact ⟨k + 1, by omega, by go_num, by rw [HTS.out, HNY.out]; exact O5.out, XF⟩
              case measure => simp [intOf]; omega
          · have m3 : tn.s.hi - b < tn.s.hi := by omega
            have hnr : nar a b tn = ⟨tn.t, ⟨tn.s.hi - b, tn.s.hi - b⟩⟩ := by
              unfold nar narS
              have e1 : (if tn.s.lo + a < tn.s.hi then tn.s.lo + a else tn.s.hi) = tn.s.hi - b := by split <;> omega
              rw [e1]
              have e2 : (if tn.s.hi - b < tn.s.hi - b then tn.s.hi - b else tn.s.hi - b) = tn.s.hi - b := by split <;> omega
              rw [e2]
            have HNR := Lib.hid hnr
            clear hnr
            go_wp2
            obtain ⟨x, hx⟩ : ∃ x, tn.s.hi - b = x := ⟨_, rfl⟩
            have hnr := HNR.out
            rw [hx] at hnr
            obtain ⟨N, hN⟩ : ∃ N, wr.heap.size = N := ⟨_, rfl⟩
            have bN := block_at hN (.cells #[.int .i64 x, .int .i64 x] 50)
            have yN := Ext.alloc' wr (.cells #[.int .i64 x, .int .i64 x] 50)
            obtain ⟨W3, hW3⟩ : ∃ W3, wr.alloc (.cells #[.int .i64 x, .int .i64 x] 50) = W3 := ⟨_, rfl⟩
            rw [hW3] at bN yN
            rw [hx, hN, hW3]
            have HNY := Lib.hid hnr
            clear hx hN hW3 HNR hnr q1 q2 z1 z2 z3 m1 m2
            have n0 := ext_cells (block_cell bN 0 (.int .i64 x) rfl)
            have n1 := ext_cells (block_cell bN 1 (.int .i64 x) rfl)
            have n2 := ext_cells (yN.cell Q0.out)
            have own3 := own.ext yN
            have X3 := X.trans yN
            apply wp_region_ordX [(0, .det _), (1, .det _), (2, .det _), (3, .det _), (4, .det _), (5, .det _), (6, .det _), (7, .det _), (8, .new (fun _ => True) (Sl1 W3.heap.size 54 #[.int .i64 tn.t, .int .i64 x, .int .i64 x]) undef trivial)] 9 Ext Ext (Ext W3) (fun _ => True) wide
              [(0,true), (1,true), (2,true), (3,true), (4,true), (5,true), (6,true), (7,true), (8,true)] (by kernel_rfl) rfl (by decide) (fun _ _ h => h) (stable_ext _) stable_true (Ext.drawn _ _) trivial ?main
            case main =>
              iterate 8 (apply ordX_det rfl rfl; (intro w' hw'; unfold opR; go_simp; exact ⟨Ext.refl _, rfl⟩); (simp only [List.getElem_toArray, List.getElem_cons_succ, List.getElem_cons_zero, Act.put, List.setIfInBounds_toArray, List.set_cons_succ, List.set_cons_zero]; rfl))
              apply ordX_new (Sl1.stable _ _ _) rfl rfl
              · intro w' hw'
                unfold opR
                go_simp
                exact ⟨Ext.alloc' _ _, Sl1.new w' _ _ hw'.size⟩
              · intro v; (simp only [List.getElem_toArray, List.getElem_cons_succ, List.getElem_cons_zero, Act.put, List.setIfInBounds_toArray, List.set_cons_succ, List.set_cons_zero]; rfl)
              intro v8 _
              refine ordX_nil rfl ?_
              rintro w4 hw4 - ⟨-, g8, rfl, hg8, hrow⟩
              refine wpList_own_app et_h rfl (.tmp 65) (.tmp 73) rfl (own3.ext hw4) rfl [(⟨tn.t, ⟨x, x⟩⟩ : Hrd)] ⟨g8, 0, none⟩ 1 rfl (fun _ _ => rfl) (fun j u hu => row_news hrow j u hu) (by simp [encH, Value.oneCell']) (by simp; omega) (X3.trans hw4).size ?_
              intro v5 w5 o5 b5 a5 _
              have XF : Ext w2 w5 := Below.trans (X3.trans hw4) b5
              have O5 := Lib.hid o5
              clear n0 n1 n2 own3 X3 hrow o5 b5 a5 hw4 own X
              go_wp2
              go_roundw
              case rel => exact ⟨k + 1, by omega, by go_num, by rw [HTS.out, HNY.out]; exact O5.out, XF⟩
              case measure => simp [intOf]; omega
          · have hnr : nar a b tn = ⟨tn.t, ⟨tn.s.lo + a, tn.s.lo + a⟩⟩ := by
              unfold nar narS
              have e1 : (if tn.s.lo + a < tn.s.hi then tn.s.lo + a else tn.s.hi) = tn.s.lo + a := by split <;> omega
              rw [e1]
              have e2 : (if tn.s.lo + a < tn.s.hi - b then tn.s.hi - b else tn.s.lo + a) = tn.s.lo + a := by split <;> omega
              rw [e2]
            have HNR := Lib.hid hnr
            clear hnr
            go_wp2
            obtain ⟨x, hx⟩ : ∃ x, tn.s.lo + a = x := ⟨_, rfl⟩
            have hnr := HNR.out
            rw [hx] at hnr
            obtain ⟨N, hN⟩ : ∃ N, wr.heap.size = N := ⟨_, rfl⟩
            have bN := block_at hN (.cells #[.int .i64 x, .int .i64 x] 50)
            have yN := Ext.alloc' wr (.cells #[.int .i64 x, .int .i64 x] 50)
            obtain ⟨W3, hW3⟩ : ∃ W3, wr.alloc (.cells #[.int .i64 x, .int .i64 x] 50) = W3 := ⟨_, rfl⟩
            rw [hW3] at bN yN
            rw [hx, hN, hW3]
            have HNY := Lib.hid hnr
            clear hx hN hW3 HNR hnr q1 q2 z1 z2 z3 m1 m2
            have n0 := ext_cells (block_cell bN 0 (.int .i64 x) rfl)
            have n1 := ext_cells (block_cell bN 1 (.int .i64 x) rfl)
            have n2 := ext_cells (yN.cell Q0.out)
            have own3 := own.ext yN
            have X3 := X.trans yN
            apply wp_region_ordX [(0, .det _), (1, .det _), (2, .det _), (3, .det _), (4, .det _), (5, .det _), (6, .det _), (7, .det _), (8, .new (fun _ => True) (Sl1 W3.heap.size 54 #[.int .i64 tn.t, .int .i64 x, .int .i64 x]) undef trivial)] 9 Ext Ext (Ext W3) (fun _ => True) wide
              [(0,true), (1,true), (2,true), (3,true), (4,true), (5,true), (6,true), (7,true), (8,true)] (by kernel_rfl) rfl (by decide) (fun _ _ h => h) (stable_ext _) stable_true (Ext.drawn _ _) trivial ?main
            case main =>
              iterate 8 (apply ordX_det rfl rfl; (intro w' hw'; unfold opR; go_simp; exact ⟨Ext.refl _, rfl⟩); (simp only [List.getElem_toArray, List.getElem_cons_succ, List.getElem_cons_zero, Act.put, List.setIfInBounds_toArray, List.set_cons_succ, List.set_cons_zero]; rfl))
              apply ordX_new (Sl1.stable _ _ _) rfl rfl
              · intro w' hw'
                unfold opR
                go_simp
                exact ⟨Ext.alloc' _ _, Sl1.new w' _ _ hw'.size⟩
              · intro v; (simp only [List.getElem_toArray, List.getElem_cons_succ, List.getElem_cons_zero, Act.put, List.setIfInBounds_toArray, List.set_cons_succ, List.set_cons_zero]; rfl)
              intro v8 _
              refine ordX_nil rfl ?_
              rintro w4 hw4 - ⟨-, g8, rfl, hg8, hrow⟩
              refine wpList_own_app et_h rfl (.tmp 65) (.tmp 73) rfl (own3.ext hw4) rfl [(⟨tn.t, ⟨x, x⟩⟩ : Hrd)] ⟨g8, 0, none⟩ 1 rfl (fun _ _ => rfl) (fun j u hu => row_news hrow j u hu) (by simp [encH, Value.oneCell']) (by simp; omega) (X3.trans hw4).size ?_
              intro v5 w5 o5 b5 a5 _
              have XF : Ext w2 w5 := Below.trans (X3.trans hw4) b5
              have O5 := Lib.hid o5
              clear n0 n1 n2 own3 X3 hrow o5 b5 a5 hw4 own X
              go_wp2
              go_roundw
              case rel => exact ⟨k + 1, by omega, by go_num, by rw [HTS.out, HNY.out]; exact O5.out, XF⟩
              case measure => simp [intOf]; omega
        · rcases Int.lt_or_eq_of_le hb0 with m2 | m2
          · have m3 : tn.s.hi - b < tn.s.hi := by omega
            have hnr : nar a b tn = ⟨tn.t, ⟨tn.s.hi, tn.s.hi⟩⟩ := by
              unfold nar narS
              have e1 : (if tn.s.lo + a < tn.s.hi then tn.s.lo + a else tn.s.hi) = tn.s.hi := by split <;> omega
              rw [e1]
              have e2 : (if tn.s.hi < tn.s.hi - b then tn.s.hi - b else tn.s.hi) = tn.s.hi := by split <;> omega
              rw [e2]
            have HNR := Lib.hid hnr
            clear hnr
            go_wp2
            obtain ⟨x, hx⟩ : ∃ x, tn.s.hi = x := ⟨_, rfl⟩
            have hnr := HNR.out
            rw [hx] at hnr
            obtain ⟨N, hN⟩ : ∃ N, wr.heap.size = N := ⟨_, rfl⟩
            have bN := block_at hN (.cells #[.int .i64 x, .int .i64 x] 50)
            have yN := Ext.alloc' wr (.cells #[.int .i64 x, .int .i64 x] 50)
            obtain ⟨W3, hW3⟩ : ∃ W3, wr.alloc (.cells #[.int .i64 x, .int .i64 x] 50) = W3 := ⟨_, rfl⟩
            rw [hW3] at bN yN
            rw [hx, hN, hW3]
            have HNY := Lib.hid hnr
            clear hx hN hW3 HNR hnr q1 q2 z1 z2 z3 m1 m2 m3
            have n0 := ext_cells (block_cell bN 0 (.int .i64 x) rfl)
            have n1 := ext_cells (block_cell bN 1 (.int .i64 x) rfl)
            have n2 := ext_cells (yN.cell Q0.out)
            have own3 := own.ext yN
            have X3 := X.trans yN
            apply wp_region_ordX [(0, .det _), (1, .det _), (2, .det _), (3, .det _), (4, .det _), (5, .det _), (6, .det _), (7, .det _), (8, .new (fun _ => True) (Sl1 W3.heap.size 54 #[.int .i64 tn.t, .int .i64 x, .int .i64 x]) undef trivial)] 9 Ext Ext (Ext W3) (fun _ => True) wide
              [(0,true), (1,true), (2,true), (3,true), (4,true), (5,true), (6,true), (7,true), (8,true)] (by kernel_rfl) rfl (by decide) (fun _ _ h => h) (stable_ext _) stable_true (Ext.drawn _ _) trivial ?main
            case main =>
              iterate 8 (apply ordX_det rfl rfl; (intro w' hw'; unfold opR; go_simp; exact ⟨Ext.refl _, rfl⟩); (simp only [List.getElem_toArray, List.getElem_cons_succ, List.getElem_cons_zero, Act.put, List.setIfInBounds_toArray, List.set_cons_succ, List.set_cons_zero]; rfl))
              apply ordX_new (Sl1.stable _ _ _) rfl rfl
              · intro w' hw'
                unfold opR
                go_simp
                exact ⟨Ext.alloc' _ _, Sl1.new w' _ _ hw'.size⟩
              · intro v; (simp only [List.getElem_toArray, List.getElem_cons_succ, List.getElem_cons_zero, Act.put, List.setIfInBounds_toArray, List.set_cons_succ, List.set_cons_zero]; rfl)
              intro v8 _
              refine ordX_nil rfl ?_
              rintro w4 hw4 - ⟨-, g8, rfl, hg8, hrow⟩
              refine wpList_own_app et_h rfl (.tmp 65) (.tmp 73) rfl (own3.ext hw4) rfl [(⟨tn.t, ⟨x, x⟩⟩ : Hrd)] ⟨g8, 0, none⟩ 1 rfl (fun _ _ => rfl) (fun j u hu => row_news hrow j u hu) (by simp [encH, Value.oneCell']) (by simp; omega) (X3.trans hw4).size ?_
              intro v5 w5 o5 b5 a5 _
              have XF : Ext w2 w5 := Below.trans (X3.trans hw4) b5
              have O5 := Lib.hid o5
              clear n0 n1 n2 own3 X3 hrow o5 b5 a5 hw4 own X
              go_wp2
              go_roundw
              case rel => exact ⟨k + 1, by omega, by go_num, by rw [HTS.out, HNY.out]; exact O5.out, XF⟩
              case measure => simp [intOf]; omega
          · subst m2
            have hnr : nar a 0 tn = ⟨tn.t, ⟨tn.s.hi, tn.s.hi⟩⟩ := by
              unfold nar narS
              have e1 : (if tn.s.lo + a < tn.s.hi then tn.s.lo + a else tn.s.hi) = tn.s.hi := by split <;> omega
              rw [e1]
              have e2 : (if tn.s.hi < tn.s.hi - 0 then tn.s.hi - 0 else tn.s.hi) = tn.s.hi := by split <;> omega
              rw [e2]
            have HNR := Lib.hid hnr
            clear hnr
            go_wp2
            obtain ⟨x, hx⟩ : ∃ x, tn.s.hi = x := ⟨_, rfl⟩
            have hnr := HNR.out
            rw [hx] at hnr
            obtain ⟨N, hN⟩ : ∃ N, wr.heap.size = N := ⟨_, rfl⟩
            have bN := block_at hN (.cells #[.int .i64 x, .int .i64 x] 50)
            have yN := Ext.alloc' wr (.cells #[.int .i64 x, .int .i64 x] 50)
            obtain ⟨W3, hW3⟩ : ∃ W3, wr.alloc (.cells #[.int .i64 x, .int .i64 x] 50) = W3 := ⟨_, rfl⟩
            rw [hW3] at bN yN
            rw [hx, hN, hW3]
            have HNY := Lib.hid hnr
            clear hx hN hW3 HNR hnr q1 q2 z1 z2 z3 m1
            have n0 := ext_cells (block_cell bN 0 (.int .i64 x) rfl)
            have n1 := ext_cells (block_cell bN 1 (.int .i64 x) rfl)
            have n2 := ext_cells (yN.cell Q0.out)
            have own3 := own.ext yN
            have X3 := X.trans yN
            apply wp_region_ordX [(0, .det _), (1, .det _), (2, .det _), (3, .det _), (4, .det _), (5, .det _), (6, .det _), (7, .det _), (8, .new (fun _ => True) (Sl1 W3.heap.size 54 #[.int .i64 tn.t, .int .i64 x, .int .i64 x]) undef trivial)] 9 Ext Ext (Ext W3) (fun _ => True) wide
              [(0,true), (1,true), (2,true), (3,true), (4,true), (5,true), (6,true), (7,true), (8,true)] (by kernel_rfl) rfl (by decide) (fun _ _ h => h) (stable_ext _) stable_true (Ext.drawn _ _) trivial ?main
            case main =>
              iterate 8 (apply ordX_det rfl rfl; (intro w' hw'; unfold opR; go_simp; exact ⟨Ext.refl _, rfl⟩); (simp only [List.getElem_toArray, List.getElem_cons_succ, List.getElem_cons_zero, Act.put, List.setIfInBounds_toArray, List.set_cons_succ, List.set_cons_zero]; rfl))
              apply ordX_new (Sl1.stable _ _ _) rfl rfl
              · intro w' hw'
                unfold opR
                go_simp
                exact ⟨Ext.alloc' _ _, Sl1.new w' _ _ hw'.size⟩
              · intro v; (simp only [List.getElem_toArray, List.getElem_cons_succ, List.getElem_cons_zero, Act.put, List.setIfInBounds_toArray, List.set_cons_succ, List.set_cons_zero]; rfl)
              intro v8 _
              refine ordX_nil rfl ?_
              rintro w4 hw4 - ⟨-, g8, rfl, hg8, hrow⟩
              refine wpList_own_app et_h rfl (.tmp 65) (.tmp 73) rfl (own3.ext hw4) rfl [(⟨tn.t, ⟨x, x⟩⟩ : Hrd)] ⟨g8, 0, none⟩ 1 rfl (fun _ _ => rfl) (fun j u hu => row_news hrow j u hu) (by simp [encH, Value.oneCell']) (by simp; omega) (X3.trans hw4).size ?_
              intro v5 w5 o5 b5 a5 _
              have XF : Ext w2 w5 := Below.trans (X3.trans hw4) b5
              have O5 := Lib.hid o5
              clear n0 n1 n2 own3 X3 hrow o5 b5 a5 hw4 own X
              go_wp2
              go_roundw
              case rel => exact ⟨k + 1, by omega, by go_num, by rw [HTS.out, HNY.out]; exact O5.out, XF⟩
              case measure => simp [intOf]; omega
        · rcases Int.lt_or_eq_of_le hb0 with m2 | m2
          · have m3 : tn.s.hi - b < tn.s.hi := by omega
            have hnr : nar a b tn = ⟨tn.t, ⟨tn.s.hi, tn.s.hi⟩⟩ := by
              unfold nar narS
              have e1 : (if tn.s.lo + a < tn.s.hi then tn.s.lo + a else tn.s.hi) = tn.s.hi := by split <;> omega
              rw [e1]
              have e2 : (if tn.s.hi < tn.s.hi - b then tn.s.hi - b else tn.s.hi) = tn.s.hi := by split <;> omega
              rw [e2]
            have HNR := Lib.hid hnr
            clear hnr
            go_wp2
            obtain ⟨x, hx⟩ : ∃ x, tn.s.hi = x := ⟨_, rfl⟩
            have hnr := HNR.out
            rw [hx] at hnr
            obtain ⟨N, hN⟩ : ∃ N, wr.heap.size = N := ⟨_, rfl⟩
            have bN := block_at hN (.cells #[.int .i64 x, .int .i64 x] 50)
            have yN := Ext.alloc' wr (.cells #[.int .i64 x, .int .i64 x] 50)
            obtain ⟨W3, hW3⟩ : ∃ W3, wr.alloc (.cells #[.int .i64 x, .int .i64 x] 50) = W3 := ⟨_, rfl⟩
            rw [hW3] at bN yN
            rw [hx, hN, hW3]
            have HNY := Lib.hid hnr
            clear hx hN hW3 HNR hnr q1 q2 z1 z2 z3 m1 m2 m3
            have n0 := ext_cells (block_cell bN 0 (.int .i64 x) rfl)
            have n1 := ext_cells (block_cell bN 1 (.int .i64 x) rfl)
            have n2 := ext_cells (yN.cell Q0.out)
            have own3 := own.ext yN
            have X3 := X.trans yN
            apply wp_region_ordX [(0, .det _), (1, .det _), (2, .det _), (3, .det _), (4, .det _), (5, .det _), (6, .det _), (7, .det _), (8, .new (fun _ => True) (Sl1 W3.heap.size 54 #[.int .i64 tn.t, .int .i64 x, .int .i64 x]) undef trivial)] 9 Ext Ext (Ext W3) (fun _ => True) wide
              [(0,true), (1,true), (2,true), (3,true), (4,true), (5,true), (6,true), (7,true), (8,true)] (by kernel_rfl) rfl (by decide) (fun _ _ h => h) (stable_ext _) stable_true (Ext.drawn _ _) trivial ?main
            case main =>
              iterate 8 (apply ordX_det rfl rfl; (intro w' hw'; unfold opR; go_simp; exact ⟨Ext.refl _, rfl⟩); (simp only [List.getElem_toArray, List.getElem_cons_succ, List.getElem_cons_zero, Act.put, List.setIfInBounds_toArray, List.set_cons_succ, List.set_cons_zero]; rfl))
              apply ordX_new (Sl1.stable _ _ _) rfl rfl
              · intro w' hw'
                unfold opR
                go_simp
                exact ⟨Ext.alloc' _ _, Sl1.new w' _ _ hw'.size⟩
              · intro v; (simp only [List.getElem_toArray, List.getElem_cons_succ, List.getElem_cons_zero, Act.put, List.setIfInBounds_toArray, List.set_cons_succ, List.set_cons_zero]; rfl)
              intro v8 _
              refine ordX_nil rfl ?_
              rintro w4 hw4 - ⟨-, g8, rfl, hg8, hrow⟩
              refine wpList_own_app et_h rfl (.tmp 65) (.tmp 73) rfl (own3.ext hw4) rfl [(⟨tn.t, ⟨x, x⟩⟩ : Hrd)] ⟨g8, 0, none⟩ 1 rfl (fun _ _ => rfl) (fun j u hu => row_news hrow j u hu) (by simp [encH, Value.oneCell']) (by simp; omega) (X3.trans hw4).size ?_
              intro v5 w5 o5 b5 a5 _
              have XF : Ext w2 w5 := Below.trans (X3.trans hw4) b5
              have O5 := Lib.hid o5
              clear n0 n1 n2 own3 X3 hrow o5 b5 a5 hw4 own X
              go_wp2
              go_roundw
              case rel => exact ⟨k + 1, by omega, by go_num, by rw [HTS.out, HNY.out]; exact O5.out, XF⟩
              case measure => simp [intOf]; omega
          · subst m2
            have hnr : nar a 0 tn = ⟨tn.t, ⟨tn.s.hi, tn.s.hi⟩⟩ := by
              unfold nar narS
              have e1 : (if tn.s.lo + a < tn.s.hi then tn.s.lo + a else tn.s.hi) = tn.s.hi := by split <;> omega
              rw [e1]
              have e2 : (if tn.s.hi < tn.s.hi - 0 then tn.s.hi - 0 else tn.s.hi) = tn.s.hi := by split <;> omega
              rw [e2]
            have HNR := Lib.hid hnr
            clear hnr
            go_wp2
            obtain ⟨x, hx⟩ : ∃ x, tn.s.hi = x := ⟨_, rfl⟩
            have hnr := HNR.out
            rw [hx] at hnr
            obtain ⟨N, hN⟩ : ∃ N, wr.heap.size = N := ⟨_, rfl⟩
            have bN := block_at hN (.cells #[.int .i64 x, .int .i64 x] 50)
            have yN := Ext.alloc' wr (.cells #[.int .i64 x, .int .i64 x] 50)
            obtain ⟨W3, hW3⟩ : ∃ W3, wr.alloc (.cells #[.int .i64 x, .int .i64 x] 50) = W3 := ⟨_, rfl⟩
            rw [hW3] at bN yN
            rw [hx, hN, hW3]
            have HNY := Lib.hid hnr
            clear hx hN hW3 HNR hnr q1 q2 z1 z2 z3 m1
            have n0 := ext_cells (block_cell bN 0 (.int .i64 x) rfl)
            have n1 := ext_cells (block_cell bN 1 (.int .i64 x) rfl)
            have n2 := ext_cells (yN.cell Q0.out)
            have own3 := own.ext yN
            have X3 := X.trans yN
            apply wp_region_ordX [(0, .det _), (1, .det _), (2, .det _), (3, .det _), (4, .det _), (5, .det _), (6, .det _), (7, .det _), (8, .new (fun _ => True) (Sl1 W3.heap.size 54 #[.int .i64 tn.t, .int .i64 x, .int .i64 x]) undef trivial)] 9 Ext Ext (Ext W3) (fun _ => True) wide
              [(0,true), (1,true), (2,true), (3,true), (4,true), (5,true), (6,true), (7,true), (8,true)] (by kernel_rfl) rfl (by decide) (fun _ _ h => h) (stable_ext _) stable_true (Ext.drawn _ _) trivial ?main
            case main =>
              iterate 8 (apply ordX_det rfl rfl; (intro w' hw'; unfold opR; go_simp; exact ⟨Ext.refl _, rfl⟩); (simp only [List.getElem_toArray, List.getElem_cons_succ, List.getElem_cons_zero, Act.put, List.setIfInBounds_toArray, List.set_cons_succ, List.set_cons_zero]; rfl))
              apply ordX_new (Sl1.stable _ _ _) rfl rfl
              · intro w' hw'
                unfold opR
                go_simp
                exact ⟨Ext.alloc' _ _, Sl1.new w' _ _ hw'.size⟩
              · intro v; (simp only [List.getElem_toArray, List.getElem_cons_succ, List.getElem_cons_zero, Act.put, List.setIfInBounds_toArray, List.set_cons_succ, List.set_cons_zero]; rfl)
              intro v8 _
              refine ordX_nil rfl ?_
              rintro w4 hw4 - ⟨-, g8, rfl, hg8, hrow⟩
              refine wpList_own_app et_h rfl (.tmp 65) (.tmp 73) rfl (own3.ext hw4) rfl [(⟨tn.t, ⟨x, x⟩⟩ : Hrd)] ⟨g8, 0, none⟩ 1 rfl (fun _ _ => rfl) (fun j u hu => row_news hrow j u hu) (by simp [encH, Value.oneCell']) (by simp; omega) (X3.trans hw4).size ?_
              intro v5 w5 o5 b5 a5 _
              have XF : Ext w2 w5 := Below.trans (X3.trans hw4) b5
              have O5 := Lib.hid o5
              clear n0 n1 n2 own3 X3 hrow o5 b5 a5 hw4 own X
              go_wp2
              go_roundw
              case rel => exact ⟨k + 1, by omega, by go_num, by rw [HTS.out, HNY.out]; exact O5.out, XF⟩
              case measure => simp [intOf]; omega
      · obtain rfl : k = hs.length := by omega
        rw [List.take_length] at own
        have S9 := own.sl (fun _ _ => rfl) (by simp; omega)
        have X9 := X2.trans X
        have B9 := Lib.hid (block_ext X B2.out)
        have c0 := block_cell B9.out 0 (.int .i64 p.skip) rfl
        have c1 := block_cell B9.out 1 (.int .i64 p.off) rfl
        clear own SH2 X B2
        have e9 := S9.len
        rw [List.length_map] at e9
        obtain ⟨a9, c9, rfl, -, -, -⟩ := e9
        go_wp2_with fail
        refine (align_walk _ _ ds (hs.map (nar a b)) p hn1 (by rw [List.length_map]; exact hn2) _ (G.ext X9) (Sd.ext X9) S9).mono ?_
        rw [K1.out, K2.out]
        rintro e w3 ⟨vl', vt', rfl, SL', TT', x3⟩
        have XE := X9.trans x3
        have hd : decide (c ≤ c') = true := decide_eq_true HLE.out
        go_wp2
        go_ret
        exact ⟨by first | rfl | (rw [hd]; rfl) | simp [hd], XE⟩

theorem alignNarrow_args (H : Type) (enc : TypeId × Value → H) (W : World) (base : Nat) (vs : List Value) (ds : List (DataW H)) (_ : ∀ k, (OpenSpec.ofChange Rows.alignNarrowSpec).cond = some k → k H ds = true) (hL : laidMetH Tryd.prog Rows.alignNarrowRow.laid W) (hA : Args enc Tryd.prog W base Tryd.f10.params.toList vs ds) :
    Calls Tryd.prog 10 vs.toArray W fun e W' => e = .returned (.bool true) ∧ Ext W W' := by
  rw [Tryd.params10] at hA
  obtain ⟨v0, _, d0, _, rfl, rfl, h0, hA⟩ := hA.cons
  obtain ⟨v1, _, d1, _, rfl, rfl, h1, hA⟩ := hA.cons
  obtain ⟨v2, _, d2, _, rfl, rfl, h2, hA⟩ := hA.cons
  obtain ⟨v3, _, d3, _, rfl, rfl, h3, hA⟩ := hA.cons
  obtain ⟨v4, _, d4, _, rfl, rfl, h4, hA⟩ := hA.cons
  obtain ⟨rfl, rfl⟩ := hA.nil
  obtain ⟨l0, S0, n0⟩ := arg_dues h0
  obtain ⟨l1, S1, n1⟩ := arg_heard h1
  obtain ⟨p, rfl, _⟩ := arg_price h2
  obtain ⟨s, rfl, s0, s1⟩ := h3.int Tryd.underlying60
  obtain ⟨o, rfl, o0, o1⟩ := h4.int Tryd.underlying60
  exact narrow_walk _ _ l0 l1 p s o s0 s1 o0 o1 n0 n1 W (gv_of hL) S0 S1

theorem alignNarrow_met (os : Os) : laidMet Tryd.prog Rows.alignNarrowRow.laid ((laidWorld os).forCall (fun _ _ => 0) ⟨#[], #[.slice none 0 0, .slice none 0 0, .agg #[.int .i64 0, .int .i64 0], .int .u32 0, .int .u32 0], []⟩).memory := laidMet_of_run' 8 (by kernel_rfl) (by kernel_rfl)
theorem alignNarrow_reads (os : Os) {H : Type} (enc : TypeId × Value → H) : ∃ places, DataW.whole enc Tryd.prog ((laidWorld os).forCall (fun _ _ => 0) ⟨#[], #[.slice none 0 0, .slice none 0 0, .agg #[.int .i64 0, .int .i64 0], .int .u32 0, .int .u32 0], []⟩).memory Tryd.f10.params.toList Rows.alignNarrowSpec.vars false #[.slice none 0 0, .slice none 0 0, .agg #[.int .i64 0, .int .i64 0], .int .u32 0, .int .u32 0].toList 8 = some ([.nil, .nil, .agg [.lit (.int .i64 0), .lit (.int .i64 0)], .lit (.int .u32 0), .lit (.int .u32 0)], [], places) := ⟨[], by kernel_rfl⟩
set_option maxRecDepth 100000 in
theorem alignNarrow_lifted (os : Os) (started : os.Started) (H : Type) (enc : TypeId × Value → H) (F : Stop.Interp) :
    ReturnsInHanded {} Tryd.checked os 10 .any ((OpenSpec.ofChange Rows.alignNarrowSpec).preRow enc Tryd.prog Tryd.f10 Rows.alignNarrowRow.domain false Rows.alignNarrowRow.laid) (((OpenSpec.ofChange Rows.alignNarrowSpec).at F).post enc Tryd.prog Tryd.f10 false true false false) := by
  obtain ⟨places, hx⟩ := alignNarrow_reads os enc
  exact law_row (C := Tryd.checked) (s := (OpenSpec.ofChange Rows.alignNarrowSpec)) (by kernel_rfl) started (by kernel_rfl) Tryd.func10
    (witness_row_at (enc := enc) (C := Tryd.checked) false (laidWorld os) #[.slice none 0 0, .slice none 0 0, .agg #[.int .i64 0, .int .i64 0], .int .u32 0, .int .u32 0] rfl (by kernel_rfl) (by kernel_rfl) (by kernel_rfl) (OpenSpec.preRow_of_cond 8 hx (by kernel_rfl) (fun k hk => by cases hk) (by kernel_rfl) (alignNarrow_met os)))
    (by kernel_rfl) (by kernel_rfl) (by kernel_rfl) rfl (fun ds h => by match ds, h with | [_, _, _, _, _], _ => rfl) (alignNarrow_args H enc)
theorem alignNarrow_said : Rows.AlignNarrowSaid :=
  OpenClaim.holds_of_cond 10 Tryd.f10 rfl rfl rfl rfl rfl rfl rfl ⟨rfl, rfl, rfl, rfl, rfl⟩ rfl rfl rfl rfl rfl (by kernel_rfl) Tryd.func10 (by kernel_rfl)
    (of_decide_eq_true (by kernel_rfl)) (by unfold Func.isWrapper; first | (rw [if_pos (by decide +kernel)]; kernel_rfl) | (rw [if_neg (by decide +kernel)]; exact ⟨rfl, rfl⟩))
    (fun os started H enc _ F => by rw [OpenClaim.pre_eq_preRow]; exact alignNarrow_lifted os started H enc F)
theorem alignNarrow_plain (f : FuncId) (fn : Func) (hf : Tryd.pinned.checked.prog.funcNamed "schisma/schismalaw38.AlignNarrow" = some f) (hfn : Tryd.pinned.checked.prog.funcs[f]? = some fn) :
    false = Tryd.pinned.checked.prog.looks [] ∧ ∀ (j : Nat) t, fn.params[j]? = some t → Tryd.pinned.checked.prog.wantsStandIn t = false := by
  obtain rfl : f = 10 := Option.some.inj ((show Tryd.prog.funcNamed "schisma/schismalaw38.AlignNarrow" = some 10 by kernel_rfl).symm.trans hf) |>.symm
  obtain rfl : fn = Tryd.f10 := (Option.some.inj (Tryd.func10.symm.trans hfn)).symm
  refine ⟨by kernel_rfl, fun j t ht => ?_⟩
  have hall : Tryd.f10.params.all (fun t => !Tryd.prog.wantsStandIn t) = true := by kernel_rfl
  have := (Array.all_eq_true'.1 hall) t (Array.mem_of_getElem? ht)
  have e : Tryd.prog.wantsStandIn t = false := by simpa using this
  exact e
/-- The card. -/
theorem alignNarrow_holds : Rows.AlignNarrowCardSaid :=
  Claim7.holds_tied_plain_at .later [] _ _ _ _ alignNarrow_said (fun _ h => by cases h) (by kernel_rfl) (fun _ h => by cases h) alignNarrow_row_tie rfl ⟨rfl, rfl⟩ (by kernel_rfl) rfl alignNarrow_plain (by kernel_rfl)
end Go.Proofs.YthomegempfedaaaDoor
