/-
  Proved: 'BlameOctaves' returns true for every input and leaves its arguments as they were. No condition.
-/
import Derived.Test.YtbemjekkojgbpaaDoorBmI
import Derived.Test.YtbemjekkojgbpaaDoorBlN
import Derived.Test.YtbemjekkojgbpaaDoorR23A
import Derived.Test.YtbemjekkojgbpaaDoorBmL
set_option linter.unusedVariables false
namespace Go.Sx.Bl
open Go.Sx.Sz Go.Sx.Sc Go.Sx.Au Go.Sx.Po
section
variable {α : Type}
/-- The first k are turned. -/
def preK (f : α → α) (l : List α) (k : Nat) : List α := (l.take k).map f ++ l.drop k
theorem preK_zero (f : α → α) (l : List α) : preK f l 0 = l := by unfold preK; simp
theorem preK_end (f : α → α) (l : List α) : preK f l l.length = l.map f := by unfold preK; simp
theorem preK_len (f : α → α) (l : List α) (k : Nat) : (preK f l k).length = l.length := by
  unfold preK; rw [List.length_append, List.length_map, List.length_take, List.length_drop]; omega
theorem preK_at (f : α → α) {l : List α} {k : Nat} (h : k < l.length) : (preK f l k)[k]'(by rw [preK_len]; exact h) = l[k] := by
  unfold preK
  rw [List.getElem_append_right (by rw [List.length_map, List.length_take]; omega)]
  simp only [List.length_map, List.length_take, List.getElem_drop]
  congr 1
  omega
theorem preK_set (f : α → α) {l : List α} {k : Nat} (h : k < l.length) : (preK f l k).set k (f l[k]) = preK f l (k + 1) := by
  unfold preK
  rw [List.set_append_right _ _ (by rw [List.length_map, List.length_take]; omega), List.take_succ_eq_append_getElem h, List.drop_eq_getElem_cons h]
  have e : k - (List.map f (List.take k l)).length = 0 := by rw [List.length_map, List.length_take]; omega
  rw [e, List.set_cons_zero, List.map_append, List.append_assoc]; rfl
end
def octF (n : Int) (x : V6) : V6 := ⟨x.a + n, x.b, x.c, x.d, x.e, x.f⟩
def octZ (n : Int) (z : S2) : S2 := ⟨z.lo + n * 12000000000, z.hi + n * 12000000000⟩
theorem octF_eq (n : Int) (x : V6) : octF n x = x.add (octV n) 1 := by
  refine V6.ext' fun j hj => ?_
  rw [V6.add_get _ _ _ hj]
  rcases lt6 hj with rfl | rfl | rfl | rfl | rfl | rfl
  · show x.a + n = x.a + 1 * n; omega
  · show x.b = x.b + 1 * 0; omega
  · show x.c = x.c + 1 * 0; omega
  · show x.d = x.d + 1 * 0; omega
  · show x.e = x.e + 1 * 0; omega
  · show x.f = x.f + 1 * 0; omega
theorem octH (h : List V6) (n : Int) : h.map (octF n) = moveH h (octV n) := List.map_congr_left fun x _ => octF_eq n x
theorem octL (l : List S2) (n : Int) : l.map (octZ n) = octS l n := rfl
theorem oct_facts (s : Sc) (h : List V6) (l : List S2) (n : Int) : (devR s h l).2 ≠ 0 ∨ (devR s (h.map (octF n)) (l.map (octZ n))).2 ≠ 0 ∨ ((devR s h l).2 = 0 ∧ (devR s (h.map (octF n)) (l.map (octZ n))).2 = 0 ∧ (chgR s h l).2 = 0 ∧ (voiR s h l).2 = 0 ∧
    (devR s (h.map (octF n)) (l.map (octZ n))).1 = (devR s h l).1 ∧ chgR s (h.map (octF n)) (l.map (octZ n)) = chgR s h l ∧ voiR s (h.map (octF n)) (l.map (octZ n)) = voiR s h l) := by
  rw [octH, octL]
  by_cases he : hearE s h l = 0
  case neg => exact .inl (by rw [(dev_out he).1]; exact he)
  by_cases he' : hearE s (moveH h (octV n)) (octS l n) = 0
  case neg => exact .inr (.inl (by rw [(dev_out he').1]; exact he'))
  obtain ⟨h1, h2⟩ := hear_ok.1 he
  obtain ⟨g1, g2⟩ := hear_ok.1 he'
  have hx : (tuneR s (moveH h (octV n))).1 = (tuneR s h).1.map fun x => x.add (octV n) 1 := by
    rw [(tune_ok g1).2.1, (tune_ok h1).2.1, moveH_len, xsL_move h2.1 (Nat.le_refl _)]
  have hlen : (tuneR s h).1.length ≤ s.notes.length := by rw [(tune_ok h1).2.1, xsL_len]; exact tun_le _ _
  have hd : devL (tuneR s (moveH h (octV n))).1 (octS l n) = devL (tuneR s h).1 l := by rw [hx, devL_oct (by rw [h2.2.1]; exact hlen)]
  have hc : chgL s (tuneR s (moveH h (octV n))).1 (octS l n) = chgL s (tuneR s h).1 l := by rw [hx, chgL_oct h2.1 h2.2.1 hlen]
  have d1 : devR s h l = ((devL (tuneR s h).1 l).map fun i : Nat => (i : Int), 0) := by unfold devR; rw [if_pos he]
  have d2 : devR s (moveH h (octV n)) (octS l n) = ((devL (tuneR s h).1 l).map fun i : Nat => (i : Int), 0) := by unfold devR; rw [if_pos he', hd]
  have c1 : chgR s h l = (chgL s (tuneR s h).1 l, 0) := by unfold chgR; rw [if_pos he]
  have c2 : chgR s (moveH h (octV n)) (octS l n) = (chgL s (tuneR s h).1 l, 0) := by unfold chgR; rw [if_pos he', hc]
  have v1 : voiR s h l = (voiL s (devL (tuneR s h).1 l), 0) := by unfold voiR; rw [if_pos he]
  have v2 : voiR s (moveH h (octV n)) (octS l n) = (voiL s (devL (tuneR s h).1 l), 0) := by unfold voiR; rw [if_pos he', hd]
  rw [d1, d2, c1, c2, v1, v2]
  exact .inr (.inr ⟨rfl, rfl, rfl, rfl, rfl, rfl, rfl⟩)
end Go.Sx.Bl
namespace Go.Proofs.YtbemjekkojgbpaaDoor
open Go.RowKit Go.Sx Go.Sx.Sz Go.Sx.Sc Go.Sx.Au Go.Sx.Po Go.Sx.Bl Go.ChangeShapes Go.WideShapes Go.ChangeAt

theorem OwnR.free {α : Type} {w : World} {B : Nat} {e : TypeId} {sz : Nat} {enc : α → List Value} {xs : List α} {g n cap : Nat} (h : OwnR w B e sz enc (.slice (some ⟨g, 0, none⟩) n cap) xs) (hx : xs ≠ []) (j : Nat) : w.frozen? ⟨g, j, none⟩ = false := by
  obtain ⟨g', cap', e1, -, -, hf⟩ := h.block hx
  obtain ⟨rfl, -⟩ : g = g' ∧ _ := by simpa using e1
  exact hf j
set_option maxRecDepth 100000 in
set_option maxHeartbeats 8000000 in
theorem boct_out (vn vp vc vh vt : Value) (s : Sc) (h : List V6) (l : List S2) (k : Int) (hk : ¬ (-20 ≤ k ∧ k ≤ 20)) (w : World) (GL : Gl 0 w) (S : ScR w vn vp vc s) (V : Sl w 6 V6.list vh h) (R : Sl w 2 encS vt l) :
    Calls Tryd.prog 6 #[.agg #[.int .i64 s.voices, vn, vp, vc], vh, vt, .int .i64 k] w fun e w' => e = .returned (.bool true) ∧ Ext w w' := by
  obtain ⟨an, cn, rfl, -, -, hln⟩ := S.nt.len
  obtain ⟨ap, cp, rfl, -, -, hlp⟩ := S.pr.len
  obtain ⟨ac, cc, rfl, -, -, hlc⟩ := S.cd.len
  obtain ⟨ah, ch, rfl, hch, -, -⟩ := V.len
  obtain ⟨at', ct, rfl, -, -, -⟩ := R.len
  have X0 : Ext w (w.alloc (.cells #[.int .i64 s.voices, .slice an s.notes.length cn, .slice ap s.pairs.length cp, .slice ac s.cads.length cc] 26)) := (by repeat (first | with_reducible exact Ext.refl _ | with_reducible assumption | with_reducible apply Ext.alloc | with_reducible apply Ext.drew | (with_reducible refine Ext.setCell ?_ (by (try simp) <;> omega) _)))
  have b0_0 := block_new w (.cells #[.int .i64 s.voices, .slice an s.notes.length cn, .slice ap s.pairs.length cp, .slice ac s.cads.length cc] 26)
  obtain ⟨W0, hW0⟩ : ∃ W, (w.alloc (.cells #[.int .i64 s.voices, .slice an s.notes.length cn, .slice ap s.pairs.length cp, .slice ac s.cads.length cc] 26)) = W := ⟨_, rfl⟩
  obtain ⟨B0, hB0⟩ : ∃ B, w.heap.size = B := ⟨_, rfl⟩
  rw [hW0] at X0 b0_0
  rw [hB0] at b0_0
  have HZ0 : Hid (w.heap.size ≤ B0) := Lib.hid (by omega)
  have HW0 := Lib.hid hW0; have HB0 := Lib.hid hB0
  clear hW0 hB0
  have CB := Lib.hid (boxS b0_0)
  have S1 := S.ext X0; have V1 := V.ext X0; have G1 := GL.ext X0; have R1 := R.ext X0
  have HCH := Lib.hid hch
  clear S V GL R b0_0 hch
  go_enter Tryd.func6, Tryd.ntmps6
  go_wp2_with fail
  rw [HW0.out, HB0.out]
  clear HW0 HB0
  refine (bhead_walk _ G1).mono ?_
  rintro e w1 ⟨rfl, x1⟩
  obtain ⟨c0, c1, c2, c3⟩ := CB.out _ x1
  go_wp2_with fail
  refine (rfew_walk _ _ _ s _ (S1.ext x1)).mono ?_
  obtain ⟨fw, hfw⟩ : ∃ z, (decide (s.notes.length ≤ 40) && decide (s.pairs.length ≤ 60)) = z := ⟨_, rfl⟩
  rw [hfw]
  clear hfw
  rintro e w2 ⟨rfl, y2⟩
  have x2 := x1.trans y2
  clear c0 c1 c2 c3
  cases fw with
  | false =>
    have HX := Lib.hid (X0.trans x2)
    go_wp2
    go_ret
    exact ⟨by first | rfl | simp, HX.out⟩
  | true =>
  by_cases hk0 : k < -20
  · have t1 : decide (k < -20) = true := decide_eq_true hk0
    clear hk0 hk
    have HX := Lib.hid (X0.trans x2)
    go_wp2
    go_ret
    exact ⟨by first | rfl | simp, HX.out⟩
  · have t1 : decide (k < -20) = false := decide_eq_false hk0
    have t2 : decide (20 < k) = true := decide_eq_true (by omega)
    clear hk0 hk
    have HX := Lib.hid (X0.trans x2)
    go_wp2
    go_ret
    exact ⟨by first | rfl | simp, HX.out⟩
set_option maxRecDepth 100000 in
set_option maxHeartbeats 16000000 in
theorem boct_law (vn vp vc vh vt : Value) (s : Sc) (h : List V6) (l : List S2) (k : Int) (hk : -20 ≤ k ∧ k ≤ 20) (hhb : h.length * 48 ≤ 140737488351232) (hlb : l.length * 16 ≤ 140737488351232) (w : World) (GL : Gl 0 w) (S : ScR w vn vp vc s) (V : Sl w 6 V6.list vh h) (R : Sl w 2 encS vt l) :
    Calls Tryd.prog 6 #[.agg #[.int .i64 s.voices, vn, vp, vc], vh, vt, .int .i64 k] w fun e w' => e = .returned (.bool true) ∧ Ext w w' := by
  obtain ⟨an, cn, rfl, -, -, hln⟩ := S.nt.len
  obtain ⟨ap, cp, rfl, -, -, hlp⟩ := S.pr.len
  obtain ⟨ac, cc, rfl, -, -, hlc⟩ := S.cd.len
  obtain ⟨ah, ch, rfl, hch, -, -⟩ := V.len
  obtain ⟨at', ct, rfl, -, -, -⟩ := R.len
  have DW := Lib.hid (@deviants_walk (.slice an s.notes.length cn) (.slice ap s.pairs.length cp) (.slice ac s.cads.length cc))
  have CW := Lib.hid (@charges_walk (.slice an s.notes.length cn) (.slice ap s.pairs.length cp) (.slice ac s.cads.length cc))
  have OW := Lib.hid (@bvoices_walk (.slice an s.notes.length cn) (.slice ap s.pairs.length cp) (.slice ac s.cads.length cc))
  have HF := Lib.hid (oct_facts s h l k)
  have X0 : Ext w (w.alloc (.cells #[.int .i64 s.voices, .slice an s.notes.length cn, .slice ap s.pairs.length cp, .slice ac s.cads.length cc] 26)) := (by repeat (first | with_reducible exact Ext.refl _ | with_reducible assumption | with_reducible apply Ext.alloc | with_reducible apply Ext.drew | (with_reducible refine Ext.setCell ?_ (by (try simp) <;> omega) _)))
  have b0_0 := block_new w (.cells #[.int .i64 s.voices, .slice an s.notes.length cn, .slice ap s.pairs.length cp, .slice ac s.cads.length cc] 26)
  obtain ⟨W0, hW0⟩ : ∃ W, (w.alloc (.cells #[.int .i64 s.voices, .slice an s.notes.length cn, .slice ap s.pairs.length cp, .slice ac s.cads.length cc] 26)) = W := ⟨_, rfl⟩
  obtain ⟨B0, hB0⟩ : ∃ B, w.heap.size = B := ⟨_, rfl⟩
  rw [hW0] at X0 b0_0
  rw [hB0] at b0_0
  have HZ0 : Hid (w.heap.size ≤ B0) := Lib.hid (by omega)
  have HW0 := Lib.hid hW0; have HB0 := Lib.hid hB0
  clear hW0 hB0
  have CB := Lib.hid (boxS b0_0)
  have S1 := S.ext X0; have V1 := V.ext X0; have G1 := GL.ext X0; have R1 := R.ext X0
  have HCH := Lib.hid hch
  clear S V GL R b0_0 hch
  go_enter Tryd.func6, Tryd.ntmps6
  go_wp2_with fail
  rw [HW0.out, HB0.out]
  clear HW0 HB0
  refine (bhead_walk _ G1).mono ?_
  rintro e w1 ⟨rfl, x1⟩
  have t1 : decide (k < -20) = false := decide_eq_false (by omega)
  have t2 : decide (20 < k) = false := decide_eq_false (by omega)
  obtain ⟨c0, c1, c2, c3⟩ := CB.out _ x1
  go_wp2_with fail
  refine (rfew_walk _ _ _ s _ (S1.ext x1)).mono ?_
  obtain ⟨fw, hfw⟩ : ∃ z, (decide (s.notes.length ≤ 40) && decide (s.pairs.length ≤ 60)) = z := ⟨_, rfl⟩
  rw [hfw]
  clear hfw
  rintro e w2 ⟨rfl, y2⟩
  have x2 := x1.trans y2
  clear c0 c1 c2 c3
  cases fw with
  | false =>
    have HX := Lib.hid (X0.trans x2)
    go_wp2
    go_ret
    exact ⟨by first | rfl | simp, HX.out⟩
  | true =>
  have o0 : OwnR (w2.alloc (.cells #[] 41)) w2.heap.size 41 6 V6.list (.slice (some ⟨w2.heap.size, 0, none⟩) 0 0) [] := OwnR.lit w2 #[] [] 0 rfl (Nat.le_refl _) rfl rfl (by simp [maxLen])
  have e1 := Ext.alloc' w2 (.cells #[] 41)
  have VV := V1.ext (x2.trans e1)
  have hz1 := e1.size
  clear t1 t2
  go_wp2_with (first | (at_builtin; go_must (refine wpList_app0 et_xs rfl (.tmp 39) (.tmp 40) rfl o0 rfl h _ VV rfl (fun _ _ => rfl) (by omega) hz1 ?_; intro v7 w3 hown3 x3 _; (obtain ⟨a7, q7, rfl⟩ := hown3.len))) | fail)
  have X23 := Lib.hid (e1.trans x3)
  have OW3 := Lib.hid hown3
  clear o0 e1 VV hz1 hown3 x3
  go_loopw [11] (fun i wr => ∃ m : Nat, m ≤ h.length ∧ i = .int .i64 m ∧ Hid (∀ x ∈ h.take m, within x 48 = true) ∧ OwnR wr w2.heap.size 41 6 V6.list (.slice a7 h.length q7) (preK (octF k) h m) ∧ Ext w2 wr) (fun i _ => h.length - (intOf i).toNat)
  case atStart => exact ⟨0, by omega, by first | rfl | trivial, Lib.hid (fun x hx => by simp at hx), by rw [preK_zero]; exact OW3.out, X23.out⟩
  case round =>
    obtain ⟨m, hm, rfl, HT, own, X⟩ := hrel
    by_cases hlt : m < h.length
    case pos =>
      have hkl : m < (preK (octF k) h m).length := by rw [preK_len]; exact hlt
      obtain ⟨g, cap, he, hg1, hg2, hg3⟩ := own.block (by rintro h9; rw [h9] at hkl; exact absurd hkl (Nat.not_lt_zero _))
      obtain ⟨rfl, -, rfl⟩ : a7 = some ⟨g, 0, none⟩ ∧ h.length = (preK (octF k) h m).length ∧ q7 = cap := by simpa using he
      have a0 := own.cell (fun _ _ => rfl) m 0 hkl (by omega); have a1 := own.cell (fun _ _ => rfl) m 1 hkl (by omega); have a2 := own.cell (fun _ _ => rfl) m 2 hkl (by omega)
      have a3 := own.cell (fun _ _ => rfl) m 3 hkl (by omega); have a4 := own.cell (fun _ _ => rfl) m 4 hkl (by omega); have a5 := own.cell (fun _ _ => rfl) m 5 hkl (by omega)
      have hst := preK_set (octF k) hlt
      rw [preK_at _ hlt] at a0 a1 a2 a3 a4 a5
      have PW := Lib.hid fun w' (y : Ext wr w') => OwnR.store (own.ext y) (fun _ _ => rfl) m 0 hkl (by omega) (octF k h[m]) (.int .i64 (h[m].a + k)) (by rw [preK_at _ hlt]; rfl)
      rw [hst] at PW
      have FZ := Lib.hid fun w' (y : Ext wr w') => OwnR.free (own.ext y) (by rintro h9; rw [h9] at hkl; exact absurd hkl (Nat.not_lt_zero _))
      have htk := List.take_succ_eq_append_getElem hlt
      obtain ⟨x, hx⟩ : ∃ x, h[m] = x := ⟨_, rfl⟩
      rw [hx] at a0 a1 a2 a3 a4 a5 PW htk
      simp only [V6.list, List.getD_cons_zero, List.getD_cons_succ, Nat.add_zero] at a0 a1 a2 a3 a4 a5 PW
      have i1 : (0 : Int) ≤ (m : Int) := by omega
      have i2 : (m : Int) < (h.length : Int) := by omega
      have HG1 := Lib.hid hg1; have HG3 := Lib.hid hg3; have HTK := Lib.hid htk; have HXX := Lib.hid X
      have A0 := Lib.hid (ext_cells a0)
      obtain ⟨wb, rfl⟩ : ∃ z : World, z = wr := ⟨_, rfl⟩
      clear own he hg1 hg2 hg3 hx hst htk X hkl
      go_wp2_with fail
      refine (interval_walk x _).mono ?_
      obtain ⟨iv, hiv⟩ : ∃ z, within x 48 = z := ⟨_, rfl⟩
      rw [hiv]
      rintro e w4 ⟨rfl, x4⟩
      clear a0 a1 a2 a3 a4 a5
      cases iv with
      | false =>
        have HX := Lib.hid (X0.trans (x2.trans (HXX.out.trans x4)))
        clear hiv
        go_wp2
        go_ret
        exact ⟨by first | rfl | simp, HX.out⟩
      | true =>
      have hxa := (Sml.of (within_mono (B := 48) (by omega) hiv) : Sml 48 x)
      obtain ⟨hx1, hx2⟩ : -48 ≤ x.a ∧ x.a ≤ 48 := by have := Sz.within_iff.1 hiv 0 (by omega); exact this
      have HT2 : Hid (∀ y ∈ h.take (m + 1), within y 48 = true) := Lib.hid (fun y hy => by
        rw [HTK.out] at hy
        rcases List.mem_append.1 hy with h9 | h9
        · exact HT.out y h9
        · rw [List.mem_singleton.1 h9]; exact hiv)
      have E1 : IntKind.i64.wrap (x.a + k) = x.a + k := IntWalk.i64_in _ (by omega)
      have a0 := ext_cells (A0.out _ x4)
      clear hxa hiv
      go_upto_region 10 with fail
      refine wp_region_ord [(0,true), (1,true), (2,true), (3,true), (4,true), (5,true), (6,true), (7,true), (8,true), (9,true), (10,true)] 11 Ext (Ext w4) wide (by kernel_rfl) (stable_ext _) (Ext.drawn _ _) ?_
      iterate 11 (first | (apply wpOrd_no rfl; rfl; (simp only [List.getElem_toArray, List.getElem_cons_succ, List.getElem_cons_zero, Act.put, List.setIfInBounds_toArray, List.set_cons_succ, List.set_cons_zero]; rfl)) | (apply wpOrd_yes rfl; rfl; (intro w' hw'; unfold opR; go_simp; exact ⟨Ext.refl _, rfl⟩); (simp only [List.getElem_toArray, List.getElem_cons_succ, List.getElem_cons_zero, Act.put, List.setIfInBounds_toArray, List.set_cons_succ, List.set_cons_zero]; rfl)))
      refine wpOrd_nil (l := [_]) rfl ?_
      intro w5 x5
      have FIN := Lib.hid (And.intro (PW.out w5 (x4.trans x5)) ((HXX.out.trans (x4.trans x5)).setCell (p := ⟨g, m * 6, none⟩) HG1.out (.int .i64 (x.a + k))))
      have b0 := a0 _ x5
      have bf : w5.frozen? ⟨g, m * 6, none⟩ = false := FZ.out w5 (x4.trans x5) _
      clear a0 E1 hx1 hx2
      go_wp2
      go_roundw
      case rel => exact ⟨m + 1, by omega, by go_num, HT2, FIN.out.1, FIN.out.2⟩
      case measure => simp [intOf] <;> omega
    case neg =>
    obtain rfl : m = h.length := by omega
    rw [preK_end] at own
    have hl1 : (h.map (octF k)).length = h.length := List.length_map _
    obtain ⟨w5, rfl⟩ : ∃ z : World, z = wr := ⟨_, rfl⟩
    have VM := own.sl (fun _ _ => rfl) (by omega)
    have X5 := x2.trans X
    have o0 : OwnR (w5.alloc (.cells #[] 43)) w5.heap.size 43 2 encS (.slice (some ⟨w5.heap.size, 0, none⟩) 0 0) [] := OwnR.lit w5 #[] [] 0 rfl (Nat.le_refl _) rfl rfl (by simp [maxLen])
    have e1 := Ext.alloc' w5 (.cells #[] 43)
    have RR := R1.ext (X5.trans e1)
    have hz1 := e1.size
    clear own
    go_wp2_with (first | (at_builtin; go_must (refine wpList_app0 et_sz rfl (.tmp 66) (.tmp 67) rfl o0 rfl l _ RR rfl (fun _ _ => rfl) (by omega) hz1 ?_; intro v8 w6 hown6 x6 _; (obtain ⟨a8, q8, rfl⟩ := hown6.len))) | fail)
    have X56 := Lib.hid (e1.trans x6)
    have OW6 := Lib.hid hown6
    clear o0 e1 RR hz1 hown6 x6
    go_loopw [13] (fun i wr => ∃ m : Nat, m ≤ l.length ∧ i = .int .i64 m ∧ Hid (∀ x ∈ l.take m, szOk x = true) ∧ OwnR wr w5.heap.size 43 2 encS (.slice a8 l.length q8) (preK (octZ k) l m) ∧ Ext w5 wr) (fun i _ => l.length - (intOf i).toNat)
    case atStart => exact ⟨0, by omega, by first | rfl | trivial, Lib.hid (fun x hx => by simp at hx), by rw [preK_zero]; exact OW6.out, X56.out⟩
    case round =>
      obtain ⟨m, hm, rfl, HT, own, Y⟩ := hrel
      by_cases hlt : m < l.length
      case pos =>
        have hkl : m < (preK (octZ k) l m).length := by rw [preK_len]; exact hlt
        have hne : preK (octZ k) l m ≠ [] := by rintro h9; rw [h9] at hkl; exact absurd hkl (Nat.not_lt_zero _)
        obtain ⟨g, cap, he, hg1, hg2, hg3⟩ := own.block hne
        obtain ⟨rfl, -, rfl⟩ : a8 = some ⟨g, 0, none⟩ ∧ l.length = (preK (octZ k) l m).length ∧ q8 = cap := by simpa using he
        have a0 := own.cell (fun _ _ => rfl) m 0 hkl (by omega); have a1 := own.cell (fun _ _ => rfl) m 1 hkl (by omega)
        have hst := preK_set (octZ k) hlt
        rw [preK_at _ hlt] at a0 a1
        have PW := Lib.hid fun w' (y : Ext wr w') => OwnR.store (OwnR.store (own.ext y) (fun _ _ => rfl) m 0 hkl (by omega) (⟨l[m].lo + k * 12000000000, l[m].hi⟩ : S2) (.int .i64 (l[m].lo + k * 12000000000)) (by rw [preK_at _ hlt]; rfl)) (fun _ _ => rfl) m 1 (by rw [List.length_set]; exact hkl) (by omega) (octZ k l[m]) (.int .i64 (l[m].hi + k * 12000000000)) (by rw [List.getElem_set_self]; rfl)
        simp only [List.set_set] at PW
        rw [hst] at PW
        have FZ := Lib.hid fun w' (y : Ext wr w') => OwnR.free (own.ext y) hne
        have htk := List.take_succ_eq_append_getElem hlt
        obtain ⟨z, hz⟩ : ∃ z, l[m] = z := ⟨_, rfl⟩
        rw [hz] at a0 a1 PW htk
        simp only [encS, List.getD_cons_zero, List.getD_cons_succ, Nat.add_zero] at a0 a1 PW
        have i1 : (0 : Int) ≤ (m : Int) := by omega
        have i2 : (m : Int) < (l.length : Int) := by omega
        have HG1 := Lib.hid hg1; have HTK := Lib.hid htk; have HYY := Lib.hid Y
        have A0 := Lib.hid (ext_cells a0); have A1 := Lib.hid (ext_cells a1)
        obtain ⟨wb, rfl⟩ : ∃ z : World, z = wr := ⟨_, rfl⟩
        clear own he hg1 hg2 hg3 hz hst htk Y hkl hne
        go_wp2_with fail
        refine (szvalid_walk z _).mono ?_
        obtain ⟨iv, hiv⟩ : ∃ u, szOk z = u := ⟨_, rfl⟩
        rw [hiv]
        rintro e w7 ⟨rfl, x7⟩
        clear a0 a1
        cases iv with
        | false =>
          have HX := Lib.hid (X0.trans (X5.trans (HYY.out.trans x7)))
          clear hiv
          go_wp2
          go_ret
          exact ⟨by first | rfl | simp, HX.out⟩
        | true =>
        obtain ⟨hz1, hz2, hz3⟩ := szOk_iff.1 hiv
        have HT2 : Hid (∀ y ∈ l.take (m + 1), szOk y = true) := Lib.hid (fun y hy => by
          rw [HTK.out] at hy
          rcases List.mem_append.1 hy with h9 | h9
          · exact HT.out y h9
          · rw [List.mem_singleton.1 h9]; exact hiv)
        have E0 : IntKind.i64.wrap (k * 12000000000) = k * 12000000000 := IntWalk.i64_in _ (by omega)
        have E1 : IntKind.i64.wrap (z.lo + k * 12000000000) = z.lo + k * 12000000000 := IntWalk.i64_in _ (by omega)
        have E2 : IntKind.i64.wrap (z.hi + k * 12000000000) = z.hi + k * 12000000000 := IntWalk.i64_in _ (by omega)
        have b0 := A0.out _ x7; have b1 := A1.out _ x7
        have f0 : w7.frozen? ⟨g, m * 2, none⟩ = false := FZ.out w7 x7 _
        have f1 : w7.frozen? ⟨g, m * 2 + 1, none⟩ = false := FZ.out w7 x7 _
        have FIN := Lib.hid (And.intro (PW.out w7 x7) (((HYY.out.trans x7).setCell (p := ⟨g, m * 2, none⟩) HG1.out (.int .i64 (z.lo + k * 12000000000))).setCell (p := ⟨g, m * 2 + 1, none⟩) HG1.out (.int .i64 (z.hi + k * 12000000000))))
        clear hiv
        go_wp2
        go_roundw
        case rel => exact ⟨m + 1, by omega, by go_num, HT2, FIN.out.1, FIN.out.2⟩
        case measure => simp [intOf] <;> omega
      case neg =>
      obtain rfl : m = l.length := by omega
      rw [preK_end] at own
      have hl2 : (l.map (octZ k)).length = l.length := List.length_map _
      obtain ⟨w6, rfl⟩ : ∃ z : World, z = wr := ⟨_, rfl⟩
      have RM := own.sl (fun _ _ => rfl) (by omega)
      have X6 := X5.trans Y
      have VM6 := VM.ext Y
      have HX6 := Lib.hid (X0.trans X6)
      have HF1 := HF.out
      obtain ⟨hm', hhm⟩ : ∃ z, h.map (octF k) = z := ⟨_, rfl⟩
      obtain ⟨lm', hlm⟩ : ∃ z, l.map (octZ k) = z := ⟨_, rfl⟩
      rw [hhm] at VM6 HF1; rw [hlm] at RM HF1
      have DA := Lib.hid fun w' (y : Ext w6 w') => DW.out (.slice ah h.length ch) (.slice at' l.length ct) s h l w' (G1.ext (X6.trans y)) (S1.ext (X6.trans y)) (V1.ext (X6.trans y)) (R1.ext (X6.trans y))
      have DB := Lib.hid fun w' (y : Ext w6 w') => DW.out (.slice a7 h.length q7) (.slice a8 l.length q8) s hm' lm' w' (G1.ext (X6.trans y)) (S1.ext (X6.trans y)) (VM6.ext y) (RM.ext y)
      have KA := Lib.hid fun w' (y : Ext w6 w') => CW.out (.slice ah h.length ch) (.slice at' l.length ct) s h l w' (G1.ext (X6.trans y)) (S1.ext (X6.trans y)) (V1.ext (X6.trans y)) (R1.ext (X6.trans y))
      have KB := Lib.hid fun w' (y : Ext w6 w') => CW.out (.slice a7 h.length q7) (.slice a8 l.length q8) s hm' lm' w' (G1.ext (X6.trans y)) (S1.ext (X6.trans y)) (VM6.ext y) (RM.ext y)
      have OA := Lib.hid fun w' (y : Ext w6 w') => OW.out (.slice ah h.length ch) (.slice at' l.length ct) s h l w' (G1.ext (X6.trans y)) (S1.ext (X6.trans y)) (V1.ext (X6.trans y)) (R1.ext (X6.trans y))
      have OB := Lib.hid fun w' (y : Ext w6 w') => OW.out (.slice a7 h.length q7) (.slice a8 l.length q8) s hm' lm' w' (G1.ext (X6.trans y)) (S1.ext (X6.trans y)) (VM6.ext y) (RM.ext y)
      obtain ⟨⟨dl, de⟩, e1⟩ : ∃ u, devR s h l = u := ⟨_, rfl⟩
      obtain ⟨⟨gl, ge⟩, e2⟩ : ∃ u, devR s hm' lm' = u := ⟨_, rfl⟩
      obtain ⟨⟨cl, ce⟩, e3⟩ : ∃ u, chgR s h l = u := ⟨_, rfl⟩
      obtain ⟨⟨fl, fe⟩, e4⟩ : ∃ u, chgR s hm' lm' = u := ⟨_, rfl⟩
      obtain ⟨⟨ol, oe⟩, e5⟩ : ∃ u, voiR s h l = u := ⟨_, rfl⟩
      obtain ⟨⟨pl, pe⟩, e6⟩ : ∃ u, voiR s hm' lm' = u := ⟨_, rfl⟩
      rw [e1] at DA HF1; rw [e2] at DB HF1; rw [e3] at KA HF1; rw [e4] at KB HF1; rw [e5] at OA HF1; rw [e6] at OB HF1
      simp only at DA DB KA KB OA OB HF1
      have HF9 := Lib.hid HF1
      have HY6 := Lib.hid X6
      clear HF1 e1 e2 e3 e4 e5 e6 hhm hlm VM6 RM DW CW OW HF VM own X Y X5
      obtain ⟨c0, c1, c2, c3⟩ := CB.out _ X6
      go_wp2_with fail
      refine (DA.out _ (Ext.refl _)).mono ?_
      rintro e w7 ⟨v7, rfl, L7, y7⟩
      clear c0 c1 c2 c3
      obtain ⟨c0, c1, c2, c3⟩ := CB.out _ (HY6.out.trans y7)
      go_wp2_with fail
      refine (DB.out _ y7).mono ?_
      rintro e w8 ⟨v8, rfl, L8, y8'⟩
      have y8 := y7.trans y8'
      obtain ⟨b7, s7, rfl, -, -, -⟩ := L7.len
      obtain ⟨b8, s8, rfl, -, -, -⟩ := L8.len
      have HX8 := Lib.hid (HX6.out.trans y8)
      clear c0 c1 c2 c3
      by_cases hde : de = 0
      case neg =>
        have t1 : (de != 0) = true := by rw [bne_iff_ne]; exact hde
        clear hde
        go_wp2
        go_ret
        exact ⟨by first | rfl | simp, HX8.out⟩
      subst hde
      by_cases hge : ge = 0
      case neg =>
        have t1 : (ge != 0) = true := by rw [bne_iff_ne]; exact hge
        clear hge
        go_wp2
        go_ret
        exact ⟨by first | rfl | simp, HX8.out⟩
      subst hge
      obtain ⟨-, -, rfl, rfl, rfl, hcf, hop⟩ : (0 : Int) = 0 ∧ (0 : Int) = 0 ∧ ce = 0 ∧ oe = 0 ∧ gl = dl ∧ (fl, fe) = (cl, ce) ∧ (pl, pe) = (ol, oe) := by
        rcases HF9.out with h9 | h9 | h9
        · exact absurd rfl h9
        · exact absurd rfl h9
        · exact h9
      obtain ⟨rfl, rfl⟩ := Prod.mk.inj hcf
      obtain ⟨rfl, rfl⟩ := Prod.mk.inj hop
      clear hcf hop HF9
      obtain ⟨c0, c1, c2, c3⟩ := CB.out _ (HY6.out.trans y8)
      go_wp2_with fail
      refine (KA.out _ y8).mono ?_
      rintro e w9 ⟨v9, rfl, L9, y9'⟩
      have y9 := y8.trans y9'
      clear c0 c1 c2 c3
      obtain ⟨c0, c1, c2, c3⟩ := CB.out _ (HY6.out.trans y9)
      go_wp2_with fail
      refine (KB.out _ y9).mono ?_
      rintro e w10 ⟨v10, rfl, L10, y10'⟩
      have y10 := y9.trans y10'
      clear c0 c1 c2 c3
      obtain ⟨c0, c1, c2, c3⟩ := CB.out _ (HY6.out.trans y10)
      go_wp2_with fail
      refine (OA.out _ y10).mono ?_
      rintro e w11 ⟨v11, rfl, L11, y11'⟩
      have y11 := y10.trans y11'
      clear c0 c1 c2 c3
      obtain ⟨c0, c1, c2, c3⟩ := CB.out _ (HY6.out.trans y11)
      go_wp2_with fail
      refine (OB.out _ y11).mono ?_
      rintro e w12 ⟨v12, rfl, L12, y12'⟩
      have y12 := y11.trans y12'
      have L7 := L7.ext (y8'.trans (y9'.trans (y10'.trans (y11'.trans y12'))))
      have L8 := L8.ext (y9'.trans (y10'.trans (y11'.trans y12')))
      have L9 := L9.ext (y10'.trans (y11'.trans y12'))
      have L10 := L10.ext (y11'.trans y12')
      have L11 := L11.ext y12'
      have HX12 := Lib.hid (HX6.out.trans y12)
      clear c0 c1 c2 c3 y7 y8 y8' y9 y9' y10 y10' y11 y11' y12 y12'
      go_wp2_with fail
      refine (same16_walk _ _ _ _ _ L7 L8).mono ?_
      rw [decide_eq_true rfl]
      rintro e w13 ⟨rfl, x13⟩
      go_wp2_with fail
      refine (samecg_walk _ _ _ _ _ (L9.ext x13) (L10.ext x13)).mono ?_
      rw [decide_eq_true rfl]
      rintro e w14 ⟨rfl, x14⟩
      go_wp2_with fail
      refine (same16_walk _ _ _ _ _ (L11.ext (x13.trans x14)) (L12.ext (x13.trans x14))).mono ?_
      rw [decide_eq_true rfl]
      rintro e w15 ⟨rfl, x15⟩
      have HX := Lib.hid (HX12.out.trans (x13.trans (x14.trans x15)))
      go_wp2
      go_ret
      exact ⟨by first | rfl | simp, HX.out⟩

theorem boct_any (vn vp vc vh vt : Value) (s : Sc) (h : List V6) (l : List S2) (k : Int) (hhb : h.length * 48 ≤ 140737488351232) (hlb : l.length * 16 ≤ 140737488351232) (w : World) (GL : Gl 0 w) (S : ScR w vn vp vc s) (V : Sl w 6 V6.list vh h) (R : Sl w 2 encS vt l) :
    Calls Tryd.prog 6 #[.agg #[.int .i64 s.voices, vn, vp, vc], vh, vt, .int .i64 k] w fun e w' => e = .returned (.bool true) ∧ Ext w w' := by
  by_cases hk : -20 ≤ k ∧ k ≤ 20
  · exact boct_law vn vp vc vh vt s h l k hk hhb hlb w GL S V R
  · exact boct_out vn vp vc vh vt s h l k hk w GL S V R

theorem blameOctaves_args (H : Type) (enc : TypeId × Value → H) (W : World) (base : Nat) (vs : List Value) (ds : List (DataW H)) (_ : ∀ k, (OpenSpec.ofChange Rows.blameOctavesSpec).cond = some k → k H ds = true) (hL : laidMetH Tryd.prog Rows.blameOctavesRow.laid W) (hA : Args enc Tryd.prog W base Tryd.f6.params.toList vs ds) :
    Calls Tryd.prog 6 vs.toArray W fun e W' => e = .returned (.bool true) ∧ Ext W W' := by
  rw [Tryd.params6] at hA
  obtain ⟨v0, _, d0, _, rfl, rfl, h0, hA⟩ := hA.cons
  obtain ⟨v1, _, d1, _, rfl, rfl, h1, hA⟩ := hA.cons
  obtain ⟨v2, _, d2, _, rfl, rfl, h2, hA⟩ := hA.cons
  obtain ⟨v3, _, d3, _, rfl, rfl, h3, hA⟩ := hA.cons
  obtain ⟨rfl, rfl⟩ := hA.nil
  obtain ⟨s0, vn0, vp0, vc0, rfl, S0⟩ := arg_score h0
  obtain ⟨l1, S1, n1⟩ := arg_vecs h1
  obtain ⟨l2, S2, n2⟩ := arg_sizes h2
  obtain ⟨k3, rfl, b3⟩ := h3.int Tryd.underlying3
  exact boct_any _ _ _ _ _ s0 l1 l2 k3 n1 n2 W (gv_of hL) S0 S1 S2

theorem blameOctaves_met (os : Os) : laidMet Tryd.prog Rows.blameOctavesRow.laid ((laidWorld os).forCall (fun _ _ => 0) ⟨#[], #[.agg #[.int .i64 0, .slice none 0 0, .slice none 0 0, .slice none 0 0], .slice none 0 0, .slice none 0 0, .int .i64 0], []⟩).memory := laidMet_of_run' 8 (by kernel_rfl) (by kernel_rfl)
theorem blameOctaves_reads (os : Os) {H : Type} (enc : TypeId × Value → H) : ∃ places, DataW.whole enc Tryd.prog ((laidWorld os).forCall (fun _ _ => 0) ⟨#[], #[.agg #[.int .i64 0, .slice none 0 0, .slice none 0 0, .slice none 0 0], .slice none 0 0, .slice none 0 0, .int .i64 0], []⟩).memory Tryd.f6.params.toList Rows.blameOctavesSpec.vars false #[.agg #[.int .i64 0, .slice none 0 0, .slice none 0 0, .slice none 0 0], .slice none 0 0, .slice none 0 0, .int .i64 0].toList 8 = some ([.agg [.lit (.int .i64 0), .nil, .nil, .nil], .nil, .nil, .lit (.int .i64 0)], [], places) := ⟨[], by kernel_rfl⟩
set_option maxRecDepth 100000 in
theorem blameOctaves_lifted (os : Os) (started : os.Started) (H : Type) (enc : TypeId × Value → H) (F : Stop.Interp) :
    ReturnsInHanded {} Tryd.checked os 6 .any ((OpenSpec.ofChange Rows.blameOctavesSpec).preRow enc Tryd.prog Tryd.f6 Rows.blameOctavesRow.domain false Rows.blameOctavesRow.laid) (((OpenSpec.ofChange Rows.blameOctavesSpec).at F).post enc Tryd.prog Tryd.f6 false true false false) := by
  obtain ⟨places, hx⟩ := blameOctaves_reads os enc
  exact law_row (C := Tryd.checked) (s := (OpenSpec.ofChange Rows.blameOctavesSpec)) (by kernel_rfl) started (by kernel_rfl) Tryd.func6
    (witness_row_at (enc := enc) (C := Tryd.checked) false (laidWorld os) #[.agg #[.int .i64 0, .slice none 0 0, .slice none 0 0, .slice none 0 0], .slice none 0 0, .slice none 0 0, .int .i64 0] rfl (by kernel_rfl) (by kernel_rfl) (by kernel_rfl) (OpenSpec.preRow_of_cond 8 hx (by kernel_rfl) (fun k hk => by cases hk) (by kernel_rfl) (blameOctaves_met os)))
    (by kernel_rfl) (by kernel_rfl) (by kernel_rfl) rfl (fun ds h => by match ds, h with | [_, _, _, _], _ => rfl) (blameOctaves_args H enc)
theorem blameOctaves_said : Rows.BlameOctavesSaid :=
  OpenClaim.holds_of_cond 6 Tryd.f6 rfl rfl rfl rfl rfl rfl rfl ⟨rfl, rfl, rfl, rfl, rfl⟩ rfl rfl rfl rfl rfl (by kernel_rfl) Tryd.func6 (by kernel_rfl)
    (of_decide_eq_true (by kernel_rfl)) (by unfold Func.isWrapper; first | (rw [if_pos (by decide +kernel)]; kernel_rfl) | (rw [if_neg (by decide +kernel)]; exact ⟨rfl, rfl⟩))
    (fun os started H enc _ F => by rw [OpenClaim.pre_eq_preRow]; exact blameOctaves_lifted os started H enc F)
theorem blameOctaves_plain (f : FuncId) (fn : Func) (hf : Tryd.pinned.checked.prog.funcNamed "schisma/schismalaw40.BlameOctaves" = some f) (hfn : Tryd.pinned.checked.prog.funcs[f]? = some fn) :
    false = Tryd.pinned.checked.prog.looks [] ∧ ∀ (j : Nat) t, fn.params[j]? = some t → Tryd.pinned.checked.prog.wantsStandIn t = false := by
  obtain rfl : f = 6 := Option.some.inj ((show Tryd.prog.funcNamed "schisma/schismalaw40.BlameOctaves" = some 6 by kernel_rfl).symm.trans hf) |>.symm
  obtain rfl : fn = Tryd.f6 := (Option.some.inj (Tryd.func6.symm.trans hfn)).symm
  refine ⟨by kernel_rfl, fun j t ht => ?_⟩
  have hall : Tryd.f6.params.all (fun t => !Tryd.prog.wantsStandIn t) = true := by kernel_rfl
  have := (Array.all_eq_true'.1 hall) t (Array.mem_of_getElem? ht)
  have e : Tryd.prog.wantsStandIn t = false := by simpa using this
  exact e
/-- The card. -/
theorem blameOctaves_holds : Rows.BlameOctavesCardSaid :=
  Claim7.holds_tied_plain_at .later [] _ _ _ _ blameOctaves_said (fun _ h => by cases h) (by kernel_rfl) (fun _ h => by cases h) blameOctaves_row_tie rfl ⟨rfl, rfl⟩ (by kernel_rfl) rfl blameOctaves_plain (by kernel_rfl)
end Go.Proofs.YtbemjekkojgbpaaDoor
