/-
  Proved: 'AlignMore' returns true for every input and leaves its arguments as they were. No condition.
-/
import Derived.Test.YthomegempfedaaaDoorAlL
import Derived.Test.YthomegempfedaaaDoorIns
set_option linter.unusedVariables false
set_option linter.unusedSimpArgs false
namespace Go.Proofs.YthomegempfedaaaDoor
open Go.RowKit Go.Sx Go.Sx.Sz Go.Sx.Al Go.ChangeShapes Go.WideShapes Go.ChangeAt

/-- A list without the element k. -/
def del {α : Type} (l : List α) (k : Nat) : List α := l.take k ++ l.drop (k + 1)
theorem del_len {α : Type} {l : List α} {k : Nat} (hk : k < l.length) : (del l k).length = l.length - 1 := by simp [del]; omega
theorem del_lo {α : Type} {l : List α} {k j : Nat} (hk : k < l.length) (hj : j < k) (h : j < (del l k).length) : (del l k)[j] = l[j] := by
  simp only [del]
  rw [List.getElem_append_left (by simp; omega), List.getElem_take]
theorem del_hi {α : Type} {l : List α} {k j : Nat} (hk : k < l.length) (hj : k ≤ j) (h : j < (del l k).length) : (del l k)[j] = l[j + 1]'(by rw [del_len hk] at h; omega) := by
  have hl : (l.take k).length = k := by simp; omega
  simp only [del]
  rw [List.getElem_append_right (by omega), List.getElem_drop]
  congr 1
  omega
theorem del_mem {α : Type} {l : List α} {k : Nat} {x : α} (h : x ∈ del l k) : x ∈ l := by
  rcases List.mem_append.1 h with h | h
  · exact List.mem_of_mem_take h
  · exact List.mem_of_mem_drop h
theorem del_rise {α : Type} {l : List α} {k : Nat} {f : α → Int} (h : rise (l.map f) = true) : rise ((del l k).map f) = true := by
  rw [rise_pair] at h ⊢
  refine h.sublist ?_
  rw [del, List.map_append]
  have e : l.map f = (l.take k).map f ++ (l.drop k).map f := by rw [← List.map_append, List.take_append_drop]
  rw [e]
  refine List.Sublist.append (List.Sublist.refl _) (List.Sublist.map _ ?_)
  rw [← List.drop_drop]
  exact List.drop_sublist _ _

section
variable {ds : List Due} {hs : List Hrd} {p : Prc} {k : Nat}
theorem delH_ok (h : alOk ds hs p = true) : alOk ds (del hs k) p = true := by
  have hv := alOk_iff.1 h
  have hl : (del hs k).length ≤ hs.length := by simp [del]; omega
  exact alOk_iff.2 ⟨hv.dx, fun x hx => hv.hx x (del_mem hx), hv.dn, by have := hv.hn; omega, hv.dr, hv.dt, del_rise hv.hr, fun x hx => hv.ht x (del_mem hx), hv.skip, hv.off⟩
theorem delD_ok (h : alOk ds hs p = true) : alOk (del ds k) hs p = true := by
  have hv := alOk_iff.1 h
  have hl : (del ds k).length ≤ ds.length := by simp [del]; omega
  exact alOk_iff.2 ⟨fun x hx => hv.dx x (del_mem hx), hv.hx, by have := hv.dn; omega, hv.hn, del_rise hv.dr, fun x hx => hv.dt x (del_mem hx), hv.hr, hv.ht, hv.skip, hv.off⟩

theorem delH_up (h : alOk ds hs p = true) (hk : k < hs.length) : tab ds hs p 0 0 ≤ tab ds (del hs k) p 0 0 + p.skip := by
  have hv := alOk_iff.1 h
  have hl := del_len hk
  have B := @tab_bnd ds hs p
  have hsk := hv.skip.1
  have B' : Bnd ds (del hs k) p (fun i j => if j ≤ k then tab ds hs p i j - p.skip else tab ds hs p i (j + 1)) := by
    refine ⟨?_, fun i j hi hj => ?_, fun i j hi hj => ?_, fun i j hi hj => ?_⟩
    · rw [hl]
      by_cases e : hs.length - 1 ≤ k
      · rw [if_pos e]
        have := B.tone ds.length (hs.length - 1) (Nat.le_refl _) (by omega)
        rw [show hs.length - 1 + 1 = hs.length by omega] at this
        have := B.last
        omega
      · rw [if_neg e, show hs.length - 1 + 1 = hs.length by omega]; exact B.last
    · by_cases e : j ≤ k
      · rw [if_pos e, if_pos e]; have := B.due i j hi (by omega); omega
      · rw [if_neg e, if_neg e]; exact B.due i (j + 1) hi (by omega)
    · by_cases e : j < k
      · rw [if_pos (by omega), if_pos (by omega)]; have := B.tone i j hi (by omega); omega
      · by_cases e2 : j = k
        · subst e2
          rw [if_pos (Nat.le_refl _), if_neg (by omega)]
          have a := B.tone i j hi (by omega); have b := B.tone i (j + 1) hi (by omega)
          omega
        · rw [if_neg (by omega), if_neg (by omega)]; exact B.tone i (j + 1) hi (by omega)
    · by_cases e : j < k
      · rw [if_pos (by omega), if_pos (by omega), del_lo hk e]; have := B.both i j hi (by omega); omega
      · rw [del_hi hk (by omega)]
        by_cases e2 : j = k
        · subst e2
          rw [if_pos (Nat.le_refl _), if_neg (by omega)]
          have a := B.tone i j (by omega) (by omega); have b := B.both i (j + 1) hi (by omega)
          omega
        · rw [if_neg (by omega), if_neg (by omega)]; exact B.both i (j + 1) hi (by omega)
  have := cost_least B' (l := pathL ds (del hs k) p) (by rw [cost_path (delH_ok h)])
  rw [cost_path (delH_ok h), if_pos (Nat.zero_le _)] at this
  simp only at this
  omega
theorem delH_dn (h : alOk ds hs p = true) (hk : k < hs.length) : tab ds (del hs k) p 0 0 ≤ tab ds hs p 0 0 + p.skip := by
  have hv := alOk_iff.1 h
  have hl := del_len hk
  have B := @tab_bnd ds (del hs k) p
  have hsk := hv.skip.1
  have B' : Bnd ds hs p (fun i j => if j ≤ k then tab ds (del hs k) p i j - p.skip else tab ds (del hs k) p i (j - 1)) := by
    refine ⟨?_, fun i j hi hj => ?_, fun i j hi hj => ?_, fun i j hi hj => ?_⟩
    · rw [if_neg (by omega), ← hl]; exact B.last
    · by_cases e : j ≤ k
      · rw [if_pos e, if_pos e]; have := B.due i j hi (by omega); omega
      · rw [if_neg e, if_neg e]; exact B.due i (j - 1) hi (by omega)
    · by_cases e : j < k
      · rw [if_pos (by omega), if_pos (by omega)]; have := B.tone i j hi (by omega); omega
      · by_cases e2 : j = k
        · subst e2
          rw [if_pos (Nat.le_refl _), if_neg (by omega), Nat.add_sub_cancel]
          omega
        · rw [if_neg (by omega), if_neg (by omega), Nat.add_sub_cancel]
          have := B.tone i (j - 1) hi (by omega)
          rw [show j - 1 + 1 = j by omega] at this
          exact this
    · have hmc := @mc_bd p ds[i] hs[j] (hv.dt _ (List.getElem_mem _)) (hv.ht _ (List.getElem_mem _)) hv.off
      by_cases e : j < k
      · rw [if_pos (by omega), if_pos (by omega)]
        have := B.both i j hi (by omega)
        rw [del_lo hk e] at this; omega
      · by_cases e2 : j = k
        · subst e2
          rw [if_pos (Nat.le_refl _), if_neg (by omega), Nat.add_sub_cancel]
          have := B.due i j hi (by omega)
          omega
        · rw [if_neg (by omega), if_neg (by omega), Nat.add_sub_cancel]
          have := B.both i (j - 1) hi (by omega)
          rw [del_hi hk (by omega)] at this
          simp only [show j - 1 + 1 = j by omega] at this
          exact this
  have := cost_least B' (l := pathL ds hs p) (by rw [cost_path h])
  rw [cost_path h, if_pos (Nat.zero_le _)] at this
  simp only at this
  omega
theorem delD_up (h : alOk ds hs p = true) (hk : k < ds.length) : tab ds hs p 0 0 ≤ tab (del ds k) hs p 0 0 + p.skip := by
  have hv := alOk_iff.1 h
  have hl := del_len hk
  have B := @tab_bnd ds hs p
  have hsk := hv.skip.1
  have B' : Bnd (del ds k) hs p (fun i j => if i ≤ k then tab ds hs p i j - p.skip else tab ds hs p (i + 1) j) := by
    refine ⟨?_, fun i j hi hj => ?_, fun i j hi hj => ?_, fun i j hi hj => ?_⟩
    · rw [hl]
      by_cases e : ds.length - 1 ≤ k
      · rw [if_pos e]
        have := B.due (ds.length - 1) hs.length (by omega) (Nat.le_refl _)
        rw [show ds.length - 1 + 1 = ds.length by omega] at this
        have := B.last
        omega
      · rw [if_neg e, show ds.length - 1 + 1 = ds.length by omega]; exact B.last
    · by_cases e : i < k
      · rw [if_pos (by omega), if_pos (by omega)]; have := B.due i j (by omega) hj; omega
      · by_cases e2 : i = k
        · subst e2
          rw [if_pos (Nat.le_refl _), if_neg (by omega)]
          have a := B.due i j (by omega) hj; have b := B.due (i + 1) j (by omega) hj
          omega
        · rw [if_neg (by omega), if_neg (by omega)]; exact B.due (i + 1) j (by omega) hj
    · by_cases e : i ≤ k
      · rw [if_pos e, if_pos e]; have := B.tone i j (by omega) hj; omega
      · rw [if_neg e, if_neg e]; exact B.tone (i + 1) j (by omega) hj
    · by_cases e : i < k
      · rw [if_pos (by omega), if_pos (by omega), del_lo hk e]; have := B.both i j (by omega) hj; omega
      · rw [del_hi hk (by omega)]
        by_cases e2 : i = k
        · subst e2
          rw [if_pos (Nat.le_refl _), if_neg (by omega)]
          have a := B.due i j (by omega) (by omega); have b := B.both (i + 1) j (by omega) hj
          omega
        · rw [if_neg (by omega), if_neg (by omega)]; exact B.both (i + 1) j (by omega) hj
  have := cost_least B' (l := pathL (del ds k) hs p) (by rw [cost_path (delD_ok h)])
  rw [cost_path (delD_ok h), if_pos (Nat.zero_le _)] at this
  simp only at this
  omega
theorem delD_dn (h : alOk ds hs p = true) (hk : k < ds.length) : tab (del ds k) hs p 0 0 ≤ tab ds hs p 0 0 + p.skip := by
  have hv := alOk_iff.1 h
  have hl := del_len hk
  have B := @tab_bnd (del ds k) hs p
  have hsk := hv.skip.1
  have B' : Bnd ds hs p (fun i j => if i ≤ k then tab (del ds k) hs p i j - p.skip else tab (del ds k) hs p (i - 1) j) := by
    refine ⟨?_, fun i j hi hj => ?_, fun i j hi hj => ?_, fun i j hi hj => ?_⟩
    · rw [if_neg (by omega), ← hl]; exact B.last
    · by_cases e : i < k
      · rw [if_pos (by omega), if_pos (by omega)]; have := B.due i j (by omega) hj; omega
      · by_cases e2 : i = k
        · subst e2
          rw [if_pos (Nat.le_refl _), if_neg (by omega), Nat.add_sub_cancel]
          omega
        · rw [if_neg (by omega), if_neg (by omega), Nat.add_sub_cancel]
          have := B.due (i - 1) j (by omega) hj
          rw [show i - 1 + 1 = i by omega] at this
          exact this
    · by_cases e : i ≤ k
      · rw [if_pos e, if_pos e]; have := B.tone i j (by omega) hj; omega
      · rw [if_neg e, if_neg e]; exact B.tone (i - 1) j (by omega) hj
    · have hmc := @mc_bd p ds[i] hs[j] (hv.dt _ (List.getElem_mem _)) (hv.ht _ (List.getElem_mem _)) hv.off
      by_cases e : i < k
      · rw [if_pos (by omega), if_pos (by omega)]
        have := B.both i j (by omega) hj
        rw [del_lo hk e] at this; omega
      · by_cases e2 : i = k
        · subst e2
          rw [if_pos (Nat.le_refl _), if_neg (by omega), Nat.add_sub_cancel]
          have := B.tone i j (by omega) hj
          omega
        · rw [if_neg (by omega), if_neg (by omega), Nat.add_sub_cancel]
          have := B.both (i - 1) j (by omega) hj
          rw [del_hi hk (by omega)] at this
          simp only [show i - 1 + 1 = i by omega] at this
          exact this
  have := cost_least B' (l := pathL ds hs p) (by rw [cost_path h])
  rw [cost_path h, if_pos (Nat.zero_le _)] at this
  simp only at this
  omega
end

theorem et_h : ET Tryd.prog 23 54 3 24 := .mk' (z := .agg #[.int .i64 0, .int .i64 0, .int .i64 0]) Tryd.underlying23 (by kernel_rfl) rfl (by decide) (by decide)
theorem et_d : ET Tryd.prog 22 48 7 56 := .mk' (z := .agg #[.int .i64 0, .int .i64 0, .int .i64 0, .int .i64 0, .int .i64 0, .int .i64 0, .int .i64 0]) Tryd.underlying22 (by kernel_rfl) rfl (by decide) (by decide)

set_option maxHeartbeats 8000000 in
set_option maxRecDepth 8000 in
theorem more_walk (vd vh : Value) (ds : List Due) (hs : List Hrd) (p : Prc) (an : Nat) (han : an ≤ 255) (hn1 : ds.length * 56 ≤ 140737488351232) (hn2 : hs.length * 24 ≤ 140737488351232) (w : World) (G : Gl 0 w)
    (Sd : Sl w 7 encD vd ds) (Sh : Sl w 3 encH vh hs) :
    Calls Tryd.prog 8 #[vd, vh, .agg #[.int .i64 p.skip, .int .i64 p.off], .int .u8 an] w fun e w' => e = .returned (.bool true) ∧ Ext w w' := by
  obtain ⟨ad, cd, rfl, cd1, cd2, -⟩ := Sd.len
  obtain ⟨ah, ch, rfl, ch1, ch2, -⟩ := Sh.len
  have CH1 := Lib.hid ch1; have CD1 := Lib.hid cd1
  clear ch1 cd1
  go_enter Tryd.func8, Tryd.ntmps8
  go_wp2_with fail
  refine (head_walk _ (G.ext (by repeat (first | with_reducible exact Ext.refl _ | with_reducible assumption | with_reducible apply Ext.alloc | with_reducible apply Ext.drew | (with_reducible refine Ext.setCell ?_ (by (try simp) <;> omega) _))))).mono ?_
  rintro e w1 ⟨rfl, x1⟩
  have X1 : Ext w w1 := Ext.trans (by repeat (first | with_reducible exact Ext.refl _ | with_reducible assumption | with_reducible apply Ext.alloc | with_reducible apply Ext.drew | (with_reducible refine Ext.setCell ?_ (by (try simp) <;> omega) _))) x1
  have b1 := block_ext x1 (block_new w (.cells #[.int .i64 p.skip, .int .i64 p.off] 25))
  have c10 := block_cell b1 0 (.int .i64 p.skip) rfl
  have c11 := block_cell b1 1 (.int .i64 p.off) rfl
  have B1 := Lib.hid b1
  clear x1 b1
  go_wp2_with fail
  refine (align_walk _ _ ds hs p hn1 hn2 _ (G.ext X1) (Sd.ext X1) (Sh.ext X1)).mono ?_
  cases hok : alOk ds hs p with
  | false =>
    have h1 : alCr ds hs p = 0 := by rw [alCr, hok]; rfl
    have h2 : alEr ds hs p = 1 := by rw [alEr, hok]; rfl
    rw [h1, h2]
    clear hok h1 h2
    rintro e w2 ⟨vl, vt, rfl, SL, TT, x2⟩
    have X2 := X1.trans x2
    clear x2 B1 c10 c11
    go_wp2
    go_ret
    exact ⟨rfl, X2⟩
  | true =>
    have h1 : alCr ds hs p = tab ds hs p 0 0 := by rw [alCr, hok]; rfl
    have h2 : alEr ds hs p = 0 := by rw [alEr, hok]; rfl
    have hv := alOk_iff.1 hok
    have hsm := tab_small hv (Nat.zero_le _) (Nat.zero_le _)
    have HOK := Lib.hid hok
    obtain ⟨c, hcc⟩ : ∃ c, tab ds hs p 0 0 = c := ⟨_, rfl⟩
    rw [h1, h2]
    rw [hcc] at hsm ⊢
    have HCC := Lib.hid hcc; have HV := Lib.hid hv
    have hhn := hv.hn; have hdn := hv.dn
    obtain ⟨s1, s2⟩ := hv.skip
    obtain ⟨m1, m2⟩ := hsm
    clear hok h1 h2 hcc hv
    rintro e w2 ⟨vl, vt, rfl, SL, TT, x2⟩
    have X2 := X1.trans x2
    have B2 := Lib.hid (block_ext x2 B1.out)
    have SD2 := Sd.ext X2
    have SH2 := Sh.ext X2
    have G2 := G.ext X2
    clear x2 B1 c10 c11
    by_cases hh0 : 0 < hs.length
    · have hk : an % hs.length < hs.length := Nat.mod_lt _ hh0
      have emod : (an : Int) % (hs.length : Int) = ((an % hs.length : Nat) : Int) := rfl
      obtain ⟨k, hkk⟩ : ∃ k, an % hs.length = k := ⟨_, rfl⟩
      rw [hkk] at hk emod
      have hne0 : ¬ (hs.length : Int) = 0 := by omega
      have hup := delH_up HOK.out hk
      have hdn' := delH_dn HOK.out hk
      have hdok := delH_ok (k := k) HOK.out
      have hsm2 := tab_small (alOk_iff.1 hdok) (Nat.zero_le _) (Nat.zero_le _)
      have k1 : alCr ds (del hs k) p = tab ds (del hs k) p 0 0 := by rw [alCr, hdok]; rfl
      have k2 : alEr ds (del hs k) p = 0 := by rw [alEr, hdok]; rfl
      obtain ⟨d, hd⟩ : ∃ d, tab ds (del hs k) p 0 0 = d := ⟨_, rfl⟩
      rw [HCC.out] at hup hdn'
      rw [hd] at hup hdn' hsm2 k1
      obtain ⟨m3, m4⟩ := hsm2
      have K1 := Lib.hid k1; have K2 := Lib.hid k2
      have hgt : (0 : Int) < (hs.length : Int) := by omega
      clear hkk hdok hd k1 k2
      go_wp2
      try rw [emod]
      have b2 := B2.out
      have g0 := ext_cells (block_cell b2 0 (.int .i64 p.skip) rfl)
      have g1 := ext_cells (block_cell b2 1 (.int .i64 p.off) rfl)
      have S0k := SH2.cut (by omega) 0 k (Nat.zero_le _) (by omega)
      have Skl := SH2.cut (by omega) (k + 1) hs.length (by omega) (Nat.le_refl _)
      rw [List.drop_zero] at S0k
      rw [List.take_length] at Skl
      obtain ⟨vSkl, eSkl⟩ : ∃ v, sliced ah (k + 1) hs.length ch 3 = v := ⟨_, rfl⟩
      rw [eSkl] at Skl
      have ESkl := Lib.hid eSkl
      clear eSkl
      have i1 : (0 : Int) ≤ (k : Int) := by omega
      have i2 : (k : Int) ≤ (ch : Int) := by have := CH1.out; omega
      have i3 : (k : Int) + 1 ≤ (hs.length : Int) := by omega
      have i4 : (0 : Int) ≤ (k : Int) + 1 := by omega
      have i5 : IntKind.i64.wrap ((k : Int) + 1) = (k : Int) + 1 := IntWalk.i64_in _ (by omega)
      have i6 : ((k : Int) + 1).toNat = k + 1 := by omega
      apply Y.wp_region_ordY [(0, .det _), (1, .new Zero (Lit0 w2.heap.size 54) _ zero0), (2, .det _), (3, .det _), (4, .det (sliced ah 0 k ch 3)), (6, .det _), (7, .det _), (8, .det _), (9, .det vSkl), (11, .det _),
        (5, .one (fun _ => True) (fun v w' => OwnR w' w2.heap.size 54 3 encH v (hs.take k) ∧ (0 < k ∨ Zero v)) undef trivial [1]), (10, .one (fun _ => True) (fun v w' => OwnR w' w2.heap.size 54 3 encH v (del hs k)) undef trivial),
        (12, .one (fun v => ∃ vl vt, v = .tuple #[vl, .int .i64 d, vt, .int .i64 0]) (fun _ _ => True) (.tuple #[undef, .int .i64 d, undef, .int .i64 0]) ⟨_, _, rfl⟩), (13, .new (fun v => ∃ vl vt, v = .tuple #[vl, .int .i64 d, vt, .int .i64 0]) (fun _ _ => True) (.tuple #[undef, .int .i64 d, undef, .int .i64 0]) ⟨_, _, rfl⟩), (14, .new (fun _ => True) (fun _ _ => True) undef trivial), (15, .det (.int .i64 d)), (16, .new (fun _ => True) (fun _ _ => True) undef trivial), (17, .det (.int .i64 0)), (18, .new (fun _ => True) (fun _ _ => True) undef trivial), (19, .det (.int .i64 d)), (20, .new (fun _ => True) (fun _ _ => True) undef trivial), (21, .det (.int .i64 0))]
        22 Ext (Keeps w2.heap.size 3) (Ext w2) (fun _ => True) wide
        [(0,true),(1,true),(2,true),(3,true),(4,true),(6,true),(7,true),(8,true),(9,true),(11,true),(5,false),(10,false),(12,false),(13,true),(14,true),(15,true),(16,true),(17,true),(18,true),(19,true),(20,true),(21,true)]
        [(0,[]),(1,[]),(2,[]),(3,[]),(4,[]),(6,[]),(7,[]),(8,[]),(9,[]),(11,[]),(5,[1]),(10,[]),(12,[]),(13,[]),(14,[]),(15,[]),(16,[]),(17,[]),(18,[]),(19,[]),(20,[]),(21,[])] (by kernel_rfl) (by kernel_rfl) rfl rfl (by simp [Y.Kd.new, Y.Kd.det, Y.Kd.one, Y.kdOf]) (by decide) (fun _ _ h => Keeps.of_ext h) (keeps_cd _ _) stable_true (Ext.drawn _ _) trivial ?main2
      case main2 =>
        (apply Y.ordX_det rfl rfl; (intro w' hw'; unfold opR; go_simp; exact ⟨Ext.refl _, rfl⟩); (simp only [List.getElem_toArray, List.getElem_cons_succ, List.getElem_cons_zero, Act.put, List.setIfInBounds_toArray, List.set_cons_succ, List.set_cons_zero]; rfl))
        apply Y.ordX_new (fun v => Lit0.stableK _ _ _ _) rfl rfl
        · intro w' hw' _
          unfold opR
          go_simp
          exact ⟨Ext.alloc' _ _, ⟨_, rfl⟩, Lit0.new w' hw'.size _⟩
        · intro v; (simp only [List.getElem_toArray, List.getElem_cons_succ, List.getElem_cons_zero, Act.put, List.setIfInBounds_toArray, List.set_cons_succ, List.set_cons_zero]; rfl)
        rintro v0 ⟨gz, rfl⟩
        iterate 2 (apply Y.ordX_det rfl rfl; (intro w' hw'; unfold opR; go_simp; exact ⟨Ext.refl _, rfl⟩); (simp only [List.getElem_toArray, List.getElem_cons_succ, List.getElem_cons_zero, Act.put, List.setIfInBounds_toArray, List.set_cons_succ, List.set_cons_zero]; rfl))
        apply Y.ordX_det rfl rfl
        · intro w' hw'
          unfold opR
          go_simp
          first | exact ⟨Ext.refl _, rfl⟩ | exact ⟨Ext.refl _, ESkl.out⟩ | exact ⟨Ext.refl _, EDkl.out⟩
        · (simp only [List.getElem_toArray, List.getElem_cons_succ, List.getElem_cons_zero, Act.put, List.setIfInBounds_toArray, List.set_cons_succ, List.set_cons_zero]; rfl)
        iterate 3 (apply Y.ordX_det rfl rfl; (intro w' hw'; unfold opR; go_simp; exact ⟨Ext.refl _, rfl⟩); (simp only [List.getElem_toArray, List.getElem_cons_succ, List.getElem_cons_zero, Act.put, List.setIfInBounds_toArray, List.set_cons_succ, List.set_cons_zero]; rfl))
        apply Y.ordX_det rfl rfl
        · intro w' hw'
          unfold opR
          go_simp
          first | exact ⟨Ext.refl _, rfl⟩ | exact ⟨Ext.refl _, ESkl.out⟩ | exact ⟨Ext.refl _, EDkl.out⟩
        · (simp only [List.getElem_toArray, List.getElem_cons_succ, List.getElem_cons_zero, Act.put, List.setIfInBounds_toArray, List.set_cons_succ, List.set_cons_zero]; rfl)
        (apply Y.ordX_det rfl rfl; (intro w' hw'; unfold opR; go_simp; exact ⟨Ext.refl _, rfl⟩); (simp only [List.getElem_toArray, List.getElem_cons_succ, List.getElem_cons_zero, Act.put, List.setIfInBounds_toArray, List.set_cons_succ, List.set_cons_zero]; rfl))
        apply Y.ordX_one (fun v _ _ h k => ⟨h.1.ext k, h.2⟩) rfl rfl
        · intro w' hw' _ hN
          refine opR_app0 et_h (.tmp 47) (.tmp 50) rfl (Lit0.own (hN 1 (by simp))) rfl (hs.take k) _ (S0k.ext hw') rfl (fun _ _ => rfl) (by simp; omega) hw'.size ?_
          intro v' w4 h1 h2 h3
          refine ⟨Keeps.of_ext h2, trivial, h1, ?_⟩
          rcases Nat.eq_zero_or_pos k with h | h
          · exact .inr ⟨_, h3 (by simp [h])⟩
          · exact .inl h
        · intro v; (simp only [List.getElem_toArray, List.getElem_cons_succ, List.getElem_cons_zero, Act.put, List.setIfInBounds_toArray, List.set_cons_succ, List.set_cons_zero]; rfl)
        intro v5 _
        apply Y.ordX_one (fun v _ _ h k => h.ext k) rfl rfl
        · intro w' hw' hC hN
          refine opR_app_keep et_h (.tmp 51) (.tmp 55) rfl hC.1 ?_ rfl (hs.drop (k + 1)) _ (Skl.ext hw') rfl (fun _ _ => rfl) (by simp [encH, Value.oneCell']) (fun _ _ => rfl) (by simp; omega) hw'.size ?_
          · exact hC.2.imp (fun h => by simp; omega) id
          · intro v' w4 h1 h2
            exact ⟨h2, trivial, h1⟩
        · intro v; (simp only [List.getElem_toArray, List.getElem_cons_succ, List.getElem_cons_zero, Act.put, List.setIfInBounds_toArray, List.set_cons_succ, List.set_cons_zero]; rfl)
        intro v10 _
        apply Y.ordX_one (fun _ _ _ _ _ => trivial) rfl rfl
        · intro w' hw' hC _
          have sl := hC.sl (fun _ _ => rfl) (by rw [del_len hk]; omega)
          refine opR_call rfl (Go.Proofs.enters_of Tryd.func16 (by kernel_rfl) rfl) (by simp only [List.map_toArray, List.map_cons, List.map_nil, Act.eval, Array.getD_eq_getD_getElem?, List.getElem?_toArray, List.getElem?_cons_succ, List.getElem?_cons_zero, Option.getD_some]; rfl) ?_
          refine (align_walk _ _ ds (del hs k) p hn1 (by rw [del_len hk]; omega) w' (G2.ext hw') (SD2.ext hw') sl).mono ?_
          rw [K1.out, K2.out]
          rintro e w4 ⟨vl', vt', rfl, _, _, x4⟩
          exact ⟨_, rfl, Keeps.of_ext x4, ⟨_, _, rfl⟩, trivial⟩
        · intro v; (simp only [List.getElem_toArray, List.getElem_cons_succ, List.getElem_cons_zero, Act.put, List.setIfInBounds_toArray, List.set_cons_succ, List.set_cons_zero]; rfl)
        rintro v12 ⟨ul, ut, rfl⟩
        apply Y.ordX_new (fun _ _ _ _ _ => trivial) rfl rfl
        · intro w' hw' _
          unfold opR
          go_simp
          first | exact ⟨Ext.refl _, _, _, rfl⟩ | exact ⟨Ext.refl _, ⟨_, _, rfl⟩, trivial⟩
        · intro v; (simp only [List.getElem_toArray, List.getElem_cons_succ, List.getElem_cons_zero, Act.put, List.setIfInBounds_toArray, List.set_cons_succ, List.set_cons_zero]; rfl)
        rintro v13 ⟨ul2, ut2, rfl⟩
        apply Y.ordX_new (fun _ _ _ _ _ => trivial) rfl rfl
        · intro w' hw' _
          unfold opR
          go_simp
          first | exact Ext.refl _ | exact ⟨Ext.refl _, trivial, trivial⟩
        · intro v; (simp only [List.getElem_toArray, List.getElem_cons_succ, List.getElem_cons_zero, Act.put, List.setIfInBounds_toArray, List.set_cons_succ, List.set_cons_zero]; rfl)
        intro v14 _
        (apply Y.ordX_det rfl rfl; (intro w' hw'; unfold opR; go_simp; exact ⟨Ext.refl _, rfl⟩); (simp only [List.getElem_toArray, List.getElem_cons_succ, List.getElem_cons_zero, Act.put, List.setIfInBounds_toArray, List.set_cons_succ, List.set_cons_zero]; rfl))
        apply Y.ordX_new (fun _ _ _ _ _ => trivial) rfl rfl
        · intro w' hw' _
          unfold opR
          go_simp
          first | exact Ext.refl _ | exact ⟨Ext.refl _, trivial, trivial⟩
        · intro v; (simp only [List.getElem_toArray, List.getElem_cons_succ, List.getElem_cons_zero, Act.put, List.setIfInBounds_toArray, List.set_cons_succ, List.set_cons_zero]; rfl)
        intro v16 _
        (apply Y.ordX_det rfl rfl; (intro w' hw'; unfold opR; go_simp; exact ⟨Ext.refl _, rfl⟩); (simp only [List.getElem_toArray, List.getElem_cons_succ, List.getElem_cons_zero, Act.put, List.setIfInBounds_toArray, List.set_cons_succ, List.set_cons_zero]; rfl))
        apply Y.ordX_new (fun _ _ _ _ _ => trivial) rfl rfl
        · intro w' hw' _
          unfold opR
          go_simp
          first | exact Ext.refl _ | exact ⟨Ext.refl _, trivial, trivial⟩
        · intro v; (simp only [List.getElem_toArray, List.getElem_cons_succ, List.getElem_cons_zero, Act.put, List.setIfInBounds_toArray, List.set_cons_succ, List.set_cons_zero]; rfl)
        intro v18 _
        (apply Y.ordX_det rfl rfl; (intro w' hw'; unfold opR; go_simp; exact ⟨Ext.refl _, rfl⟩); (simp only [List.getElem_toArray, List.getElem_cons_succ, List.getElem_cons_zero, Act.put, List.setIfInBounds_toArray, List.set_cons_succ, List.set_cons_zero]; rfl))
        apply Y.ordX_new (fun _ _ _ _ _ => trivial) rfl rfl
        · intro w' hw' _
          unfold opR
          go_simp
          first | exact Ext.refl _ | exact ⟨Ext.refl _, trivial, trivial⟩
        · intro v; (simp only [List.getElem_toArray, List.getElem_cons_succ, List.getElem_cons_zero, Act.put, List.setIfInBounds_toArray, List.set_cons_succ, List.set_cons_zero]; rfl)
        intro v20 _
        (apply Y.ordX_det rfl rfl; (intro w' hw'; unfold opR; go_simp; exact ⟨Ext.refl _, rfl⟩); (simp only [List.getElem_toArray, List.getElem_cons_succ, List.getElem_cons_zero, Act.put, List.setIfInBounds_toArray, List.set_cons_succ, List.set_cons_zero]; rfl))
        refine Y.ordX_nil rfl ?_
        rintro w9 hw9 - -
        have X9 := X2.trans hw9
        have B9 := Lib.hid (block_ext hw9 B2.out)
        have SD9 := SD2.ext hw9
        have SH9 := SH2.ext hw9
        have G9 := G2.ext hw9
        have e0 := block_cell B9.out 0 (.int .i64 p.skip) rfl
        have q1 : c ≤ d + p.skip := hup
        have q2 : d - p.skip ≤ c := by omega
        have q1' : decide (c ≤ d + p.skip) = true := decide_eq_true q1
        have q2' : decide (d - p.skip ≤ c) = true := decide_eq_true q2
        by_cases hd0 : 0 < ds.length
        · have hk : an % ds.length < ds.length := Nat.mod_lt _ hd0
          have emod : (an : Int) % (ds.length : Int) = ((an % ds.length : Nat) : Int) := rfl
          obtain ⟨k, hkk⟩ : ∃ k, an % ds.length = k := ⟨_, rfl⟩
          rw [hkk] at hk emod
          have hne0 : ¬ (ds.length : Int) = 0 := by omega
          have hup := delD_up HOK.out hk
          have hdn' := delD_dn HOK.out hk
          have hdok := delD_ok (k := k) HOK.out
          have hsm2 := tab_small (alOk_iff.1 hdok) (Nat.zero_le _) (Nat.zero_le _)
          have k1 : alCr (del ds k) hs p = tab (del ds k) hs p 0 0 := by rw [alCr, hdok]; rfl
          have k2 : alEr (del ds k) hs p = 0 := by rw [alEr, hdok]; rfl
          obtain ⟨d, hd⟩ : ∃ d, tab (del ds k) hs p 0 0 = d := ⟨_, rfl⟩
          rw [HCC.out] at hup hdn'
          rw [hd] at hup hdn' hsm2 k1
          obtain ⟨m3, m4⟩ := hsm2
          have K1 := Lib.hid k1; have K2 := Lib.hid k2
          have hgt : (0 : Int) < (ds.length : Int) := by omega
          clear hkk hdok hd k1 k2
          go_wp2
          try rw [emod]
          have b2 := B9.out
          have g0 := ext_cells (block_cell b2 0 (.int .i64 p.skip) rfl)
          have g1 := ext_cells (block_cell b2 1 (.int .i64 p.off) rfl)
          have D0k := SD9.cut (by omega) 0 k (Nat.zero_le _) (by omega)
          have Dkl := SD9.cut (by omega) (k + 1) ds.length (by omega) (Nat.le_refl _)
          rw [List.drop_zero] at D0k
          rw [List.take_length] at Dkl
          obtain ⟨vDkl, eDkl⟩ : ∃ v, sliced ad (k + 1) ds.length cd 7 = v := ⟨_, rfl⟩
          rw [eDkl] at Dkl
          have EDkl := Lib.hid eDkl
          clear eDkl
          have i1 : (0 : Int) ≤ (k : Int) := by omega
          have i2 : (k : Int) ≤ (cd : Int) := by have := CD1.out; omega
          have i3 : (k : Int) + 1 ≤ (ds.length : Int) := by omega
          have i4 : (0 : Int) ≤ (k : Int) + 1 := by omega
          have i5 : IntKind.i64.wrap ((k : Int) + 1) = (k : Int) + 1 := IntWalk.i64_in _ (by omega)
          have i6 : ((k : Int) + 1).toNat = k + 1 := by omega
          apply Y.wp_region_ordY [(0, .new Zero (Lit0 w9.heap.size 48) _ zero0), (1, .det _), (2, .det _), (3, .det (sliced ad 0 k cd 7)), (5, .det _), (6, .det _), (7, .det _), (8, .det vDkl), (10, .det _), (11, .det _),
            (4, .one (fun _ => True) (fun v w' => OwnR w' w9.heap.size 48 7 encD v (ds.take k) ∧ (0 < k ∨ Zero v)) undef trivial [0]), (9, .one (fun _ => True) (fun v w' => OwnR w' w9.heap.size 48 7 encD v (del ds k)) undef trivial),
            (12, .one (fun v => ∃ vl vt, v = .tuple #[vl, .int .i64 d, vt, .int .i64 0]) (fun _ _ => True) (.tuple #[undef, .int .i64 d, undef, .int .i64 0]) ⟨_, _, rfl⟩), (13, .new (fun v => ∃ vl vt, v = .tuple #[vl, .int .i64 d, vt, .int .i64 0]) (fun _ _ => True) (.tuple #[undef, .int .i64 d, undef, .int .i64 0]) ⟨_, _, rfl⟩), (14, .new (fun _ => True) (fun _ _ => True) undef trivial), (15, .det (.int .i64 d)), (16, .new (fun _ => True) (fun _ _ => True) undef trivial), (17, .det (.int .i64 0)), (18, .new (fun _ => True) (fun _ _ => True) undef trivial), (19, .det (.int .i64 d)), (20, .new (fun _ => True) (fun _ _ => True) undef trivial), (21, .det (.int .i64 0))]
            22 Ext (Keeps w9.heap.size 7) (Ext w9) (fun _ => True) wide
            [(0,true),(1,true),(2,true),(3,true),(5,true),(6,true),(7,true),(8,true),(10,true),(11,true),(4,false),(9,false),(12,false),(13,true),(14,true),(15,true),(16,true),(17,true),(18,true),(19,true),(20,true),(21,true)]
            [(0,[]),(1,[]),(2,[]),(3,[]),(5,[]),(6,[]),(7,[]),(8,[]),(10,[]),(11,[]),(4,[0]),(9,[]),(12,[]),(13,[]),(14,[]),(15,[]),(16,[]),(17,[]),(18,[]),(19,[]),(20,[]),(21,[])] (by kernel_rfl) (by kernel_rfl) rfl rfl (by simp [Y.Kd.new, Y.Kd.det, Y.Kd.one, Y.kdOf]) (by decide) (fun _ _ h => Keeps.of_ext h) (keeps_cd _ _) stable_true (Ext.drawn _ _) trivial ?main3
          case main3 =>
            apply Y.ordX_new (fun v => Lit0.stableK _ _ _ _) rfl rfl
            · intro w' hw' _
              unfold opR
              go_simp
              exact ⟨Ext.alloc' _ _, ⟨_, rfl⟩, Lit0.new w' hw'.size _⟩
            · intro v; (simp only [List.getElem_toArray, List.getElem_cons_succ, List.getElem_cons_zero, Act.put, List.setIfInBounds_toArray, List.set_cons_succ, List.set_cons_zero]; rfl)
            rintro v0 ⟨gz, rfl⟩
            iterate 2 (apply Y.ordX_det rfl rfl; (intro w' hw'; unfold opR; go_simp; exact ⟨Ext.refl _, rfl⟩); (simp only [List.getElem_toArray, List.getElem_cons_succ, List.getElem_cons_zero, Act.put, List.setIfInBounds_toArray, List.set_cons_succ, List.set_cons_zero]; rfl))
            apply Y.ordX_det rfl rfl
            · intro w' hw'
              unfold opR
              go_simp
              first | exact ⟨Ext.refl _, rfl⟩ | exact ⟨Ext.refl _, ESkl.out⟩ | exact ⟨Ext.refl _, EDkl.out⟩
            · (simp only [List.getElem_toArray, List.getElem_cons_succ, List.getElem_cons_zero, Act.put, List.setIfInBounds_toArray, List.set_cons_succ, List.set_cons_zero]; rfl)
            iterate 3 (apply Y.ordX_det rfl rfl; (intro w' hw'; unfold opR; go_simp; exact ⟨Ext.refl _, rfl⟩); (simp only [List.getElem_toArray, List.getElem_cons_succ, List.getElem_cons_zero, Act.put, List.setIfInBounds_toArray, List.set_cons_succ, List.set_cons_zero]; rfl))
            apply Y.ordX_det rfl rfl
            · intro w' hw'
              unfold opR
              go_simp
              first | exact ⟨Ext.refl _, rfl⟩ | exact ⟨Ext.refl _, ESkl.out⟩ | exact ⟨Ext.refl _, EDkl.out⟩
            · (simp only [List.getElem_toArray, List.getElem_cons_succ, List.getElem_cons_zero, Act.put, List.setIfInBounds_toArray, List.set_cons_succ, List.set_cons_zero]; rfl)
            (apply Y.ordX_det rfl rfl; (intro w' hw'; unfold opR; go_simp; exact ⟨Ext.refl _, rfl⟩); (simp only [List.getElem_toArray, List.getElem_cons_succ, List.getElem_cons_zero, Act.put, List.setIfInBounds_toArray, List.set_cons_succ, List.set_cons_zero]; rfl))
            (apply Y.ordX_det rfl rfl; (intro w' hw'; unfold opR; go_simp; exact ⟨Ext.refl _, rfl⟩); (simp only [List.getElem_toArray, List.getElem_cons_succ, List.getElem_cons_zero, Act.put, List.setIfInBounds_toArray, List.set_cons_succ, List.set_cons_zero]; rfl))
            apply Y.ordX_one (fun v _ _ h k => ⟨h.1.ext k, h.2⟩) rfl rfl
            · intro w' hw' _ hN
              refine opR_app0 et_d (.tmp 93) (.tmp 96) rfl (Lit0.own (hN 0 (by simp))) rfl (ds.take k) _ (D0k.ext hw') rfl (fun _ _ => rfl) (by simp; omega) hw'.size ?_
              intro v' w4 h1 h2 h3
              refine ⟨Keeps.of_ext h2, trivial, h1, ?_⟩
              rcases Nat.eq_zero_or_pos k with h | h
              · exact .inr ⟨_, h3 (by simp [h])⟩
              · exact .inl h
            · intro v; (simp only [List.getElem_toArray, List.getElem_cons_succ, List.getElem_cons_zero, Act.put, List.setIfInBounds_toArray, List.set_cons_succ, List.set_cons_zero]; rfl)
            intro v5 _
            apply Y.ordX_one (fun v _ _ h k => h.ext k) rfl rfl
            · intro w' hw' hC hN
              refine opR_app_keep et_d (.tmp 97) (.tmp 101) rfl hC.1 ?_ rfl (ds.drop (k + 1)) _ (Dkl.ext hw') rfl (fun _ _ => rfl) (by simp [encD, Value.oneCell']) (fun _ _ => rfl) (by simp; omega) hw'.size ?_
              · exact hC.2.imp (fun h => by simp; omega) id
              · intro v' w4 h1 h2
                exact ⟨h2, trivial, h1⟩
            · intro v; (simp only [List.getElem_toArray, List.getElem_cons_succ, List.getElem_cons_zero, Act.put, List.setIfInBounds_toArray, List.set_cons_succ, List.set_cons_zero]; rfl)
            intro v10 _
            apply Y.ordX_one (fun _ _ _ _ _ => trivial) rfl rfl
            · intro w' hw' hC _
              have sl := hC.sl (fun _ _ => rfl) (by rw [del_len hk]; omega)
              refine opR_call rfl (Go.Proofs.enters_of Tryd.func16 (by kernel_rfl) rfl) (by simp only [List.map_toArray, List.map_cons, List.map_nil, Act.eval, Array.getD_eq_getD_getElem?, List.getElem?_toArray, List.getElem?_cons_succ, List.getElem?_cons_zero, Option.getD_some]; rfl) ?_
              refine (align_walk _ _ (del ds k) hs p (by rw [del_len hk]; omega) hn2 w' (G9.ext hw') sl (SH9.ext hw')).mono ?_
              rw [K1.out, K2.out]
              rintro e w4 ⟨vl', vt', rfl, _, _, x4⟩
              exact ⟨_, rfl, Keeps.of_ext x4, ⟨_, _, rfl⟩, trivial⟩
            · intro v; (simp only [List.getElem_toArray, List.getElem_cons_succ, List.getElem_cons_zero, Act.put, List.setIfInBounds_toArray, List.set_cons_succ, List.set_cons_zero]; rfl)
            rintro v12 ⟨ul, ut, rfl⟩
            apply Y.ordX_new (fun _ _ _ _ _ => trivial) rfl rfl
            · intro w' hw' _
              unfold opR
              go_simp
              first | exact ⟨Ext.refl _, _, _, rfl⟩ | exact ⟨Ext.refl _, ⟨_, _, rfl⟩, trivial⟩
            · intro v; (simp only [List.getElem_toArray, List.getElem_cons_succ, List.getElem_cons_zero, Act.put, List.setIfInBounds_toArray, List.set_cons_succ, List.set_cons_zero]; rfl)
            rintro v13 ⟨ul2, ut2, rfl⟩
            apply Y.ordX_new (fun _ _ _ _ _ => trivial) rfl rfl
            · intro w' hw' _
              unfold opR
              go_simp
              first | exact Ext.refl _ | exact ⟨Ext.refl _, trivial, trivial⟩
            · intro v; (simp only [List.getElem_toArray, List.getElem_cons_succ, List.getElem_cons_zero, Act.put, List.setIfInBounds_toArray, List.set_cons_succ, List.set_cons_zero]; rfl)
            intro v14 _
            (apply Y.ordX_det rfl rfl; (intro w' hw'; unfold opR; go_simp; exact ⟨Ext.refl _, rfl⟩); (simp only [List.getElem_toArray, List.getElem_cons_succ, List.getElem_cons_zero, Act.put, List.setIfInBounds_toArray, List.set_cons_succ, List.set_cons_zero]; rfl))
            apply Y.ordX_new (fun _ _ _ _ _ => trivial) rfl rfl
            · intro w' hw' _
              unfold opR
              go_simp
              first | exact Ext.refl _ | exact ⟨Ext.refl _, trivial, trivial⟩
            · intro v; (simp only [List.getElem_toArray, List.getElem_cons_succ, List.getElem_cons_zero, Act.put, List.setIfInBounds_toArray, List.set_cons_succ, List.set_cons_zero]; rfl)
            intro v16 _
            (apply Y.ordX_det rfl rfl; (intro w' hw'; unfold opR; go_simp; exact ⟨Ext.refl _, rfl⟩); (simp only [List.getElem_toArray, List.getElem_cons_succ, List.getElem_cons_zero, Act.put, List.setIfInBounds_toArray, List.set_cons_succ, List.set_cons_zero]; rfl))
            apply Y.ordX_new (fun _ _ _ _ _ => trivial) rfl rfl
            · intro w' hw' _
              unfold opR
              go_simp
              first | exact Ext.refl _ | exact ⟨Ext.refl _, trivial, trivial⟩
            · intro v; (simp only [List.getElem_toArray, List.getElem_cons_succ, List.getElem_cons_zero, Act.put, List.setIfInBounds_toArray, List.set_cons_succ, List.set_cons_zero]; rfl)
            intro v18 _
            (apply Y.ordX_det rfl rfl; (intro w' hw'; unfold opR; go_simp; exact ⟨Ext.refl _, rfl⟩); (simp only [List.getElem_toArray, List.getElem_cons_succ, List.getElem_cons_zero, Act.put, List.setIfInBounds_toArray, List.set_cons_succ, List.set_cons_zero]; rfl))
            apply Y.ordX_new (fun _ _ _ _ _ => trivial) rfl rfl
            · intro w' hw' _
              unfold opR
              go_simp
              first | exact Ext.refl _ | exact ⟨Ext.refl _, trivial, trivial⟩
            · intro v; (simp only [List.getElem_toArray, List.getElem_cons_succ, List.getElem_cons_zero, Act.put, List.setIfInBounds_toArray, List.set_cons_succ, List.set_cons_zero]; rfl)
            intro v20 _
            (apply Y.ordX_det rfl rfl; (intro w' hw'; unfold opR; go_simp; exact ⟨Ext.refl _, rfl⟩); (simp only [List.getElem_toArray, List.getElem_cons_succ, List.getElem_cons_zero, Act.put, List.setIfInBounds_toArray, List.set_cons_succ, List.set_cons_zero]; rfl))
            refine Y.ordX_nil rfl ?_
            rintro w11 hw11 - -
            have X11 := X9.trans hw11
            have B11 := Lib.hid (block_ext hw11 B9.out)
            have e0' := block_cell B11.out 0 (.int .i64 p.skip) rfl
            have r1 : c ≤ d + p.skip := hup
            have r2 : d - p.skip ≤ c := by omega
            have r1' : decide (c ≤ d + p.skip) = true := decide_eq_true r1
            have r2' : decide (d - p.skip ≤ c) = true := decide_eq_true r2
            go_wp2
            go_ret
            exact ⟨rfl, X11⟩
        · have q3 : ¬ (0 : Int) < (ds.length : Int) := by omega
          go_wp2
          go_ret
          exact ⟨rfl, X9⟩
    · have q3 : ¬ (0 : Int) < (hs.length : Int) := by omega
      by_cases hd0 : 0 < ds.length
      · have hk : an % ds.length < ds.length := Nat.mod_lt _ hd0
        have emod : (an : Int) % (ds.length : Int) = ((an % ds.length : Nat) : Int) := rfl
        obtain ⟨k, hkk⟩ : ∃ k, an % ds.length = k := ⟨_, rfl⟩
        rw [hkk] at hk emod
        have hne0 : ¬ (ds.length : Int) = 0 := by omega
        have hup := delD_up HOK.out hk
        have hdn' := delD_dn HOK.out hk
        have hdok := delD_ok (k := k) HOK.out
        have hsm2 := tab_small (alOk_iff.1 hdok) (Nat.zero_le _) (Nat.zero_le _)
        have k1 : alCr (del ds k) hs p = tab (del ds k) hs p 0 0 := by rw [alCr, hdok]; rfl
        have k2 : alEr (del ds k) hs p = 0 := by rw [alEr, hdok]; rfl
        obtain ⟨d, hd⟩ : ∃ d, tab (del ds k) hs p 0 0 = d := ⟨_, rfl⟩
        rw [HCC.out] at hup hdn'
        rw [hd] at hup hdn' hsm2 k1
        obtain ⟨m3, m4⟩ := hsm2
        have K1 := Lib.hid k1; have K2 := Lib.hid k2
        have hgt : (0 : Int) < (ds.length : Int) := by omega
        clear hkk hdok hd k1 k2
        go_wp2
        try rw [emod]
        have b2 := B2.out
        have g0 := ext_cells (block_cell b2 0 (.int .i64 p.skip) rfl)
        have g1 := ext_cells (block_cell b2 1 (.int .i64 p.off) rfl)
        have D0k := SD2.cut (by omega) 0 k (Nat.zero_le _) (by omega)
        have Dkl := SD2.cut (by omega) (k + 1) ds.length (by omega) (Nat.le_refl _)
        rw [List.drop_zero] at D0k
        rw [List.take_length] at Dkl
        obtain ⟨vDkl, eDkl⟩ : ∃ v, sliced ad (k + 1) ds.length cd 7 = v := ⟨_, rfl⟩
        rw [eDkl] at Dkl
        have EDkl := Lib.hid eDkl
        clear eDkl
        have i1 : (0 : Int) ≤ (k : Int) := by omega
        have i2 : (k : Int) ≤ (cd : Int) := by have := CD1.out; omega
        have i3 : (k : Int) + 1 ≤ (ds.length : Int) := by omega
        have i4 : (0 : Int) ≤ (k : Int) + 1 := by omega
        have i5 : IntKind.i64.wrap ((k : Int) + 1) = (k : Int) + 1 := IntWalk.i64_in _ (by omega)
        have i6 : ((k : Int) + 1).toNat = k + 1 := by omega
        apply Y.wp_region_ordY [(0, .new Zero (Lit0 w2.heap.size 48) _ zero0), (1, .det _), (2, .det _), (3, .det (sliced ad 0 k cd 7)), (5, .det _), (6, .det _), (7, .det _), (8, .det vDkl), (10, .det _), (11, .det _),
          (4, .one (fun _ => True) (fun v w' => OwnR w' w2.heap.size 48 7 encD v (ds.take k) ∧ (0 < k ∨ Zero v)) undef trivial [0]), (9, .one (fun _ => True) (fun v w' => OwnR w' w2.heap.size 48 7 encD v (del ds k)) undef trivial),
          (12, .one (fun v => ∃ vl vt, v = .tuple #[vl, .int .i64 d, vt, .int .i64 0]) (fun _ _ => True) (.tuple #[undef, .int .i64 d, undef, .int .i64 0]) ⟨_, _, rfl⟩), (13, .new (fun v => ∃ vl vt, v = .tuple #[vl, .int .i64 d, vt, .int .i64 0]) (fun _ _ => True) (.tuple #[undef, .int .i64 d, undef, .int .i64 0]) ⟨_, _, rfl⟩), (14, .new (fun _ => True) (fun _ _ => True) undef trivial), (15, .det (.int .i64 d)), (16, .new (fun _ => True) (fun _ _ => True) undef trivial), (17, .det (.int .i64 0)), (18, .new (fun _ => True) (fun _ _ => True) undef trivial), (19, .det (.int .i64 d)), (20, .new (fun _ => True) (fun _ _ => True) undef trivial), (21, .det (.int .i64 0))]
          22 Ext (Keeps w2.heap.size 7) (Ext w2) (fun _ => True) wide
          [(0,true),(1,true),(2,true),(3,true),(5,true),(6,true),(7,true),(8,true),(10,true),(11,true),(4,false),(9,false),(12,false),(13,true),(14,true),(15,true),(16,true),(17,true),(18,true),(19,true),(20,true),(21,true)]
          [(0,[]),(1,[]),(2,[]),(3,[]),(5,[]),(6,[]),(7,[]),(8,[]),(10,[]),(11,[]),(4,[0]),(9,[]),(12,[]),(13,[]),(14,[]),(15,[]),(16,[]),(17,[]),(18,[]),(19,[]),(20,[]),(21,[])] (by kernel_rfl) (by kernel_rfl) rfl rfl (by simp [Y.Kd.new, Y.Kd.det, Y.Kd.one, Y.kdOf]) (by decide) (fun _ _ h => Keeps.of_ext h) (keeps_cd _ _) stable_true (Ext.drawn _ _) trivial ?main3
        case main3 =>
          apply Y.ordX_new (fun v => Lit0.stableK _ _ _ _) rfl rfl
          · intro w' hw' _
            unfold opR
            go_simp
            exact ⟨Ext.alloc' _ _, ⟨_, rfl⟩, Lit0.new w' hw'.size _⟩
          · intro v; (simp only [List.getElem_toArray, List.getElem_cons_succ, List.getElem_cons_zero, Act.put, List.setIfInBounds_toArray, List.set_cons_succ, List.set_cons_zero]; rfl)
          rintro v0 ⟨gz, rfl⟩
          iterate 2 (apply Y.ordX_det rfl rfl; (intro w' hw'; unfold opR; go_simp; exact ⟨Ext.refl _, rfl⟩); (simp only [List.getElem_toArray, List.getElem_cons_succ, List.getElem_cons_zero, Act.put, List.setIfInBounds_toArray, List.set_cons_succ, List.set_cons_zero]; rfl))
          apply Y.ordX_det rfl rfl
          · intro w' hw'
            unfold opR
            go_simp
            first | exact ⟨Ext.refl _, rfl⟩ | exact ⟨Ext.refl _, ESkl.out⟩ | exact ⟨Ext.refl _, EDkl.out⟩
          · (simp only [List.getElem_toArray, List.getElem_cons_succ, List.getElem_cons_zero, Act.put, List.setIfInBounds_toArray, List.set_cons_succ, List.set_cons_zero]; rfl)
          iterate 3 (apply Y.ordX_det rfl rfl; (intro w' hw'; unfold opR; go_simp; exact ⟨Ext.refl _, rfl⟩); (simp only [List.getElem_toArray, List.getElem_cons_succ, List.getElem_cons_zero, Act.put, List.setIfInBounds_toArray, List.set_cons_succ, List.set_cons_zero]; rfl))
          apply Y.ordX_det rfl rfl
          · intro w' hw'
            unfold opR
            go_simp
            first | exact ⟨Ext.refl _, rfl⟩ | exact ⟨Ext.refl _, ESkl.out⟩ | exact ⟨Ext.refl _, EDkl.out⟩
          · (simp only [List.getElem_toArray, List.getElem_cons_succ, List.getElem_cons_zero, Act.put, List.setIfInBounds_toArray, List.set_cons_succ, List.set_cons_zero]; rfl)
          (apply Y.ordX_det rfl rfl; (intro w' hw'; unfold opR; go_simp; exact ⟨Ext.refl _, rfl⟩); (simp only [List.getElem_toArray, List.getElem_cons_succ, List.getElem_cons_zero, Act.put, List.setIfInBounds_toArray, List.set_cons_succ, List.set_cons_zero]; rfl))
          (apply Y.ordX_det rfl rfl; (intro w' hw'; unfold opR; go_simp; exact ⟨Ext.refl _, rfl⟩); (simp only [List.getElem_toArray, List.getElem_cons_succ, List.getElem_cons_zero, Act.put, List.setIfInBounds_toArray, List.set_cons_succ, List.set_cons_zero]; rfl))
          apply Y.ordX_one (fun v _ _ h k => ⟨h.1.ext k, h.2⟩) rfl rfl
          · intro w' hw' _ hN
            refine opR_app0 et_d (.tmp 93) (.tmp 96) rfl (Lit0.own (hN 0 (by simp))) rfl (ds.take k) _ (D0k.ext hw') rfl (fun _ _ => rfl) (by simp; omega) hw'.size ?_
            intro v' w4 h1 h2 h3
            refine ⟨Keeps.of_ext h2, trivial, h1, ?_⟩
            rcases Nat.eq_zero_or_pos k with h | h
            · exact .inr ⟨_, h3 (by simp [h])⟩
            · exact .inl h
          · intro v; (simp only [List.getElem_toArray, List.getElem_cons_succ, List.getElem_cons_zero, Act.put, List.setIfInBounds_toArray, List.set_cons_succ, List.set_cons_zero]; rfl)
          intro v5 _
          apply Y.ordX_one (fun v _ _ h k => h.ext k) rfl rfl
          · intro w' hw' hC hN
            refine opR_app_keep et_d (.tmp 97) (.tmp 101) rfl hC.1 ?_ rfl (ds.drop (k + 1)) _ (Dkl.ext hw') rfl (fun _ _ => rfl) (by simp [encD, Value.oneCell']) (fun _ _ => rfl) (by simp; omega) hw'.size ?_
            · exact hC.2.imp (fun h => by simp; omega) id
            · intro v' w4 h1 h2
              exact ⟨h2, trivial, h1⟩
          · intro v; (simp only [List.getElem_toArray, List.getElem_cons_succ, List.getElem_cons_zero, Act.put, List.setIfInBounds_toArray, List.set_cons_succ, List.set_cons_zero]; rfl)
          intro v10 _
          apply Y.ordX_one (fun _ _ _ _ _ => trivial) rfl rfl
          · intro w' hw' hC _
            have sl := hC.sl (fun _ _ => rfl) (by rw [del_len hk]; omega)
            refine opR_call rfl (Go.Proofs.enters_of Tryd.func16 (by kernel_rfl) rfl) (by simp only [List.map_toArray, List.map_cons, List.map_nil, Act.eval, Array.getD_eq_getD_getElem?, List.getElem?_toArray, List.getElem?_cons_succ, List.getElem?_cons_zero, Option.getD_some]; rfl) ?_
            refine (align_walk _ _ (del ds k) hs p (by rw [del_len hk]; omega) hn2 w' (G2.ext hw') sl (SH2.ext hw')).mono ?_
            rw [K1.out, K2.out]
            rintro e w4 ⟨vl', vt', rfl, _, _, x4⟩
            exact ⟨_, rfl, Keeps.of_ext x4, ⟨_, _, rfl⟩, trivial⟩
          · intro v; (simp only [List.getElem_toArray, List.getElem_cons_succ, List.getElem_cons_zero, Act.put, List.setIfInBounds_toArray, List.set_cons_succ, List.set_cons_zero]; rfl)
          rintro v12 ⟨ul, ut, rfl⟩
          apply Y.ordX_new (fun _ _ _ _ _ => trivial) rfl rfl
          · intro w' hw' _
            unfold opR
            go_simp
            first | exact ⟨Ext.refl _, _, _, rfl⟩ | exact ⟨Ext.refl _, ⟨_, _, rfl⟩, trivial⟩
          · intro v; (simp only [List.getElem_toArray, List.getElem_cons_succ, List.getElem_cons_zero, Act.put, List.setIfInBounds_toArray, List.set_cons_succ, List.set_cons_zero]; rfl)
          rintro v13 ⟨ul2, ut2, rfl⟩
          apply Y.ordX_new (fun _ _ _ _ _ => trivial) rfl rfl
          · intro w' hw' _
            unfold opR
            go_simp
            first | exact Ext.refl _ | exact ⟨Ext.refl _, trivial, trivial⟩
          · intro v; (simp only [List.getElem_toArray, List.getElem_cons_succ, List.getElem_cons_zero, Act.put, List.setIfInBounds_toArray, List.set_cons_succ, List.set_cons_zero]; rfl)
          intro v14 _
          (apply Y.ordX_det rfl rfl; (intro w' hw'; unfold opR; go_simp; exact ⟨Ext.refl _, rfl⟩); (simp only [List.getElem_toArray, List.getElem_cons_succ, List.getElem_cons_zero, Act.put, List.setIfInBounds_toArray, List.set_cons_succ, List.set_cons_zero]; rfl))
          apply Y.ordX_new (fun _ _ _ _ _ => trivial) rfl rfl
          · intro w' hw' _
            unfold opR
            go_simp
            first | exact Ext.refl _ | exact ⟨Ext.refl _, trivial, trivial⟩
          · intro v; (simp only [List.getElem_toArray, List.getElem_cons_succ, List.getElem_cons_zero, Act.put, List.setIfInBounds_toArray, List.set_cons_succ, List.set_cons_zero]; rfl)
          intro v16 _
          (apply Y.ordX_det rfl rfl; (intro w' hw'; unfold opR; go_simp; exact ⟨Ext.refl _, rfl⟩); (simp only [List.getElem_toArray, List.getElem_cons_succ, List.getElem_cons_zero, Act.put, List.setIfInBounds_toArray, List.set_cons_succ, List.set_cons_zero]; rfl))
          apply Y.ordX_new (fun _ _ _ _ _ => trivial) rfl rfl
          · intro w' hw' _
            unfold opR
            go_simp
            first | exact Ext.refl _ | exact ⟨Ext.refl _, trivial, trivial⟩
          · intro v; (simp only [List.getElem_toArray, List.getElem_cons_succ, List.getElem_cons_zero, Act.put, List.setIfInBounds_toArray, List.set_cons_succ, List.set_cons_zero]; rfl)
          intro v18 _
          (apply Y.ordX_det rfl rfl; (intro w' hw'; unfold opR; go_simp; exact ⟨Ext.refl _, rfl⟩); (simp only [List.getElem_toArray, List.getElem_cons_succ, List.getElem_cons_zero, Act.put, List.setIfInBounds_toArray, List.set_cons_succ, List.set_cons_zero]; rfl))
          apply Y.ordX_new (fun _ _ _ _ _ => trivial) rfl rfl
          · intro w' hw' _
            unfold opR
            go_simp
            first | exact Ext.refl _ | exact ⟨Ext.refl _, trivial, trivial⟩
          · intro v; (simp only [List.getElem_toArray, List.getElem_cons_succ, List.getElem_cons_zero, Act.put, List.setIfInBounds_toArray, List.set_cons_succ, List.set_cons_zero]; rfl)
          intro v20 _
          (apply Y.ordX_det rfl rfl; (intro w' hw'; unfold opR; go_simp; exact ⟨Ext.refl _, rfl⟩); (simp only [List.getElem_toArray, List.getElem_cons_succ, List.getElem_cons_zero, Act.put, List.setIfInBounds_toArray, List.set_cons_succ, List.set_cons_zero]; rfl))
          refine Y.ordX_nil rfl ?_
          rintro w9 hw9 - -
          have X9 := X2.trans hw9
          have B9 := Lib.hid (block_ext hw9 B2.out)
          have e0 := block_cell B9.out 0 (.int .i64 p.skip) rfl
          have r1 : c ≤ d + p.skip := hup
          have r2 : d - p.skip ≤ c := by omega
          have r1' : decide (c ≤ d + p.skip) = true := decide_eq_true r1
          have r2' : decide (d - p.skip ≤ c) = true := decide_eq_true r2
          go_wp2
          go_ret
          exact ⟨rfl, X9⟩
      · have q4 : ¬ (0 : Int) < (ds.length : Int) := by omega
        go_wp2
        go_ret
        exact ⟨rfl, X2⟩

theorem alignMore_args (H : Type) (enc : TypeId × Value → H) (W : World) (base : Nat) (vs : List Value) (ds : List (DataW H)) (_ : ∀ k, (OpenSpec.ofChange Rows.alignMoreSpec).cond = some k → k H ds = true) (hL : laidMetH Tryd.prog Rows.alignMoreRow.laid W) (hA : Args enc Tryd.prog W base Tryd.f8.params.toList vs ds) :
    Calls Tryd.prog 8 vs.toArray W fun e W' => e = .returned (.bool true) ∧ Ext W W' := by
  rw [Tryd.params8] at hA
  obtain ⟨v0, _, d0, _, rfl, rfl, h0, hA⟩ := hA.cons
  obtain ⟨v1, _, d1, _, rfl, rfl, h1, hA⟩ := hA.cons
  obtain ⟨v2, _, d2, _, rfl, rfl, h2, hA⟩ := hA.cons
  obtain ⟨v3, _, d3, _, rfl, rfl, h3, hA⟩ := hA.cons
  obtain ⟨rfl, rfl⟩ := hA.nil
  obtain ⟨l0, S0, n0⟩ := arg_dues h0
  obtain ⟨l1, S1, n1⟩ := arg_heard h1
  obtain ⟨p, rfl, _⟩ := arg_price h2
  obtain ⟨n, rfl, s0, s1⟩ := h3.int Tryd.underlying5
  have q1 : (0 : Int) ≤ n := s0
  have q2 : n ≤ 255 := s1
  obtain ⟨k, hk⟩ : ∃ k : Nat, n = (k : Int) := ⟨n.toNat, by omega⟩
  subst hk
  exact more_walk _ _ l0 l1 p k (by omega) n0 n1 W (gv_of hL) S0 S1

theorem alignMore_met (os : Os) : laidMet Tryd.prog Rows.alignMoreRow.laid ((laidWorld os).forCall (fun _ _ => 0) ⟨#[], #[.slice none 0 0, .slice none 0 0, .agg #[.int .i64 0, .int .i64 0], .int .u8 0], []⟩).memory := laidMet_of_run' 8 (by kernel_rfl) (by kernel_rfl)
theorem alignMore_reads (os : Os) {H : Type} (enc : TypeId × Value → H) : ∃ places, DataW.whole enc Tryd.prog ((laidWorld os).forCall (fun _ _ => 0) ⟨#[], #[.slice none 0 0, .slice none 0 0, .agg #[.int .i64 0, .int .i64 0], .int .u8 0], []⟩).memory Tryd.f8.params.toList Rows.alignMoreSpec.vars false #[.slice none 0 0, .slice none 0 0, .agg #[.int .i64 0, .int .i64 0], .int .u8 0].toList 8 = some ([.nil, .nil, .agg [.lit (.int .i64 0), .lit (.int .i64 0)], .lit (.int .u8 0)], [], places) := ⟨[], by kernel_rfl⟩
set_option maxRecDepth 100000 in
theorem alignMore_lifted (os : Os) (started : os.Started) (H : Type) (enc : TypeId × Value → H) (F : Stop.Interp) :
    ReturnsInHanded {} Tryd.checked os 8 .any ((OpenSpec.ofChange Rows.alignMoreSpec).preRow enc Tryd.prog Tryd.f8 Rows.alignMoreRow.domain false Rows.alignMoreRow.laid) (((OpenSpec.ofChange Rows.alignMoreSpec).at F).post enc Tryd.prog Tryd.f8 false true false false) := by
  obtain ⟨places, hx⟩ := alignMore_reads os enc
  exact law_row (C := Tryd.checked) (s := (OpenSpec.ofChange Rows.alignMoreSpec)) (by kernel_rfl) started (by kernel_rfl) Tryd.func8
    (witness_row_at (enc := enc) (C := Tryd.checked) false (laidWorld os) #[.slice none 0 0, .slice none 0 0, .agg #[.int .i64 0, .int .i64 0], .int .u8 0] rfl (by kernel_rfl) (by kernel_rfl) (by kernel_rfl) (OpenSpec.preRow_of_cond 8 hx (by kernel_rfl) (fun k hk => by cases hk) (by kernel_rfl) (alignMore_met os)))
    (by kernel_rfl) (by kernel_rfl) (by kernel_rfl) rfl (fun ds h => by match ds, h with | [_, _, _, _], _ => rfl) (alignMore_args H enc)
theorem alignMore_said : Rows.AlignMoreSaid :=
  OpenClaim.holds_of_cond 8 Tryd.f8 rfl rfl rfl rfl rfl rfl rfl ⟨rfl, rfl, rfl, rfl, rfl⟩ rfl rfl rfl rfl rfl (by kernel_rfl) Tryd.func8 (by kernel_rfl)
    (of_decide_eq_true (by kernel_rfl)) (by unfold Func.isWrapper; first | (rw [if_pos (by decide +kernel)]; kernel_rfl) | (rw [if_neg (by decide +kernel)]; exact ⟨rfl, rfl⟩))
    (fun os started H enc _ F => by rw [OpenClaim.pre_eq_preRow]; exact alignMore_lifted os started H enc F)
theorem alignMore_plain (f : FuncId) (fn : Func) (hf : Tryd.pinned.checked.prog.funcNamed "schisma/schismalaw38.AlignMore" = some f) (hfn : Tryd.pinned.checked.prog.funcs[f]? = some fn) :
    false = Tryd.pinned.checked.prog.looks [] ∧ ∀ (j : Nat) t, fn.params[j]? = some t → Tryd.pinned.checked.prog.wantsStandIn t = false := by
  obtain rfl : f = 8 := Option.some.inj ((show Tryd.prog.funcNamed "schisma/schismalaw38.AlignMore" = some 8 by kernel_rfl).symm.trans hf) |>.symm
  obtain rfl : fn = Tryd.f8 := (Option.some.inj (Tryd.func8.symm.trans hfn)).symm
  refine ⟨by kernel_rfl, fun j t ht => ?_⟩
  have hall : Tryd.f8.params.all (fun t => !Tryd.prog.wantsStandIn t) = true := by kernel_rfl
  have := (Array.all_eq_true'.1 hall) t (Array.mem_of_getElem? ht)
  have e : Tryd.prog.wantsStandIn t = false := by simpa using this
  exact e
/-- The card. -/
theorem alignMore_holds : Rows.AlignMoreCardSaid :=
  Claim7.holds_tied_plain_at .later [] _ _ _ _ alignMore_said (fun _ h => by cases h) (by kernel_rfl) (fun _ h => by cases h) alignMore_row_tie rfl ⟨rfl, rfl⟩ (by kernel_rfl) rfl alignMore_plain (by kernel_rfl)
end Go.Proofs.YthomegempfedaaaDoor
