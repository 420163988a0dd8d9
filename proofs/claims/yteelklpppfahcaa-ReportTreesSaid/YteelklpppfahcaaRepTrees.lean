/-
  Proved: 'ReportTrees' returns true for every input and leaves its arguments as they were. No condition.
-/
import Derived.Test.YteelklpppfahcaaRepS
import Derived.Test.YteelklpppfahcaaAp
import Derived.Test.YteelklpppfahcaaShut
set_option linter.unusedVariables false
namespace Go.Proofs.Yteelklpppfahcaa
open Go.RowKit Go.Sx Go.Sx.Rep Go.ChangeShapes Go.WideShapes Go.ChangeAt

set_option maxRecDepth 100000 in
theorem and_split : ∀ n : Nat, n < 1025 → 1 ≤ n → bits .and .i64 (n : Int) ((n : Int) - 1) = 0 → split (n + 1) = n := by decide +kernel
theorem root_more (xs : List Int) (m : Int) (h1 : 1 ≤ xs.length) (h : split (xs.length + 1) = xs.length) : root (xs ++ [m]) = node (root xs) m := by
  rw [root_split _ (by simp; omega)]
  rw [List.length_append, List.length_singleton, h]
  simp
  rfl

set_option maxRecDepth 100000 in
set_option maxHeartbeats 8000000 in
theorem trees_walk (v : Value) (xs : List Int) (more : Int) (w : World) (S : Sl w 1 encU v xs) (hb : xs.length * 8 ≤ 140737488351232) :
    Calls Try.prog 8 #[v, .int .u64 more] w fun e w' => e = .returned (.bool true) ∧ Ext w w' := by
  obtain ⟨a?, cap, rfl, h1, h2, h3⟩ := S.len
  by_cases hr : rootErr xs = 0
  · obtain ⟨z1, z2⟩ := rootErr_zero.1 hr
    have hrv := Lib.hid (show rootV xs = root xs by unfold rootV; rw [if_pos hr])
    have HR := Lib.hid hr
    obtain ⟨b0, o0, rfl, hc⟩ := S.at1 0 z1
    have hlen : (xs ++ [more]).length = xs.length + 1 := by simp
    obtain ⟨ne, hne⟩ : ∃ y, rootErr (xs ++ [more]) = y := ⟨_, rfl⟩
    obtain ⟨nv, hnv⟩ : ∃ y, rootV (xs ++ [more]) = y := ⟨_, rfl⟩
    have hme : ne = if 1024 < xs.length + 1 then 2 else 0 := by
      rw [← hne]; unfold rootErr; rw [hlen, if_neg (by omega)]
    have hmv : xs.length < 1024 → bits .and .i64 (xs.length : Int) ((xs.length : Int) - 1) = 0 → nv = node (root xs) more := by
      intro h4 h5
      rw [← hnv]
      unfold rootV
      have h0 : ne = 0 := by rw [hme, if_neg (by omega)]
      rw [hne, if_pos h0]
      exact root_more xs more z1 (and_split _ (by omega) z1 h5)
    have NE := Lib.hid hne; have NV := Lib.hid hnv; have HMV := Lib.hid hmv; have HME := Lib.hid hme
    clear hne hnv hmv hme hr hc hlen
    by_cases hn1 : 1 < xs.length
    · have hk1 := split_pos xs.length
      have hk2 := split_lt hn1
      have RS := Lib.hid (fun w => rsplit_walk xs.length w hn1 h3)
      have hsp := root_split xs hn1
      obtain ⟨k, hk⟩ : ∃ k, split xs.length = k := ⟨_, rfl⟩
      rw [hk] at hk1 hk2 hsp
      simp only [hk] at RS
      clear hk
      unfold maxLen at h2
      have hkc : k ≤ cap := by omega
      have hkl : k ≤ xs.length := by omega
      have hcne : ¬ cap = k := by omega
      have S1 := Sl_first S k hkl
      have S2 := Sl_rest S k hkl
      have le1 := Lib.hid (show rootErr (xs.take k) = 0 by rw [rootErr_zero]; simp; omega)
      have le2 := Lib.hid (show rootErr (xs.drop k) = 0 by rw [rootErr_zero]; simp; omega)
      have lv1 := Lib.hid (show rootV (xs.take k) = root (xs.take k) by unfold rootV; rw [if_pos le1.out])
      have lv2 := Lib.hid (show rootV (xs.drop k) = root (xs.drop k) by unfold rootV; rw [if_pos le2.out])
      obtain ⟨lf, hlf⟩ : ∃ y, root (xs.take k) = y := ⟨_, rfl⟩
      obtain ⟨rg, hrg⟩ : ∃ y, root (xs.drop k) = y := ⟨_, rfl⟩
      rw [hlf] at lv1 hsp
      rw [hrg] at lv2 hsp
      have HSP := Lib.hid hsp
      have hq : (root xs == node lf rg) = true := beq_iff_eq.2 hsp
      obtain ⟨nn, hnn⟩ : ∃ y, node lf rg = y := ⟨_, rfl⟩
      rw [hnn] at hq
      have HNN := Lib.hid hnn
      clear hlf hrg hsp hnn
      obtain ⟨tp, htp⟩ : ∃ y, root xs = y := ⟨_, rfl⟩
      rw [htp] at hq hrv HMV
      clear htp HSP
      go_enter Try.func8, Try.ntmps8
      go_wp2_with fail
      refine (head_walk _).mono ?_
      rintro e w1 ⟨rfl, x1⟩
      go_wp2_with fail
      refine (root_walk _ xs _ (S.ext x1)).mono ?_
      rw [HR.out, hrv.out]
      rintro e w2 ⟨rfl, x2⟩
      have X2 := x1.trans x2
      go_wp2_with fail
      refine (RS.out _).mono ?_
      rintro e w3 ⟨rfl, rfl⟩
      go_wp2_with fail
      refine (root_walk _ (xs.take k) _ (S1.ext X2)).mono ?_
      rw [le1.out, lv1.out]
      rintro e w3 ⟨rfl, x3⟩
      have X3 := X2.trans x3
      go_wp2_with fail
      refine (root_walk _ (xs.drop k) _ (S2.ext X3)).mono ?_
      rw [le2.out, lv2.out]
      rintro e w4 ⟨rfl, x4⟩
      have X4 := X3.trans x4
      go_wp2_with fail
      refine (node_walk lf rg _).mono ?_
      rw [HNN.out]
      rintro e w5 ⟨rfl, x5⟩
      have X5 := X4.trans x5
      clear x1 x2 S1 S2
      have S5 := S.ext X5
      have o0 := own_lit (enc := encU) (B := w5.heap.size) (e := 24) (sz := 1) w5 #[] [] 0 rfl (Nat.le_refl _) rfl rfl (by simp)
      have S6 := S5.ext (Ext.alloc' w5 (.cells #[] 24))
      by_cases h4 : xs.length = 1024
      · have hn2 : ne = 2 := by rw [HME.out, if_pos (by omega)]
        subst hn2
        have hge : (1024 : Int) ≤ xs.length := by omega
        clear h4
        go_wp2_with (first
          | (at_builtin; first
            | (refine wpList_own_sl et_u64 rfl _ _ rfl o0 rfl xs _ S6 rfl (fun _ _ => rfl) (fun _ _ => by simp [encU, Value.oneCell']) (by simp; omega) (by simp) ?_; intro va wa oa ba aa; rw [List.nil_append] at oa; have hsa := ba.size; simp only [World.size_alloc] at hsa; clear o0 S6)
            | (refine wpList_own1 et_u64 rfl _ _ rfl oa rfl more rfl rfl rfl (by simp [encU, Value.oneCell']) (by omega) (by omega) ?_; intro vb wb ob bb ab _; have X6 : Ext w wb := X5.trans (Below.trans (Below.trans (Ext.alloc' w5 _) ba) bb); have s6 := ob.sl (fun _ _ => rfl) (by simp; omega); clear oa ob)
            | fail)
          | (go_at_call 13; go_must (refine (root_walk _ (xs ++ [more]) _ s6).mono ?_); rw [NE.out, NV.out]; rintro e w7 ⟨rfl, x7⟩; have X7 := X6.trans x7; clear s6 S S5)
          | fail)
        go_ret
        exact ⟨rfl, X7⟩
      · have hn0 : ne = 0 := by rw [HME.out, if_neg (by omega)]
        subst hn0
        have hge : ¬ (1024 : Int) ≤ xs.length := by omega
        obtain ⟨bt, hbt⟩ : ∃ y, bits .and .i64 (xs.length : Int) ((xs.length : Int) - 1) = y := ⟨_, rfl⟩
        by_cases hb0 : bt = 0
        · subst hb0
          have hv := HMV.out (by omega) hbt
          have HNV := Lib.hid hv.symm
          have hvv : (nv == nv) = true := beq_self_eq_true nv
          clear h4 hv
          go_wp2_with (first
            | (at_builtin; first
              | (refine wpList_own_sl et_u64 rfl _ _ rfl o0 rfl xs _ S6 rfl (fun _ _ => rfl) (fun _ _ => by simp [encU, Value.oneCell']) (by simp; omega) (by simp) ?_; intro va wa oa ba aa; rw [List.nil_append] at oa; have hsa := ba.size; simp only [World.size_alloc] at hsa; clear o0 S6)
              | (refine wpList_own1 et_u64 rfl _ _ rfl oa rfl more rfl rfl rfl (by simp [encU, Value.oneCell']) (by omega) (by omega) ?_; intro vb wb ob bb ab _; have X6 : Ext w wb := X5.trans (Below.trans (Below.trans (Ext.alloc' w5 _) ba) bb); have s6 := ob.sl (fun _ _ => rfl) (by simp; omega); clear oa ob)
              | fail)
            | (go_at_call 13; go_must (refine (root_walk _ (xs ++ [more]) _ s6).mono ?_); rw [NE.out, NV.out]; rintro e w7 ⟨rfl, x7⟩; have X7 := X6.trans x7; clear s6 S S5)
            | (go_at_call 22; go_must (refine (node_walk tp more _).mono ?_); rw [HNV.out]; rintro e w8 ⟨rfl, x8⟩; have X8 := X7.trans x8)
            | fail)
          go_ret
          exact ⟨rfl, X8⟩
        · have hbb : (bt == 0) = false := beq_eq_false_iff_ne.2 hb0
          clear h4 hb0
          go_wp2_with (first
            | (at_builtin; first
              | (refine wpList_own_sl et_u64 rfl _ _ rfl o0 rfl xs _ S6 rfl (fun _ _ => rfl) (fun _ _ => by simp [encU, Value.oneCell']) (by simp; omega) (by simp) ?_; intro va wa oa ba aa; rw [List.nil_append] at oa; have hsa := ba.size; simp only [World.size_alloc] at hsa; clear o0 S6)
              | (refine wpList_own1 et_u64 rfl _ _ rfl oa rfl more rfl rfl rfl (by simp [encU, Value.oneCell']) (by omega) (by omega) ?_; intro vb wb ob bb ab _; have X6 : Ext w wb := X5.trans (Below.trans (Below.trans (Ext.alloc' w5 _) ba) bb); have s6 := ob.sl (fun _ _ => rfl) (by simp; omega); clear oa ob)
              | fail)
            | (go_at_call 13; go_must (refine (root_walk _ (xs ++ [more]) _ s6).mono ?_); rw [NE.out, NV.out]; rintro e w7 ⟨rfl, x7⟩; have X7 := X6.trans x7; clear s6 S S5)
            | fail)
          go_ret
          exact ⟨rfl, X7⟩
    · have hl1 : xs.length = 1 := by omega
      obtain ⟨tp, htp⟩ : ∃ y, root xs = y := ⟨_, rfl⟩
      rw [htp] at hrv HMV
      have hn1' : ¬ (1 : Int) < xs.length := by omega
      clear htp hl1 h1 h2
      go_enter Try.func8, Try.ntmps8
      go_wp2_with fail
      refine (head_walk _).mono ?_
      rintro e w1 ⟨rfl, x1⟩
      go_wp2_with fail
      refine (root_walk _ xs _ (S.ext x1)).mono ?_
      rw [HR.out, hrv.out]
      rintro e w2 ⟨rfl, x2⟩
      obtain ⟨w5, rfl⟩ : ∃ w5, w5 = w2 := ⟨_, rfl⟩
      have X5 := x1.trans x2
      clear x1 x2
      have S5 := S.ext X5
      have o0 := own_lit (enc := encU) (B := w5.heap.size) (e := 24) (sz := 1) w5 #[] [] 0 rfl (Nat.le_refl _) rfl rfl (by simp)
      have S6 := S5.ext (Ext.alloc' w5 (.cells #[] 24))
      by_cases h4 : xs.length = 1024
      · exact absurd h4 (by omega)
      · have hn0 : ne = 0 := by rw [HME.out, if_neg (by omega)]
        subst hn0
        have hge : ¬ (1024 : Int) ≤ xs.length := by omega
        obtain ⟨bt, hbt⟩ : ∃ y, bits .and .i64 (xs.length : Int) ((xs.length : Int) - 1) = y := ⟨_, rfl⟩
        by_cases hb0 : bt = 0
        · subst hb0
          have hv := HMV.out (by omega) hbt
          have HNV := Lib.hid hv.symm
          have hvv : (nv == nv) = true := beq_self_eq_true nv
          clear h4 hv
          go_wp2_with (first
            | (at_builtin; first
              | (refine wpList_own_sl et_u64 rfl _ _ rfl o0 rfl xs _ S6 rfl (fun _ _ => rfl) (fun _ _ => by simp [encU, Value.oneCell']) (by simp; omega) (by simp) ?_; intro va wa oa ba aa; rw [List.nil_append] at oa; have hsa := ba.size; simp only [World.size_alloc] at hsa; clear o0 S6)
              | (refine wpList_own1 et_u64 rfl _ _ rfl oa rfl more rfl rfl rfl (by simp [encU, Value.oneCell']) (by omega) (by omega) ?_; intro vb wb ob bb ab _; have X6 : Ext w wb := X5.trans (Below.trans (Below.trans (Ext.alloc' w5 _) ba) bb); have s6 := ob.sl (fun _ _ => rfl) (by simp; omega); clear oa ob)
              | fail)
            | (go_at_call 13; go_must (refine (root_walk _ (xs ++ [more]) _ s6).mono ?_); rw [NE.out, NV.out]; rintro e w7 ⟨rfl, x7⟩; have X7 := X6.trans x7; clear s6 S S5)
            | (go_at_call 22; go_must (refine (node_walk tp more _).mono ?_); rw [HNV.out]; rintro e w8 ⟨rfl, x8⟩; have X8 := X7.trans x8)
            | fail)
          go_ret
          exact ⟨rfl, X8⟩
        · have hbb : (bt == 0) = false := beq_eq_false_iff_ne.2 hb0
          clear h4 hb0
          go_wp2_with (first
            | (at_builtin; first
              | (refine wpList_own_sl et_u64 rfl _ _ rfl o0 rfl xs _ S6 rfl (fun _ _ => rfl) (fun _ _ => by simp [encU, Value.oneCell']) (by simp; omega) (by simp) ?_; intro va wa oa ba aa; rw [List.nil_append] at oa; have hsa := ba.size; simp only [World.size_alloc] at hsa; clear o0 S6)
              | (refine wpList_own1 et_u64 rfl _ _ rfl oa rfl more rfl rfl rfl (by simp [encU, Value.oneCell']) (by omega) (by omega) ?_; intro vb wb ob bb ab _; have X6 : Ext w wb := X5.trans (Below.trans (Below.trans (Ext.alloc' w5 _) ba) bb); have s6 := ob.sl (fun _ _ => rfl) (by simp; omega); clear oa ob)
              | fail)
            | (go_at_call 13; go_must (refine (root_walk _ (xs ++ [more]) _ s6).mono ?_); rw [NE.out, NV.out]; rintro e w7 ⟨rfl, x7⟩; have X7 := X6.trans x7; clear s6 S S5)
            | fail)
          go_ret
          exact ⟨rfl, X7⟩
  · have hz := Lib.hid (show rootV xs = 0 by unfold rootV; rw [if_neg hr])
    by_cases h0 : xs.length = 0
    · have HR := Lib.hid (show rootErr xs = 4 by unfold rootErr; rw [if_pos h0])
      have h0' : ((xs.length : Int) == 0) = true := by rw [beq_iff_eq]; omega
      clear hr h0 h1 h2
      go_enter Try.func8, Try.ntmps8
      go_wp2_with fail
      refine (head_walk _).mono ?_
      rintro e w1 ⟨rfl, x1⟩
      go_wp2_with fail
      refine (root_walk _ xs _ (S.ext x1)).mono ?_
      rw [HR.out, hz.out]
      rintro e w2 ⟨rfl, x2⟩
      have X2 := x1.trans x2
      clear S
      go_wp2
      go_ret
      exact ⟨rfl, X2⟩
    · have hn := fun h1 h2 => hr (rootErr_zero.2 ⟨h1, h2⟩)
      have HR := Lib.hid (show rootErr xs = 2 by unfold rootErr; rw [if_neg h0, if_pos (by
        rcases Nat.lt_or_ge 1024 xs.length with h | h
        · exact h
        · exact absurd h (hn (by omega)))])
      have h0' : ((xs.length : Int) == 0) = false := by rw [beq_eq_false_iff_ne]; omega
      clear hr h0 hn h1 h2
      go_enter Try.func8, Try.ntmps8
      go_wp2_with fail
      refine (head_walk _).mono ?_
      rintro e w1 ⟨rfl, x1⟩
      go_wp2_with fail
      refine (root_walk _ xs _ (S.ext x1)).mono ?_
      rw [HR.out, hz.out]
      rintro e w2 ⟨rfl, x2⟩
      have X2 := x1.trans x2
      clear S
      go_wp2
      go_ret
      exact ⟨rfl, X2⟩

theorem reportTrees_args (H : Type) (enc : TypeId × Value → H) (W : World) (base : Nat) (vs : List Value) (ds : List (DataW H)) (hA : Args enc Try.prog W base Try.f8.params.toList vs ds) :
    Calls Try.prog 8 vs.toArray W fun e W' => e = .returned (.bool true) ∧ Ext W W' := by
  rw [Try.params8] at hA
  obtain ⟨v0, _, d0, _, rfl, rfl, h0, hA⟩ := hA.cons
  obtain ⟨v1, _, d1, _, rfl, rfl, h1, hA⟩ := hA.cons
  obtain ⟨rfl, rfl⟩ := hA.nil
  obtain ⟨xs, S, l0, _⟩ := h0.sl Try.underlying27 (by kernel_rfl) (of_decide_eq_true (by kernel_rfl)) (elem_int Try.underlying24)
  obtain ⟨more, rfl, _⟩ := h1.int Try.underlying24
  have hb := h0.sl_reach Try.underlying27 l0
  have h8 : Try.prog.bytesOf 24 = 8 := by kernel_rfl
  rw [h8] at hb
  exact trees_walk v0 xs more W S (by simpa [reachBytes] using hb)

set_option maxRecDepth 100000 in
theorem reportTrees_lifted (os : Os) (started : os.Started) (H : Type) (enc : TypeId × Value → H) :
    ReturnsInHanded {} Try.checked os 8 .any (Rows.reportTreesSpec.pre6 enc Try.prog Try.f8 Rows.reportTreesRow.domain false) (Rows.reportTreesSpec.post enc Try.prog Try.f8 false true false false) :=
  law_said (C := Try.checked) (by kernel_rfl) started (by kernel_rfl) Try.func8
    (ChangeSpec.witness6 (enc := enc) (C := Try.checked) false ⟨#[], #[.slice none 0 0, .int .u64 0], []⟩ 8 (by kernel_rfl) (by kernel_rfl) (by kernel_rfl) (by kernel_rfl))
    (by kernel_rfl) (by kernel_rfl) (by kernel_rfl) rfl (fun ds h => by match ds, h with | [_, _], _ => rfl) (reportTrees_args H enc)

theorem reportTrees_holds : Rows.ReportTreesSaid :=
  OpenClaim.holds_of_wide 8 Try.f8 rfl rfl rfl rfl rfl rfl rfl ⟨rfl, rfl, rfl, rfl, rfl⟩ rfl rfl rfl rfl rfl (by kernel_rfl) Try.func8 (by kernel_rfl)
    (of_decide_eq_true (by kernel_rfl)) (by unfold Func.isWrapper; first | (rw [if_pos (by decide +kernel)]; kernel_rfl) | (rw [if_neg (by decide +kernel)]; exact ⟨rfl, rfl⟩))
    (fun os started H enc _ => reportTrees_lifted os started H enc)
end Go.Proofs.Yteelklpppfahcaa
