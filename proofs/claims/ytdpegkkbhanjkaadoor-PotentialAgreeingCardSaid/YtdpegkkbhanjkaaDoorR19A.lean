/-
  Walks: schismaref19.Bounded, Note, Ahead, Of, Sounds.
-/
import Derived.Test.YtdpegkkbhanjkaaDoorScA
set_option linter.unusedVariables false
namespace Go.Proofs.YtdpegkkbhanjkaaDoor
open Go.RowKit Go.Sx Go.Sx.Sz Go.Sx.Sc

set_option maxRecDepth 100000 in
set_option maxHeartbeats 1000000 in
theorem rbounded_walk (v : V6) (B : Int) (h0 : 0 ≤ B) (h1 : B ≤ 1000000) (w : World) : Calls Tryd.prog 63 #[.agg #[.int .i64 v.a, .int .i64 v.b, .int .i64 v.c, .int .i64 v.d, .int .i64 v.e, .int .i64 v.f], .int .i64 B] w fun e w' => e = .returned (.bool (within v B)) ∧ Ext w w' := by
  have q := alloc_cell w v.cells 41
  go_enter Tryd.func63, Tryd.ntmps63
  go_wp2
  go_loopw [5] (fun i wr => ∃ k : Nat, k ≤ 6 ∧ i = .int .i64 k ∧ withinK v B k = true ∧ wr = w.alloc (.cells v.cells 41)) (fun i _ => 6 - (intOf i).toNat)
  case atStart => exact ⟨0, by omega, rfl, rfl, rfl⟩
  case round =>
    obtain ⟨k, hk, rfl, hw, rfl⟩ := hrel
    have HW := Lib.hid hw
    clear hw
    by_cases hlt : k < 6
    · have hx := q k _ (by rw [Array.getElem?_toList]; exact V6.cells_at v hlt)
      clear q
      obtain ⟨W, hW⟩ : ∃ W, w.alloc (.cells v.cells 41) = W := ⟨_, rfl⟩
      have XW : Ext w W := by rw [← hW]; exact Ext.alloc' _ _
      have HWW := Lib.hid hW
      rw [hW] at hx ⊢
      clear hW
      by_cases hb : -B ≤ v.get k
      · by_cases hc : v.get k ≤ B
        · go_wp2
          go_roundw
          case rel => exact ⟨k + 1, by omega, by go_num, by simp [withinK, HW.out, hb, hc], by first | exact HWW.out.symm | trivial⟩
          case measure => simp [intOf]; omega
        · go_wp2
          go_ret
          exact ⟨by rw [withinK_false hlt (by omega)] <;> rfl, (by repeat (first | with_reducible exact Ext.refl _ | with_reducible assumption | with_reducible apply Ext.alloc | with_reducible apply Ext.drew | (with_reducible refine Ext.setCell ?_ (by (try simp) <;> omega) _)))⟩
      · go_wp2
        go_ret
        exact ⟨by rw [withinK_false hlt (by omega)] <;> rfl, (by repeat (first | with_reducible exact Ext.refl _ | with_reducible assumption | with_reducible apply Ext.alloc | with_reducible apply Ext.drew | (with_reducible refine Ext.setCell ?_ (by (try simp) <;> omega) _)))⟩
    · obtain rfl : k = 6 := by omega
      clear q
      go_wp2
      go_ret
      exact ⟨by rw [show within v B = true from HW.out] <;> rfl, (by repeat (first | with_reducible exact Ext.refl _ | with_reducible assumption | with_reducible apply Ext.alloc | with_reducible apply Ext.drew | (with_reducible refine Ext.setCell ?_ (by (try simp) <;> omega) _)))⟩

set_option maxRecDepth 100000 in
set_option maxHeartbeats 1000000 in
theorem rnote_walk (vn vp vc : Value) (vs : Int) (n : Nt) (w : World) : Calls Tryd.prog 62 #[.agg #[.int .i64 vs, vn, vp, vc], .agg #[.int .i64 n.v, .int .i64 n.f, .int .i64 n.u, .int .i64 n.x.a, .int .i64 n.x.b, .int .i64 n.x.c, .int .i64 n.x.d, .int .i64 n.x.e, .int .i64 n.x.f, .bool n.tied]] w fun e w' => e = .returned (.bool (decide (noteOk vs n))) ∧ Ext w w' := by
  have bad : (¬ 0 ≤ n.v ∨ ¬ n.v < vs ∨ ¬ 0 ≤ n.f ∨ ¬ n.f < n.u ∨ ¬ n.u ≤ 100000) → decide (noteOk vs n) = false := fun h => decide_eq_false (fun hh => by unfold noteOk at hh; omega)
  have BAD := Lib.hid bad
  clear bad
  by_cases g1 : 0 ≤ n.v
  case neg =>
    have HB := Lib.hid (BAD.out (.inl g1))
    go_enter Tryd.func62, Tryd.ntmps62
    go_wp2
    go_ret
    exact ⟨by rw [HB.out] <;> rfl, (by repeat (first | with_reducible exact Ext.refl _ | with_reducible assumption | with_reducible apply Ext.alloc | with_reducible apply Ext.drew | (with_reducible refine Ext.setCell ?_ (by (try simp) <;> omega) _)))⟩
  by_cases g2 : n.v < vs
  case neg =>
    have HB := Lib.hid (BAD.out (.inr (.inl g2)))
    go_enter Tryd.func62, Tryd.ntmps62
    go_wp2
    go_ret
    exact ⟨by rw [HB.out] <;> rfl, (by repeat (first | with_reducible exact Ext.refl _ | with_reducible assumption | with_reducible apply Ext.alloc | with_reducible apply Ext.drew | (with_reducible refine Ext.setCell ?_ (by (try simp) <;> omega) _)))⟩
  by_cases g3 : 0 ≤ n.f
  case neg =>
    have HB := Lib.hid (BAD.out (.inr (.inr (.inl g3))))
    go_enter Tryd.func62, Tryd.ntmps62
    go_wp2
    go_ret
    exact ⟨by rw [HB.out] <;> rfl, (by repeat (first | with_reducible exact Ext.refl _ | with_reducible assumption | with_reducible apply Ext.alloc | with_reducible apply Ext.drew | (with_reducible refine Ext.setCell ?_ (by (try simp) <;> omega) _)))⟩
  by_cases g4 : n.f < n.u
  case neg =>
    have HB := Lib.hid (BAD.out (.inr (.inr (.inr (.inl g4)))))
    go_enter Tryd.func62, Tryd.ntmps62
    go_wp2
    go_ret
    exact ⟨by rw [HB.out] <;> rfl, (by repeat (first | with_reducible exact Ext.refl _ | with_reducible assumption | with_reducible apply Ext.alloc | with_reducible apply Ext.drew | (with_reducible refine Ext.setCell ?_ (by (try simp) <;> omega) _)))⟩
  by_cases g5 : n.u ≤ 100000
  case neg =>
    have HB := Lib.hid (BAD.out (.inr (.inr (.inr (.inr g5)))))
    go_enter Tryd.func62, Tryd.ntmps62
    go_wp2
    go_ret
    exact ⟨by rw [HB.out] <;> rfl, (by repeat (first | with_reducible exact Ext.refl _ | with_reducible assumption | with_reducible apply Ext.alloc | with_reducible apply Ext.drew | (with_reducible refine Ext.setCell ?_ (by (try simp) <;> omega) _)))⟩
  have HG : Hid (decide (noteOk vs n) = within n.x 24) := Lib.hid (by
    rw [Bool.eq_iff_iff, decide_eq_true_eq]; exact ⟨fun hh => hh.2.2.2, fun h => ⟨⟨g1, g2⟩, ⟨g3, g4⟩, g5, h⟩⟩)
  go_enter Tryd.func62, Tryd.ntmps62
  go_wp2_with fail
  refine (rbounded_walk n.x 24 (by omega) (by omega) _).mono ?_
  rw [← HG.out]
  rintro e w1 ⟨rfl, x1⟩
  have X1 : Ext w w1 := Ext.trans (by repeat (first | with_reducible exact Ext.refl _ | with_reducible assumption | with_reducible apply Ext.alloc | with_reducible apply Ext.drew | (with_reducible refine Ext.setCell ?_ (by (try simp) <;> omega) _))) x1
  go_wp2
  go_ret
  exact ⟨rfl, X1⟩

set_option maxRecDepth 100000 in
theorem findL_first {p : Nt → Bool} {l : List Nt} {k : Nat} (hk : k < l.length) (h : p (l.getD k default) = true) (hn : ∀ j, j < k → p (l.getD j default) = false) : findL l p 0 = k := by
  rcases findL_spec (p := p) (l := l) (k := 0) with ⟨h1, h2⟩ | ⟨i, h1, h2, h3, h4⟩
  · have := h2 (l.getD k default) (by rw [List.getD_eq_getElem?_getD, List.getElem?_eq_getElem hk]; exact List.getElem_mem hk)
    rw [h] at this; cases this
  · rw [h2]
    rcases Nat.lt_trichotomy i k with e | e | e
    · rw [hn i e] at h3; cases h3
    · subst e; simp
    · rw [h4 k e] at h; cases h
set_option maxRecDepth 100000 in
theorem findL_none {p : Nt → Bool} {l : List Nt} (hn : ∀ j, j < l.length → p (l.getD j default) = false) : findL l p 0 = -1 := by
  rcases findL_spec (p := p) (l := l) (k := 0) with ⟨h1, h2⟩ | ⟨i, h1, h2, h3, h4⟩
  · exact h1
  · rw [hn i h1] at h3; cases h3

set_option maxRecDepth 100000 in
set_option maxHeartbeats 2000000 in
theorem ahead_walk (vn vp vc : Value) (s : Sc) (v t : Int) (w : World) (S : ScR w vn vp vc s) : Calls Tryd.prog 31 #[.agg #[.int .i64 s.voices, vn, vp, vc], .int .i64 v, .int .i64 t] w fun e w' => e = .returned (.int .i64 (findL s.notes (endP v t) 0)) ∧ Ext w w' := by
  obtain ⟨an, cn, rfl, -, -, hln⟩ := S.nt.len
  obtain ⟨ap, cp, rfl, -, -, hlp⟩ := S.pr.len
  obtain ⟨ac, cc, rfl, -, -, hlc⟩ := S.cd.len
  have XW := Ext.alloc' w (.cells #[.int .i64 s.voices, .slice an s.notes.length cn, .slice ap s.pairs.length cp, .slice ac s.cads.length cc] 26)
  have b1 := block_new w (.cells #[.int .i64 s.voices, .slice an s.notes.length cn, .slice ap s.pairs.length cp, .slice ac s.cads.length cc] 26)
  obtain ⟨W, hW⟩ : ∃ W, w.alloc (.cells #[.int .i64 s.voices, .slice an s.notes.length cn, .slice ap s.pairs.length cp, .slice ac s.cads.length cc] 26) = W := ⟨_, rfl⟩
  rw [hW] at XW b1
  have HW := Lib.hid hW
  have C1 := Lib.hid (block_cell b1 1 (.slice an s.notes.length cn) rfl)
  have S1 := S.ext XW
  clear hW b1 S
  go_enter Tryd.func31, Tryd.ntmps31
  go_wp2
  rw [HW.out]
  clear HW
  obtain ⟨B, hB⟩ : ∃ B, w.heap.size = B := ⟨_, rfl⟩
  rw [hB] at C1 ⊢
  clear hB
  go_loopw [7] (fun i wr => ∃ k : Nat, k ≤ s.notes.length ∧ i = .int .i64 k ∧ (∀ j, j < k → endP v t (s.notes.getD j default) = false) ∧ Ext W wr) (fun i _ => s.notes.length - (intOf i).toNat)
  case atStart => exact ⟨0, by omega, rfl, fun j h => absurd h (Nat.not_lt_zero _), Ext.refl _⟩
  case round =>
    obtain ⟨k, hk, rfl, hall, X⟩ := hrel
    have HA := Lib.hid hall
    have c1 := X.cell C1.out
    clear hall
    by_cases hlt : k < s.notes.length
    · obtain ⟨b, o, rfl, q⟩ := Sl.nt (S1.nt.ext X) k hlt
      rw [← Sc.N_eq hlt] at q
      have q0 := q.c0; have q2 := q.c2
      obtain ⟨nv, hv⟩ : ∃ x, (s.N k).v = x := ⟨_, rfl⟩
      obtain ⟨nu, hu⟩ : ∃ x, (s.N k).u = x := ⟨_, rfl⟩
      have hp : endP v t (s.notes.getD k default) = (decide (nv = v) && decide (nu = t)) := by
        rw [← hv, ← hu]; rfl
      rw [hv] at q0; rw [hu] at q2
      have HP := Lib.hid hp
      have i1 : (0 : Int) ≤ (k : Int) := by omega
      have i2 : (k : Int) < (s.notes.length : Int) := by omega
      clear q hv hu hp
      by_cases e1 : nv = v
      · have d1 : (nv == v) = true := beq_iff_eq.2 e1
        have HE1 := Lib.hid e1
        clear e1
        by_cases e2 : nu = t
        · have d2 : (nu == t) = true := beq_iff_eq.2 e2
          have HR : Hid (findL s.notes (endP v t) 0 = k) := Lib.hid (findL_first hlt (by rw [HP.out, decide_eq_true HE1.out, decide_eq_true e2]; rfl) HA.out)
          clear e2
          go_wp2
          go_ret
          exact ⟨by rw [HR.out] <;> rfl, XW.trans X⟩
        · have d2 : (nu == t) = false := beq_eq_false_iff_ne.2 e2
          have HE2 := Lib.hid e2
          clear e2
          go_wp2
          go_roundw
          case rel => exact ⟨k + 1, by omega, by go_num, fun j hj => by
            by_cases e : j = k
            · subst e; rw [HP.out, decide_eq_false HE2.out, Bool.and_false]
            · exact HA.out j (by omega), X⟩
          case measure => simp [intOf] <;> omega
      · have d1 : (nv == v) = false := beq_eq_false_iff_ne.2 e1
        have HE1 := Lib.hid e1
        clear e1
        go_wp2
        go_roundw
        case rel => exact ⟨k + 1, by omega, by go_num, fun j hj => by
          by_cases e : j = k
          · subst e; rw [HP.out, decide_eq_false HE1.out, Bool.false_and]
          · exact HA.out j (by omega), X⟩
        case measure => simp [intOf] <;> omega
    · obtain rfl : k = s.notes.length := by omega
      have HR := Lib.hid (findL_none HA.out)
      go_wp2
      go_ret
      exact ⟨by rw [HR.out] <;> rfl, XW.trans X⟩

set_option maxRecDepth 100000 in
set_option maxHeartbeats 2000000 in
theorem rof19_walk (vn vp vc : Value) (s : Sc) (t : Int) (w : World) (S : ScR w vn vp vc s) : Calls Tryd.prog 16 #[.agg #[.int .i64 s.voices, vn, vp, vc], .int .i64 t] w fun e w' => e = .returned (.int .i64 (secF s t)) ∧ Ext w w' := by
  obtain ⟨an, cn, rfl, -, -, hln⟩ := S.nt.len
  obtain ⟨ap, cp, rfl, -, -, hlp⟩ := S.pr.len
  obtain ⟨ac, cc, rfl, -, -, hlc⟩ := S.cd.len
  have XW := Ext.alloc' w (.cells #[.int .i64 s.voices, .slice an s.notes.length cn, .slice ap s.pairs.length cp, .slice ac s.cads.length cc] 26)
  have b1 := block_new w (.cells #[.int .i64 s.voices, .slice an s.notes.length cn, .slice ap s.pairs.length cp, .slice ac s.cads.length cc] 26)
  obtain ⟨W, hW⟩ : ∃ W, w.alloc (.cells #[.int .i64 s.voices, .slice an s.notes.length cn, .slice ap s.pairs.length cp, .slice ac s.cads.length cc] 26) = W := ⟨_, rfl⟩
  rw [hW] at XW b1
  have HW := Lib.hid hW
  have C1 := Lib.hid (block_cell b1 3 (.slice ac s.cads.length cc) rfl)
  have S1 := S.ext XW
  clear hW b1 S
  go_enter Tryd.func16, Tryd.ntmps16
  go_wp2
  rw [HW.out]
  clear HW
  obtain ⟨B, hB⟩ : ∃ B, w.heap.size = B := ⟨_, rfl⟩
  rw [hB] at C1 ⊢
  clear hB
  go_loopw [5, 6] (fun a i wr => ∃ (k m : Nat), k ≤ s.cads.length ∧ m ≤ k ∧ i = .int .i64 k ∧ a = .int .i64 m ∧ Hid (m = (s.cads.take k).countP (fun c => decide (c ≤ t))) ∧ Ext W wr) (fun _ i _ => s.cads.length - (intOf i).toNat)
  case atStart => exact ⟨0, 0, by omega, by omega, rfl, rfl, Lib.hid rfl, Ext.refl _⟩
  case round =>
    obtain ⟨k, m, hk, hmk, rfl, rfl, HM, X⟩ := hrel
    have c1 := X.cell C1.out
    by_cases hlt : k < s.cads.length
    · obtain ⟨b, o, rfl, q⟩ := Sl.num (S1.cd.ext X) k hlt
      obtain ⟨c, hc⟩ : ∃ c, s.cads[k] = c := ⟨_, rfl⟩
      rw [hc] at q
      have ht : (s.cads.take (k + 1)).countP (fun c => decide (c ≤ t)) = m + if c ≤ t then 1 else 0 := by
        rw [List.take_succ_eq_append_getElem hlt, List.countP_append, ← HM.out, hc]
        by_cases e : c ≤ t <;> simp [e]
      have HT := Lib.hid ht
      have i1 : (0 : Int) ≤ (k : Int) := by omega
      have i2 : (k : Int) < (s.cads.length : Int) := by omega
      clear hc ht
      by_cases e1 : c ≤ t
      · have HE := Lib.hid e1
        go_wp2
        go_roundw
        case rel => exact ⟨k + 1, m + 1, by omega, by omega, by go_num, by go_num, Lib.hid (by rw [HT.out, if_pos HE.out]), X⟩
        case measure => simp [intOf] <;> omega
      · have HE := Lib.hid e1
        go_wp2
        go_roundw
        case rel => exact ⟨k + 1, m, by omega, by omega, by go_num, by go_num, Lib.hid (by rw [HT.out, if_neg (by have := HE.out; omega)]; rfl), X⟩
        case measure => simp [intOf] <;> omega
    · obtain rfl : k = s.cads.length := by omega
      have HR : Hid (m = secF s t) := Lib.hid (by rw [HM.out, List.take_length]; rfl)
      go_wp2
      go_ret
      exact ⟨by rw [← HR.out] <;> rfl, XW.trans X⟩
end Go.Proofs.YtdpegkkbhanjkaaDoor
