/-
  Libraries of these proofs, laid as one text: R4A, R4B, R3A, R19A, R19B, R19C, R19D.
-/
import Derived.Test.YtgfaiihekibcbaaGreatDoorLibM
import Derived.Test.YtgfaiihekibcbaaGreatDoorLibB
import Derived.Test.YtgfaiihekibcbaaGreatDoorLibC
import Derived.Deep.DeepCutAuto
/-
  Walks of the reference: schismaref04.Valid, Lower, Upper, Exponents, Pure; schismaref03.Interval.
-/
set_option linter.unusedVariables false
namespace Go.Proofs.YtgfaiihekibcbaaGreatDoor
open Go.RowKit Go.Sx Go.Sx.Sz

end Go.Proofs.YtgfaiihekibcbaaGreatDoor

/-
  Walks of the reference: schismaref13.Primes; schismaref04.Both, Bounded, Add.
-/
set_option linter.unusedVariables false
namespace Go.Proofs.YtgfaiihekibcbaaGreatDoor
open Go.RowKit Go.Sx Go.Sx.Sz

end Go.Proofs.YtgfaiihekibcbaaGreatDoor

/-
  Walks of the reference: schismaref03.Valid, Of; schismaref04.Of, Cmp.
-/
set_option linter.unusedVariables false
namespace Go.Proofs.YtgfaiihekibcbaaGreatDoor
open Go.RowKit Go.Sx Go.Sx.Sz

end Go.Proofs.YtgfaiihekibcbaaGreatDoor

/-
  Walks: schismaref19.Bounded, Note, Ahead, Of, Sounds.
-/
set_option linter.unusedVariables false
namespace Go.Proofs.YtgfaiihekibcbaaGreatDoor
open Go.RowKit Go.Sx Go.Sx.Sz Go.Sx.Sc

set_option maxRecDepth 100000 in
set_option maxHeartbeats 1000000 in
theorem rbounded_walk (v : V6) (B : Int) (h0 : 0 ≤ B) (h1 : B ≤ 1000000) (w : World) : Calls Tryz.prog 28 #[.agg #[.int .i64 v.a, .int .i64 v.b, .int .i64 v.c, .int .i64 v.d, .int .i64 v.e, .int .i64 v.f], .int .i64 B] w fun e w' => e = .returned (.bool (within v B)) ∧ Ext w w' := by
  have q := alloc_cell w v.cells 32
  go_enter Tryz.func28, Tryz.ntmps28
  go_wp2
  go_loopw [5] (fun i wr => ∃ k : Nat, k ≤ 6 ∧ i = .int .i64 k ∧ withinK v B k = true ∧ wr = w.alloc (.cells v.cells 32)) (fun i _ => 6 - (intOf i).toNat)
  case atStart => exact ⟨0, by omega, rfl, rfl, rfl⟩
  case round =>
    obtain ⟨k, hk, rfl, hw, rfl⟩ := hrel
    have HW := Lib.hid hw
    clear hw
    by_cases hlt : k < 6
    · have hx := q k _ (by rw [Array.getElem?_toList]; exact V6.cells_at v hlt)
      clear q
      obtain ⟨W, hW⟩ : ∃ W, w.alloc (.cells v.cells 32) = W := ⟨_, rfl⟩
      have XW : Ext w W := by rw [← hW]; exact Ext.alloc' _ _
      have HWW := Lib.hid hW
      rw [hW] at hx ⊢
      clear hW
      by_cases hb : -B ≤ v.get k
      · by_cases hc : v.get k ≤ B
        · go_wp2
          go_roundw
          case rel => exact ⟨k + 1, by omega, by go_num, by simp [withinK, HW.out, hb, hc], by first | exact HWW.out.symm | trivial⟩
          case measure => simp [intOf]; omega
        · go_wp2
          go_ret
          exact ⟨by rw [withinK_false hlt (by omega)] <;> rfl, (by repeat (first | with_reducible exact Ext.refl _ | with_reducible assumption | with_reducible apply Ext.alloc | with_reducible apply Ext.drew | (with_reducible refine Ext.setCell ?_ (by (try simp) <;> omega) _)))⟩
      · go_wp2
        go_ret
        exact ⟨by rw [withinK_false hlt (by omega)] <;> rfl, (by repeat (first | with_reducible exact Ext.refl _ | with_reducible assumption | with_reducible apply Ext.alloc | with_reducible apply Ext.drew | (with_reducible refine Ext.setCell ?_ (by (try simp) <;> omega) _)))⟩
    · obtain rfl : k = 6 := by omega
      clear q
      go_wp2
      go_ret
      exact ⟨by rw [show within v B = true from HW.out] <;> rfl, (by repeat (first | with_reducible exact Ext.refl _ | with_reducible assumption | with_reducible apply Ext.alloc | with_reducible apply Ext.drew | (with_reducible refine Ext.setCell ?_ (by (try simp) <;> omega) _)))⟩

set_option maxRecDepth 100000 in
set_option maxHeartbeats 1000000 in
theorem rnote_walk (vn vp vc : Value) (vs : Int) (n : Nt) (w : World) : Calls Tryz.prog 26 #[.agg #[.int .i64 vs, vn, vp, vc], .agg #[.int .i64 n.v, .int .i64 n.f, .int .i64 n.u, .int .i64 n.x.a, .int .i64 n.x.b, .int .i64 n.x.c, .int .i64 n.x.d, .int .i64 n.x.e, .int .i64 n.x.f, .bool n.tied]] w fun e w' => e = .returned (.bool (decide (noteOk vs n))) ∧ Ext w w' := by
  have bad : (¬ 0 ≤ n.v ∨ ¬ n.v < vs ∨ ¬ 0 ≤ n.f ∨ ¬ n.f < n.u ∨ ¬ n.u ≤ 100000) → decide (noteOk vs n) = false := fun h => decide_eq_false (fun hh => by unfold noteOk at hh; omega)
  have BAD := Lib.hid bad
  clear bad
  by_cases g1 : 0 ≤ n.v
  case neg =>
    have HB := Lib.hid (BAD.out (.inl g1))
    go_enter Tryz.func26, Tryz.ntmps26
    go_wp2
    go_ret
    exact ⟨by rw [HB.out] <;> rfl, (by repeat (first | with_reducible exact Ext.refl _ | with_reducible assumption | with_reducible apply Ext.alloc | with_reducible apply Ext.drew | (with_reducible refine Ext.setCell ?_ (by (try simp) <;> omega) _)))⟩
  by_cases g2 : n.v < vs
  case neg =>
    have HB := Lib.hid (BAD.out (.inr (.inl g2)))
    go_enter Tryz.func26, Tryz.ntmps26
    go_wp2
    go_ret
    exact ⟨by rw [HB.out] <;> rfl, (by repeat (first | with_reducible exact Ext.refl _ | with_reducible assumption | with_reducible apply Ext.alloc | with_reducible apply Ext.drew | (with_reducible refine Ext.setCell ?_ (by (try simp) <;> omega) _)))⟩
  by_cases g3 : 0 ≤ n.f
  case neg =>
    have HB := Lib.hid (BAD.out (.inr (.inr (.inl g3))))
    go_enter Tryz.func26, Tryz.ntmps26
    go_wp2
    go_ret
    exact ⟨by rw [HB.out] <;> rfl, (by repeat (first | with_reducible exact Ext.refl _ | with_reducible assumption | with_reducible apply Ext.alloc | with_reducible apply Ext.drew | (with_reducible refine Ext.setCell ?_ (by (try simp) <;> omega) _)))⟩
  by_cases g4 : n.f < n.u
  case neg =>
    have HB := Lib.hid (BAD.out (.inr (.inr (.inr (.inl g4)))))
    go_enter Tryz.func26, Tryz.ntmps26
    go_wp2
    go_ret
    exact ⟨by rw [HB.out] <;> rfl, (by repeat (first | with_reducible exact Ext.refl _ | with_reducible assumption | with_reducible apply Ext.alloc | with_reducible apply Ext.drew | (with_reducible refine Ext.setCell ?_ (by (try simp) <;> omega) _)))⟩
  by_cases g5 : n.u ≤ 100000
  case neg =>
    have HB := Lib.hid (BAD.out (.inr (.inr (.inr (.inr g5)))))
    go_enter Tryz.func26, Tryz.ntmps26
    go_wp2
    go_ret
    exact ⟨by rw [HB.out] <;> rfl, (by repeat (first | with_reducible exact Ext.refl _ | with_reducible assumption | with_reducible apply Ext.alloc | with_reducible apply Ext.drew | (with_reducible refine Ext.setCell ?_ (by (try simp) <;> omega) _)))⟩
  have HG : Hid (decide (noteOk vs n) = within n.x 24) := Lib.hid (by
    rw [Bool.eq_iff_iff, decide_eq_true_eq]; exact ⟨fun hh => hh.2.2.2, fun h => ⟨⟨g1, g2⟩, ⟨g3, g4⟩, g5, h⟩⟩)
  go_enter Tryz.func26, Tryz.ntmps26
  go_wp2_with fail
  refine (rbounded_walk n.x 24 (by omega) (by omega) _).mono ?_
  rw [← HG.out]
  rintro e w1 ⟨rfl, x1⟩
  have X1 : Ext w w1 := Ext.trans (by repeat (first | with_reducible exact Ext.refl _ | with_reducible assumption | with_reducible apply Ext.alloc | with_reducible apply Ext.drew | (with_reducible refine Ext.setCell ?_ (by (try simp) <;> omega) _))) x1
  go_wp2
  go_ret
  exact ⟨rfl, X1⟩

set_option maxRecDepth 100000 in
theorem findL_first {p : Nt → Bool} {l : List Nt} {k : Nat} (hk : k < l.length) (h : p (l.getD k default) = true) (hn : ∀ j, j < k → p (l.getD j default) = false) : findL l p 0 = k := by
  rcases findL_spec (p := p) (l := l) (k := 0) with ⟨h1, h2⟩ | ⟨i, h1, h2, h3, h4⟩
  · have := h2 (l.getD k default) (by rw [List.getD_eq_getElem?_getD, List.getElem?_eq_getElem hk]; exact List.getElem_mem hk)
    rw [h] at this; cases this
  · rw [h2]
    rcases Nat.lt_trichotomy i k with e | e | e
    · rw [hn i e] at h3; cases h3
    · subst e; simp
    · rw [h4 k e] at h; cases h
set_option maxRecDepth 100000 in
theorem findL_none {p : Nt → Bool} {l : List Nt} (hn : ∀ j, j < l.length → p (l.getD j default) = false) : findL l p 0 = -1 := by
  rcases findL_spec (p := p) (l := l) (k := 0) with ⟨h1, h2⟩ | ⟨i, h1, h2, h3, h4⟩
  · exact h1
  · rw [hn i h1] at h3; cases h3

set_option maxRecDepth 100000 in
set_option maxHeartbeats 2000000 in
theorem ahead_walk (vn vp vc : Value) (s : Sc) (v t : Int) (w : World) (S : ScR w vn vp vc s) : Calls Tryz.prog 27 #[.agg #[.int .i64 s.voices, vn, vp, vc], .int .i64 v, .int .i64 t] w fun e w' => e = .returned (.int .i64 (findL s.notes (endP v t) 0)) ∧ Ext w w' := by
  obtain ⟨an, cn, rfl, -, -, hln⟩ := S.nt.len
  obtain ⟨ap, cp, rfl, -, -, hlp⟩ := S.pr.len
  obtain ⟨ac, cc, rfl, -, -, hlc⟩ := S.cd.len
  have XW := Ext.alloc' w (.cells #[.int .i64 s.voices, .slice an s.notes.length cn, .slice ap s.pairs.length cp, .slice ac s.cads.length cc] 26)
  have b1 := block_new w (.cells #[.int .i64 s.voices, .slice an s.notes.length cn, .slice ap s.pairs.length cp, .slice ac s.cads.length cc] 26)
  obtain ⟨W, hW⟩ : ∃ W, w.alloc (.cells #[.int .i64 s.voices, .slice an s.notes.length cn, .slice ap s.pairs.length cp, .slice ac s.cads.length cc] 26) = W := ⟨_, rfl⟩
  rw [hW] at XW b1
  have HW := Lib.hid hW
  have C1 := Lib.hid (block_cell b1 1 (.slice an s.notes.length cn) rfl)
  have S1 := S.ext XW
  clear hW b1 S
  go_enter Tryz.func27, Tryz.ntmps27
  go_wp2
  rw [HW.out]
  clear HW
  obtain ⟨B, hB⟩ : ∃ B, w.heap.size = B := ⟨_, rfl⟩
  rw [hB] at C1 ⊢
  clear hB
  go_loopw [7] (fun i wr => ∃ k : Nat, k ≤ s.notes.length ∧ i = .int .i64 k ∧ (∀ j, j < k → endP v t (s.notes.getD j default) = false) ∧ Ext W wr) (fun i _ => s.notes.length - (intOf i).toNat)
  case atStart => exact ⟨0, by omega, rfl, fun j h => absurd h (Nat.not_lt_zero _), Ext.refl _⟩
  case round =>
    obtain ⟨k, hk, rfl, hall, X⟩ := hrel
    have HA := Lib.hid hall
    have c1 := X.cell C1.out
    clear hall
    by_cases hlt : k < s.notes.length
    · obtain ⟨b, o, rfl, q⟩ := Sl.nt (S1.nt.ext X) k hlt
      rw [← Sc.N_eq hlt] at q
      have q0 := q.c0; have q2 := q.c2
      obtain ⟨nv, hv⟩ : ∃ x, (s.N k).v = x := ⟨_, rfl⟩
      obtain ⟨nu, hu⟩ : ∃ x, (s.N k).u = x := ⟨_, rfl⟩
      have hp : endP v t (s.notes.getD k default) = (decide (nv = v) && decide (nu = t)) := by
        rw [← hv, ← hu]; rfl
      rw [hv] at q0; rw [hu] at q2
      have HP := Lib.hid hp
      have i1 : (0 : Int) ≤ (k : Int) := by omega
      have i2 : (k : Int) < (s.notes.length : Int) := by omega
      clear q hv hu hp
      by_cases e1 : nv = v
      · have d1 : (nv == v) = true := beq_iff_eq.2 e1
        have HE1 := Lib.hid e1
        clear e1
        by_cases e2 : nu = t
        · have d2 : (nu == t) = true := beq_iff_eq.2 e2
          have HR : Hid (findL s.notes (endP v t) 0 = k) := Lib.hid (findL_first hlt (by rw [HP.out, decide_eq_true HE1.out, decide_eq_true e2]; rfl) HA.out)
          clear e2
          go_wp2
          go_ret
          exact ⟨by rw [HR.out] <;> rfl, XW.trans X⟩
        · have d2 : (nu == t) = false := beq_eq_false_iff_ne.2 e2
          have HE2 := Lib.hid e2
          clear e2
          go_wp2
          go_roundw
          case rel => exact ⟨k + 1, by omega, by go_num, fun j hj => by
            by_cases e : j = k
            · subst e; rw [HP.out, decide_eq_false HE2.out, Bool.and_false]
            · exact HA.out j (by omega), X⟩
          case measure => simp [intOf] <;> omega
      · have d1 : (nv == v) = false := beq_eq_false_iff_ne.2 e1
        have HE1 := Lib.hid e1
        clear e1
        go_wp2
        go_roundw
        case rel => exact ⟨k + 1, by omega, by go_num, fun j hj => by
          by_cases e : j = k
          · subst e; rw [HP.out, decide_eq_false HE1.out, Bool.false_and]
          · exact HA.out j (by omega), X⟩
        case measure => simp [intOf] <;> omega
    · obtain rfl : k = s.notes.length := by omega
      have HR := Lib.hid (findL_none HA.out)
      go_wp2
      go_ret
      exact ⟨by rw [HR.out] <;> rfl, XW.trans X⟩

end Go.Proofs.YtgfaiihekibcbaaGreatDoor

/-
  Walk: schismaref19.Notes.
-/
set_option linter.unusedVariables false
namespace Go.Sx.Sc
open Go.Sx.Sz
section
variable {s : Sc}
def rlA (s : Sc) (i : Nat) : Prop := noteOk s.voices (s.N i) ∧ (0 < i → lexN (s.N (i - 1)) (s.N i)) ∧ ∀ k, k < i → (s.N k).v = (s.N i).v → (s.N k).u ≤ (s.N i).f
def rlB (s : Sc) (i : Nat) : Prop := (s.N i).tied = true → ∃ k : Nat, findL s.notes (endP (s.N i).v (s.N i).f) 0 = (k : Int) ∧ (s.N k).x = (s.N i).x
def rnB (s : Sc) : Bool := decide (ntOk s) && decide (vcOk s)
set_option maxRecDepth 100000 in
theorem rnB_iff : rnB s = true ↔ ntOk s ∧ vcOk s := by unfold rnB; rw [Bool.and_eq_true, decide_eq_true_eq, decide_eq_true_eq]
set_option maxRecDepth 100000 in
theorem rnB_false (h : ¬ (ntOk s ∧ vcOk s)) : rnB s = false := by
  cases hh : rnB s with
  | false => rfl
  | true => exact absurd (rnB_iff.1 hh) h
set_option maxRecDepth 100000 in
theorem rl_a (h1 : ntOk s) (h2 : vcOk s) {i : Nat} (hi : i < s.notes.length) : rlA s i :=
  ⟨h1.1 i hi, fun h0 => by have := h1.2 (i - 1) (by omega); rwa [Nat.sub_add_cancel h0] at this, fun k hk hv => (h2 i hi).1 k hk hv⟩
set_option maxRecDepth 100000 in
theorem rl_nt (h : ∀ i, i < s.notes.length → rlA s i) : ntOk s := ⟨fun i hi => (h i hi).1, fun i hi => (h (i + 1) (by omega)).2.1 (by omega)⟩
set_option maxRecDepth 100000 in
theorem ends_of (h1 : ntOk s) (h : ∀ i, i < s.notes.length → rlA s i) {i k : Nat} (hi : i < s.notes.length) (hk : k < s.notes.length) (hv : (s.N k).v = (s.N i).v) (hu : (s.N k).u = (s.N i).u) : i = k := by
  have n1 := (h1.note hi).2.1
  have n2 := (h1.note hk).2.1
  rcases Nat.lt_trichotomy i k with e | e | e
  · have := (h k hk).2.2 i e hv.symm; omega
  · exact e
  · have := (h i hi).2.2 k e hv; omega
set_option maxRecDepth 100000 in
theorem find_tie (h : ∀ i, i < s.notes.length → rlA s i) {i : Nat} (hi : i < s.notes.length) :
    (findL s.notes (endP (s.N i).v (s.N i).f) 0 = -1 ∧ ∀ k, k < s.notes.length → ¬ ((s.N k).v = (s.N i).v ∧ (s.N k).u = (s.N i).f)) ∨
    ∃ k : Nat, k < i ∧ findL s.notes (endP (s.N i).v (s.N i).f) 0 = (k : Int) ∧ ((s.N k).v = (s.N i).v ∧ (s.N k).u = (s.N i).f) ∧ ∀ j, j < s.notes.length → (s.N j).v = (s.N i).v ∧ (s.N j).u = (s.N i).f → j = k := by
  have h1 := rl_nt h
  have key : ∀ j, endP (s.N i).v (s.N i).f (s.notes.getD j default) = true ↔ (s.N j).v = (s.N i).v ∧ (s.N j).u = (s.N i).f := fun j => by
    show endP _ _ (s.N j) = true ↔ _
    unfold endP; rw [Bool.and_eq_true, decide_eq_true_eq, decide_eq_true_eq]
  rcases findL_spec (p := endP (s.N i).v (s.N i).f) (l := s.notes) (k := 0) with ⟨e, hn⟩ | ⟨k, hk, e, hp, hq⟩
  · refine .inl ⟨e, fun k hk hh => ?_⟩
    have := hn (s.N k) (by unfold Sc.N; rw [List.getD_eq_getElem?_getD, List.getElem?_eq_getElem hk]; exact List.getElem_mem hk)
    have h2 := (key k).2 hh
    unfold Sc.N at this
    rw [show endP (s.N i).v (s.N i).f (s.notes.getD k default) = false from this] at h2
    cases h2
  · have hh := (key k).1 hp
    have n1 := (h1.note hk).2.1
    have hki : k < i := by
      rcases Nat.lt_or_ge k i with h9 | h9
      · exact h9
      · have := h1.from_le h9 hk; omega
    refine .inr ⟨k, hki, by rw [e]; simp, hh, fun j hj hjj => ?_⟩
    exact ends_of h1 h hj hk (by rw [hh.1, hjj.1]) (by rw [hh.2, hjj.2])
set_option maxRecDepth 100000 in
theorem rl_b (h1 : ntOk s) (h2 : vcOk s) {i : Nat} (hi : i < s.notes.length) : rlB s i := fun ht => by
  have ha : ∀ i, i < s.notes.length → rlA s i := fun i hi => rl_a h1 h2 hi
  have hx : ∃ k, k < i ∧ tieOf s i k := Classical.byContradiction fun hc => (h2 i hi).2 ht fun k hk ht => hc ⟨k, hk, ht⟩
  obtain ⟨k, hk, a, b, c⟩ := hx
  rcases find_tie ha hi with ⟨-, hn⟩ | ⟨m, hm, e, -, hu⟩
  · exact absurd ⟨a, b⟩ (hn k (by omega))
  · obtain rfl := hu k (by omega) ⟨a, b⟩
    exact ⟨k, e, c⟩
set_option maxRecDepth 100000 in
theorem rl_vc (h : ∀ i, i < s.notes.length → rlA s i) (hb : ∀ i, i < s.notes.length → rlB s i) : vcOk s := fun i hi => ⟨fun k hk hv => (h i hi).2.2 k hk hv, fun ht hn => by
  obtain ⟨k, e, hx⟩ := hb i hi ht
  rcases find_tie h hi with ⟨e', -⟩ | ⟨m, hm, e', hh, -⟩
  · rw [e] at e'; omega
  · rw [e] at e'
    obtain rfl : k = m := by omega
    exact hn k hm ⟨hh.1, hh.2, hx⟩⟩
end
end Go.Sx.Sc
namespace Go.Proofs.YtgfaiihekibcbaaGreatDoor
open Go.RowKit Go.Sx Go.Sx.Sz Go.Sx.Sc

set_option maxRecDepth 100000 in
set_option maxHeartbeats 4000000 in
theorem rnotes_walk (vn vp vc : Value) (s : Sc) (w : World) (S : ScR w vn vp vc s) (hnn : s.notes.length ≤ 200) : Calls Tryz.prog 13 #[.agg #[.int .i64 s.voices, vn, vp, vc]] w fun e w' => e = .returned (.bool (rnB s)) ∧ Ext w w' := by
  obtain ⟨an, cn, rfl, -, -, hln⟩ := S.nt.len
  obtain ⟨ap, cp, rfl, -, -, hlp⟩ := S.pr.len
  obtain ⟨ac, cc, rfl, -, -, hlc⟩ := S.cd.len
  have XW := Ext.alloc' w (.cells #[.int .i64 s.voices, .slice an s.notes.length cn, .slice ap s.pairs.length cp, .slice ac s.cads.length cc] 26)
  have b1 := block_new w (.cells #[.int .i64 s.voices, .slice an s.notes.length cn, .slice ap s.pairs.length cp, .slice ac s.cads.length cc] 26)
  obtain ⟨W, hW⟩ : ∃ W, w.alloc (.cells #[.int .i64 s.voices, .slice an s.notes.length cn, .slice ap s.pairs.length cp, .slice ac s.cads.length cc] 26) = W := ⟨_, rfl⟩
  rw [hW] at XW b1
  have HW := Lib.hid hW
  obtain ⟨B, hB⟩ : ∃ B, w.heap.size = B := ⟨_, rfl⟩
  rw [hB] at b1
  have CB : Hid (∀ w', Ext W w' → w'.cell? ⟨B, 0, none⟩ = some (.int .i64 s.voices) ∧ w'.cell? ⟨B, 1, none⟩ = some (.slice an s.notes.length cn) ∧ w'.cell? ⟨B, 2, none⟩ = some (.slice ap s.pairs.length cp) ∧ w'.cell? ⟨B, 3, none⟩ = some (.slice ac s.cads.length cc)) := Lib.hid fun w' x =>
    ⟨x.cell (block_cell b1 0 _ rfl), x.cell (block_cell b1 1 _ rfl), x.cell (block_cell b1 2 _ rfl), x.cell (block_cell b1 3 _ rfl)⟩
  have S1 := S.ext XW
  have HB := Lib.hid hB
  clear hW b1 S hB
  go_enter Tryz.func13, Tryz.ntmps13
  go_wp2
  rw [HW.out, HB.out]
  clear HW HB
  go_loopw [3, 4, 5] (fun i _ _ wr => ∃ k : Nat, k ≤ s.notes.length ∧ i = .int .i64 k ∧ (∀ j, j < k → rlA s j) ∧ Ext W wr) (fun i _ _ _ => s.notes.length - (intOf i).toNat)
  case atStart => exact ⟨0, by omega, rfl, fun j h => absurd h (Nat.not_lt_zero _), Ext.refl _⟩
  case round =>
    obtain ⟨k, hk, rfl, hall, X⟩ := hrel
    have HA := Lib.hid hall
    clear hall
    obtain ⟨c0, c1, c2, c3⟩ := CB.out wr X
    by_cases hlt : k < s.notes.length
    · obtain ⟨b, o, rfl, q⟩ := Sl.nt (S1.nt.ext X) k hlt
      rw [← Sc.N_eq hlt] at q
      obtain ⟨n, hn⟩ : ∃ n, s.N k = n := ⟨_, rfl⟩
      rw [hn] at q
      have HN := Lib.hid hn
      obtain ⟨q0, q1, q2, q3, q4, q5, q6, q7, q8, q9⟩ := q
      have bad : ¬ rlA s k → rnB s = false := fun h => rnB_false fun hh => h (rl_a hh.1 hh.2 hlt)
      have BAD := Lib.hid bad
      have i1 : (0 : Int) ≤ (k : Int) := by omega
      have i2 : (k : Int) < (s.notes.length : Int) := by omega
      have e1 := Ext.alloc' wr (.cells #[.int .i64 n.v, .int .i64 n.f, .int .i64 n.u, .int .i64 n.x.a, .int .i64 n.x.b, .int .i64 n.x.c, .int .i64 n.x.d, .int .i64 n.x.e, .int .i64 n.x.f, .bool n.tied] 69)
      have bN := block_new wr (.cells #[.int .i64 n.v, .int .i64 n.f, .int .i64 n.u, .int .i64 n.x.a, .int .i64 n.x.b, .int .i64 n.x.c, .int .i64 n.x.d, .int .i64 n.x.e, .int .i64 n.x.f, .bool n.tied] 69)
      have BN := Lib.hid bN
      have k0 := e1.cell c0; have k1 := e1.cell c1; have k2 := e1.cell c2; have k3 := e1.cell c3
      clear hn bad bN
      go_wp2_with fail
      refine (rnote_walk _ _ _ s.voices n _).mono ?_
      by_cases hno : noteOk s.voices n
      case neg =>
        have HR := Lib.hid (BAD.out fun h => hno (by rw [← HN.out]; exact h.1))
        rw [decide_eq_false hno]
        clear hno
        rintro e w5 ⟨rfl, x5⟩
        clear c0 c1 c2 c3 k0 k1 k2 k3 q0 q1 q2 q3 q4 q5 q6 q7 q8 q9
        go_wp2
        go_ret
        exact ⟨by rw [HR.out] <;> rfl, XW.trans (X.trans (e1.trans x5))⟩
      rw [decide_eq_true hno]
      have HNO := Lib.hid hno
      clear hno
      rintro e w5 ⟨rfl, x5⟩
      have X5 : Ext W w5 := X.trans (e1.trans x5)
      have ND : Hid (∀ w', Ext w5 w' → w'.cell? ⟨wr.heap.size, 0, none⟩ = some (.int .i64 n.v) ∧ w'.cell? ⟨wr.heap.size, 1, none⟩ = some (.int .i64 n.f)) := Lib.hid fun w' x =>
        ⟨(x5.trans x).cell (block_cell BN.out 0 _ rfl), (x5.trans x).cell (block_cell BN.out 1 _ rfl)⟩
      obtain ⟨D, hD⟩ : ∃ D, wr.heap.size = D := ⟨_, rfl⟩
      rw [hD] at ND ⊢
      clear hD
      obtain ⟨d0, d1⟩ := ND.out w5 (Ext.refl _)
      clear c0 c1 c2 c3 k0 k1 k2 k3 q0 q1 q2 q3 q4 q5 q6 q7 q8 q9 e1 x5 BN X
      obtain ⟨c0, c1, c2, c3⟩ := CB.out w5 X5
      have HKK := Lib.hid hlt
      go_upto_region 7 with fail
      go_cut [62] (fun s62 wx => ∃ b : Bool, s62 = .bool b ∧ Hid ((b = false ∧ (0 < k → lexN (s.N (k - 1)) n)) ∨ (b = true ∧ ¬ rlA s k)) ∧ Ext w5 wx)
      case first =>
        by_cases hk0 : k = 0
        · have f3 : decide (0 < k) = false := decide_eq_false (by omega)
          have HLX : Hid (0 < k → lexN (s.N (k - 1)) n) := Lib.hid (fun h => by omega)
          clear hk0 c0 c2 c3
          go_quiet (fail)
          go_wp2_with fail
          go_meet
          exact ⟨_, rfl, Lib.hid (.inl ⟨rfl, HLX.out⟩), (Ext.refl _).drewN _⟩
        · have hk1 : k - 1 < s.notes.length := by omega
          obtain ⟨b2, o2, e', p⟩ := Sl.nt (S1.nt.ext X5) (k - 1) hk1
          obtain ⟨rfl, rfl⟩ : b = b2 ∧ o = o2 := by simp at e'; exact e'
          rw [← Sc.N_eq hk1] at p
          obtain ⟨m, hm⟩ : ∃ n, s.N (k - 1) = n := ⟨_, rfl⟩
          rw [hm] at p
          have HM := Lib.hid hm
          have p0 := p.c0; have p1 := p.c1
          have f3 : decide (0 < k) = true := decide_eq_true (by omega)
          have f4 : IntKind.i64.wrap ((k : Int) - 1) = ((k - 1 : Nat) : Int) := by rw [IntWalk.i64_in _ (by omega)]; omega
          have f5 : (0 : Int) ≤ ((k - 1 : Nat) : Int) := by omega
          have f6 : ((k - 1 : Nat) : Int) < (s.notes.length : Int) := by omega
          have HLX : Hid (lexN m n → (0 < k → lexN (s.N (k - 1)) n)) := Lib.hid (fun h _ => by rw [HM.out]; exact h)
          have HLY : Hid (¬ lexN m n → ¬ rlA s k) := Lib.hid (fun h h2 => h (by have := h2.2.1 (by omega); rwa [HM.out, HN.out] at this))
          clear hm hk0 c0 c2 c3 p e' hk1
          by_cases g1 : n.f < m.f
          · have HL := Lib.hid (HLY.out (fun h => by unfold lexN at h; omega))
            have g1' : decide (n.f < m.f) = true := decide_eq_true g1
            clear g1
            go_quiet (fail)
            go_wp2_with fail
            go_meet
            exact ⟨_, rfl, Lib.hid (.inr ⟨rfl, HL.out⟩), (Ext.refl _).drewN _⟩
          have g1' : decide (n.f < m.f) = false := decide_eq_false g1
          by_cases g2 : n.f = m.f
          · have g2' : (n.f == m.f) = true := beq_iff_eq.2 g2
            by_cases g3 : n.v ≤ m.v
            · have HL := Lib.hid (HLY.out (fun h => by unfold lexN at h; omega))
              have g3' : decide (n.v ≤ m.v) = true := decide_eq_true g3
              clear g1 g2 g3
              go_quiet (fail)
              go_wp2_with fail
              go_meet
              exact ⟨_, rfl, Lib.hid (.inr ⟨rfl, HL.out⟩), (Ext.refl _).drewN _⟩
            · have HL := Lib.hid (HLX.out (by unfold lexN; omega))
              have g3' : decide (n.v ≤ m.v) = false := decide_eq_false g3
              clear g1 g2 g3
              go_quiet (fail)
              go_wp2_with fail
              go_meet
              exact ⟨_, rfl, Lib.hid (.inl ⟨rfl, HL.out⟩), (Ext.refl _).drewN _⟩
          · have g2' : (n.f == m.f) = false := beq_eq_false_iff_ne.2 g2
            have HL := Lib.hid (HLX.out (by unfold lexN; omega))
            clear g1 g2
            go_quiet (fail)
            go_wp2_with fail
            go_meet
            exact ⟨_, rfl, Lib.hid (.inl ⟨rfl, HL.out⟩), (Ext.refl _).drewN _⟩
      case rest =>
        obtain ⟨bb, rfl, HBB, x6⟩ := hcut
        cases bb with
        | true =>
          have HR := Lib.hid (BAD.out (HBB.out.resolve_left (by simp)).2)
          go_wp2
          go_ret
          exact ⟨by rw [HR.out] <;> rfl, XW.trans (X5.trans x6)⟩
        | false =>
          have HL := Lib.hid (HBB.out.resolve_right (by simp)).2
          have X6 := X5.trans x6
          clear c0 c1 c2 c3 d0 d1
          go_wp2
          go_loopw [5] (fun i wr => ∃ j : Nat, j ≤ k ∧ i = .int .i64 j ∧ (∀ q, q < j → (s.N q).v = n.v → (s.N q).u ≤ n.f) ∧ Ext w5 wr) (fun i _ => k - (intOf i).toNat)
          case atStart => exact ⟨0, by omega, rfl, fun q h => absurd h (Nat.not_lt_zero _), x6⟩
          case round =>
            obtain ⟨j, hj, rfl, hq, Y⟩ := hrel
            have HQ := Lib.hid hq
            clear hq
            obtain ⟨d0, d1⟩ := ND.out wr Y
            obtain ⟨c0, c1, c2, c3⟩ := CB.out wr (X5.trans Y)
            by_cases hjk : j < k
            · obtain ⟨b2, o2, e', p⟩ := Sl.nt (S1.nt.ext (X5.trans Y)) j (by omega)
              obtain ⟨rfl, rfl⟩ : b = b2 ∧ o = o2 := by simp at e'; exact e'
              rw [← Sc.N_eq (show j < s.notes.length by omega)] at p
              obtain ⟨m, hm⟩ : ∃ n, s.N j = n := ⟨_, rfl⟩
              rw [hm] at p
              have HM := Lib.hid hm
              have p0 := p.c0; have p2 := p.c2
              have i3 : (0 : Int) ≤ (j : Int) := by omega
              have i4 : (j : Int) < (s.notes.length : Int) := by omega
              have HSTEP : Hid ((m.v = n.v → m.u ≤ n.f) → ∀ q, q < j + 1 → (s.N q).v = n.v → (s.N q).u ≤ n.f) := Lib.hid fun h q hq => by
                by_cases e : q = j
                · subst e; rw [HM.out]; exact h
                · exact HQ.out q (by omega)
              have HBD : Hid (¬ (m.v = n.v → m.u ≤ n.f) → rnB s = false) := Lib.hid fun h => BAD.out fun h2 => h (by have := h2.2.2 j hjk; rwa [HM.out, HN.out] at this)
              clear hm p e' c0 c2 c3
              by_cases g1 : m.v = n.v
              · have g1' : (m.v == n.v) = true := beq_iff_eq.2 g1
                by_cases g2 : n.f < m.u
                · have HR := Lib.hid (HBD.out (fun h => by have := h g1; omega))
                  have g2' : decide (n.f < m.u) = true := decide_eq_true g2
                  clear g1 g2
                  go_wp2
                  go_quiet (fail)
                  go_wp2
                  go_ret
                  exact ⟨by rw [HR.out] <;> rfl, XW.trans (X5.trans (Y.drewN _))⟩
                · have HS := Lib.hid (HSTEP.out (fun _ => by omega))
                  have g2' : decide (n.f < m.u) = false := decide_eq_false g2
                  clear g1 g2
                  go_wp2
                  go_quiet (fail)
                  go_wp2
                  go_roundw
                  case rel => exact ⟨j + 1, by omega, by go_num, HS.out, Y.drewN _⟩
                  case measure => simp [intOf] <;> omega
              · have g1' : (m.v == n.v) = false := beq_eq_false_iff_ne.2 g1
                have HS := Lib.hid (HSTEP.out (fun h => absurd h g1))
                clear g1
                go_wp2
                go_quiet (fail)
                go_wp2
                go_roundw
                case rel => exact ⟨j + 1, by omega, by go_num, HS.out, Y.drewN _⟩
                case measure => simp [intOf] <;> omega
            · obtain rfl : j = k := by omega
              have HOK : Hid (rlA s j) := Lib.hid ⟨by rw [HN.out]; exact HNO.out, by rw [HN.out]; exact HL.out, by rw [HN.out]; exact HQ.out⟩
              clear c0 c1 c2 c3 d0 d1
              go_wp2
              go_roundw
              case rel => exact ⟨j + 1, by omega, by go_num, fun q hq => by
                by_cases e : q = j
                · subst e; exact HOK.out
                · exact HA.out q (by omega), X5.trans Y⟩
              case measure => simp [intOf] <;> omega
    · obtain rfl : k = s.notes.length := by omega
      have HNT := Lib.hid (rl_nt HA.out)
      have HFT := Lib.hid fun (i : Nat) (hi : i < s.notes.length) => find_tie HA.out hi
      clear c0 c2 c3
      go_wp2
      clear c1
      go_loopw [6, 7, 8] (fun i _ _ wr => ∃ k : Nat, k ≤ s.notes.length ∧ i = .int .i64 k ∧ (∀ j, j < k → rlB s j) ∧ Ext W wr) (fun i _ _ _ => s.notes.length - (intOf i).toNat)
      case atStart => exact ⟨0, by omega, rfl, fun j h => absurd h (Nat.not_lt_zero _), X⟩
      case round =>
        obtain ⟨k, hk, rfl, hall, Y⟩ := hrel
        have HAB := Lib.hid hall
        clear hall
        obtain ⟨c0, c1, c2, c3⟩ := CB.out wr Y
        by_cases hlt : k < s.notes.length
        · obtain ⟨b, o, rfl, q⟩ := Sl.nt (S1.nt.ext Y) k hlt
          rw [← Sc.N_eq hlt] at q
          have hft := HFT.out k hlt
          obtain ⟨n, hn⟩ : ∃ n, s.N k = n := ⟨_, rfl⟩
          rw [hn] at q hft
          have HN := Lib.hid hn
          obtain ⟨q0, q1, q2, q3, q4, q5, q6, q7, q8, q9⟩ := q
          have bad : ¬ rlB s k → rnB s = false := fun h => rnB_false fun hh => h (rl_b hh.1 hh.2 hlt)
          have BAD := Lib.hid bad
          have step : rlB s k → ∀ j, j < k + 1 → rlB s j := fun h j hj => by
            by_cases e : j = k
            · subst e; exact h
            · exact HAB.out j (by omega)
          have STEP := Lib.hid step
          have i1 : (0 : Int) ≤ (k : Int) := by omega
          have i2 : (k : Int) < (s.notes.length : Int) := by omega
          have e1 := Ext.alloc' wr (.cells #[.int .i64 n.v, .int .i64 n.f, .int .i64 n.u, .int .i64 n.x.a, .int .i64 n.x.b, .int .i64 n.x.c, .int .i64 n.x.d, .int .i64 n.x.e, .int .i64 n.x.f, .bool n.tied] 69)
          have bN := block_new wr (.cells #[.int .i64 n.v, .int .i64 n.f, .int .i64 n.u, .int .i64 n.x.a, .int .i64 n.x.b, .int .i64 n.x.c, .int .i64 n.x.d, .int .i64 n.x.e, .int .i64 n.x.f, .bool n.tied] 69)
          have BN := Lib.hid bN
          have k0 := e1.cell c0; have k1 := e1.cell c1; have k2 := e1.cell c2; have k3 := e1.cell c3
          have HFIND : Hid (rlB s k ↔ (n.tied = true → ∃ m : Nat, findL s.notes (endP n.v n.f) 0 = (m : Int) ∧ (s.N m).x = n.x)) := Lib.hid (by unfold rlB; rw [HN.out])
          obtain ⟨r, hr⟩ : ∃ r, findL s.notes (endP n.v n.f) 0 = r := ⟨_, rfl⟩
          rw [hr] at hft HFIND
          have HR := Lib.hid hr
          have HFK := Lib.hid hft
          clear hn bad bN step hr hft
          go_wp2_with fail
          refine (ahead_walk _ _ _ s n.v n.f _ (S1.ext (Y.trans e1))).mono ?_
          rw [HR.out]
          rintro e w5 ⟨rfl, x5⟩
          have X5 : Ext W w5 := Y.trans (e1.trans x5)
          have bD := block_ext x5 BN.out
          obtain ⟨D, hD⟩ : ∃ D, wr.heap.size = D := ⟨_, rfl⟩
          rw [hD] at bD ⊢
          clear hD
          have d3 := block_cell bD 3 _ rfl; have d4 := block_cell bD 4 _ rfl; have d5 := block_cell bD 5 _ rfl; have d6 := block_cell bD 6 _ rfl; have d7 := block_cell bD 7 _ rfl; have d8 := block_cell bD 8 _ rfl; have d9 := block_cell bD 9 _ rfl
          clear c0 c1 c2 c3 k0 k1 k2 k3 q0 q1 q2 q3 q4 q5 q6 q7 q8 q9 e1 x5 BN bD
          obtain ⟨c0, c1, c2, c3⟩ := CB.out w5 X5
          clear c0 c2 c3
          cases ht : n.tied with
          | false =>
            rw [ht] at d9
            have HS := Lib.hid (STEP.out (HFIND.out.2 (fun h => by rw [ht] at h; cases h)))
            clear ht
            go_wp2
            go_quiet (fail)
            go_wp2
            go_roundw
            case rel => exact ⟨k + 1, by omega, by go_num, HS.out, X5.drewN _⟩
            case measure => simp [intOf] <;> omega
          | true =>
            rw [ht] at d9
            have HT := Lib.hid ht
            clear ht
            rcases HFK.out with ⟨he, -⟩ | ⟨m, hm, he, -, -⟩
            · subst he
              have HRR := Lib.hid (BAD.out (fun h => by obtain ⟨m, h1, -⟩ := HFIND.out.1 h HT.out; omega))
              go_wp2
              go_quiet (fail)
              go_wp2
              go_ret
              exact ⟨by rw [HRR.out] <;> rfl, XW.trans (X5.drewN _)⟩
            · subst he
              have hmn : m < s.notes.length := by omega
              obtain ⟨b2, o2, e', p⟩ := Sl.nt (S1.nt.ext X5) m hmn
              obtain ⟨rfl, rfl⟩ : b = b2 ∧ o = o2 := by simp at e'; exact e'
              rw [← Sc.N_eq hmn] at p
              obtain ⟨y, hy⟩ : ∃ n, s.N m = n := ⟨_, rfl⟩
              rw [hy] at p
              have HY := Lib.hid hy
              obtain ⟨-, -, -, p3, p4, p5, p6, p7, p8, -⟩ := p
              have i3 : (0 : Int) ≤ (m : Int) := by omega
              have i4 : (m : Int) < (s.notes.length : Int) := by omega
              have i5 : decide ((m : Int) < 0) = false := decide_eq_false (by omega)
              have hq := fun w => run_eq_v6 (P := Tryz.prog) Tryz.underlying32 Tryz.underlying3 (by kernel_rfl) y.x n.x 9998 w
              clear hy e' hm hmn
              by_cases hx : y.x = n.x
              · have HS := Lib.hid (STEP.out (HFIND.out.2 (fun _ => ⟨m, rfl, by rw [HY.out]; exact hx⟩)))
                rw [decide_eq_true hx] at hq
                clear hx
                go_wp2
                go_quiet (fail)
                go_wp2
                go_roundw
                case rel => exact ⟨k + 1, by omega, by go_num, HS.out, X5.drewN _⟩
                case measure => simp [intOf] <;> omega
              · have HRR := Lib.hid (BAD.out (fun h => by
                  obtain ⟨m', h1, h2⟩ := HFIND.out.1 h HT.out
                  obtain rfl : m = m' := by omega
                  rw [HY.out] at h2; exact hx h2))
                rw [decide_eq_false hx] at hq
                clear hx
                go_wp2
                go_quiet (fail)
                go_wp2
                go_ret
                exact ⟨by rw [HRR.out] <;> rfl, XW.trans (X5.drewN _)⟩
        · obtain rfl : k = s.notes.length := by omega
          have HRR : Hid (rnB s = true) := Lib.hid (rnB_iff.2 ⟨HNT.out, rl_vc HA.out HAB.out⟩)
          clear c0 c2 c3
          go_wp2
          go_ret
          exact ⟨by rw [HRR.out] <;> rfl, XW.trans Y⟩
end Go.Proofs.YtgfaiihekibcbaaGreatDoor

/-
  Walk: schismaref19.Pairs.
-/
set_option linter.unusedVariables false
namespace Go.Sx.Sc
open Go.Sx.Sz
section
variable {s : Sc}
def rpA (s : Sc) (i : Nat) : Prop := pairOk s (s.P i) ∧ (0 < i → lexP (s.P (i - 1)) (s.P i))
set_option maxRecDepth 100000 in
theorem rp_a (h : prsOk s) {i : Nat} (hi : i < s.pairs.length) : rpA s i :=
  ⟨h.1 i hi, fun h0 => by have := h.2 (i - 1) (by omega); rwa [Nat.sub_add_cancel h0] at this⟩
set_option maxRecDepth 100000 in
theorem rp_ok (h : ∀ i, i < s.pairs.length → rpA s i) : prsOk s := ⟨fun i hi => (h i hi).1, fun i hi => (h (i + 1) (by omega)).2 (by omega)⟩
end
end Go.Sx.Sc
namespace Go.Proofs.YtgfaiihekibcbaaGreatDoor
open Go.RowKit Go.Sx Go.Sx.Sz Go.Sx.Sc

set_option maxRecDepth 100000 in
set_option maxHeartbeats 4000000 in
theorem rpairs_walk (vn vp vc : Value) (s : Sc) (w : World) (S : ScR w vn vp vc s) (hnt : ntOk s) (hnn : s.notes.length ≤ 200) (hpn : s.pairs.length ≤ 400) : Calls Tryz.prog 14 #[.agg #[.int .i64 s.voices, vn, vp, vc]] w fun e w' => e = .returned (.bool (decide (prsOk s))) ∧ Ext w w' := by
  obtain ⟨an, cn, rfl, -, -, hln⟩ := S.nt.len
  obtain ⟨ap, cp, rfl, -, -, hlp⟩ := S.pr.len
  obtain ⟨ac, cc, rfl, -, -, hlc⟩ := S.cd.len
  have XW := Ext.alloc' w (.cells #[.int .i64 s.voices, .slice an s.notes.length cn, .slice ap s.pairs.length cp, .slice ac s.cads.length cc] 26)
  have b1 := block_new w (.cells #[.int .i64 s.voices, .slice an s.notes.length cn, .slice ap s.pairs.length cp, .slice ac s.cads.length cc] 26)
  obtain ⟨W, hW⟩ : ∃ W, w.alloc (.cells #[.int .i64 s.voices, .slice an s.notes.length cn, .slice ap s.pairs.length cp, .slice ac s.cads.length cc] 26) = W := ⟨_, rfl⟩
  rw [hW] at XW b1
  have HW := Lib.hid hW
  obtain ⟨B, hB⟩ : ∃ B, w.heap.size = B := ⟨_, rfl⟩
  rw [hB] at b1
  have CB : Hid (∀ w', Ext W w' → w'.cell? ⟨B, 1, none⟩ = some (.slice an s.notes.length cn) ∧ w'.cell? ⟨B, 2, none⟩ = some (.slice ap s.pairs.length cp)) := Lib.hid fun w' x =>
    ⟨x.cell (block_cell b1 1 _ rfl), x.cell (block_cell b1 2 _ rfl)⟩
  have S1 := S.ext XW
  have HB := Lib.hid hB
  have HNT := Lib.hid hnt
  clear hW b1 S hB hnt
  go_enter Tryz.func14, Tryz.ntmps14
  go_wp2
  rw [HW.out, HB.out]
  clear HW HB
  go_loopw [3, 4, 5, 6] (fun i _ _ _ wr => ∃ k : Nat, k ≤ s.pairs.length ∧ i = .int .i64 k ∧ (∀ j, j < k → rpA s j) ∧ Ext W wr) (fun i _ _ _ _ => s.pairs.length - (intOf i).toNat)
  case atStart => exact ⟨0, by omega, rfl, fun j h => absurd h (Nat.not_lt_zero _), Ext.refl _⟩
  case round =>
    obtain ⟨k, hk, rfl, hall, X⟩ := hrel
    have HA := Lib.hid hall
    clear hall
    obtain ⟨c1, c2⟩ := CB.out wr X
    by_cases hlt : k < s.pairs.length
    · obtain ⟨b, o, rfl, q⟩ := Sl.pr (S1.pr.ext X) k hlt
      rw [← Sc.P_eq hlt] at q
      obtain ⟨p, hp⟩ : ∃ n, s.P k = n := ⟨_, rfl⟩
      rw [hp] at q
      have HP := Lib.hid hp
      obtain ⟨q0, q1, q2, q3, q4, q5, q6, q7, q8⟩ := q
      have BAD : Hid (¬ rpA s k → decide (prsOk s) = false) := Lib.hid fun h => decide_eq_false fun hh => h (rp_a hh hlt)
      have BAP : Hid (¬ pairOk s p → decide (prsOk s) = false) := Lib.hid fun h => BAD.out fun hh => h (by rw [← HP.out]; exact hh.1)
      have i1 : (0 : Int) ≤ (k : Int) := by omega
      have i2 : (k : Int) < (s.pairs.length : Int) := by omega
      have e1 := Ext.alloc' wr (.cells #[.int .i64 p.a, .int .i64 p.b, .int .i64 p.want.a, .int .i64 p.want.b, .int .i64 p.want.c, .int .i64 p.want.d, .int .i64 p.want.e, .int .i64 p.want.f, .int .i64 p.bound] 48)
      have bN := block_new wr (.cells #[.int .i64 p.a, .int .i64 p.b, .int .i64 p.want.a, .int .i64 p.want.b, .int .i64 p.want.c, .int .i64 p.want.d, .int .i64 p.want.e, .int .i64 p.want.f, .int .i64 p.bound] 48)
      have BN := Lib.hid bN
      have k1 := e1.cell c1; have k2 := e1.cell c2
      clear hp bN
      by_cases g1 : p.a < 0
      · have HR := Lib.hid (BAP.out (fun h => by unfold pairOk at h; omega))
        go_wp2
        go_ret
        exact ⟨by rw [HR.out] <;> rfl, XW.trans (X.trans e1)⟩
      by_cases g2 : p.b ≤ p.a
      · have HR := Lib.hid (BAP.out (fun h => by unfold pairOk at h; omega))
        go_wp2
        go_ret
        exact ⟨by rw [HR.out] <;> rfl, XW.trans (X.trans e1)⟩
      by_cases g3 : (s.notes.length : Int) ≤ p.b
      · have HR := Lib.hid (BAP.out (fun h => by unfold pairOk at h; omega))
        go_wp2
        go_ret
        exact ⟨by rw [HR.out] <;> rfl, XW.trans (X.trans e1)⟩
      go_wp2_with fail
      refine (rbounded_walk p.want 16 (by omega) (by omega) _).mono ?_
      by_cases g4 : within p.want 16 = true
      case neg =>
        have HR := Lib.hid (BAP.out (fun h => by unfold pairOk at h; exact g4 h.2.2.1))
        rw [Bool.eq_false_iff.2 g4]
        clear g4
        rintro e w5 ⟨rfl, x5⟩
        have x6 : Ext (wr.alloc (.cells #[.int .i64 p.a, .int .i64 p.b, .int .i64 p.want.a, .int .i64 p.want.b, .int .i64 p.want.c, .int .i64 p.want.d, .int .i64 p.want.e, .int .i64 p.want.f, .int .i64 p.bound] 48)) w5 := x5
        clear x5 c1 c2 k1 k2 q0 q1 q2 q3 q4 q5 q6 q7 q8
        go_wp2
        go_ret
        exact ⟨by rw [HR.out] <;> rfl, XW.trans (X.trans (e1.trans x6))⟩
      have HG4 := Lib.hid g4
      rw [g4]
      clear g4
      rintro e w5 ⟨rfl, x5⟩
      have X5 : Ext W w5 := X.trans (e1.trans x5)
      have bD := block_ext x5 BN.out
      obtain ⟨D, hD⟩ : ∃ D, wr.heap.size = D := ⟨_, rfl⟩
      rw [hD] at bD ⊢
      clear hD c1 c2 k1 k2 q0 q1 q2 q3 q4 q5 q6 q7 q8 BN x5 e1
      have d0 := block_cell bD 0 _ rfl; have d1 := block_cell bD 1 _ rfl; have d8 := block_cell bD 8 _ rfl
      obtain ⟨c1, c2⟩ := CB.out w5 X5
      by_cases g5 : p.bound < 0
      · have HR := Lib.hid (BAP.out (fun h => by unfold pairOk at h; omega))
        go_wp2
        go_ret
        exact ⟨by rw [HR.out] <;> rfl, XW.trans X5⟩
      by_cases g6 : 100000 < p.bound
      · have HR := Lib.hid (BAP.out (fun h => by unfold pairOk at h; omega))
        go_wp2
        go_ret
        exact ⟨by rw [HR.out] <;> rfl, XW.trans X5⟩
      obtain ⟨A, hA⟩ : ∃ a : Nat, p.a = a := ⟨p.a.toNat, by omega⟩
      obtain ⟨C, hC⟩ : ∃ a : Nat, p.b = a := ⟨p.b.toNat, by omega⟩
      have hAC : A < C := by omega
      have hCn : C < s.notes.length := by omega
      have hAn : A < s.notes.length := by omega
      obtain ⟨bn, on, rfl, qa⟩ := Sl.nt (S1.nt.ext X5) A hAn
      obtain ⟨b2, o2, e', qc⟩ := Sl.nt (S1.nt.ext X5) C hCn
      obtain ⟨rfl, rfl⟩ : bn = b2 ∧ on = o2 := by simp at e'; exact e'
      rw [← Sc.N_eq hAn] at qa
      rw [← Sc.N_eq hCn] at qc
      have hna := HNT.out.note hAn
      have hnc := HNT.out.note hCn
      have hle := HNT.out.from_le (show A ≤ C by omega) hCn
      have hpk : pairOk s p ↔ ((s.N A).v ≠ (s.N C).v ∧ (s.N C).f < (s.N A).u) := by
        unfold pairOk
        rw [hA, hC, Int.toNat_natCast, Int.toNat_natCast]
        exact ⟨fun h => ⟨h.2.2.2.2.1, h.2.2.2.2.2⟩, fun h => ⟨by omega, by omega, HG4.out, by omega, h.1, h.2⟩⟩
      obtain ⟨⟨xv, xf, xu, xx, xt⟩, hx⟩ : ∃ x, s.N A = x := ⟨_, rfl⟩
      obtain ⟨⟨yv, yf, yu, yx, yt⟩, hy⟩ : ∃ x, s.N C = x := ⟨_, rfl⟩
      rw [hx] at qa hna hpk hle
      rw [hy] at qc hnc hpk hle
      unfold noteOk at hna hnc
      dsimp only at hna hnc hpk hle
      obtain ⟨a0, a1, a2, a3, a4, a5, a6, a7, a8, a9⟩ := qa
      obtain ⟨r0, r1, r2, r3, r4, r5, r6, r7, r8, r9⟩ := qc
      dsimp only at a0 a1 a2 a3 a4 a5 a6 a7 a8 a9 r0 r1 r2 r3 r4 r5 r6 r7 r8 r9
      have j1 : xf < xu := hna.2.1.2
      have j2 : yf < yu := hnc.2.1.2
      have HPK := Lib.hid hpk
      have HPA := Lib.hid hA; have HPC := Lib.hid hC
      rw [hA] at d0; rw [hC] at d1
      have i3 : (0 : Int) ≤ (A : Int) := by omega
      have i4 : (A : Int) < (s.notes.length : Int) := by omega
      have i5 : (0 : Int) ≤ (C : Int) := by omega
      have i6 : (C : Int) < (s.notes.length : Int) := by omega
      have ea := Ext.alloc' w5 (.cells #[.int .i64 xv, .int .i64 xf, .int .i64 xu, .int .i64 xx.a, .int .i64 xx.b, .int .i64 xx.c, .int .i64 xx.d, .int .i64 xx.e, .int .i64 xx.f, .bool xt] 69)
      have l1 := ea.cell c1; have l2 := ea.cell c2; have f1 := ea.cell d1
      have u0 := ea.cell r0; have u1 := ea.cell r1; have u2 := ea.cell r2; have u3 := ea.cell r3; have u4 := ea.cell r4; have u5 := ea.cell r5; have u6 := ea.cell r6; have u7 := ea.cell r7; have u8 := ea.cell r8; have u9 := ea.cell r9
      have ba := block_alloc (block_new w5 (.cells #[.int .i64 xv, .int .i64 xf, .int .i64 xu, .int .i64 xx.a, .int .i64 xx.b, .int .i64 xx.c, .int .i64 xx.d, .int .i64 xx.e, .int .i64 xx.f, .bool xt] 69)) (.cells #[.int .i64 yv, .int .i64 yf, .int .i64 yu, .int .i64 yx.a, .int .i64 yx.b, .int .i64 yx.c, .int .i64 yx.d, .int .i64 yx.e, .int .i64 yx.f, .bool yt] 69)
      have bb := block_at (w := w5.alloc (.cells #[.int .i64 xv, .int .i64 xf, .int .i64 xu, .int .i64 xx.a, .int .i64 xx.b, .int .i64 xx.c, .int .i64 xx.d, .int .i64 xx.e, .int .i64 xx.f, .bool xt] 69)) (n := w5.heap.size + 1) (by simp) (.cells #[.int .i64 yv, .int .i64 yf, .int .i64 yu, .int .i64 yx.a, .int .i64 yx.b, .int .i64 yx.c, .int .i64 yx.d, .int .i64 yx.e, .int .i64 yx.f, .bool yt] 69)
      have X6 : Ext w5 ((w5.alloc (.cells #[.int .i64 xv, .int .i64 xf, .int .i64 xu, .int .i64 xx.a, .int .i64 xx.b, .int .i64 xx.c, .int .i64 xx.d, .int .i64 xx.e, .int .i64 xx.f, .bool xt] 69)).alloc (.cells #[.int .i64 yv, .int .i64 yf, .int .i64 yu, .int .i64 yx.a, .int .i64 yx.b, .int .i64 yx.c, .int .i64 yx.d, .int .i64 yx.e, .int .i64 yx.f, .bool yt] 69)) := ea.trans (Ext.alloc' _ _)
      obtain ⟨W6, hW6⟩ : ∃ W, (w5.alloc (.cells #[.int .i64 xv, .int .i64 xf, .int .i64 xu, .int .i64 xx.a, .int .i64 xx.b, .int .i64 xx.c, .int .i64 xx.d, .int .i64 xx.e, .int .i64 xx.f, .bool xt] 69)).alloc (.cells #[.int .i64 yv, .int .i64 yf, .int .i64 yu, .int .i64 yx.a, .int .i64 yx.b, .int .i64 yx.c, .int .i64 yx.d, .int .i64 yx.e, .int .i64 yx.f, .bool yt] 69) = W := ⟨_, rfl⟩
      rw [hW6] at ba bb X6
      have HW6 := Lib.hid hW6
      have bD6 := block_ext X6 bD
      have XX6 : Ext W W6 := X5.trans X6
      obtain ⟨v0, v1, v2⟩ : W6.cell? ⟨w5.heap.size, 0, none⟩ = some (.int .i64 xv) ∧ W6.cell? ⟨w5.heap.size, 1, none⟩ = some (.int .i64 xf) ∧ W6.cell? ⟨w5.heap.size, 2, none⟩ = some (.int .i64 xu) := ⟨block_cell ba 0 _ rfl, block_cell ba 1 _ rfl, block_cell ba 2 _ rfl⟩
      obtain ⟨t0, t1, t2⟩ : W6.cell? ⟨w5.heap.size + 1, 0, none⟩ = some (.int .i64 yv) ∧ W6.cell? ⟨w5.heap.size + 1, 1, none⟩ = some (.int .i64 yf) ∧ W6.cell? ⟨w5.heap.size + 1, 2, none⟩ = some (.int .i64 yu) := ⟨block_cell bb 0 _ rfl, block_cell bb 1 _ rfl, block_cell bb 2 _ rfl⟩
      have HV := Lib.hid v0; have HV1 := Lib.hid v1; have HV2 := Lib.hid v2; have HT0 := Lib.hid t0; have HT1 := Lib.hid t1; have HT2 := Lib.hid t2
      clear hx hy hpk hna hnc e' hW6 ba bb bD v0 v1 v2 t0 t1 t2 ea hA hC g1 g2 g3
      go_upto_region 9 with fail
      rw [HW6.out]
      have v0 := HV.out; have v1 := HV1.out; have v2 := HV2.out; have t0 := HT0.out; have t1 := HT1.out; have t2 := HT2.out
      clear HV HV1 HV2 HT0 HT1 HT2 l1 l2 f1 u0 u1 u2 u3 u4 u5 u6 u7 u8 u9 a0 a1 a2 a3 a4 a5 a6 a7 a8 a9 r0 r1 r2 r3 r4 r5 r6 r7 r8 r9 c1 c2 d0 d1 d8 i3 i4 i5 i6
      go_cut [82] (fun s82 wx => ∃ b : Bool, s82 = .bool b ∧ Hid ((b = false ∧ pairOk s p) ∨ (b = true ∧ ¬ pairOk s p)) ∧ W6 = wx)
      case first =>
        by_cases hv : xv = yv
        · have hv' : (xv == yv) = true := beq_iff_eq.2 hv
          have HN : Hid (¬ pairOk s p) := Lib.hid fun h => (HPK.out.1 h).1 hv
          clear hv
          go_wp2_with fail
          go_meet
          exact ⟨_, rfl, Lib.hid (.inr ⟨rfl, HN.out⟩), rfl⟩
        · have hv' : (xv == yv) = false := beq_eq_false_iff_ne.2 hv
          have HI : Hid (pairOk s p ↔ yf < xu) := Lib.hid ⟨fun h => (HPK.out.1 h).2, fun h => HPK.out.2 ⟨hv, h⟩⟩
          clear hv
          rcases (show xf < yf ∨ xf = yf by omega) with m1 | m1
          all_goals rcases Int.lt_trichotomy xu yu with m2 | m2 | m2
          all_goals by_cases m3 : yf < xu
          all_goals
            (try (exfalso; omega))
          all_goals
            (first | (have HN : Hid (pairOk s p) := Lib.hid (HI.out.2 m3)) | (have HN : Hid (¬ pairOk s p) := Lib.hid (fun h => m3 (HI.out.1 h))))
            go_wp2_with fail
            go_meet
            first
            | (refine ⟨_, rfl, Lib.hid (.inl ⟨?_, HN.out⟩), rfl⟩
               first | rfl | exact decide_eq_false (by omega))
            | (refine ⟨_, rfl, Lib.hid (.inr ⟨?_, HN.out⟩), rfl⟩
               first | rfl | exact decide_eq_true (by omega))
      case rest =>
        obtain ⟨bb, rfl, HBB, rfl⟩ := hcut
        cases bb with
        | true =>
          have HR := Lib.hid (BAP.out (HBB.out.resolve_left (by simp)).2)
          go_wp2
          go_ret
          exact ⟨by rw [HR.out] <;> rfl, XW.trans XX6⟩
        | false =>
          have HL := Lib.hid (HBB.out.resolve_right (by simp)).2
          clear v0 v1 v2 t0 t1 t2
          go_upto_region 11 with fail
          obtain ⟨d0, d1⟩ : W6.cell? ⟨D, 0, none⟩ = some (.int .i64 p.a) ∧ W6.cell? ⟨D, 1, none⟩ = some (.int .i64 p.b) := ⟨block_cell bD6 0 _ (by rw [HPA.out]; rfl), block_cell bD6 1 _ (by rw [HPC.out]; rfl)⟩
          obtain ⟨c1, c2⟩ := CB.out W6 XX6
          clear bD6 c1
          go_cut [120] (fun s120 wx => ∃ b : Bool, s120 = .bool b ∧ Hid ((b = false ∧ (0 < k → lexP (s.P (k - 1)) p)) ∨ (b = true ∧ ¬ rpA s k)) ∧ Ext W6 wx)
          case first =>
            by_cases hk0 : k = 0
            · have f3 : decide (0 < k) = false := decide_eq_false (by omega)
              have HLX : Hid (0 < k → lexP (s.P (k - 1)) p) := Lib.hid (fun h => by omega)
              clear hk0
              go_quiet (fail)
              go_wp2_with fail
              go_meet
              exact ⟨_, rfl, Lib.hid (.inl ⟨rfl, HLX.out⟩), (Ext.refl _).drewN _⟩
            · have hk1 : k - 1 < s.pairs.length := by omega
              obtain ⟨b2, o2, e', qq⟩ := Sl.pr (S1.pr.ext XX6) (k - 1) hk1
              obtain ⟨rfl, rfl⟩ : b = b2 ∧ o = o2 := by simp at e'; exact e'
              rw [← Sc.P_eq hk1] at qq
              obtain ⟨m, hm⟩ : ∃ n, s.P (k - 1) = n := ⟨_, rfl⟩
              rw [hm] at qq
              have HM := Lib.hid hm
              have p0 := qq.c0; have p1 := qq.c1
              have f3 : decide (0 < k) = true := decide_eq_true (by omega)
              have f4 : IntKind.i64.wrap ((k : Int) - 1) = ((k - 1 : Nat) : Int) := by rw [IntWalk.i64_in _ (by omega)]; omega
              have f5 : (0 : Int) ≤ ((k - 1 : Nat) : Int) := by omega
              have f6 : ((k - 1 : Nat) : Int) < (s.pairs.length : Int) := by omega
              have HLX : Hid (lexP m p → (0 < k → lexP (s.P (k - 1)) p)) := Lib.hid (fun h _ => by rw [HM.out]; exact h)
              have HLY : Hid (¬ lexP m p → ¬ rpA s k) := Lib.hid (fun h h2 => h (by have := h2.2 (by omega); rwa [HM.out, HP.out] at this))
              clear hm hk0 qq e' hk1
              by_cases g1 : p.a < m.a
              · have HL := Lib.hid (HLY.out (fun h => by unfold lexP at h; omega))
                have g1' : decide (p.a < m.a) = true := decide_eq_true g1
                clear g1
                go_quiet (fail)
                go_wp2_with fail
                go_meet
                exact ⟨_, rfl, Lib.hid (.inr ⟨rfl, HL.out⟩), (Ext.refl _).drewN _⟩
              have g1' : decide (p.a < m.a) = false := decide_eq_false g1
              by_cases g2 : p.a = m.a
              · have g2' : (p.a == m.a) = true := beq_iff_eq.2 g2
                by_cases g3 : p.b ≤ m.b
                · have HL := Lib.hid (HLY.out (fun h => by unfold lexP at h; omega))
                  have g3' : decide (p.b ≤ m.b) = true := decide_eq_true g3
                  clear g1 g2 g3
                  go_quiet (fail)
                  go_wp2_with fail
                  go_meet
                  exact ⟨_, rfl, Lib.hid (.inr ⟨rfl, HL.out⟩), (Ext.refl _).drewN _⟩
                · have HL := Lib.hid (HLX.out (by unfold lexP; omega))
                  have g3' : decide (p.b ≤ m.b) = false := decide_eq_false g3
                  clear g1 g2 g3
                  go_quiet (fail)
                  go_wp2_with fail
                  go_meet
                  exact ⟨_, rfl, Lib.hid (.inl ⟨rfl, HL.out⟩), (Ext.refl _).drewN _⟩
              · have g2' : (p.a == m.a) = false := beq_eq_false_iff_ne.2 g2
                have HL := Lib.hid (HLX.out (by unfold lexP; omega))
                clear g1 g2
                go_quiet (fail)
                go_wp2_with fail
                go_meet
                exact ⟨_, rfl, Lib.hid (.inl ⟨rfl, HL.out⟩), (Ext.refl _).drewN _⟩
          case rest =>
            obtain ⟨bb, rfl, HBC, x7⟩ := hcut
            clear d0 d1 c2
            cases bb with
            | true =>
              have HR := Lib.hid (BAD.out (HBC.out.resolve_left (by simp)).2)
              go_wp2
              go_ret
              exact ⟨by rw [HR.out] <;> rfl, XW.trans (XX6.trans x7)⟩
            | false =>
              have HOK : Hid (rpA s k) := Lib.hid ⟨by rw [HP.out]; exact HL.out, by rw [HP.out]; exact (HBC.out.resolve_right (by simp)).2⟩
              go_wp2
              go_roundw
              case rel => exact ⟨k + 1, by omega, by go_num, fun j hj => by
                by_cases e : j = k
                · subst e; exact HOK.out
                · exact HA.out j (by omega), XX6.trans x7⟩
              case measure => simp [intOf] <;> omega
    · obtain rfl : k = s.pairs.length := by omega
      have HR : Hid (decide (prsOk s) = true) := Lib.hid (decide_eq_true (rp_ok HA.out))
      clear c1
      go_wp2
      go_ret
      exact ⟨by rw [HR.out] <;> rfl, XW.trans X⟩
end Go.Proofs.YtgfaiihekibcbaaGreatDoor

/-
  Walk: schismaref19.Valid.
-/
set_option linter.unusedVariables false
namespace Go.Sx.Sc
open Go.Sx.Sz
section
variable {s : Sc}
def rcA (s : Sc) (i : Nat) : Prop := (1 ≤ s.C i ∧ s.C i ≤ 99999) ∧ (0 < i → s.C (i - 1) < s.C i)
set_option maxRecDepth 100000 in
theorem rc_a (h : cadOk s) {i : Nat} (hi : i < s.cads.length) : rcA s i :=
  ⟨h.1 i hi, fun h0 => by have := h.2 (i - 1) (by omega); rwa [Nat.sub_add_cancel h0] at this⟩
set_option maxRecDepth 100000 in
theorem rc_ok (h : ∀ i, i < s.cads.length → rcA s i) : cadOk s := ⟨fun i hi => (h i hi).1, fun i hi => (h (i + 1) (by omega)).2 (by omega)⟩
end
end Go.Sx.Sc
namespace Go.Proofs.YtgfaiihekibcbaaGreatDoor
open Go.RowKit Go.Sx Go.Sx.Sz Go.Sx.Sc

set_option maxRecDepth 100000 in
set_option maxHeartbeats 4000000 in
theorem rvalid19_walk (vn vp vc : Value) (s : Sc) (w : World) (S : ScR w vn vp vc s) : Calls Tryz.prog 6 #[.agg #[.int .i64 s.voices, vn, vp, vc]] w fun e w' => e = .returned (.bool (scB s)) ∧ Ext w w' := by
  obtain ⟨an, cn, rfl, -, -, hln⟩ := S.nt.len
  obtain ⟨ap, cp, rfl, -, -, hlp⟩ := S.pr.len
  obtain ⟨ac, cc, rfl, -, -, hlc⟩ := S.cd.len
  have XW := Ext.alloc' w (.cells #[.int .i64 s.voices, .slice an s.notes.length cn, .slice ap s.pairs.length cp, .slice ac s.cads.length cc] 26)
  have b1 := block_new w (.cells #[.int .i64 s.voices, .slice an s.notes.length cn, .slice ap s.pairs.length cp, .slice ac s.cads.length cc] 26)
  obtain ⟨W, hW⟩ : ∃ W, w.alloc (.cells #[.int .i64 s.voices, .slice an s.notes.length cn, .slice ap s.pairs.length cp, .slice ac s.cads.length cc] 26) = W := ⟨_, rfl⟩
  rw [hW] at XW b1
  have HW := Lib.hid hW
  have CB : Hid (∀ w', Ext W w' → w'.cell? ⟨w.heap.size, 0, none⟩ = some (.int .i64 s.voices) ∧ w'.cell? ⟨w.heap.size, 1, none⟩ = some (.slice an s.notes.length cn) ∧ w'.cell? ⟨w.heap.size, 2, none⟩ = some (.slice ap s.pairs.length cp) ∧ w'.cell? ⟨w.heap.size, 3, none⟩ = some (.slice ac s.cads.length cc)) := Lib.hid fun w' x =>
    ⟨x.cell (block_cell b1 0 _ rfl), x.cell (block_cell b1 1 _ rfl), x.cell (block_cell b1 2 _ rfl), x.cell (block_cell b1 3 _ rfl)⟩
  have S1 := S.ext XW
  have bad : ¬ szOk' s → scB s = false := fun h => scB_false fun hh => h hh.sz
  have BSZ := Lib.hid bad
  clear hW b1 S bad
  by_cases g1 : s.voices < 1
  · have HR := Lib.hid (BSZ.out (fun h => by unfold szOk' at h; omega))
    go_enter Tryz.func6, Tryz.ntmps6
    go_wp2
    rw [HW.out]
    go_ret
    exact ⟨by rw [HR.out] <;> rfl, XW⟩
  by_cases g2 : 8 < s.voices
  · have HR := Lib.hid (BSZ.out (fun h => by unfold szOk' at h; omega))
    go_enter Tryz.func6, Tryz.ntmps6
    go_wp2
    rw [HW.out]
    go_ret
    exact ⟨by rw [HR.out] <;> rfl, XW⟩
  by_cases g3 : 200 < s.notes.length
  · have HR := Lib.hid (BSZ.out (fun h => by unfold szOk' at h; omega))
    have g3' : (200 : Int) < (s.notes.length : Int) := by omega
    go_enter Tryz.func6, Tryz.ntmps6
    go_wp2
    rw [HW.out]
    go_ret
    exact ⟨by rw [HR.out] <;> rfl, XW⟩
  have g3' : ¬ (200 : Int) < (s.notes.length : Int) := by omega
  by_cases g4 : 400 < s.pairs.length
  · have HR := Lib.hid (BSZ.out (fun h => by unfold szOk' at h; omega))
    have g4' : (400 : Int) < (s.pairs.length : Int) := by omega
    go_enter Tryz.func6, Tryz.ntmps6
    go_wp2
    rw [HW.out]
    go_ret
    exact ⟨by rw [HR.out] <;> rfl, XW⟩
  have g4' : ¬ (400 : Int) < (s.pairs.length : Int) := by omega
  by_cases g5 : 15 < s.cads.length
  · have HR := Lib.hid (BSZ.out (fun h => by unfold szOk' at h; omega))
    have g5' : (15 : Int) < (s.cads.length : Int) := by omega
    go_enter Tryz.func6, Tryz.ntmps6
    go_wp2
    rw [HW.out]
    go_ret
    exact ⟨by rw [HR.out] <;> rfl, XW⟩
  have g5' : ¬ (15 : Int) < (s.cads.length : Int) := by omega
  have HSZ : Hid (szOk' s) := Lib.hid (by unfold szOk'; omega)
  go_enter Tryz.func6, Tryz.ntmps6
  go_wp2
  rw [HW.out]
  obtain ⟨B, hB⟩ : ∃ B, w.heap.size = B := ⟨_, rfl⟩
  rw [hB] at CB ⊢
  clear HW hB g1 g2 g3 g3' g4 g4' g5'
  go_loopw [3] (fun i wr => ∃ k : Nat, k ≤ s.cads.length ∧ i = .int .i64 k ∧ (∀ j, j < k → rcA s j) ∧ Ext W wr) (fun i _ => s.cads.length - (intOf i).toNat)
  case atStart => exact ⟨0, by omega, rfl, fun j h => absurd h (Nat.not_lt_zero _), Ext.refl _⟩
  case round =>
    obtain ⟨k, hk, rfl, hall, X⟩ := hrel
    have HA := Lib.hid hall
    clear hall
    obtain ⟨c0, c1, c2, c3⟩ := CB.out wr X
    by_cases hlt : k < s.cads.length
    · obtain ⟨b, o, rfl, q0⟩ := Sl.num (S1.cd.ext X) k hlt
      rw [← Sc.C_eq hlt] at q0
      obtain ⟨c, hc⟩ : ∃ c, s.C k = c := ⟨_, rfl⟩
      rw [hc] at q0
      have HC := Lib.hid hc
      have BAD : Hid (¬ rcA s k → scB s = false) := Lib.hid fun h => scB_false fun hh => h (rc_a hh.cd hlt)
      have STEP : Hid (rcA s k → ∀ j, j < k + 1 → rcA s j) := Lib.hid fun h j hj => by
        by_cases e : j = k
        · subst e; exact h
        · exact HA.out j (by omega)
      have i1 : (0 : Int) ≤ (k : Int) := by omega
      have i2 : (k : Int) < (s.cads.length : Int) := by omega
      clear hc c0 c1 c2
      by_cases m1 : c < 1
      · have HR := Lib.hid (BAD.out (fun h => by unfold rcA at h; have := HC.out; omega))
        have m1' : decide (c < 1) = true := decide_eq_true m1
        clear m1
        go_wp2
        go_quiet (fail)
        go_wp2
        go_ret
        exact ⟨by rw [HR.out] <;> rfl, XW.trans (X.drewN _)⟩
      have m1' : decide (c < 1) = false := decide_eq_false m1
      by_cases m2 : 99999 < c
      · have HR := Lib.hid (BAD.out (fun h => by unfold rcA at h; have := HC.out; omega))
        have m2' : decide (99999 < c) = true := decide_eq_true m2
        clear m1 m2
        go_wp2
        go_quiet (fail)
        go_wp2
        go_ret
        exact ⟨by rw [HR.out] <;> rfl, XW.trans (X.drewN _)⟩
      have m2' : decide (99999 < c) = false := decide_eq_false m2
      have HM : Hid (1 ≤ c ∧ c ≤ 99999) := Lib.hid (by omega)
      by_cases hk0 : k = 0
      · have f3 : decide (0 < k) = false := decide_eq_false (by omega)
        have HS := Lib.hid (STEP.out ⟨by rw [HC.out]; exact HM.out, fun h => by omega⟩)
        clear hk0 m1 m2
        go_wp2
        go_quiet (fail)
        go_wp2
        go_roundw
        case rel => exact ⟨k + 1, by omega, by go_num, HS.out, X.drewN _⟩
        case measure => simp [intOf] <;> omega
      · have hk1 : k - 1 < s.cads.length := by omega
        obtain ⟨b2, o2, e', p0⟩ := Sl.num (S1.cd.ext X) (k - 1) hk1
        obtain ⟨rfl, rfl⟩ : b = b2 ∧ o = o2 := by simp at e'; exact e'
        rw [← Sc.C_eq hk1] at p0
        obtain ⟨d, hd⟩ : ∃ c, s.C (k - 1) = c := ⟨_, rfl⟩
        rw [hd] at p0
        have HD := Lib.hid hd
        have f3 : decide (0 < k) = true := decide_eq_true (by omega)
        have HK0 : Hid (0 < k) := Lib.hid (by omega)
        have f4 : IntKind.i64.wrap ((k : Int) - 1) = ((k - 1 : Nat) : Int) := by rw [IntWalk.i64_in _ (by omega)]; omega
        have f5 : (0 : Int) ≤ ((k - 1 : Nat) : Int) := by omega
        have f6 : ((k - 1 : Nat) : Int) < (s.cads.length : Int) := by omega
        by_cases m3 : c ≤ d
        · have HR := Lib.hid (BAD.out (fun h => by have := h.2 HK0.out; rw [HC.out, HD.out] at this; omega))
          have m3' : decide (c ≤ d) = true := decide_eq_true m3
          clear hd hk0 e' m1 m2 m3 hk1
          go_wp2
          go_quiet (fail)
          clear f4
          go_wp2
          go_ret
          exact ⟨by rw [HR.out] <;> rfl, XW.trans (X.drewN _)⟩
        · have HS := Lib.hid (STEP.out ⟨by rw [HC.out]; exact HM.out, fun _ => by rw [HC.out, HD.out]; omega⟩)
          have m3' : decide (c ≤ d) = false := decide_eq_false m3
          clear hd hk0 e' m1 m2 m3 hk1
          go_wp2
          go_quiet (fail)
          clear f4
          go_wp2
          go_roundw
          case rel => exact ⟨k + 1, by omega, by go_num, HS.out, X.drewN _⟩
          case measure => simp [intOf] <;> omega
    · obtain rfl : k = s.cads.length := by omega
      have HCD := Lib.hid (rc_ok HA.out)
      go_wp2_with fail
      refine (rnotes_walk _ _ _ s _ (S1.ext X) HSZ.out.2.1).mono ?_
      cases hn : rnB s with
      | false =>
        have HR : Hid (scB s = false) := Lib.hid (scB_false fun hh => by rw [rnB_iff.2 ⟨hh.nt, hh.vc⟩] at hn; cases hn)
        clear hn c0 c1 c2 c3
        rintro e w5 ⟨rfl, x5⟩
        go_wp2
        go_ret
        exact ⟨by rw [HR.out] <;> rfl, XW.trans (X.trans x5)⟩
      | true =>
        have HN := Lib.hid (rnB_iff.1 hn)
        clear hn c0 c1 c2 c3
        rintro e w5 ⟨rfl, x5⟩
        obtain ⟨c0, c1, c2, c3⟩ := CB.out w5 (X.trans x5)
        go_wp2_with fail
        refine (rpairs_walk _ _ _ s _ (S1.ext (X.trans x5)) HN.out.1 HSZ.out.2.1 HSZ.out.2.2.1).mono ?_
        have HR : Hid (scB s = decide (prsOk s)) := Lib.hid (by
          rw [Bool.eq_iff_iff, decide_eq_true_eq, scB_iff]
          exact ⟨fun h => h.pr, fun h => ⟨HSZ.out, HN.out.1, HN.out.2, h, HCD.out⟩⟩)
        rw [← HR.out]
        rintro e w6 ⟨rfl, x6⟩
        clear c0 c1 c2 c3
        go_wp2
        go_ret
        exact ⟨by first | rfl | simp, XW.trans ((X.trans x5).trans x6)⟩
end Go.Proofs.YtgfaiihekibcbaaGreatDoor
