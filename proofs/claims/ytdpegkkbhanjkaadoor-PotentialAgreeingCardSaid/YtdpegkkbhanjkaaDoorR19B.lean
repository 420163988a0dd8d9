/-
  Walk: schismaref19.Notes.
-/
import Derived.Test.YtdpegkkbhanjkaaDoorR19A
import Derived.Test.YtdpegkkbhanjkaaDoorLibB
import Derived.Deep.DeepCutAuto
set_option linter.unusedVariables false
namespace Go.Sx.Sc
open Go.Sx.Sz
section
variable {s : Sc}
def rlA (s : Sc) (i : Nat) : Prop := noteOk s.voices (s.N i) ∧ (0 < i → lexN (s.N (i - 1)) (s.N i)) ∧ ∀ k, k < i → (s.N k).v = (s.N i).v → (s.N k).u ≤ (s.N i).f
def rlB (s : Sc) (i : Nat) : Prop := (s.N i).tied = true → ∃ k : Nat, findL s.notes (endP (s.N i).v (s.N i).f) 0 = (k : Int) ∧ (s.N k).x = (s.N i).x
def rnB (s : Sc) : Bool := decide (ntOk s) && decide (vcOk s)
set_option maxRecDepth 100000 in
theorem rnB_iff : rnB s = true ↔ ntOk s ∧ vcOk s := by unfold rnB; rw [Bool.and_eq_true, decide_eq_true_eq, decide_eq_true_eq]
set_option maxRecDepth 100000 in
theorem rnB_false (h : ¬ (ntOk s ∧ vcOk s)) : rnB s = false := by
  cases hh : rnB s with
  | false => rfl
  | true => exact absurd (rnB_iff.1 hh) h
set_option maxRecDepth 100000 in
theorem rl_a (h1 : ntOk s) (h2 : vcOk s) {i : Nat} (hi : i < s.notes.length) : rlA s i :=
  ⟨h1.1 i hi, fun h0 => by have := h1.2 (i - 1) (by omega); rwa [Nat.sub_add_cancel h0] at this, fun k hk hv => (h2 i hi).1 k hk hv⟩
set_option maxRecDepth 100000 in
theorem rl_nt (h : ∀ i, i < s.notes.length → rlA s i) : ntOk s := ⟨fun i hi => (h i hi).1, fun i hi => (h (i + 1) (by omega)).2.1 (by omega)⟩
set_option maxRecDepth 100000 in
theorem ends_of (h1 : ntOk s) (h : ∀ i, i < s.notes.length → rlA s i) {i k : Nat} (hi : i < s.notes.length) (hk : k < s.notes.length) (hv : (s.N k).v = (s.N i).v) (hu : (s.N k).u = (s.N i).u) : i = k := by
  have n1 := (h1.note hi).2.1
  have n2 := (h1.note hk).2.1
  rcases Nat.lt_trichotomy i k with e | e | e
  · have := (h k hk).2.2 i e hv.symm; omega
  · exact e
  · have := (h i hi).2.2 k e hv; omega
set_option maxRecDepth 100000 in
theorem find_tie (h : ∀ i, i < s.notes.length → rlA s i) {i : Nat} (hi : i < s.notes.length) :
    (findL s.notes (endP (s.N i).v (s.N i).f) 0 = -1 ∧ ∀ k, k < s.notes.length → ¬ ((s.N k).v = (s.N i).v ∧ (s.N k).u = (s.N i).f)) ∨
    ∃ k : Nat, k < i ∧ findL s.notes (endP (s.N i).v (s.N i).f) 0 = (k : Int) ∧ ((s.N k).v = (s.N i).v ∧ (s.N k).u = (s.N i).f) ∧ ∀ j, j < s.notes.length → (s.N j).v = (s.N i).v ∧ (s.N j).u = (s.N i).f → j = k := by
  have h1 := rl_nt h
  have key : ∀ j, endP (s.N i).v (s.N i).f (s.notes.getD j default) = true ↔ (s.N j).v = (s.N i).v ∧ (s.N j).u = (s.N i).f := fun j => by
    show endP _ _ (s.N j) = true ↔ _
    unfold endP; rw [Bool.and_eq_true, decide_eq_true_eq, decide_eq_true_eq]
  rcases findL_spec (p := endP (s.N i).v (s.N i).f) (l := s.notes) (k := 0) with ⟨e, hn⟩ | ⟨k, hk, e, hp, hq⟩
  · refine .inl ⟨e, fun k hk hh => ?_⟩
    have := hn (s.N k) (by unfold Sc.N; rw [List.getD_eq_getElem?_getD, List.getElem?_eq_getElem hk]; exact List.getElem_mem hk)
    have h2 := (key k).2 hh
    unfold Sc.N at this
    rw [show endP (s.N i).v (s.N i).f (s.notes.getD k default) = false from this] at h2
    cases h2
  · have hh := (key k).1 hp
    have n1 := (h1.note hk).2.1
    have hki : k < i := by
      rcases Nat.lt_or_ge k i with h9 | h9
      · exact h9
      · have := h1.from_le h9 hk; omega
    refine .inr ⟨k, hki, by rw [e]; simp, hh, fun j hj hjj => ?_⟩
    exact ends_of h1 h hj hk (by rw [hh.1, hjj.1]) (by rw [hh.2, hjj.2])
set_option maxRecDepth 100000 in
theorem rl_b (h1 : ntOk s) (h2 : vcOk s) {i : Nat} (hi : i < s.notes.length) : rlB s i := fun ht => by
  have ha : ∀ i, i < s.notes.length → rlA s i := fun i hi => rl_a h1 h2 hi
  have hx : ∃ k, k < i ∧ tieOf s i k := Classical.byContradiction fun hc => (h2 i hi).2 ht fun k hk ht => hc ⟨k, hk, ht⟩
  obtain ⟨k, hk, a, b, c⟩ := hx
  rcases find_tie ha hi with ⟨-, hn⟩ | ⟨m, hm, e, -, hu⟩
  · exact absurd ⟨a, b⟩ (hn k (by omega))
  · obtain rfl := hu k (by omega) ⟨a, b⟩
    exact ⟨k, e, c⟩
set_option maxRecDepth 100000 in
theorem rl_vc (h : ∀ i, i < s.notes.length → rlA s i) (hb : ∀ i, i < s.notes.length → rlB s i) : vcOk s := fun i hi => ⟨fun k hk hv => (h i hi).2.2 k hk hv, fun ht hn => by
  obtain ⟨k, e, hx⟩ := hb i hi ht
  rcases find_tie h hi with ⟨e', -⟩ | ⟨m, hm, e', hh, -⟩
  · rw [e] at e'; omega
  · rw [e] at e'
    obtain rfl : k = m := by omega
    exact hn k hm ⟨hh.1, hh.2, hx⟩⟩
end
end Go.Sx.Sc
namespace Go.Proofs.YtdpegkkbhanjkaaDoor
open Go.RowKit Go.Sx Go.Sx.Sz Go.Sx.Sc

set_option maxRecDepth 100000 in
set_option maxHeartbeats 4000000 in
theorem rnotes_walk (vn vp vc : Value) (s : Sc) (w : World) (S : ScR w vn vp vc s) (hnn : s.notes.length ≤ 200) : Calls Tryd.prog 42 #[.agg #[.int .i64 s.voices, vn, vp, vc]] w fun e w' => e = .returned (.bool (rnB s)) ∧ Ext w w' := by
  obtain ⟨an, cn, rfl, -, -, hln⟩ := S.nt.len
  obtain ⟨ap, cp, rfl, -, -, hlp⟩ := S.pr.len
  obtain ⟨ac, cc, rfl, -, -, hlc⟩ := S.cd.len
  have XW := Ext.alloc' w (.cells #[.int .i64 s.voices, .slice an s.notes.length cn, .slice ap s.pairs.length cp, .slice ac s.cads.length cc] 26)
  have b1 := block_new w (.cells #[.int .i64 s.voices, .slice an s.notes.length cn, .slice ap s.pairs.length cp, .slice ac s.cads.length cc] 26)
  obtain ⟨W, hW⟩ : ∃ W, w.alloc (.cells #[.int .i64 s.voices, .slice an s.notes.length cn, .slice ap s.pairs.length cp, .slice ac s.cads.length cc] 26) = W := ⟨_, rfl⟩
  rw [hW] at XW b1
  have HW := Lib.hid hW
  obtain ⟨B, hB⟩ : ∃ B, w.heap.size = B := ⟨_, rfl⟩
  rw [hB] at b1
  have CB : Hid (∀ w', Ext W w' → w'.cell? ⟨B, 0, none⟩ = some (.int .i64 s.voices) ∧ w'.cell? ⟨B, 1, none⟩ = some (.slice an s.notes.length cn) ∧ w'.cell? ⟨B, 2, none⟩ = some (.slice ap s.pairs.length cp) ∧ w'.cell? ⟨B, 3, none⟩ = some (.slice ac s.cads.length cc)) := Lib.hid fun w' x =>
    ⟨x.cell (block_cell b1 0 _ rfl), x.cell (block_cell b1 1 _ rfl), x.cell (block_cell b1 2 _ rfl), x.cell (block_cell b1 3 _ rfl)⟩
  have S1 := S.ext XW
  have HB := Lib.hid hB
  clear hW b1 S hB
  go_enter Tryd.func42, Tryd.ntmps42
  go_wp2
  rw [HW.out, HB.out]
  clear HW HB
  go_loopw [3, 4, 5] (fun i _ _ wr => ∃ k : Nat, k ≤ s.notes.length ∧ i = .int .i64 k ∧ (∀ j, j < k → rlA s j) ∧ Ext W wr) (fun i _ _ _ => s.notes.length - (intOf i).toNat)
  case atStart => exact ⟨0, by omega, rfl, fun j h => absurd h (Nat.not_lt_zero _), Ext.refl _⟩
  case round =>
    obtain ⟨k, hk, rfl, hall, X⟩ := hrel
    have HA := Lib.hid hall
    clear hall
    obtain ⟨c0, c1, c2, c3⟩ := CB.out wr X
    by_cases hlt : k < s.notes.length
    · obtain ⟨b, o, rfl, q⟩ := Sl.nt (S1.nt.ext X) k hlt
      rw [← Sc.N_eq hlt] at q
      obtain ⟨n, hn⟩ : ∃ n, s.N k = n := ⟨_, rfl⟩
      rw [hn] at q
      have HN := Lib.hid hn
      obtain ⟨q0, q1, q2, q3, q4, q5, q6, q7, q8, q9⟩ := q
      have bad : ¬ rlA s k → rnB s = false := fun h => rnB_false fun hh => h (rl_a hh.1 hh.2 hlt)
      have BAD := Lib.hid bad
      have i1 : (0 : Int) ≤ (k : Int) := by omega
      have i2 : (k : Int) < (s.notes.length : Int) := by omega
      have e1 := Ext.alloc' wr (.cells #[.int .i64 n.v, .int .i64 n.f, .int .i64 n.u, .int .i64 n.x.a, .int .i64 n.x.b, .int .i64 n.x.c, .int .i64 n.x.d, .int .i64 n.x.e, .int .i64 n.x.f, .bool n.tied] 44)
      have bN := block_new wr (.cells #[.int .i64 n.v, .int .i64 n.f, .int .i64 n.u, .int .i64 n.x.a, .int .i64 n.x.b, .int .i64 n.x.c, .int .i64 n.x.d, .int .i64 n.x.e, .int .i64 n.x.f, .bool n.tied] 44)
      have BN := Lib.hid bN
      have k0 := e1.cell c0; have k1 := e1.cell c1; have k2 := e1.cell c2; have k3 := e1.cell c3
      clear hn bad bN
      go_wp2_with fail
      refine (rnote_walk _ _ _ s.voices n _).mono ?_
      by_cases hno : noteOk s.voices n
      case neg =>
        have HR := Lib.hid (BAD.out fun h => hno (by rw [← HN.out]; exact h.1))
        rw [decide_eq_false hno]
        clear hno
        rintro e w5 ⟨rfl, x5⟩
        clear c0 c1 c2 c3 k0 k1 k2 k3 q0 q1 q2 q3 q4 q5 q6 q7 q8 q9
        go_wp2
        go_ret
        exact ⟨by rw [HR.out] <;> rfl, XW.trans (X.trans (e1.trans x5))⟩
      rw [decide_eq_true hno]
      have HNO := Lib.hid hno
      clear hno
      rintro e w5 ⟨rfl, x5⟩
      have X5 : Ext W w5 := X.trans (e1.trans x5)
      have ND : Hid (∀ w', Ext w5 w' → w'.cell? ⟨wr.heap.size, 0, none⟩ = some (.int .i64 n.v) ∧ w'.cell? ⟨wr.heap.size, 1, none⟩ = some (.int .i64 n.f)) := Lib.hid fun w' x =>
        ⟨(x5.trans x).cell (block_cell BN.out 0 _ rfl), (x5.trans x).cell (block_cell BN.out 1 _ rfl)⟩
      obtain ⟨D, hD⟩ : ∃ D, wr.heap.size = D := ⟨_, rfl⟩
      rw [hD] at ND ⊢
      clear hD
      obtain ⟨d0, d1⟩ := ND.out w5 (Ext.refl _)
      clear c0 c1 c2 c3 k0 k1 k2 k3 q0 q1 q2 q3 q4 q5 q6 q7 q8 q9 e1 x5 BN X
      obtain ⟨c0, c1, c2, c3⟩ := CB.out w5 X5
      have HKK := Lib.hid hlt
      go_upto_region 7 with fail
      go_cut [62] (fun s62 wx => ∃ b : Bool, s62 = .bool b ∧ Hid ((b = false ∧ (0 < k → lexN (s.N (k - 1)) n)) ∨ (b = true ∧ ¬ rlA s k)) ∧ Ext w5 wx)
      case first =>
        by_cases hk0 : k = 0
        · have f3 : decide (0 < k) = false := decide_eq_false (by omega)
          have HLX : Hid (0 < k → lexN (s.N (k - 1)) n) := Lib.hid (fun h => by omega)
          clear hk0 c0 c2 c3
          go_quiet (fail)
          go_wp2_with fail
          go_meet
          exact ⟨_, rfl, Lib.hid (.inl ⟨rfl, HLX.out⟩), (Ext.refl _).drewN _⟩
        · have hk1 : k - 1 < s.notes.length := by omega
          obtain ⟨b2, o2, e', p⟩ := Sl.nt (S1.nt.ext X5) (k - 1) hk1
          obtain ⟨rfl, rfl⟩ : b = b2 ∧ o = o2 := by simp at e'; exact e'
          rw [← Sc.N_eq hk1] at p
          obtain ⟨m, hm⟩ : ∃ n, s.N (k - 1) = n := ⟨_, rfl⟩
          rw [hm] at p
          have HM := Lib.hid hm
          have p0 := p.c0; have p1 := p.c1
          have f3 : decide (0 < k) = true := decide_eq_true (by omega)
          have f4 : IntKind.i64.wrap ((k : Int) - 1) = ((k - 1 : Nat) : Int) := by rw [IntWalk.i64_in _ (by omega)]; omega
          have f5 : (0 : Int) ≤ ((k - 1 : Nat) : Int) := by omega
          have f6 : ((k - 1 : Nat) : Int) < (s.notes.length : Int) := by omega
          have HLX : Hid (lexN m n → (0 < k → lexN (s.N (k - 1)) n)) := Lib.hid (fun h _ => by rw [HM.out]; exact h)
          have HLY : Hid (¬ lexN m n → ¬ rlA s k) := Lib.hid (fun h h2 => h (by have := h2.2.1 (by omega); rwa [HM.out, HN.out] at this))
          clear hm hk0 c0 c2 c3 p e' hk1
          by_cases g1 : n.f < m.f
          · have HL := Lib.hid (HLY.out (fun h => by unfold lexN at h; omega))
            have g1' : decide (n.f < m.f) = true := decide_eq_true g1
            clear g1
            go_quiet (fail)
            go_wp2_with fail
            go_meet
            exact ⟨_, rfl, Lib.hid (.inr ⟨rfl, HL.out⟩), (Ext.refl _).drewN _⟩
          have g1' : decide (n.f < m.f) = false := decide_eq_false g1
          by_cases g2 : n.f = m.f
          · have g2' : (n.f == m.f) = true := beq_iff_eq.2 g2
            by_cases g3 : n.v ≤ m.v
            · have HL := Lib.hid (HLY.out (fun h => by unfold lexN at h; omega))
              have g3' : decide (n.v ≤ m.v) = true := decide_eq_true g3
              clear g1 g2 g3
              go_quiet (fail)
              go_wp2_with fail
              go_meet
              exact ⟨_, rfl, Lib.hid (.inr ⟨rfl, HL.out⟩), (Ext.refl _).drewN _⟩
            · have HL := Lib.hid (HLX.out (by unfold lexN; omega))
              have g3' : decide (n.v ≤ m.v) = false := decide_eq_false g3
              clear g1 g2 g3
              go_quiet (fail)
              go_wp2_with fail
              go_meet
              exact ⟨_, rfl, Lib.hid (.inl ⟨rfl, HL.out⟩), (Ext.refl _).drewN _⟩
          · have g2' : (n.f == m.f) = false := beq_eq_false_iff_ne.2 g2
            have HL := Lib.hid (HLX.out (by unfold lexN; omega))
            clear g1 g2
            go_quiet (fail)
            go_wp2_with fail
            go_meet
            exact ⟨_, rfl, Lib.hid (.inl ⟨rfl, HL.out⟩), (Ext.refl _).drewN _⟩
      case rest =>
        obtain ⟨bb, rfl, HBB, x6⟩ := hcut
        cases bb with
        | true =>
          have HR := Lib.hid (BAD.out (HBB.out.resolve_left (by simp)).2)
          go_wp2
          go_ret
          exact ⟨by rw [HR.out] <;> rfl, XW.trans (X5.trans x6)⟩
        | false =>
          have HL := Lib.hid (HBB.out.resolve_right (by simp)).2
          have X6 := X5.trans x6
          clear c0 c1 c2 c3 d0 d1
          go_wp2
          go_loopw [5] (fun i wr => ∃ j : Nat, j ≤ k ∧ i = .int .i64 j ∧ (∀ q, q < j → (s.N q).v = n.v → (s.N q).u ≤ n.f) ∧ Ext w5 wr) (fun i _ => k - (intOf i).toNat)
          case atStart => exact ⟨0, by omega, rfl, fun q h => absurd h (Nat.not_lt_zero _), x6⟩
          case round =>
            obtain ⟨j, hj, rfl, hq, Y⟩ := hrel
            have HQ := Lib.hid hq
            clear hq
            obtain ⟨d0, d1⟩ := ND.out wr Y
            obtain ⟨c0, c1, c2, c3⟩ := CB.out wr (X5.trans Y)
            by_cases hjk : j < k
            · obtain ⟨b2, o2, e', p⟩ := Sl.nt (S1.nt.ext (X5.trans Y)) j (by omega)
              obtain ⟨rfl, rfl⟩ : b = b2 ∧ o = o2 := by simp at e'; exact e'
              rw [← Sc.N_eq (show j < s.notes.length by omega)] at p
              obtain ⟨m, hm⟩ : ∃ n, s.N j = n := ⟨_, rfl⟩
              rw [hm] at p
              have HM := Lib.hid hm
              have p0 := p.c0; have p2 := p.c2
              have i3 : (0 : Int) ≤ (j : Int) := by omega
              have i4 : (j : Int) < (s.notes.length : Int) := by omega
              have HSTEP : Hid ((m.v = n.v → m.u ≤ n.f) → ∀ q, q < j + 1 → (s.N q).v = n.v → (s.N q).u ≤ n.f) := Lib.hid fun h q hq => by
                by_cases e : q = j
                · subst e; rw [HM.out]; exact h
                · exact HQ.out q (by omega)
              have HBD : Hid (¬ (m.v = n.v → m.u ≤ n.f) → rnB s = false) := Lib.hid fun h => BAD.out fun h2 => h (by have := h2.2.2 j hjk; rwa [HM.out, HN.out] at this)
              clear hm p e' c0 c2 c3
              by_cases g1 : m.v = n.v
              · have g1' : (m.v == n.v) = true := beq_iff_eq.2 g1
                by_cases g2 : n.f < m.u
                · have HR := Lib.hid (HBD.out (fun h => by have := h g1; omega))
                  have g2' : decide (n.f < m.u) = true := decide_eq_true g2
                  clear g1 g2
                  go_wp2
                  go_quiet (fail)
                  go_wp2
                  go_ret
                  exact ⟨by rw [HR.out] <;> rfl, XW.trans (X5.trans (Y.drewN _))⟩
                · have HS := Lib.hid (HSTEP.out (fun _ => by omega))
                  have g2' : decide (n.f < m.u) = false := decide_eq_false g2
                  clear g1 g2
                  go_wp2
                  go_quiet (fail)
                  go_wp2
                  go_roundw
                  case rel => exact ⟨j + 1, by omega, by go_num, HS.out, Y.drewN _⟩
                  case measure => simp [intOf] <;> omega
              · have g1' : (m.v == n.v) = false := beq_eq_false_iff_ne.2 g1
                have HS := Lib.hid (HSTEP.out (fun h => absurd h g1))
                clear g1
                go_wp2
                go_quiet (fail)
                go_wp2
                go_roundw
                case rel => exact ⟨j + 1, by omega, by go_num, HS.out, Y.drewN _⟩
                case measure => simp [intOf] <;> omega
            · obtain rfl : j = k := by omega
              have HOK : Hid (rlA s j) := Lib.hid ⟨by rw [HN.out]; exact HNO.out, by rw [HN.out]; exact HL.out, by rw [HN.out]; exact HQ.out⟩
              clear c0 c1 c2 c3 d0 d1
              go_wp2
              go_roundw
              case rel => exact ⟨j + 1, by omega, by go_num, fun q hq => by
                by_cases e : q = j
                · subst e; exact HOK.out
                · exact HA.out q (by omega), X5.trans Y⟩
              case measure => simp [intOf] <;> omega
    · obtain rfl : k = s.notes.length := by omega
      have HNT := Lib.hid (rl_nt HA.out)
      have HFT := Lib.hid fun (i : Nat) (hi : i < s.notes.length) => find_tie HA.out hi
      clear c0 c2 c3
      go_wp2
      clear c1
      go_loopw [6, 7, 8] (fun i _ _ wr => ∃ k : Nat, k ≤ s.notes.length ∧ i = .int .i64 k ∧ (∀ j, j < k → rlB s j) ∧ Ext W wr) (fun i _ _ _ => s.notes.length - (intOf i).toNat)
      case atStart => exact ⟨0, by omega, rfl, fun j h => absurd h (Nat.not_lt_zero _), X⟩
      case round =>
        obtain ⟨k, hk, rfl, hall, Y⟩ := hrel
        have HAB := Lib.hid hall
        clear hall
        obtain ⟨c0, c1, c2, c3⟩ := CB.out wr Y
        by_cases hlt : k < s.notes.length
        · obtain ⟨b, o, rfl, q⟩ := Sl.nt (S1.nt.ext Y) k hlt
          rw [← Sc.N_eq hlt] at q
          have hft := HFT.out k hlt
          obtain ⟨n, hn⟩ : ∃ n, s.N k = n := ⟨_, rfl⟩
          rw [hn] at q hft
          have HN := Lib.hid hn
          obtain ⟨q0, q1, q2, q3, q4, q5, q6, q7, q8, q9⟩ := q
          have bad : ¬ rlB s k → rnB s = false := fun h => rnB_false fun hh => h (rl_b hh.1 hh.2 hlt)
          have BAD := Lib.hid bad
          have step : rlB s k → ∀ j, j < k + 1 → rlB s j := fun h j hj => by
            by_cases e : j = k
            · subst e; exact h
            · exact HAB.out j (by omega)
          have STEP := Lib.hid step
          have i1 : (0 : Int) ≤ (k : Int) := by omega
          have i2 : (k : Int) < (s.notes.length : Int) := by omega
          have e1 := Ext.alloc' wr (.cells #[.int .i64 n.v, .int .i64 n.f, .int .i64 n.u, .int .i64 n.x.a, .int .i64 n.x.b, .int .i64 n.x.c, .int .i64 n.x.d, .int .i64 n.x.e, .int .i64 n.x.f, .bool n.tied] 44)
          have bN := block_new wr (.cells #[.int .i64 n.v, .int .i64 n.f, .int .i64 n.u, .int .i64 n.x.a, .int .i64 n.x.b, .int .i64 n.x.c, .int .i64 n.x.d, .int .i64 n.x.e, .int .i64 n.x.f, .bool n.tied] 44)
          have BN := Lib.hid bN
          have k0 := e1.cell c0; have k1 := e1.cell c1; have k2 := e1.cell c2; have k3 := e1.cell c3
          have HFIND : Hid (rlB s k ↔ (n.tied = true → ∃ m : Nat, findL s.notes (endP n.v n.f) 0 = (m : Int) ∧ (s.N m).x = n.x)) := Lib.hid (by unfold rlB; rw [HN.out])
          obtain ⟨r, hr⟩ : ∃ r, findL s.notes (endP n.v n.f) 0 = r := ⟨_, rfl⟩
          rw [hr] at hft HFIND
          have HR := Lib.hid hr
          have HFK := Lib.hid hft
          clear hn bad bN step hr hft
          go_wp2_with fail
          refine (ahead_walk _ _ _ s n.v n.f _ (S1.ext (Y.trans e1))).mono ?_
          rw [HR.out]
          rintro e w5 ⟨rfl, x5⟩
          have X5 : Ext W w5 := Y.trans (e1.trans x5)
          have bD := block_ext x5 BN.out
          obtain ⟨D, hD⟩ : ∃ D, wr.heap.size = D := ⟨_, rfl⟩
          rw [hD] at bD ⊢
          clear hD
          have d3 := block_cell bD 3 _ rfl; have d4 := block_cell bD 4 _ rfl; have d5 := block_cell bD 5 _ rfl; have d6 := block_cell bD 6 _ rfl; have d7 := block_cell bD 7 _ rfl; have d8 := block_cell bD 8 _ rfl; have d9 := block_cell bD 9 _ rfl
          clear c0 c1 c2 c3 k0 k1 k2 k3 q0 q1 q2 q3 q4 q5 q6 q7 q8 q9 e1 x5 BN bD
          obtain ⟨c0, c1, c2, c3⟩ := CB.out w5 X5
          clear c0 c2 c3
          cases ht : n.tied with
          | false =>
            rw [ht] at d9
            have HS := Lib.hid (STEP.out (HFIND.out.2 (fun h => by rw [ht] at h; cases h)))
            clear ht
            go_wp2
            go_quiet (fail)
            go_wp2
            go_roundw
            case rel => exact ⟨k + 1, by omega, by go_num, HS.out, X5.drewN _⟩
            case measure => simp [intOf] <;> omega
          | true =>
            rw [ht] at d9
            have HT := Lib.hid ht
            clear ht
            rcases HFK.out with ⟨he, -⟩ | ⟨m, hm, he, -, -⟩
            · subst he
              have HRR := Lib.hid (BAD.out (fun h => by obtain ⟨m, h1, -⟩ := HFIND.out.1 h HT.out; omega))
              go_wp2
              go_quiet (fail)
              go_wp2
              go_ret
              exact ⟨by rw [HRR.out] <;> rfl, XW.trans (X5.drewN _)⟩
            · subst he
              have hmn : m < s.notes.length := by omega
              obtain ⟨b2, o2, e', p⟩ := Sl.nt (S1.nt.ext X5) m hmn
              obtain ⟨rfl, rfl⟩ : b = b2 ∧ o = o2 := by simp at e'; exact e'
              rw [← Sc.N_eq hmn] at p
              obtain ⟨y, hy⟩ : ∃ n, s.N m = n := ⟨_, rfl⟩
              rw [hy] at p
              have HY := Lib.hid hy
              obtain ⟨-, -, -, p3, p4, p5, p6, p7, p8, -⟩ := p
              have i3 : (0 : Int) ≤ (m : Int) := by omega
              have i4 : (m : Int) < (s.notes.length : Int) := by omega
              have i5 : decide ((m : Int) < 0) = false := decide_eq_false (by omega)
              have hq := fun w => run_eq_v6 (P := Tryd.prog) Tryd.underlying41 Tryd.underlying3 (by kernel_rfl) y.x n.x 9998 w
              clear hy e' hm hmn
              by_cases hx : y.x = n.x
              · have HS := Lib.hid (STEP.out (HFIND.out.2 (fun _ => ⟨m, rfl, by rw [HY.out]; exact hx⟩)))
                rw [decide_eq_true hx] at hq
                clear hx
                go_wp2
                go_quiet (fail)
                go_wp2
                go_roundw
                case rel => exact ⟨k + 1, by omega, by go_num, HS.out, X5.drewN _⟩
                case measure => simp [intOf] <;> omega
              · have HRR := Lib.hid (BAD.out (fun h => by
                  obtain ⟨m', h1, h2⟩ := HFIND.out.1 h HT.out
                  obtain rfl : m = m' := by omega
                  rw [HY.out] at h2; exact hx h2))
                rw [decide_eq_false hx] at hq
                clear hx
                go_wp2
                go_quiet (fail)
                go_wp2
                go_ret
                exact ⟨by rw [HRR.out] <;> rfl, XW.trans (X5.drewN _)⟩
        · obtain rfl : k = s.notes.length := by omega
          have HRR : Hid (rnB s = true) := Lib.hid (rnB_iff.2 ⟨HNT.out, rl_vc HA.out HAB.out⟩)
          clear c0 c2 c3
          go_wp2
          go_ret
          exact ⟨by rw [HRR.out] <;> rfl, XW.trans Y⟩
end Go.Proofs.YtdpegkkbhanjkaaDoor
