/-
  Proved: 'ScoreHeld' returns true for every input and leaves its arguments as they were. No condition.
-/
import Derived.Test.YtajicmghnllnmaaScSnd
set_option linter.unusedVariables false
namespace Go.Proofs.Ytajicmghnllnmaa
open Go.RowKit Go.Sx Go.Sx.Sz Go.Sx.Sc Go.ChangeShapes Go.WideShapes Go.ChangeAt

theorem held_is {n : Nt} {c : Int} (h : n.f < n.u) : heldP c n = (sndP c n && (sndP (c - 1) n || n.tied)) := by
  unfold heldP sndP
  rcases Int.lt_trichotomy n.f c with e | e | e
  · have a1 : decide (n.f < c) = true := decide_eq_true e
    have a2 : decide (n.f ≤ c) = true := decide_eq_true (by omega)
    have a3 : decide (n.f ≤ c - 1) = true := decide_eq_true (by omega)
    have a4 : decide (n.f = c) = false := decide_eq_false (by omega)
    by_cases hc : c < n.u
    · simp [a1, a2, a3, a4, hc, show c - 1 < n.u by omega]
    · simp [a1, a2, a3, a4, hc]
  · have a1 : decide (n.f < c) = false := decide_eq_false (by omega)
    have a2 : decide (n.f ≤ c) = true := decide_eq_true (by omega)
    have a3 : decide (n.f ≤ c - 1) = false := decide_eq_false (by omega)
    have a4 : decide (n.f = c) = true := decide_eq_true e
    have a5 : decide (c < n.u) = true := decide_eq_true (by omega)
    simp [a1, a2, a3, a4, a5]
  · have a1 : decide (n.f < c) = false := decide_eq_false (by omega)
    have a2 : decide (n.f ≤ c) = false := decide_eq_false (by omega)
    have a4 : decide (n.f = c) = false := decide_eq_false (by omega)
    simp [a1, a2, a4]
theorem held_voice {s : Sc} (h : ScOk s) {i : Nat} (hi : i < s.notes.length) {c : Int} (hh : heldP c (s.N i) = true) : ∃ k : Nat, k < s.notes.length ∧ sndP (c - 1) (s.N k) = true ∧ (s.N k).v = (s.N i).v := by
  have n1 := (h.nt.note hi).2.1
  rw [held_is n1.2, Bool.and_eq_true, Bool.or_eq_true] at hh
  rcases hh.2 with h1 | h1
  · exact ⟨i, hi, h1, rfl⟩
  · by_cases h2 : sndP (c - 1) (s.N i) = true
    · exact ⟨i, hi, h2, rfl⟩
    · obtain ⟨k, hk, a, b, _⟩ := h.tie hi h1
      have n2 := (h.nt.note (show k < s.notes.length by omega)).2.1
      refine ⟨k, by omega, ?_, a⟩
      have h3 := hh.1
      unfold sndP at *
      simp only [Bool.and_eq_true, decide_eq_true_eq] at *
      omega
theorem held_wit {s : Sc} (h : ScOk s) {i : Nat} (hi : i < s.notes.length) {c : Int} (hh : heldP c (s.N i) = true) :
    ∃ q, ∃ hq : q < (chooseL s.notes (sndP (c - 1))).length, (s.N ((chooseL s.notes (sndP (c - 1)))[q]).toNat).v = (s.N i).v := by
  obtain ⟨k, hk, a, b⟩ := held_voice h hi hh
  have hm : (k : Int) ∈ chooseL s.notes (sndP (c - 1)) := chooseL_mem.2 ⟨by omega, by omega, by rw [Int.toNat_natCast]; exact a⟩
  obtain ⟨q, hq, e⟩ := List.getElem_of_mem hm
  exact ⟨q, hq, by rw [e, Int.toNat_natCast]; exact b⟩

set_option maxRecDepth 100000 in
set_option maxHeartbeats 8000000 in
theorem heldl_law (vn vp vc : Value) (s : Sc) (sec : Int) (w : World) (S : ScR w vn vp vc s) :
    Calls Try.prog 8 #[.agg #[.int .i64 s.voices, vn, vp, vc], .int .i64 sec] w fun e w' => e = .returned (.bool true) ∧ Ext w w' := by
  obtain ⟨an, cn, rfl, -, -, hln⟩ := S.nt.len
  obtain ⟨ap, cp, rfl, -, -, hlp⟩ := S.pr.len
  obtain ⟨ac, cc, rfl, -, -, hlc⟩ := S.cd.len
  go_enter Try.func8, Try.ntmps8
  go_wp2_with fail
  refine (head_walk _).mono ?_
  rintro e w1 ⟨rfl, x1⟩
  have X1 : Ext w w1 := Ext.trans (by repeat (first | with_reducible exact Ext.refl _ | with_reducible assumption | with_reducible apply Ext.alloc | with_reducible apply Ext.drew | (with_reducible refine Ext.setCell ?_ (by (try simp) <;> omega) _))) x1
  have B1 := BoxS.of (block_ext x1 (block_new w (.cells #[.int .i64 s.voices, .slice an s.notes.length cn, .slice ap s.pairs.length cp, .slice ac s.cads.length cc] 26)))
  obtain ⟨c0, c1, c2, c3⟩ := B1
  have HB1 : Hid (BoxS w.heap.size s.voices (.slice an s.notes.length cn) (.slice ap s.pairs.length cp) (.slice ac s.cads.length cc) w1) := Lib.hid ⟨c0, c1, c2, c3⟩
  clear x1
  go_wp2_with fail
  refine (scvalid_walk _ _ _ s _ (S.ext X1)).mono ?_
  cases hok : scB s with
  | false =>
    clear hok
    rintro e w2 ⟨rfl, x2⟩
    clear c0 c1 c2 c3
    go_wp2
    go_ret
    exact ⟨rfl, X1.trans x2⟩
  | true =>
    rintro e w2 ⟨rfl, x2⟩
    have X2 := X1.trans x2
    have HB2 := Lib.hid (HB1.out.ext x2)
    have HV := Lib.hid (scB_iff.1 hok)
    have HO := Lib.hid hok
    have S2 := S.ext X2
    have hnc := (scB_iff.1 hok).sz.2.2.2
    have hnn := (scB_iff.1 hok).sz.2.1
    clear c0 c1 c2 c3 hok x2
    obtain ⟨B, hB⟩ : ∃ B, w.heap.size = B := ⟨_, rfl⟩
    rw [hB] at HB2
    by_cases g1 : sec < 1
    · go_wp2
      go_ret
      exact ⟨rfl, X2⟩
    obtain ⟨c0, c1, c2, c3⟩ := HB2.out
    by_cases g2 : (s.cads.length : Int) < sec
    · clear c0 c1 c2
      go_wp2
      go_ret
      exact ⟨rfl, X2⟩
    obtain ⟨i, rfl⟩ : ∃ i : Nat, sec = (i : Int) + 1 := ⟨(sec - 1).toNat, by omega⟩
    have hi : i < s.cads.length := by omega
    have R1 : Hid (heldR s ((i : Int) + 1) = (chooseL s.notes (heldP (s.C i)), 0)) := Lib.hid (by unfold heldR; rw [if_pos ⟨HO.out, by omega, by omega⟩, show ((i : Int) + 1 - 1).toNat = i by omega])
    have hc := HV.out.cd.1 i hi
    obtain ⟨b, o, rfl, q0⟩ := Sl.num S2.cd i hi
    rw [← Sc.C_eq hi] at q0
    obtain ⟨t, ht⟩ : ∃ t, s.C i = t := ⟨_, rfl⟩
    rw [ht] at R1 hc q0
    have R2 : Hid (sndR s t = (chooseL s.notes (sndP t), 0)) := Lib.hid (by unfold sndR; rw [if_pos ⟨HO.out, by omega, by omega⟩])
    have R3 : Hid (sndR s (t - 1) = (chooseL s.notes (sndP (t - 1)), 0)) := Lib.hid (by unfold sndR; rw [if_pos ⟨HO.out, by omega, by omega⟩])
    have i1 : (0 : Int) ≤ (i : Int) := by omega
    have i2 : (i : Int) < (s.cads.length : Int) := by omega
    have e1 : IntKind.i64.wrap ((i : Int) + 1 - 1) = (i : Int) := by rw [IntWalk.i64_in _ (by omega)]; omega
    have e2 : IntKind.i64.wrap (t - 1) = t - 1 := IntWalk.i64_in _ (by omega)
    clear ht hc
    go_wp2_with fail
    refine (held_walk _ _ _ s ((i : Int) + 1) _ S2).mono ?_
    rw [R1.out]
    rintro e w3 ⟨v3, rfl, SL3, x3⟩
    have X3 := X2.trans x3
    clear c0 c1 c2 c3 q0
    obtain ⟨c0, c1, c2, c3⟩ := HB2.out.ext x3
    go_wp2_with fail
    refine (sound_walk _ _ _ s t _ (S2.ext x3)).mono ?_
    rw [R2.out]
    rintro e w4 ⟨v4, rfl, SL4, x4⟩
    have X4 := X3.trans x4
    clear c0 c1 c2 c3
    obtain ⟨c0, c1, c2, c3⟩ := HB2.out.ext (x3.trans x4)
    go_wp2_with fail
    refine (sound_walk _ _ _ s (t - 1) _ (S2.ext (x3.trans x4))).mono ?_
    rw [R3.out]
    rintro e w5 ⟨v5, rfl, SL5, x5⟩
    have X5 := X4.trans x5
    have SH := SL3.ext (x4.trans x5)
    have SN := SL4.ext x5
    have S5 := S2.ext ((x3.trans x4).trans x5)
    have HB5 := Lib.hid (HB2.out.ext ((x3.trans x4).trans x5))
    have HW := Lib.hid fun (i : Nat) (hi : i < s.notes.length) => held_wit HV.out hi (c := t)
    obtain ⟨LH, hLH⟩ : ∃ L, chooseL s.notes (heldP t) = L := ⟨_, rfl⟩
    obtain ⟨LN, hLN⟩ : ∃ L, chooseL s.notes (sndP t) = L := ⟨_, rfl⟩
    obtain ⟨LT, hLT⟩ : ∃ L, chooseL s.notes (sndP (t - 1)) = L := ⟨_, rfl⟩
    have z1 : LH.length ≤ s.notes.length := by rw [← hLH]; exact chooseL_len
    have z2 : LN.length ≤ s.notes.length := by rw [← hLN]; exact chooseL_len
    have z3 : LT.length ≤ s.notes.length := by rw [← hLT]; exact chooseL_len
    rw [hLH] at SH; rw [hLN] at SN; rw [hLT] at SL5 HW
    have HLT : Hid (∀ j k (h : k < LH.length) (hj : j < k), LH[j] < LH[k]) := Lib.hid (by subst hLH; exact fun j k h hj => choose_lt h hj)
    have HAT : Hid (∀ k (h : k < LT.length), ∃ m : Nat, LT[k] = (m : Int) ∧ m < s.notes.length ∧ sndP (t - 1) (s.N m) = true) := Lib.hid (by subst hLT; exact fun k h => choose_at h)
    have HH1 : Hid (∀ i, i < s.notes.length → decide ((i : Int) ∈ LH) = heldP t (s.N i)) := Lib.hid (by subst hLH; exact fun i h => choose_has h)
    have HH2 : Hid (∀ i, i < s.notes.length → decide ((i : Int) ∈ LN) = sndP t (s.N i)) := Lib.hid (by subst hLN; exact fun i h => choose_has h)
    have HH3 : Hid (∀ i, i < s.notes.length → decide ((i : Int) ∈ LT) = sndP (t - 1) (s.N i)) := Lib.hid (by subst hLT; exact fun i h => choose_has h)
    obtain ⟨a1, n1, rfl, -, -, -⟩ := SH.len
    obtain ⟨a2, n2, rfl, -, -, -⟩ := SN.len
    obtain ⟨a3, n3, rfl, -, -, -⟩ := SL5.len
    clear hLH hLN hLT R1 R2 R3 c0 c1 c2 c3 HB2 S2 X2 x3 x4 x5 SL3 SL4 X4 X3 e1 e2 i1 i2
    go_wp2
    clear hB
    go_loopw [13] (fun i wr => ∃ k : Nat, k ≤ LH.length ∧ i = .int .i64 k ∧ Ext w5 wr) (fun i _ => LH.length - (intOf i).toNat)
    case atStart => exact ⟨0, by omega, rfl, Ext.refl _⟩
    case round =>
      obtain ⟨k, hk, rfl, X⟩ := hrel
      by_cases hlt : k < LH.length
      · obtain ⟨b1, o1, rfl, q0⟩ := Sl.num (SH.ext X) k hlt
        obtain ⟨y, hy⟩ : ∃ y, LH[k] = y := ⟨_, rfl⟩
        rw [hy] at q0
        have HY := Lib.hid hy
        have i1 : (0 : Int) ≤ (k : Int) := by omega
        have i2 : (k : Int) < (LH.length : Int) := by omega
        clear hy
        by_cases hk0 : k = 0
        · have d3 : decide (0 < k) = false := decide_eq_false (by omega)
          clear hk0
          go_wp2
          go_quiet (fail)
          go_wp2
          go_roundw
          case rel => exact ⟨k + 1, by omega, by go_num, X.drewN _⟩
          case measure => simp [intOf] <;> omega
        · obtain ⟨b2, o2, e', p0⟩ := Sl.num (SH.ext X) (k - 1) (by omega)
          obtain ⟨rfl, rfl⟩ : b1 = b2 ∧ o1 = o2 := by simp at e'; exact e'
          obtain ⟨x, hx⟩ : ∃ x, LH[k - 1] = x := ⟨_, rfl⟩
          have hxy := HLT.out (k - 1) k hlt (by omega)
          rw [hx, HY.out] at hxy
          rw [hx] at p0
          have e1 : IntKind.i64.wrap ((k : Int) - 1) = ((k - 1 : Nat) : Int) := by rw [IntWalk.i64_in _ (by omega)]; omega
          have i5 : (0 : Int) < (k : Int) := by omega
          have i6 : (0 : Int) ≤ ((k - 1 : Nat) : Int) := by omega
          have i7 : ((k - 1 : Nat) : Int) < (LH.length : Int) := by omega
          have d3 : decide (0 < k) = true := decide_eq_true (by omega)
          have d4 : decide (y ≤ x) = false := decide_eq_false (by omega)
          clear hx hk0 e' hxy
          go_wp2
          go_quiet (fail)
          clear e1
          go_wp2
          go_roundw
          case rel => exact ⟨k + 1, by omega, by go_num, X.drewN _⟩
          case measure => simp [intOf] <;> omega
      · obtain rfl : k = LH.length := by omega
        go_wp2
        go_loopw [14, 15, 16] (fun i _ _ wr => ∃ k : Nat, k ≤ s.notes.length ∧ i = .int .i64 k ∧ Ext w5 wr) (fun i _ _ _ => s.notes.length - (intOf i).toNat)
        case atStart => exact ⟨0, by omega, rfl, X⟩
        case round =>
          obtain ⟨m, hm, rfl, Y⟩ := hrel
          by_cases hlt : m < s.notes.length
          · obtain ⟨c0, c1, c2, c3⟩ := HB5.out.ext Y
            obtain ⟨bn, on, rfl, q⟩ := Sl.nt (S5.nt.ext Y) m hlt
            rw [← Sc.N_eq hlt] at q
            have q9 := q.c9
            have hb := HH1.out m hlt
            have hn := HH2.out m hlt
            have ht := HH3.out m hlt
            have hi := held_is (c := t) (HV.out.nt.note hlt).2.1.2
            have hw : heldP t (s.N m) = true → ∃ q, ∃ hq : q < LT.length, (s.N (LT[q]).toNat).v = (s.N m).v := HW.out m hlt
            obtain ⟨vm, hvm⟩ : ∃ v, (s.N m).v = v := ⟨_, rfl⟩
            obtain ⟨td, htd⟩ : ∃ v, (s.N m).tied = v := ⟨_, rfl⟩
            obtain ⟨p1, hp1⟩ : ∃ b, heldP t (s.N m) = b := ⟨_, rfl⟩
            obtain ⟨p2, hp2⟩ : ∃ b, sndP t (s.N m) = b := ⟨_, rfl⟩
            obtain ⟨p3, hp3⟩ : ∃ b, sndP (t - 1) (s.N m) = b := ⟨_, rfl⟩
            rw [hp1] at hb hi hw
            rw [hp2] at hn hi
            rw [hp3] at ht hi
            rw [htd] at hi q9
            rw [hvm] at hw
            have HVM := Lib.hid hvm
            have hcase : (p2 = false ∧ p1 = false) ∨ (p2 = true ∧ p3 = true ∧ p1 = true) ∨ (p2 = true ∧ p3 = false ∧ td = true ∧ p1 = true) ∨ (p2 = true ∧ p3 = false ∧ td = false ∧ p1 = false) := by
              clear hb hn ht hw hp1 hp2 hp3 htd; revert hi; cases p1 <;> cases p2 <;> cases p3 <;> cases td <;> simp
            have HB := Lib.hid hb; have HN := Lib.hid hn; have HT := Lib.hid ht; have HWT := Lib.hid hw
            have HC1 := Lib.hid fun w' (y : Ext w5 w') => has_walk (.slice a1 LH.length n1) LH m w' (SH.ext y)
            have HC2 := Lib.hid fun w' (y : Ext w5 w') => has_walk (.slice a2 LN.length n2) LN m w' (SN.ext y)
            have HC3 := Lib.hid fun w' (y : Ext w5 w') => has_walk (.slice a3 LT.length n3) LT m w' (SL5.ext y)
            have i1 : (0 : Int) ≤ (m : Int) := by omega
            have i2 : (m : Int) < (s.notes.length : Int) := by omega
            clear q hb hn ht hi hw hvm htd hp1 hp2 hp3 c0 c2 c3
            rcases hcase with ⟨rfl, rfl⟩ | ⟨rfl, rfl, rfl⟩ | ⟨rfl, rfl, rfl, rfl⟩ | ⟨rfl, rfl, rfl, rfl⟩
            all_goals
              go_wp2_with fail
              refine (HC1.out _ Y).mono ?_
              rw [HB.out]
              rintro e w6 ⟨rfl, x6⟩
              have Y6 := Y.trans x6
              go_wp2_with fail
              refine (HC2.out _ Y6).mono ?_
              rw [HN.out]
              rintro e w7 ⟨rfl, x7⟩
              have Y7 := Y6.trans x7
              have k1 := (x6.trans x7).cell c1
              have k9 := (x6.trans x7).cell q9
              clear c1 q9
            all_goals
              go_wp2_with fail
              first
              | ((with_reducible refine (HC3.out _ Y7).mono ?_)
                 rw [HT.out]
                 rintro e w8 ⟨rfl, x8⟩
                 have Y8 := Y7.trans x8
                 have l1 := x8.cell k1
                 have l9 := x8.cell k9
                 clear k1 k9
                 go_wp2_with fail)
              | (have Y8 := Y7
                 obtain ⟨w8, rfl⟩ : ∃ w8, w8 = w7 := ⟨_, rfl⟩)
            all_goals
              refine (HC1.out _ Y8).mono ?_
              rw [HB.out]
              rintro e w9 ⟨rfl, x9⟩
              have Y9 := Y8.trans x9
              have HWW := Lib.hid HWT.out
              go_wp2
              try clear k1 k9
              try clear l1 l9
              go_loopw [15, 16] (fun b j wr => ∃ (k : Nat) (bb : Bool), k ≤ LT.length ∧ j = .int .i64 k ∧ b = .bool bb ∧ Hid (bb = true ∨ (decide ((m : Int) ∈ LH) = true ∧ ∀ q (h : q < LT.length), q < k → (s.N (LT[q]).toNat).v ≠ vm)) ∧ Ext w5 wr) (fun _ j _ => LT.length - (intOf j).toNat)
              case atStart => exact ⟨0, _, by omega, rfl, rfl, Lib.hid (by first | exact .inl rfl | exact .inr ⟨HB.out, fun q h1 h2 => absurd h2 (Nat.not_lt_zero _)⟩), Y9⟩
              case round =>
                obtain ⟨k, bb, hk, rfl, rfl, HBB, Z⟩ := hrel
                by_cases hkl : k < LT.length
                · cases bb with
                  | true =>
                    go_wp2
                    go_quiet (fail)
                    go_wp2
                    go_roundw
                    case rel => exact ⟨k + 1, true, by omega, by go_num, rfl, Lib.hid (.inl rfl), Z.drewN _⟩
                    case measure => simp [intOf] <;> omega
                  | false =>
                    obtain ⟨mj, hmj, hmjn, -⟩ := HAT.out k hkl
                    obtain ⟨b4, o4, rfl, p4⟩ := Sl.num (SL5.ext Z) k hkl
                    rw [hmj] at p4
                    obtain ⟨b5, o5, e5, p5⟩ := Sl.nt (S5.nt.ext Z) mj hmjn
                    obtain ⟨b6, o6, e6, p6⟩ := Sl.nt (S5.nt.ext Z) m hlt
                    obtain ⟨rfl, rfl⟩ : bn = b5 ∧ on = o5 := by simp at e5; exact e5
                    obtain ⟨rfl, rfl⟩ : bn = b6 ∧ on = o6 := by simp at e6; exact e6
                    rw [← Sc.N_eq hmjn] at p5
                    rw [← Sc.N_eq hlt] at p6
                    have p50 := p5.c0; have p60 := p6.c0
                    rw [HVM.out] at p60
                    obtain ⟨v1, hv1⟩ : ∃ v, (s.N mj).v = v := ⟨_, rfl⟩
                    rw [hv1] at p50
                    obtain ⟨c0, c1, c2, c3⟩ := HB5.out.ext Z
                    have HV1 := Lib.hid hv1; have HMJ := Lib.hid hmj
                    have j1 : (0 : Int) ≤ (mj : Int) := by omega
                    have j2 : (mj : Int) < (s.notes.length : Int) := by omega
                    have d2 : decide (mj < s.notes.length) = true := decide_eq_true hmjn
                    have j3 : (0 : Int) ≤ (k : Int) := by omega
                    have j4 : (k : Int) < (LT.length : Int) := by omega
                    clear e5 e6 hmj p5 p6 hv1 c0 c2 c3
                    by_cases hvv : v1 = vm
                    · have f1 : (v1 == vm) = true := beq_iff_eq.2 hvv
                      clear hvv
                      go_wp2
                      go_quiet (fail)
                      go_wp2
                      go_roundw
                      case rel => exact ⟨k + 1, true, by omega, by go_num, rfl, Lib.hid (.inl rfl), Z.drewN _⟩
                      case measure => simp [intOf] <;> omega
                    · have f1 : (v1 == vm) = false := beq_eq_false_iff_ne.2 hvv
                      have HNE := Lib.hid hvv
                      clear hvv
                      go_wp2
                      go_quiet (fail)
                      go_wp2
                      go_roundw
                      case rel => exact ⟨k + 1, false, by omega, by go_num, rfl, Lib.hid (.inr ⟨(HBB.out.resolve_left (by simp)).1, fun q h1 h2 => by
                        by_cases hq : q = k
                        · subst hq; rw [HMJ.out, Int.toNat_natCast, HV1.out]; exact HNE.out
                        · exact (HBB.out.resolve_left (by simp)).2 q h1 (by omega)⟩), Z.drewN _⟩
                      case measure => simp [intOf] <;> omega
                · obtain rfl : k = LT.length := by omega
                  cases bb with
                  | true =>
                    go_wp2
                    go_roundw
                    case rel => exact ⟨m + 1, by omega, by go_num, Z⟩
                    case measure => simp [intOf] <;> omega
                  | false =>
                    exfalso
                    obtain ⟨h1, h2⟩ := HBB.out.resolve_left (by simp)
                    rw [HB.out] at h1
                    obtain ⟨q, hq, e⟩ := HWT.out (by first | exact h1 | trivial | cases h1)
                    exact h2 q hq hq e
          · obtain rfl : m = s.notes.length := by omega
            obtain ⟨c0, c1, c2, c3⟩ := HB5.out.ext Y
            clear c0 c2 c3
            go_wp2
            go_ret
            exact ⟨rfl, X5.trans Y⟩

theorem scoreHeld_args (H : Type) (enc : TypeId × Value → H) (W : World) (base : Nat) (vs : List Value) (ds : List (DataW H)) (hA : Args enc Try.prog W base Try.f8.params.toList vs ds) :
    Calls Try.prog 8 vs.toArray W fun e W' => e = .returned (.bool true) ∧ Ext W W' := by
  rw [Try.params8] at hA
  obtain ⟨v0, _, d0, _, rfl, rfl, h0, hA⟩ := hA.cons
  obtain ⟨v1, _, d1, _, rfl, rfl, h1, hA⟩ := hA.cons
  obtain ⟨rfl, rfl⟩ := hA.nil
  obtain ⟨s, vn, vp, vc, rfl, S⟩ := arg_score h0
  obtain ⟨a, rfl, _⟩ := h1.int Try.underlying3
  exact heldl_law vn vp vc s a W S

set_option maxRecDepth 100000 in
theorem scoreHeld_lifted (os : Os) (started : os.Started) (H : Type) (enc : TypeId × Value → H) :
    ReturnsInHanded {} Try.checked os 8 .any (Rows.scoreHeldSpec.pre6 enc Try.prog Try.f8 Rows.scoreHeldRow.domain false) (Rows.scoreHeldSpec.post enc Try.prog Try.f8 false true false false) :=
  law_said (C := Try.checked) (by kernel_rfl) started (by kernel_rfl) Try.func8
    (ChangeSpec.witness6 (enc := enc) (C := Try.checked) false ⟨#[], #[.agg #[.int .i64 0, .slice none 0 0, .slice none 0 0, .slice none 0 0], .int .i64 0], []⟩ 8 (by kernel_rfl) (by kernel_rfl) (by kernel_rfl) (by kernel_rfl))
    (by kernel_rfl) (by kernel_rfl) (by kernel_rfl) rfl (fun ds h => by match ds, h with | [_, _], _ => rfl) (scoreHeld_args H enc)

theorem scoreHeld_holds : Rows.ScoreHeldSaid :=
  OpenClaim.holds_of_wide 8 Try.f8 rfl rfl rfl rfl rfl rfl rfl ⟨rfl, rfl, rfl, rfl, rfl⟩ rfl rfl rfl rfl rfl (by kernel_rfl) Try.func8 (by kernel_rfl)
    (of_decide_eq_true (by kernel_rfl)) (by unfold Func.isWrapper; first | (rw [if_pos (by decide +kernel)]; kernel_rfl) | (rw [if_neg (by decide +kernel)]; exact ⟨rfl, rfl⟩))
    (fun os started H enc _ => scoreHeld_lifted os started H enc)
end Go.Proofs.Ytajicmghnllnmaa
