/-
  Proved: 'ScoreBeginnings' returns true for every input and leaves its arguments as they were. No condition.
-/
import Derived.Test.YtajicmghnllnmaaScSec
set_option linter.unusedVariables false
namespace Go.Proofs.Ytajicmghnllnmaa
open Go.RowKit Go.Sx Go.Sx.Sz Go.Sx.Sc Go.ChangeShapes Go.WideShapes Go.ChangeAt

theorem count_iff {α : Type} {l : List α} {p : α → Bool} (hm : ∀ i j (hj : j < l.length) (hij : i ≤ j), p l[j] = true → p l[i] = true) {i : Nat} (hi : i < l.length) : i < l.countP p ↔ p l[i] = true := by
  constructor
  · intro h
    cases hp : p l[i] with
    | true => rfl
    | false =>
      exfalso
      have e : l.countP p = (l.take i).countP p + (l.drop i).countP p := by rw [← List.countP_append, List.take_append_drop]
      have h1 : (l.drop i).countP p = 0 := by
        rw [List.countP_eq_zero]
        intro x hx hpx
        obtain ⟨q, hq, rfl⟩ := List.mem_iff_getElem.1 hx
        rw [List.getElem_drop] at hpx
        rw [List.length_drop] at hq
        have := hm i (i + q) (by omega) (by omega) hpx
        rw [hp] at this
        exact Bool.noConfusion this
      have h2 : (l.take i).countP p ≤ (l.take i).length := List.countP_le_length
      rw [List.length_take] at h2
      omega
  · intro h
    have e : l.countP p = (l.take (i + 1)).countP p + (l.drop (i + 1)).countP p := by rw [← List.countP_append, List.take_append_drop]
    have h1 : (l.take (i + 1)).countP p = (l.take (i + 1)).length := by
      rw [List.countP_eq_length]
      intro x hx
      obtain ⟨q, hq, rfl⟩ := List.mem_iff_getElem.1 hx
      rw [List.length_take] at hq
      rw [List.getElem_take]
      exact hm q i hi (by omega) h
    rw [List.length_take] at h1
    omega

section
variable {s : Sc}
theorem begF_iff (h : ntOk s) (c : Int) {i : Nat} (hi : i < s.notes.length) : i < begF s c ↔ (s.N i).f < c := by
  unfold begF
  rw [count_iff (fun a b hb hab hp => ?_) hi, decide_eq_true_eq, Sc.N_eq hi]
  rw [decide_eq_true_eq] at *
  have := h.from_le hab hb
  rw [Sc.N_eq (by omega), Sc.N_eq hb] at this
  omega
theorem secF_iff (h : cadOk s) (t : Int) {m : Nat} (hm : m < s.cads.length) : m < secF s t ↔ s.C m ≤ t := by
  unfold secF
  rw [count_iff (fun a b hb hab hp => ?_) hm, decide_eq_true_eq, Sc.C_eq hm]
  rw [decide_eq_true_eq] at *
  by_cases e : a = b
  · subst e; exact hp
  · have := h.lt (show a < b by omega) hb
    rw [Sc.C_eq (by omega), Sc.C_eq hb] at this
    omega
theorem fstF_iff (h : ScOk s) {k : Int} (h0 : 0 ≤ k) (h1 : k ≤ s.cads.length) {i : Nat} (hi : i < s.notes.length) : (secF s (s.N i).f : Int) < k ↔ (i : Int) < fstF s k := by
  unfold fstF
  by_cases e : k = 0
  · rw [if_pos e]; omega
  · rw [if_neg e, if_neg (by omega)]
    obtain ⟨m, rfl⟩ : ∃ m : Nat, k = (m : Int) + 1 := ⟨(k - 1).toNat, by omega⟩
    rw [show ((m : Int) + 1 - 1).toNat = m by omega]
    have a := begF_iff h.nt (s.C m) hi
    have b := secF_iff h.cd (s.N i).f (show m < s.cads.length by omega)
    omega
theorem begF_le (c : Int) : begF s c ≤ s.notes.length := List.countP_le_length
theorem begF_mono {a b : Int} (h : a ≤ b) : begF s a ≤ begF s b := by
  unfold begF
  apply List.countP_mono_left
  intro x _ hx
  simp only [decide_eq_true_eq] at *
  omega
theorem fstF_mono (h : ScOk s) {k : Int} (h0 : 0 ≤ k) (h1 : k ≤ s.cads.length) : fstF s k ≤ fstF s (k + 1) := by
  have hb := begF_le (s := s)
  unfold fstF
  by_cases e : k = 0
  · subst e
    rw [if_pos rfl, if_neg (by omega)]
    split <;> omega
  · rw [if_neg e, if_neg (by omega), if_neg (by omega)]
    obtain ⟨m, rfl⟩ : ∃ m : Nat, k = (m : Int) + 1 := ⟨(k - 1).toNat, by omega⟩
    rw [show ((m : Int) + 1 - 1).toNat = m by omega, show ((m : Int) + 1 + 1 - 1).toNat = m + 1 by omega]
    split
    · have := hb (s.C m); omega
    · have := h.cd.lt (show m < m + 1 by omega) (by omega)
      have := begF_mono (s := s) (show s.C m ≤ s.C (m + 1) by omega)
      omega
theorem fstF_nonneg (k : Int) : 0 ≤ fstF s k := by
  unfold fstF
  repeat' split
  all_goals omega
end

set_option maxRecDepth 100000 in
set_option maxHeartbeats 4000000 in
theorem beginnings_law (vn vp vc : Value) (s : Sc) (sec : Int) (w : World) (S : ScR w vn vp vc s) :
    Calls Try.prog 5 #[.agg #[.int .i64 s.voices, vn, vp, vc], .int .i64 sec] w fun e w' => e = .returned (.bool true) ∧ Ext w w' := by
  obtain ⟨an, cn, rfl, -, -, hln⟩ := S.nt.len
  obtain ⟨ap, cp, rfl, -, -, hlp⟩ := S.pr.len
  obtain ⟨ac, cc, rfl, -, -, hlc⟩ := S.cd.len
  go_enter Try.func5, Try.ntmps5
  go_wp2_with fail
  refine (head_walk _).mono ?_
  rintro e w1 ⟨rfl, x1⟩
  have X1 : Ext w w1 := Ext.trans (by repeat (first | with_reducible exact Ext.refl _ | with_reducible assumption | with_reducible apply Ext.alloc | with_reducible apply Ext.drew | (with_reducible refine Ext.setCell ?_ (by (try simp) <;> omega) _))) x1
  have B1 := BoxS.of (block_ext x1 (block_new w (.cells #[.int .i64 s.voices, .slice an s.notes.length cn, .slice ap s.pairs.length cp, .slice ac s.cads.length cc] 26)))
  obtain ⟨c0, c1, c2, c3⟩ := B1
  have HB1 : Hid (BoxS w.heap.size s.voices (.slice an s.notes.length cn) (.slice ap s.pairs.length cp) (.slice ac s.cads.length cc) w1) := Lib.hid ⟨c0, c1, c2, c3⟩
  clear x1
  go_wp2_with fail
  refine (scvalid_walk _ _ _ s _ (S.ext X1)).mono ?_
  cases hok : scB s with
  | false =>
    clear hok
    rintro e w2 ⟨rfl, x2⟩
    clear c0 c1 c2 c3
    go_wp2
    go_ret
    exact ⟨rfl, X1.trans x2⟩
  | true =>
    rintro e w2 ⟨rfl, x2⟩
    have X2 := X1.trans x2
    have HB2 := Lib.hid (HB1.out.ext x2)
    have HV := Lib.hid (scB_iff.1 hok)
    have HO := Lib.hid hok
    have S2 := S.ext X2
    have hnc := (scB_iff.1 hok).sz.2.2.2
    have hnn := (scB_iff.1 hok).sz.2.1
    clear c0 c1 c2 c3 hok x2
    obtain ⟨B, hB⟩ : ∃ B, w.heap.size = B := ⟨_, rfl⟩
    rw [hB] at HB2
    by_cases g1 : sec < 0
    · go_wp2
      go_ret
      exact ⟨rfl, X2⟩
    by_cases g2 : (s.cads.length : Int) < sec
    · go_wp2
      go_ret
      exact ⟨rfl, X2⟩
    have R1 : Hid (fstR s sec = (fstF s sec, 0)) := Lib.hid (by unfold fstR; rw [if_pos ⟨HO.out, by omega, by omega⟩])
    have R2 : Hid (fstR s (sec + 1) = (fstF s (sec + 1), 0)) := Lib.hid (by unfold fstR; rw [if_pos ⟨HO.out, by omega, by omega⟩])
    have R3 : Hid (fstR s 0 = (0, 0)) := Lib.hid (by unfold fstR; rw [if_pos ⟨HO.out, by omega, by omega⟩, fstF, if_pos rfl])
    have R4 : Hid (fstR s ((s.cads.length : Int) + 1) = ((s.notes.length : Int), 0)) := Lib.hid (by unfold fstR; rw [if_pos ⟨HO.out, by omega, by omega⟩, fstF, if_neg (by omega), if_pos rfl])
    have k1 := fstF_mono HV.out (show 0 ≤ sec by omega) (show sec ≤ s.cads.length by omega)
    have IFF := Lib.hid fun (i : Nat) (hi : i < s.notes.length) => fstF_iff HV.out (show 0 ≤ sec by omega) (show sec ≤ s.cads.length by omega) hi
    obtain ⟨a, ha⟩ : ∃ a, fstF s sec = a := ⟨_, rfl⟩
    obtain ⟨b, hb⟩ : ∃ b, fstF s (sec + 1) = b := ⟨_, rfl⟩
    rw [ha] at R1 k1 IFF
    rw [hb] at R2 k1
    have e1 : IntKind.i64.wrap (sec + 1) = sec + 1 := IntWalk.i64_in _ (by omega)
    have e2 : IntKind.i64.wrap ((s.cads.length : Int) + 1) = (s.cads.length : Int) + 1 := IntWalk.i64_in _ (by omega)
    clear ha hb
    obtain ⟨c0, c1, c2, c3⟩ := HB2.out
    go_wp2_with fail
    refine (first_walk _ _ _ s sec _ S2).mono ?_
    rw [R1.out]
    rintro e w3 ⟨rfl, x3⟩
    clear c0 c1 c2 c3
    obtain ⟨c0, c1, c2, c3⟩ := HB2.out.ext x3
    go_wp2_with fail
    refine (first_walk _ _ _ s (sec + 1) _ (S2.ext x3)).mono ?_
    rw [R2.out]
    rintro e w4 ⟨rfl, x4⟩
    have y4 := x3.trans x4
    clear c0 c1 c2 c3 x4 x3
    obtain ⟨c0, c1, c2, c3⟩ := HB2.out.ext y4
    go_wp2_with fail
    refine (first_walk _ _ _ s 0 _ (S2.ext y4)).mono ?_
    rw [R3.out]
    rintro e w5 ⟨rfl, x5⟩
    have y5 := y4.trans x5
    clear c0 c1 c2 c3 x5 y4
    obtain ⟨c0, c1, c2, c3⟩ := HB2.out.ext y5
    go_wp2_with fail
    refine (first_walk _ _ _ s ((s.cads.length : Int) + 1) _ (S2.ext y5)).mono ?_
    rw [R4.out]
    rintro e w6 ⟨rfl, x6⟩
    have y6 := y5.trans x6
    clear c0 c1 c2 c3 x6 y5
    have HB6 := Lib.hid (HB2.out.ext y6)
    have S6 := S2.ext y6
    have X6 := X2.trans y6
    obtain ⟨c0, c1, c2, c3⟩ := HB6.out
    clear HB2 S2 X2 y6 c0 c2 c3
    go_wp2
    clear hB c1
    go_loopw [15] (fun i wr => ∃ k : Nat, k ≤ s.notes.length ∧ i = .int .i64 k ∧ Ext w6 wr) (fun i _ => s.notes.length - (intOf i).toNat)
    case atStart => exact ⟨0, by omega, rfl, Ext.refl _⟩
    case round =>
      obtain ⟨k, hk, rfl, X⟩ := hrel
      obtain ⟨c0, c1, c2, c3⟩ := HB6.out.ext X
      by_cases hlt : k < s.notes.length
      · obtain ⟨b, o, rfl, q⟩ := Sl.nt (S6.nt.ext X) k hlt
        have q1 := q.c1
        have hN := Sc.N_eq hlt
        have hr := HV.out.nt.note hlt
        unfold noteOk at hr
        have hi := IFF.out k hlt
        rw [← hN] at q1
        obtain ⟨t, ht⟩ : ∃ t, (s.N k).f = t := ⟨_, rfl⟩
        rw [ht] at q1 hr hi
        have hr1 : 0 ≤ t ∧ t ≤ 100000 := by omega
        obtain ⟨u, hu⟩ : ∃ u, secF s t = u := ⟨_, rfl⟩
        have R1 : Hid (secR s t = ((u : Int), 0)) := Lib.hid (by unfold secR; rw [if_pos ⟨HO.out, by omega, by omega⟩, hu])
        rw [hu] at hi
        have i1 : (0 : Int) ≤ (k : Int) := by omega
        have i2 : (k : Int) < (s.notes.length : Int) := by omega
        have SW := Lib.hid fun u w' (y : Ext wr w') => section_walk (.slice (some ⟨b, o, none⟩) s.notes.length cn) (.slice ap s.pairs.length cp) (.slice ac s.cads.length cc) s u w' ((S6.ext X).ext y)
        clear hN ht hu q hr hr1
        obtain ⟨wo, rfl⟩ : ∃ wo : World, wo = wr := ⟨_, rfl⟩
        go_wp2
        go_region_held3 (fun w' => w'.cell? ⟨B, 0, none⟩ = some (.int .i64 s.voices) ∧ w'.cell? ⟨B, 1, none⟩ = some (.slice (some ⟨b, o, none⟩) s.notes.length cn) ∧ w'.cell? ⟨B, 2, none⟩ = some (.slice ap s.pairs.length cp) ∧ w'.cell? ⟨B, 3, none⟩ = some (.slice ac s.cads.length cc) ∧ w'.cell? ⟨b, o + k * 10 + 1, none⟩ = some (.int .i64 t)) (go_keep)
          ((go_at_call 14; refine (SW.out _ _ (by repeat (first | with_reducible exact Ext.refl _ | with_reducible assumption | with_reducible apply Ext.alloc | with_reducible apply Ext.drew | (with_reducible refine Ext.setCell ?_ (by (try simp) <;> omega) _)))).mono ?_; rw [R1.out]; rintro e w4 ⟨rfl, hx⟩; have y4 : Ext wo w4 := Ext.trans (by repeat (first | with_reducible exact Ext.refl _ | with_reducible assumption | with_reducible apply Ext.alloc | with_reducible apply Ext.drew | (with_reducible refine Ext.setCell ?_ (by (try simp) <;> omega) _))) hx; have k0 := y4.cell c0; have k1 := y4.cell c1; have k2 := y4.cell c2; have k3 := y4.cell c3; have k4 := y4.cell q1; clear hx))
        all_goals
          clear c0 c1 c2 c3 q1 k0 k1 k2 k3 k4
          by_cases hka : (k : Int) < a
          · have hus : (u : Int) < sec := hi.2 hka
            clear hi
            go_wp2
            go_roundw
            case rel => exact ⟨k + 1, by omega, by go_num, X.trans y4⟩
            case measure => simp [intOf] <;> omega
          · have hus : ¬ (u : Int) < sec := fun h => hka (hi.1 h)
            clear hi
            go_wp2
            go_roundw
            case rel => exact ⟨k + 1, by omega, by go_num, X.trans y4⟩
            case measure => simp [intOf] <;> omega
      · obtain rfl : k = s.notes.length := by omega
        clear c0 c2 c3
        go_wp2
        go_ret
        exact ⟨rfl, X6.trans X⟩

theorem scoreBeginnings_args (H : Type) (enc : TypeId × Value → H) (W : World) (base : Nat) (vs : List Value) (ds : List (DataW H)) (hA : Args enc Try.prog W base Try.f5.params.toList vs ds) :
    Calls Try.prog 5 vs.toArray W fun e W' => e = .returned (.bool true) ∧ Ext W W' := by
  rw [Try.params5] at hA
  obtain ⟨v0, _, d0, _, rfl, rfl, h0, hA⟩ := hA.cons
  obtain ⟨v1, _, d1, _, rfl, rfl, h1, hA⟩ := hA.cons
  obtain ⟨rfl, rfl⟩ := hA.nil
  obtain ⟨s, vn, vp, vc, rfl, S⟩ := arg_score h0
  obtain ⟨a, rfl, _⟩ := h1.int Try.underlying3
  exact beginnings_law vn vp vc s a W S

set_option maxRecDepth 100000 in
theorem scoreBeginnings_lifted (os : Os) (started : os.Started) (H : Type) (enc : TypeId × Value → H) :
    ReturnsInHanded {} Try.checked os 5 .any (Rows.scoreBeginningsSpec.pre6 enc Try.prog Try.f5 Rows.scoreBeginningsRow.domain false) (Rows.scoreBeginningsSpec.post enc Try.prog Try.f5 false true false false) :=
  law_said (C := Try.checked) (by kernel_rfl) started (by kernel_rfl) Try.func5
    (ChangeSpec.witness6 (enc := enc) (C := Try.checked) false ⟨#[], #[.agg #[.int .i64 0, .slice none 0 0, .slice none 0 0, .slice none 0 0], .int .i64 0], []⟩ 8 (by kernel_rfl) (by kernel_rfl) (by kernel_rfl) (by kernel_rfl))
    (by kernel_rfl) (by kernel_rfl) (by kernel_rfl) rfl (fun ds h => by match ds, h with | [_, _], _ => rfl) (scoreBeginnings_args H enc)

theorem scoreBeginnings_holds : Rows.ScoreBeginningsSaid :=
  OpenClaim.holds_of_wide 5 Try.f5 rfl rfl rfl rfl rfl rfl rfl ⟨rfl, rfl, rfl, rfl, rfl⟩ rfl rfl rfl rfl rfl (by kernel_rfl) Try.func5 (by kernel_rfl)
    (of_decide_eq_true (by kernel_rfl)) (by unfold Func.isWrapper; first | (rw [if_pos (by decide +kernel)]; kernel_rfl) | (rw [if_neg (by decide +kernel)]; exact ⟨rfl, rfl⟩))
    (fun os started H enc _ => scoreBeginnings_lifted os started H enc)
end Go.Proofs.Ytajicmghnllnmaa
