/-
  Walks: schismaref19.Sounding, Held, First.
-/
import Derived.Test.YtajicmghnllnmaaR19E
import Derived.Test.YtajicmghnllnmaaScH
set_option linter.unusedVariables false
namespace Go.Proofs.Ytajicmghnllnmaa
open Go.RowKit Go.Sx Go.Sx.Sz Go.Sx.Sc

set_option maxRecDepth 100000 in
set_option maxHeartbeats 4000000 in
theorem rsound19_walk (vn vp vc : Value) (s : Sc) (t : Int) (w : World) (S : ScR w vn vp vc s) : Calls Try.prog 21 #[.agg #[.int .i64 s.voices, vn, vp, vc], .int .i64 t] w fun e w' => ∃ v, e = .returned (.tuple #[v, .int .i64 (sndR s t).2]) ∧ Sl w' 1 encZ v (sndR s t).1 ∧ Ext w w' := by
  obtain ⟨an, cn, rfl, -, -, hln⟩ := S.nt.len
  obtain ⟨ap, cp, rfl, -, -, hlp⟩ := S.pr.len
  obtain ⟨ac, cc, rfl, -, -, hlc⟩ := S.cd.len
  by_cases hg : scB s = true ∧ 0 ≤ t ∧ t ≤ 100000
  · have hR : sndR s t = (chooseL s.notes (sndP t), 0) := by unfold sndR; rw [if_pos hg]
    rw [hR]
    obtain ⟨hok, h1, h2⟩ := hg
    have h1' : ¬ t < 0 := by omega
    have h2' : ¬ 100000 < t := by omega
    have HO := Lib.hid hok
    have hnn := (scB_iff.1 hok).sz.2.1
    clear hok hR
    go_enter Try.func21, Try.ntmps21
    go_wp2_with fail
    refine (rvalid19_walk _ _ _ s _ (S.ext (by repeat (first | with_reducible exact Ext.refl _ | with_reducible assumption | with_reducible apply Ext.alloc | with_reducible apply Ext.drew | (with_reducible refine Ext.setCell ?_ (by (try simp) <;> omega) _))))).mono ?_
    rw [HO.out]
    rintro e W ⟨rfl, x1⟩
    have XW : Ext w W := Ext.trans (by repeat (first | with_reducible exact Ext.refl _ | with_reducible assumption | with_reducible apply Ext.alloc | with_reducible apply Ext.drew | (with_reducible refine Ext.setCell ?_ (by (try simp) <;> omega) _))) x1
    have b1 := block_ext x1 (block_new w (.cells #[.int .i64 s.voices, .slice an s.notes.length cn, .slice ap s.pairs.length cp, .slice ac s.cads.length cc] 26))
    have C1 := Lib.hid (block_cell b1 1 (.slice an s.notes.length cn) rfl)
    have SN := S.nt.ext XW
    obtain ⟨B, hB⟩ : ∃ B, w.heap.size = B := ⟨_, rfl⟩
    rw [hB] at C1
    clear x1 b1
    go_wp2
    clear hB
    go_loopw [6, 7] (fun v i wr => ∃ k : Nat, k ≤ s.notes.length ∧ i = .int .i64 k ∧ OwnR wr W.heap.size 3 1 encZ v (chooseL (s.notes.take k) (sndP t)) ∧ Ext W wr) (fun _ i _ => s.notes.length - (intOf i).toNat)
    case atStart => exact ⟨0, by omega, rfl, OwnR.nil, Ext.refl _⟩
    case round =>
      obtain ⟨k, hk, rfl, own, X⟩ := hrel
      have c1 := X.cell C1.out
      by_cases hlt : k < s.notes.length
      · obtain ⟨b, o, rfl, A⟩ := Sl.nt (SN.ext X) k hlt
        have hts : chooseL (s.notes.take (k + 1)) (sndP t) = chooseL (s.notes.take k) (sndP t) ++ if (sndP t) s.notes[k] = true then [(k : Int)] else [] := by
          rw [List.take_succ_eq_append_getElem hlt, chooseL_snoc, List.length_take, Nat.min_eq_left (by omega)]
        have hlen : (chooseL (s.notes.take k) (sndP t)).length ≤ k := Nat.le_trans chooseL_len (by rw [List.length_take]; omega)
        obtain ⟨x, hx⟩ : ∃ x, s.notes[k] = x := ⟨_, rfl⟩
        rw [hx] at A hts
        obtain ⟨q0, q1, q2, q3, q4, q5, q6, q7, q8, q9⟩ := A
        obtain ⟨c, hc⟩ : ∃ c, (sndP t) x = c := ⟨_, rfl⟩
        rw [hc] at hts
        have HC := Lib.hid hc; have HT := Lib.hid hts
        have i1 : (0 : Int) ≤ (k : Int) := by omega
        have i2 : (k : Int) < (s.notes.length : Int) := by omega
        clear hx hc hts
        obtain ⟨wo, rfl⟩ : ∃ wo : World, wo = wr := ⟨_, rfl⟩
        go_wp2_with fail
        refine (sounds_walk x t _).mono ?_
        rw [HC.out]
        rintro e w1 ⟨rfl, x1⟩
        have y1 : Ext wo w1 := Ext.trans (by repeat (first | with_reducible exact Ext.refl _ | with_reducible assumption | with_reducible apply Ext.alloc | with_reducible apply Ext.drew | (with_reducible refine Ext.setCell ?_ (by (try simp) <;> omega) _))) x1
        have own1 := own.ext y1
        have X1 := X.trans y1
        have hsz := X1.size
        clear q0 q1 q2 q3 q4 q5 q6 q7 q8 q9 x1 own y1
        cases c with
        | true =>
          go_wp2_with (at_builtin; go_must (refine wpList_own1 et_z rfl _ _ rfl own1 rfl (k : Int) rfl rfl rfl (by simp [encZ, Value.oneCell']) (by omega) hsz ?_; intro v' w2 hown' hb' happ _))
          go_roundw
          case rel => exact ⟨k + 1, by omega, by go_num, by rw [HT.out]; exact hown', Below.trans X1 hb'⟩
          case measure => simp [intOf]; omega
        | false =>
          go_wp2
          go_roundw
          case rel => exact ⟨k + 1, by omega, by go_num, by rw [HT.out]; simpa using own1, X1⟩
          case measure => simp [intOf]; omega
      · obtain rfl : k = s.notes.length := by omega
        rw [List.take_length] at own
        have hlen : (chooseL s.notes (sndP t)).length ≤ s.notes.length := chooseL_len
        have S7 := own.sl (fun _ _ => rfl) (by omega)
        have XX := XW.trans X
        clear own SN
        go_wp2
        exact bodyPost_ret (v := .tuple #[u6, .int .i64 0]) (by simp [results, Try.results21, go_sem]) rfl ⟨u6, rfl, S7, XX⟩
  · have hR : sndR s t = ([], 1) := by unfold sndR; rw [if_neg hg]
    rw [hR]
    cases hok : scB s with
    | false =>
      have HO := Lib.hid hok
      clear hok hR hg
      go_enter Try.func21, Try.ntmps21
      go_wp2_with fail
      refine (rvalid19_walk _ _ _ s _ (S.ext (by repeat (first | with_reducible exact Ext.refl _ | with_reducible assumption | with_reducible apply Ext.alloc | with_reducible apply Ext.drew | (with_reducible refine Ext.setCell ?_ (by (try simp) <;> omega) _))))).mono ?_
      rw [HO.out]
      rintro e w1 ⟨rfl, x1⟩
      have X1 : Ext w w1 := Ext.trans (by repeat (first | with_reducible exact Ext.refl _ | with_reducible assumption | with_reducible apply Ext.alloc | with_reducible apply Ext.drew | (with_reducible refine Ext.setCell ?_ (by (try simp) <;> omega) _))) x1
      go_wp2
      refine bodyPost_ret (v := .tuple #[.slice none 0 0, .int .i64 1]) (by simp [results, Try.results21, go_sem]) rfl ⟨_, rfl, Sl.nil _ _ _, X1⟩
    | true =>
      have HO := Lib.hid hok
      have hg' : ¬ (0 ≤ t ∧ t ≤ 100000) := fun h => hg ⟨hok, h⟩
      clear hok hR hg
      by_cases h1 : t < 0
      all_goals
        (try (have h2 : 100000 < t := by omega))
        clear hg'
        go_enter Try.func21, Try.ntmps21
        go_wp2_with fail
        refine (rvalid19_walk _ _ _ s _ (S.ext (by repeat (first | with_reducible exact Ext.refl _ | with_reducible assumption | with_reducible apply Ext.alloc | with_reducible apply Ext.drew | (with_reducible refine Ext.setCell ?_ (by (try simp) <;> omega) _))))).mono ?_
        rw [HO.out]
        rintro e w1 ⟨rfl, x1⟩
        have X1 : Ext w w1 := Ext.trans (by repeat (first | with_reducible exact Ext.refl _ | with_reducible assumption | with_reducible apply Ext.alloc | with_reducible apply Ext.drew | (with_reducible refine Ext.setCell ?_ (by (try simp) <;> omega) _))) x1
        clear x1
        go_wp2
        refine bodyPost_ret (v := .tuple #[.slice none 0 0, .int .i64 1]) (by simp [results, Try.results21, go_sem]) rfl ⟨_, rfl, Sl.nil _ _ _, X1⟩
set_option maxRecDepth 100000 in
set_option maxHeartbeats 4000000 in
theorem rheld19_walk (vn vp vc : Value) (s : Sc) (k : Int) (w : World) (S : ScR w vn vp vc s) : Calls Try.prog 24 #[.agg #[.int .i64 s.voices, vn, vp, vc], .int .i64 k] w fun e w' => ∃ v, e = .returned (.tuple #[v, .int .i64 (heldR s k).2]) ∧ Sl w' 1 encZ v (heldR s k).1 ∧ Ext w w' := by
  obtain ⟨an, cn, rfl, -, -, hln⟩ := S.nt.len
  obtain ⟨ap, cp, rfl, -, -, hlp⟩ := S.pr.len
  obtain ⟨ac, cc, rfl, -, -, hlc⟩ := S.cd.len
  by_cases hg : scB s = true ∧ 1 ≤ k ∧ k ≤ s.cads.length
  · have hR : heldR s k = (chooseL s.notes (heldP (s.C (k - 1).toNat)), 0) := by unfold heldR; rw [if_pos hg]
    rw [hR]
    obtain ⟨hok, h1, h2⟩ := hg
    obtain ⟨m, rfl⟩ : ∃ m : Nat, k = (m : Int) + 1 := ⟨(k - 1).toNat, by omega⟩
    have em : ((m : Int) + 1 - 1).toNat = m := by omega
    have hm : m < s.cads.length := by omega
    have hC := Sc.C_eq hm
    rw [em]
    obtain ⟨t, ht⟩ : ∃ t, s.C m = t := ⟨_, rfl⟩
    rw [ht] at hC ⊢
    have h1' : ¬ (m : Int) + 1 < 1 := by omega
    have h2' : ¬ (s.cads.length : Int) < (m : Int) + 1 := by omega
    have i1 : (0 : Int) ≤ (m : Int) := by omega
    have i2 : (m : Int) < (s.cads.length : Int) := by omega
    have HO := Lib.hid hok
    have HC0 := Lib.hid hC
    have HNF := Lib.hid fun (i : Nat) (hi : i < s.notes.length) => ((scB_iff.1 hok).nt.note hi).2.1.2
    have hnn := (scB_iff.1 hok).sz.2.1
    have e1 : IntKind.i64.wrap ((m : Int) + 1 - 1) = (m : Int) := by rw [IntWalk.i64_in _ (by omega)]; omega
    clear hok hR ht em hC h1 h2
    go_enter Try.func24, Try.ntmps24
    go_wp2_with fail
    refine (rvalid19_walk _ _ _ s _ (S.ext (by repeat (first | with_reducible exact Ext.refl _ | with_reducible assumption | with_reducible apply Ext.alloc | with_reducible apply Ext.drew | (with_reducible refine Ext.setCell ?_ (by (try simp) <;> omega) _))))).mono ?_
    rw [HO.out]
    rintro e W ⟨rfl, x1⟩
    have XW : Ext w W := Ext.trans (by repeat (first | with_reducible exact Ext.refl _ | with_reducible assumption | with_reducible apply Ext.alloc | with_reducible apply Ext.drew | (with_reducible refine Ext.setCell ?_ (by (try simp) <;> omega) _))) x1
    have b1 := block_ext x1 (block_new w (.cells #[.int .i64 s.voices, .slice an s.notes.length cn, .slice ap s.pairs.length cp, .slice ac s.cads.length cc] 26))
    have C1 := Lib.hid (block_cell b1 1 (.slice an s.notes.length cn) rfl)
    have SN := S.nt.ext XW
    obtain ⟨bc, oc, rfl, qc⟩ := Sl.num (S.cd.ext XW) m hm
    rw [← HC0.out] at qc
    have c3 := block_cell b1 3 (.slice (some ⟨bc, oc, none⟩) s.cads.length cc) rfl
    obtain ⟨B, hB⟩ : ∃ B, w.heap.size = B := ⟨_, rfl⟩
    rw [hB] at C1 c3
    have c1 := C1.out
    clear x1 b1
    go_wp2
    clear hB c1 c3 qc i1 i2
    go_loopw [7, 8] (fun v i wr => ∃ k : Nat, k ≤ s.notes.length ∧ i = .int .i64 k ∧ OwnR wr W.heap.size 3 1 encZ v (chooseL (s.notes.take k) (heldP t)) ∧ Ext W wr) (fun _ i _ => s.notes.length - (intOf i).toNat)
    case atStart => exact ⟨0, by omega, rfl, OwnR.nil, Ext.refl _⟩
    case round =>
      obtain ⟨k, hk, rfl, own, X⟩ := hrel
      have c1 := X.cell C1.out
      by_cases hlt : k < s.notes.length
      · obtain ⟨b, o, rfl, A⟩ := Sl.nt (SN.ext X) k hlt
        have hts : chooseL (s.notes.take (k + 1)) (heldP t) = chooseL (s.notes.take k) (heldP t) ++ if (heldP t) s.notes[k] = true then [(k : Int)] else [] := by
          rw [List.take_succ_eq_append_getElem hlt, chooseL_snoc, List.length_take, Nat.min_eq_left (by omega)]
        have hlen : (chooseL (s.notes.take k) (heldP t)).length ≤ k := Nat.le_trans chooseL_len (by rw [List.length_take]; omega)
        obtain ⟨x, hx⟩ : ∃ x, s.notes[k] = x := ⟨_, rfl⟩
        rw [hx] at A hts
        obtain ⟨q0, q1, q2, q3, q4, q5, q6, q7, q8, q9⟩ := A
        have hxf : x.f < x.u := by have := HNF.out k hlt; rw [Sc.N_eq hlt, hx] at this; exact this
        have hcase : (sndP t x = false ∧ heldP t x = false) ∨ (sndP t x = true ∧ x.f < t ∧ heldP t x = true) ∨ (sndP t x = true ∧ ¬ x.f < t ∧ heldP t x = x.tied) := by
          unfold sndP heldP
          by_cases a1 : x.f < t
          · by_cases a2 : t < x.u
            · right; left; simp [a1, a2]; omega
            · left; simp [a1, a2]; omega
          · by_cases a3 : x.f = t
            · right; right; simp [a3]; omega
            · left; simp [a1, a3]; omega
        have HT := Lib.hid hts
        have i1 : (0 : Int) ≤ (k : Int) := by omega
        have i2 : (k : Int) < (s.notes.length : Int) := by omega
        clear hx hts hxf
        obtain ⟨wo, rfl⟩ : ∃ wo : World, wo = wr := ⟨_, rfl⟩
        rcases hcase with ⟨ha, hb⟩ | ⟨ha, hf, hb⟩ | ⟨ha, hf, hb⟩
        · have HA := Lib.hid ha; have HB := Lib.hid hb
          clear ha hb
          go_wp2_with fail
          refine (sounds_walk x t _).mono ?_
          rw [HA.out]
          rintro e w1 ⟨rfl, x1⟩
          have y1 : Ext wo w1 := Ext.trans (by repeat (first | with_reducible exact Ext.refl _ | with_reducible assumption | with_reducible apply Ext.alloc | with_reducible apply Ext.drew | (with_reducible refine Ext.setCell ?_ (by (try simp) <;> omega) _))) x1
          have own1 := own.ext y1
          have X1 := X.trans y1
          clear q0 q1 q2 q3 q4 q5 q6 q7 q8 q9 x1 own y1
          go_wp2
          go_roundw
          case rel => exact ⟨k + 1, by omega, by go_num, by rw [HT.out, HB.out]; simpa using own1, X1⟩
          case measure => simp [intOf]; omega
        · have HA := Lib.hid ha; have HB := Lib.hid hb
          clear ha hb
          go_wp2_with fail
          refine (sounds_walk x t _).mono ?_
          rw [HA.out]
          rintro e w1 ⟨rfl, x1⟩
          have y1 : Ext wo w1 := Ext.trans (by repeat (first | with_reducible exact Ext.refl _ | with_reducible assumption | with_reducible apply Ext.alloc | with_reducible apply Ext.drew | (with_reducible refine Ext.setCell ?_ (by (try simp) <;> omega) _))) x1
          have own1 := own.ext y1
          have X1 := X.trans y1
          have hsz := X1.size
          have k1 := y1.cell c1; have z1 := y1.cell q1
          clear c1 q0 q1 q2 q3 q4 q5 q6 q7 q8 q9 x1 own y1
          go_wp2_with (at_builtin; go_must (refine wpList_own1 et_z rfl _ _ rfl own1 rfl (k : Int) rfl rfl rfl (by simp [encZ, Value.oneCell']) (by omega) hsz ?_; intro v' w2 hown' hb' happ _))
          go_roundw
          case rel => exact ⟨k + 1, by omega, by go_num, by rw [HT.out, HB.out]; exact hown', Below.trans X1 hb'⟩
          case measure => simp [intOf]; omega
        · have HA := Lib.hid ha; have HB := Lib.hid hb
          clear ha hb
          obtain ⟨td, htd⟩ : ∃ b, x.tied = b := ⟨_, rfl⟩
          have HTD := Lib.hid htd
          have hq9 := q9
          rw [htd] at hq9
          clear htd
          go_wp2_with fail
          refine (sounds_walk x t _).mono ?_
          rw [HA.out]
          rintro e w1 ⟨rfl, x1⟩
          have y1 : Ext wo w1 := Ext.trans (by repeat (first | with_reducible exact Ext.refl _ | with_reducible assumption | with_reducible apply Ext.alloc | with_reducible apply Ext.drew | (with_reducible refine Ext.setCell ?_ (by (try simp) <;> omega) _))) x1
          have own1 := own.ext y1
          have X1 := X.trans y1
          have hsz := X1.size
          have k1 := y1.cell c1; have z1 := y1.cell q1; have z9 := y1.cell hq9
          clear c1 q0 q1 q2 q3 q4 q5 q6 q7 q8 q9 hq9 x1 own y1
          cases td with
          | true =>
            go_wp2_with (at_builtin; go_must (refine wpList_own1 et_z rfl _ _ rfl own1 rfl (k : Int) rfl rfl rfl (by simp [encZ, Value.oneCell']) (by omega) hsz ?_; intro v' w2 hown' hb' happ _))
            go_roundw
            case rel => exact ⟨k + 1, by omega, by go_num, by rw [HT.out, HB.out, HTD.out]; exact hown', Below.trans X1 hb'⟩
            case measure => simp [intOf]; omega
          | false =>
            go_wp2
            go_roundw
            case rel => exact ⟨k + 1, by omega, by go_num, by rw [HT.out, HB.out, HTD.out]; simpa using own1, X1⟩
            case measure => simp [intOf]; omega
      · obtain rfl : k = s.notes.length := by omega
        rw [List.take_length] at own
        have hlen : (chooseL s.notes (heldP t)).length ≤ s.notes.length := chooseL_len
        have S7 := own.sl (fun _ _ => rfl) (by omega)
        have XX := XW.trans X
        clear own SN
        go_wp2
        exact bodyPost_ret (v := .tuple #[u7, .int .i64 0]) (by simp [results, Try.results24, go_sem]) rfl ⟨u7, rfl, S7, XX⟩
  · have hR : heldR s k = ([], 1) := by unfold heldR; rw [if_neg hg]
    rw [hR]
    cases hok : scB s with
    | false =>
      have HO := Lib.hid hok
      clear hok hR hg
      go_enter Try.func24, Try.ntmps24
      go_wp2_with fail
      refine (rvalid19_walk _ _ _ s _ (S.ext (by repeat (first | with_reducible exact Ext.refl _ | with_reducible assumption | with_reducible apply Ext.alloc | with_reducible apply Ext.drew | (with_reducible refine Ext.setCell ?_ (by (try simp) <;> omega) _))))).mono ?_
      rw [HO.out]
      rintro e w1 ⟨rfl, x1⟩
      have X1 : Ext w w1 := Ext.trans (by repeat (first | with_reducible exact Ext.refl _ | with_reducible assumption | with_reducible apply Ext.alloc | with_reducible apply Ext.drew | (with_reducible refine Ext.setCell ?_ (by (try simp) <;> omega) _))) x1
      go_wp2
      refine bodyPost_ret (v := .tuple #[.slice none 0 0, .int .i64 1]) (by simp [results, Try.results24, go_sem]) rfl ⟨_, rfl, Sl.nil _ _ _, X1⟩
    | true =>
      have HO := Lib.hid hok
      have hg' : ¬ (1 ≤ k ∧ k ≤ s.cads.length) := fun h => hg ⟨hok, h⟩
      clear hok hR hg
      by_cases h1 : k < 1
      all_goals
        (try (have h2 : (s.cads.length : Int) < k := by omega))
        clear hg'
        go_enter Try.func24, Try.ntmps24
        go_wp2_with fail
        refine (rvalid19_walk _ _ _ s _ (S.ext (by repeat (first | with_reducible exact Ext.refl _ | with_reducible assumption | with_reducible apply Ext.alloc | with_reducible apply Ext.drew | (with_reducible refine Ext.setCell ?_ (by (try simp) <;> omega) _))))).mono ?_
        rw [HO.out]
        rintro e w1 ⟨rfl, x1⟩
        have X1 : Ext w w1 := Ext.trans (by repeat (first | with_reducible exact Ext.refl _ | with_reducible assumption | with_reducible apply Ext.alloc | with_reducible apply Ext.drew | (with_reducible refine Ext.setCell ?_ (by (try simp) <;> omega) _))) x1
        have b1 := block_ext x1 (block_new w (.cells #[.int .i64 s.voices, .slice an s.notes.length cn, .slice ap s.pairs.length cp, .slice ac s.cads.length cc] 26))
        have c3 := block_cell b1 3 (.slice ac s.cads.length cc) rfl
        clear x1 b1
        go_wp2
        refine bodyPost_ret (v := .tuple #[.slice none 0 0, .int .i64 1]) (by simp [results, Try.results24, go_sem]) rfl ⟨_, rfl, Sl.nil _ _ _, X1⟩
def fstC (s : Sc) (k : Int) : Int × Int := if scB s = true ∧ 0 ≤ k ∧ k ≤ s.cads.length + 1 then (((s.notes.countP (fun n => decide ((secF s n.f : Int) < k)) : Nat) : Int), 0) else (0, 1)
set_option maxRecDepth 100000 in
set_option maxHeartbeats 4000000 in
theorem rfirst19_walk (vn vp vc : Value) (s : Sc) (q : Int) (w : World) (S : ScR w vn vp vc s) : Calls Try.prog 19 #[.agg #[.int .i64 s.voices, vn, vp, vc], .int .i64 q] w fun e w' => e = .returned (.tuple #[.int .i64 (fstC s q).1, .int .i64 (fstC s q).2]) ∧ Ext w w' := by
  obtain ⟨an, cn, rfl, -, -, hln⟩ := S.nt.len
  obtain ⟨ap, cp, rfl, -, -, hlp⟩ := S.pr.len
  obtain ⟨ac, cc, rfl, -, -, hlc⟩ := S.cd.len
  cases hok : scB s with
  | false =>
    have HR : Hid (fstC s q = (0, 1)) := Lib.hid (by unfold fstC; rw [hok, if_neg (by simp)])
    have HO := Lib.hid hok
    clear hok
    go_enter Try.func19, Try.ntmps19
    go_wp2_with fail
    refine (rvalid19_walk _ _ _ s _ (S.ext (by repeat (first | with_reducible exact Ext.refl _ | with_reducible assumption | with_reducible apply Ext.alloc | with_reducible apply Ext.drew | (with_reducible refine Ext.setCell ?_ (by (try simp) <;> omega) _))))).mono ?_
    rw [HO.out]
    rintro e w1 ⟨rfl, x1⟩
    have X1 : Ext w w1 := Ext.trans (by repeat (first | with_reducible exact Ext.refl _ | with_reducible assumption | with_reducible apply Ext.alloc | with_reducible apply Ext.drew | (with_reducible refine Ext.setCell ?_ (by (try simp) <;> omega) _))) x1
    go_wp2
    go_ret2
    exact ⟨by rw [HR.out] <;> rfl, X1⟩
  | true =>
    have HO := Lib.hid hok
    have hnn := (scB_iff.1 hok).sz.2.1
    have hcn := (scB_iff.1 hok).sz.2.2.2
    have e1 : IntKind.i64.wrap ((s.cads.length : Int) + 1) = (s.cads.length : Int) + 1 := IntWalk.i64_in _ (by omega)
    clear hok
    go_enter Try.func19, Try.ntmps19
    go_wp2_with fail
    refine (rvalid19_walk _ _ _ s _ (S.ext (by repeat (first | with_reducible exact Ext.refl _ | with_reducible assumption | with_reducible apply Ext.alloc | with_reducible apply Ext.drew | (with_reducible refine Ext.setCell ?_ (by (try simp) <;> omega) _))))).mono ?_
    rw [HO.out]
    rintro e W ⟨rfl, x1⟩
    have XW : Ext w W := Ext.trans (by repeat (first | with_reducible exact Ext.refl _ | with_reducible assumption | with_reducible apply Ext.alloc | with_reducible apply Ext.drew | (with_reducible refine Ext.setCell ?_ (by (try simp) <;> omega) _))) x1
    have b1 := block_ext x1 (block_new w (.cells #[.int .i64 s.voices, .slice an s.notes.length cn, .slice ap s.pairs.length cp, .slice ac s.cads.length cc] 26))
    obtain ⟨B, hB⟩ : ∃ B, w.heap.size = B := ⟨_, rfl⟩
    rw [hB] at b1
    have CB : Hid (∀ w', Ext W w' → w'.cell? ⟨B, 0, none⟩ = some (.int .i64 s.voices) ∧ w'.cell? ⟨B, 1, none⟩ = some (.slice an s.notes.length cn) ∧ w'.cell? ⟨B, 2, none⟩ = some (.slice ap s.pairs.length cp) ∧ w'.cell? ⟨B, 3, none⟩ = some (.slice ac s.cads.length cc)) := Lib.hid fun w' x =>
      ⟨x.cell (block_cell b1 0 _ rfl), x.cell (block_cell b1 1 _ rfl), x.cell (block_cell b1 2 _ rfl), x.cell (block_cell b1 3 _ rfl)⟩
    have S1 := S.ext XW
    clear x1 b1
    obtain ⟨c0, c1, c2, c3⟩ := CB.out W (Ext.refl _)
    by_cases g1 : q < 0
    · have HR : Hid (fstC s q = (0, 1)) := Lib.hid (by unfold fstC; rw [if_neg (by omega)])
      clear c0 c1 c2 c3
      go_wp2
      go_ret2
      exact ⟨by rw [HR.out] <;> rfl, XW⟩
    by_cases g2 : (s.cads.length : Int) + 1 < q
    · have HR : Hid (fstC s q = (0, 1)) := Lib.hid (by unfold fstC; rw [if_neg (by omega)])
      clear c0 c1 c2
      go_wp2
      go_ret2
      exact ⟨by rw [HR.out] <;> rfl, XW⟩
    have HR : Hid (fstC s q = (((s.notes.countP (fun n => decide ((secF s n.f : Int) < q)) : Nat) : Int), 0)) := Lib.hid (by unfold fstC; rw [if_pos ⟨HO.out, by omega, by omega⟩])
    clear c0 c1 c2
    go_wp2
    clear hB c3 g1 g2 e1
    go_loopw [6, 7] (fun a i wr => ∃ (k m : Nat), k ≤ s.notes.length ∧ m ≤ k ∧ i = .int .i64 k ∧ a = .int .i64 m ∧ Hid (m = (s.notes.take k).countP (fun n => decide ((secF s n.f : Int) < q))) ∧ Ext W wr) (fun _ i _ => s.notes.length - (intOf i).toNat)
    case atStart => exact ⟨0, 0, by omega, by omega, rfl, rfl, Lib.hid rfl, Ext.refl _⟩
    case round =>
      obtain ⟨k, m, hk, hmk, rfl, rfl, HM, X⟩ := hrel
      obtain ⟨c0, c1, c2, c3⟩ := CB.out wr X
      by_cases hlt : k < s.notes.length
      · obtain ⟨b, o, rfl, p⟩ := Sl.nt (S1.nt.ext X) k hlt
        have p1 := p.c1
        obtain ⟨f, hf⟩ : ∃ c, s.notes[k].f = c := ⟨_, rfl⟩
        rw [hf] at p1
        obtain ⟨u, hu⟩ : ∃ c, secF s f = c := ⟨_, rfl⟩
        have HT : Hid ((s.notes.take (k + 1)).countP (fun n => decide ((secF s n.f : Int) < q)) = m + if (u : Int) < q then 1 else 0) := Lib.hid (by
          rw [List.take_succ_eq_append_getElem hlt, List.countP_append, ← HM.out, List.countP_singleton, hf, hu]
          by_cases e : (u : Int) < q <;> simp [e])
        have HU := Lib.hid hu
        have OW := Lib.hid fun w' (y : Ext wr w') => rof19_walk (.slice (some ⟨b, o, none⟩) s.notes.length cn) (.slice ap s.pairs.length cp) (.slice ac s.cads.length cc) s f w' ((S1.ext X).ext y)
        have i1 : (0 : Int) ≤ (k : Int) := by omega
        have i2 : (k : Int) < (s.notes.length : Int) := by omega
        have g0 := ext_cells c0; have g1 := ext_cells c1; have g2 := ext_cells c2; have g3 := ext_cells c3; have g4 := ext_cells p1
        clear hf hu p
        obtain ⟨wo, rfl⟩ : ∃ wo : World, wo = wr := ⟨_, rfl⟩
        go_wp2
        refine wp_region_ord [(0,true), (1,true), (2,true), (3,true), (4,true), (5,true), (6,true), (7,true), (8,true), (9,true)] 10 Ext (Ext wo) wide (by kernel_rfl) (stable_ext _) (Ext.drawn _ _) ?_
        iterate 7 (first | (apply wpOrd_yes rfl; rfl; (intro w' hw'; unfold opR; go_simp; exact ⟨Ext.refl _, rfl⟩); (simp only [List.getElem_toArray, List.getElem_cons_succ, List.getElem_cons_zero, Act.put, List.setIfInBounds_toArray, List.set_cons_succ, List.set_cons_zero]; rfl)) | (apply wpOrd_no rfl; rfl; (simp only [List.getElem_toArray, List.getElem_cons_succ, List.getElem_cons_zero, Act.put, List.setIfInBounds_toArray, List.set_cons_succ, List.set_cons_zero]; rfl)))
        (apply wpOrd_det rfl rfl; (intro w' hw'; refine opR_call rfl (Go.Proofs.enters_of Try.func38 (by kernel_rfl) rfl) (by simp only [List.map_toArray, List.map_cons, List.map_nil, Act.eval, Array.getD_eq_getD_getElem?, List.getElem?_toArray, List.getElem?_cons_succ, List.getElem?_cons_zero, Option.getD_some]; rfl) ?_; refine (OW.out _ hw').mono ?_; rw [HU.out]; rintro e w'' ⟨rfl, hx⟩; exact ⟨_, rfl, hx, rfl⟩); (simp only [List.getElem_toArray, List.getElem_cons_succ, List.getElem_cons_zero, Act.put, List.setIfInBounds_toArray, List.set_cons_succ, List.set_cons_zero]; rfl))
        iterate 2 (first | (apply wpOrd_yes rfl; rfl; (intro w' hw'; unfold opR; go_simp; exact ⟨Ext.refl _, rfl⟩); (simp only [List.getElem_toArray, List.getElem_cons_succ, List.getElem_cons_zero, Act.put, List.setIfInBounds_toArray, List.set_cons_succ, List.set_cons_zero]; rfl)) | (apply wpOrd_no rfl; rfl; (simp only [List.getElem_toArray, List.getElem_cons_succ, List.getElem_cons_zero, Act.put, List.setIfInBounds_toArray, List.set_cons_succ, List.set_cons_zero]; rfl)))
        refine wpOrd_nil rfl ?_
        intro w9 x9
        clear c0 c1 c2 c3 p1 g0 g1 g2 g3 g4
        by_cases e1 : (u : Int) < q
        · have HE := Lib.hid e1
          go_wp2
          go_roundw
          case rel => exact ⟨k + 1, m + 1, by omega, by omega, by go_num, by go_num, Lib.hid (by rw [HT.out, if_pos HE.out]), X.trans x9⟩
          case measure => simp [intOf] <;> omega
        · have HE := Lib.hid e1
          go_wp2
          go_roundw
          case rel => exact ⟨k + 1, m, by omega, by omega, by go_num, by go_num, Lib.hid (by rw [HT.out, if_neg (by have := HE.out; omega)]; rfl), X.trans x9⟩
          case measure => simp [intOf] <;> omega
      · obtain rfl : k = s.notes.length := by omega
        have HE : Hid (m = s.notes.countP (fun n => decide ((secF s n.f : Int) < q))) := Lib.hid (by rw [HM.out, List.take_length])
        clear c0 c2 c3
        go_wp2
        go_ret2
        exact ⟨by rw [HR.out, ← HE.out] <;> rfl, XW.trans X⟩
end Go.Proofs.Ytajicmghnllnmaa
