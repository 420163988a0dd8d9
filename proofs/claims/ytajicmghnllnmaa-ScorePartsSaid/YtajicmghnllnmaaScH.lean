/-
  Walks: the functions of score.First, Before, Sounding and Held; BinarySearchFunc, IndexFunc and choose with them.
-/
import Derived.Test.YtajicmghnllnmaaScG
set_option linter.unusedVariables false
namespace Go.Proofs.Ytajicmghnllnmaa
open Go.RowKit Go.Sx Go.Sx.Sz Go.Sx.Sc

theorem first1_walk (n : Nt) (t : Int) (w : World) : Calls Try.prog 43 #[.agg #[.int .i64 n.v, .int .i64 n.f, .int .i64 n.u, .int .i64 n.x.a, .int .i64 n.x.b, .int .i64 n.x.c, .int .i64 n.x.d, .int .i64 n.x.e, .int .i64 n.x.f, .bool n.tied], .int .i64 t] w fun e w' => e = .returned (.int .i64 (cmpZ n.f t)) ∧ Ext w w' := by
  go_enter Try.func43, Try.ntmps43
  go_wp2_with fail
  refine (compare_walk n.f t _).mono ?_
  rintro e w1 ⟨rfl, x1⟩
  have X1 : Ext w w1 := Ext.trans (by repeat (first | with_reducible exact Ext.refl _ | with_reducible assumption | with_reducible apply Ext.alloc | with_reducible apply Ext.drew | (with_reducible refine Ext.setCell ?_ (by (try simp) <;> omega) _))) x1
  go_wp2
  go_ret
  exact ⟨rfl, X1⟩

set_option maxRecDepth 100000 in
set_option maxHeartbeats 2000000 in
theorem bsf_walk (v : Value) (l : List Nt) (t : Int) (hr : ∀ i j (hj : j < l.length) (hij : i < j), l[i].f ≤ l[j].f) (w : World) (S : Sl w 10 encN v l) :
    Calls Try.prog 42 #[v, .int .i64 t, .func (.func 43) #[] #[]] w fun e w' => (∃ b : Bool, e = .returned (.tuple #[.int .i64 (l.countP (fun n => decide (n.f < t)) : Nat), .bool b])) ∧ Ext w w' := by
  obtain ⟨a?, cap, rfl, -, -, h3⟩ := S.len
  have HR := Lib.hid hr
  clear hr
  have hcz : ∀ x : Int, (x < t → cmpZ x t = -1) ∧ (¬ x < t → 0 ≤ cmpZ x t) := fun x => by unfold cmpZ; constructor <;> intro h <;> (repeat' split) <;> omega
  have HCZ := Lib.hid hcz
  clear hcz
  go_enter Try.func42, Try.ntmps42
  go_wp2
  go_loopw [9, 10] (fun a b wr => ∃ i j : Nat, a = .int .i64 i ∧ b = .int .i64 j ∧ i ≤ j ∧ j ≤ l.length ∧ (∀ q (h : q < l.length), q < i → l[q].f < t) ∧ (∀ q (h : q < l.length), j ≤ q → ¬ l[q].f < t) ∧ Ext w wr) (fun a b _ => (intOf b - intOf a).toNat)
  case atStart => exact ⟨0, l.length, rfl, rfl, by omega, by omega, fun q h1 h2 => by omega, fun q h1 h2 => by omega, Ext.refl _⟩
  case round =>
    obtain ⟨i, j, rfl, rfl, hij, hj, hlo, hhi, X⟩ := hrel
    have HLO := Lib.hid hlo; have HHI := Lib.hid hhi
    clear hlo hhi
    by_cases hlt : i < j
    · obtain ⟨m, hm⟩ : ∃ m, (i + j) / 2 = m := ⟨_, rfl⟩
      have m1 : i ≤ m := by omega
      have m2 : m < j := by omega
      obtain ⟨b, o, rfl, A⟩ := Sl.nt (S.ext X) m (by omega)
      obtain ⟨x, hx⟩ : ∃ x, l[m] = x := ⟨_, rfl⟩
      rw [hx] at A
      have HX := Lib.hid hx
      obtain ⟨q0, q1, q2, q3, q4, q5, q6, q7, q8, q9⟩ := A
      obtain ⟨c, hc⟩ : ∃ c, cmpZ x.f t = c := ⟨_, rfl⟩
      have HC := Lib.hid hc
      clear hx S hc
      have em : ((i : Int) + (j : Int)) / 2 = (m : Int) := by omega
      obtain ⟨wo, rfl⟩ : ∃ wo : World, wo = wr := ⟨_, rfl⟩
      by_cases hxt : x.f < t
      · have HT := Lib.hid hxt
        have hc0 : c < 0 := by have := (HCZ.out x.f).1 hxt; have := HC.out; omega
        clear hxt
        go_wp2_with fail
        refine (first1_walk x t _).mono ?_
        rw [HC.out]
        rintro e w1 ⟨rfl, x1⟩
        clear q0 q1 q2 q3 q4 q5 q6 q7 q8 q9
        go_wp2
        go_roundw
        case rel => exact ⟨m + 1, j, by go_num, rfl, by omega, hj, fun q h1 h2 => by
          rcases Nat.lt_or_ge q m with h | h
          · have h9 := HR.out q m (by omega) h
            rw [HX.out] at h9
            have := HT.out; omega
          · obtain rfl : q = m := by omega
            rw [HX.out]; exact HT.out, fun q h1 h2 => Int.not_lt.2 (by have := HHI.out q h1 h2; omega), X.trans x1⟩
        case measure => simp [intOf]; omega
      · have HT : Hid (t ≤ x.f) := Lib.hid (by omega)
        have hc0 : ¬ c < 0 := by have := (HCZ.out x.f).2 (by omega); have := HC.out; omega
        clear hxt
        go_wp2_with fail
        refine (first1_walk x t _).mono ?_
        rw [HC.out]
        rintro e w1 ⟨rfl, x1⟩
        clear q0 q1 q2 q3 q4 q5 q6 q7 q8 q9
        go_wp2
        go_roundw
        case rel => exact ⟨i, m, rfl, by go_num, m1, by omega, HLO.out, fun q h1 h2 => Int.not_lt.2 (by
          rcases Nat.lt_or_ge m q with h | h
          · have h9 := HR.out m q h1 h
            rw [HX.out] at h9
            have := HT.out; omega
          · obtain rfl : q = m := by omega
            rw [HX.out]; exact HT.out), X.trans x1⟩
        case measure => simp [intOf]; omega
    · obtain rfl : i = j := by omega
      have hcnt : l.countP (fun n => decide (n.f < t)) = i := count_split hj (fun q h1 h2 => decide_eq_true (HLO.out q h1 h2)) (fun q h1 h2 => decide_eq_false (HHI.out q h1 h2))
      have HC := Lib.hid hcnt
      clear hcnt
      by_cases hin : i < l.length
      · obtain ⟨b, o, rfl, A⟩ := Sl.nt (S.ext X) i hin
        obtain ⟨x, hx⟩ : ∃ x, l[i] = x := ⟨_, rfl⟩
        rw [hx] at A
        obtain ⟨q0, q1, q2, q3, q4, q5, q6, q7, q8, q9⟩ := A
        obtain ⟨c, hc⟩ : ∃ c, cmpZ x.f t = c := ⟨_, rfl⟩
        have HCC := Lib.hid hc
        clear hx S hc HLO HHI
        go_wp2_with fail
        refine (first1_walk x t _).mono ?_
        rw [HCC.out]
        rintro e w1 ⟨rfl, x1⟩
        clear q0 q1 q2 q3 q4 q5 q6 q7 q8 q9
        go_wp2
        go_ret2
        exact ⟨⟨_, by rw [HC.out] <;> rfl⟩, X.trans x1⟩
      · clear S HLO HHI
        go_wp2
        go_ret2
        exact ⟨⟨_, by rw [HC.out] <;> rfl⟩, X⟩
set_option maxHeartbeats 1000000 in
theorem before1_walk (n : Nt) (p : Nat) (v t : Int) (w : World) (h0 : w.cell? ⟨p, 0, none⟩ = some (.int .i64 v)) (h1 : w.cell? ⟨p, 1, none⟩ = some (.int .i64 t)) :
    Calls Try.prog 40 #[.agg #[.int .i64 n.v, .int .i64 n.f, .int .i64 n.u, .int .i64 n.x.a, .int .i64 n.x.b, .int .i64 n.x.c, .int .i64 n.x.d, .int .i64 n.x.e, .int .i64 n.x.f, .bool n.tied], .pointer (some ⟨p, 0, none⟩)] w fun e w' => e = .returned (.bool (endP v t n)) ∧ Ext w w' := by
  have lp := lt_of_cell h0
  simp only at lp
  have lp2 : ¬ p = w.heap.size := by omega
  unfold endP
  by_cases hv : n.v = v
  · have e1 : (n.v == v) = true := by rw [beq_iff_eq]; exact hv
    by_cases hu : n.u = t
    · have e2 : (n.u == t) = true := by rw [beq_iff_eq]; exact hu
      rw [decide_eq_true hv, decide_eq_true hu]
      clear hv hu
      go_enter Try.func40, Try.ntmps40
      go_wp2
      go_ret
      exact ⟨rfl, (by repeat (first | with_reducible exact Ext.refl _ | with_reducible assumption | with_reducible apply Ext.alloc | with_reducible apply Ext.drew | (with_reducible refine Ext.setCell ?_ (by (try simp) <;> omega) _)))⟩
    · have e2 : (n.u == t) = false := by rw [beq_eq_false_iff_ne]; exact hu
      rw [decide_eq_true hv, decide_eq_false hu]
      clear hv hu
      go_enter Try.func40, Try.ntmps40
      go_wp2
      go_ret
      exact ⟨rfl, (by repeat (first | with_reducible exact Ext.refl _ | with_reducible assumption | with_reducible apply Ext.alloc | with_reducible apply Ext.drew | (with_reducible refine Ext.setCell ?_ (by (try simp) <;> omega) _)))⟩
  · have e1 : (n.v == v) = false := by rw [beq_eq_false_iff_ne]; exact hv
    rw [decide_eq_false hv]
    clear hv
    go_enter Try.func40, Try.ntmps40
    go_wp2
    go_ret
    exact ⟨rfl, (by repeat (first | with_reducible exact Ext.refl _ | with_reducible assumption | with_reducible apply Ext.alloc | with_reducible apply Ext.drew | (with_reducible refine Ext.setCell ?_ (by (try simp) <;> omega) _)))⟩

theorem findL_drop {l : List Nt} {p : Nt → Bool} {k : Nat} (hk : k < l.length) : findL (l.drop k) p k = if p l[k] = true then (k : Int) else findL (l.drop (k + 1)) p (k + 1) := by
  rw [List.drop_eq_getElem_cons hk, findL]
set_option maxHeartbeats 2000000 in
theorem idxf_walk (vl : Value) (l : List Nt) (p : Nat) (v t : Int) (w : World) (S : Sl w 10 encN vl l) (h0 : w.cell? ⟨p, 0, none⟩ = some (.int .i64 v)) (h1 : w.cell? ⟨p, 1, none⟩ = some (.int .i64 t)) :
    Calls Try.prog 39 #[vl, .func (.func 40) #[] #[.pointer (some ⟨p, 0, none⟩)]] w fun e w' => e = .returned (.int .i64 (findL l (endP v t) 0)) ∧ Ext w w' := by
  obtain ⟨a?, cap, rfl, -, -, h3⟩ := S.len
  have H0 := Lib.hid h0; have H1 := Lib.hid h1
  clear h0 h1
  go_enter Try.func39, Try.ntmps39
  go_wp2
  go_loopw [8] (fun i wr => ∃ k : Nat, k ≤ l.length ∧ i = .int .i64 k ∧ findL (l.drop k) (endP v t) k = findL l (endP v t) 0 ∧ Ext w wr) (fun i _ => l.length - (intOf i).toNat)
  case atStart => exact ⟨0, by omega, rfl, rfl, Ext.refl _⟩
  case round =>
    obtain ⟨k, hk, rfl, hf, X⟩ := hrel
    have HF := Lib.hid hf
    clear hf
    by_cases hlt : k < l.length
    · obtain ⟨b, o, rfl, A⟩ := Sl.nt (S.ext X) k hlt
      have hd := @findL_drop l (endP v t) k hlt
      obtain ⟨x, hx⟩ : ∃ x, l[k] = x := ⟨_, rfl⟩
      rw [hx] at A hd
      obtain ⟨q0, q1, q2, q3, q4, q5, q6, q7, q8, q9⟩ := A
      obtain ⟨c, hc⟩ : ∃ c, endP v t x = c := ⟨_, rfl⟩
      rw [hc] at hd
      have HC := Lib.hid hc; have HD := Lib.hid hd
      have B := Lib.hid fun w' (y : Ext wr w') => before1_walk x p v t w' ((X.trans y).cell H0.out) ((X.trans y).cell H1.out)
      clear hd hx hc S
      obtain ⟨wo, rfl⟩ : ∃ wo : World, wo = wr := ⟨_, rfl⟩
      go_wp2_with fail
      refine (B.out _ (by repeat (first | with_reducible exact Ext.refl _ | with_reducible assumption | with_reducible apply Ext.alloc | with_reducible apply Ext.drew | (with_reducible refine Ext.setCell ?_ (by (try simp) <;> omega) _)))).mono ?_
      rw [HC.out]
      rintro e w1 ⟨rfl, x1⟩
      clear q0 q1 q2 q3 q4 q5 q6 q7 q8 q9
      cases c with
      | true =>
        go_wp2
        go_ret
        exact ⟨by rw [← HF.out, HD.out] <;> rfl, X.trans x1⟩
      | false =>
        go_wp2
        go_roundw
        case rel => exact ⟨k + 1, by omega, by go_num, by rw [← HF.out, HD.out] <;> rfl, X.trans x1⟩
        case measure => simp [intOf]; omega
    · obtain rfl : k = l.length := by omega
      rw [List.drop_length] at HF
      clear S
      go_wp2
      go_ret
      exact ⟨by rw [← HF.out] <;> rfl, X⟩
set_option maxHeartbeats 1000000 in
theorem sounding1_walk (n : Nt) (p : Nat) (t : Int) (w : World) (h0 : w.cell? ⟨p, 0, none⟩ = some (.int .i64 t)) :
    Calls Try.prog 46 #[.agg #[.int .i64 n.v, .int .i64 n.f, .int .i64 n.u, .int .i64 n.x.a, .int .i64 n.x.b, .int .i64 n.x.c, .int .i64 n.x.d, .int .i64 n.x.e, .int .i64 n.x.f, .bool n.tied], .pointer (some ⟨p, 0, none⟩)] w fun e w' => e = .returned (.bool (sndP t n)) ∧ Ext w w' := by
  have lp := lt_of_cell h0
  simp only at lp
  have lp2 : ¬ p = w.heap.size := by omega
  unfold sndP
  by_cases hv : n.f ≤ t
  · have e1 := decide_eq_true hv
    rw [e1, Bool.true_and]
    go_enter Try.func46, Try.ntmps46
    go_wp2
    go_ret
    exact ⟨by first | rfl | simp, (by repeat (first | with_reducible exact Ext.refl _ | with_reducible assumption | with_reducible apply Ext.alloc | with_reducible apply Ext.drew | (with_reducible refine Ext.setCell ?_ (by (try simp) <;> omega) _)))⟩
  · have e1 := decide_eq_false hv
    rw [e1, Bool.false_and]
    go_enter Try.func46, Try.ntmps46
    go_wp2
    go_ret
    exact ⟨by first | rfl | simp, (by repeat (first | with_reducible exact Ext.refl _ | with_reducible assumption | with_reducible apply Ext.alloc | with_reducible apply Ext.drew | (with_reducible refine Ext.setCell ?_ (by (try simp) <;> omega) _)))⟩
set_option maxHeartbeats 1000000 in
theorem held1_walk (n : Nt) (p : Nat) (t : Int) (w : World) (h0 : w.cell? ⟨p, 0, none⟩ = some (.int .i64 t)) :
    Calls Try.prog 48 #[.agg #[.int .i64 n.v, .int .i64 n.f, .int .i64 n.u, .int .i64 n.x.a, .int .i64 n.x.b, .int .i64 n.x.c, .int .i64 n.x.d, .int .i64 n.x.e, .int .i64 n.x.f, .bool n.tied], .pointer (some ⟨p, 0, none⟩)] w fun e w' => e = .returned (.bool (heldP t n)) ∧ Ext w w' := by
  have lp := lt_of_cell h0
  simp only at lp
  have lp2 : ¬ p = w.heap.size := by omega
  obtain ⟨c, hc⟩ : ∃ c, heldP t n = c := ⟨_, rfl⟩
  have hc' := hc
  unfold heldP at hc'
  rw [hc]
  by_cases h1 : n.f < t
  · have e3 : (n.f == t) = false := by rw [beq_eq_false_iff_ne]; omega
    by_cases h2 : t < n.u
    · have hcc : c = true := by rw [← hc']; simp [h1, h2]
      subst hcc
      clear hc hc'
      go_enter Try.func48, Try.ntmps48
      go_wp2
      go_ret
      exact ⟨by first | rfl | simp, (by repeat (first | with_reducible exact Ext.refl _ | with_reducible assumption | with_reducible apply Ext.alloc | with_reducible apply Ext.drew | (with_reducible refine Ext.setCell ?_ (by (try simp) <;> omega) _)))⟩
    · have hcc : c = false := by rw [← hc']; simp [h1, h2, show ¬ n.f = t by omega]
      subst hcc
      clear hc hc'
      go_enter Try.func48, Try.ntmps48
      go_wp2
      go_ret
      exact ⟨by first | rfl | simp, (by repeat (first | with_reducible exact Ext.refl _ | with_reducible assumption | with_reducible apply Ext.alloc | with_reducible apply Ext.drew | (with_reducible refine Ext.setCell ?_ (by (try simp) <;> omega) _)))⟩
  · by_cases h3 : n.f = t
    · have e3 : (n.f == t) = true := by rw [beq_iff_eq]; exact h3
      have hcc : c = n.tied := by rw [← hc']; simp [h3]
      subst hcc
      clear hc hc' h3
      go_enter Try.func48, Try.ntmps48
      go_wp2
      go_ret
      exact ⟨by first | rfl | simp, (by repeat (first | with_reducible exact Ext.refl _ | with_reducible assumption | with_reducible apply Ext.alloc | with_reducible apply Ext.drew | (with_reducible refine Ext.setCell ?_ (by (try simp) <;> omega) _)))⟩
    · have e3 : (n.f == t) = false := by rw [beq_eq_false_iff_ne]; exact h3
      have hcc : c = false := by rw [← hc']; simp [h1, h3]
      subst hcc
      clear hc hc' h3
      go_enter Try.func48, Try.ntmps48
      go_wp2
      go_ret
      exact ⟨by first | rfl | simp, (by repeat (first | with_reducible exact Ext.refl _ | with_reducible assumption | with_reducible apply Ext.alloc | with_reducible apply Ext.drew | (with_reducible refine Ext.setCell ?_ (by (try simp) <;> omega) _)))⟩
theorem et_z : ET Try.prog 24 3 1 8 := .mk' (z := .int .i64 0) Try.underlying24 (by kernel_rfl) rfl (by decide) (by decide)
set_option maxRecDepth 100000 in
set_option maxHeartbeats 2000000 in
theorem chsnd_walk (vn vp vc : Value) (s : Sc) (p : Nat) (t : Int) (hn : s.notes.length ≤ 200) (w : World) (S : ScR w vn vp vc s) (h0 : w.cell? ⟨p, 0, none⟩ = some (.int .i64 t)) :
    Calls Try.prog 45 #[.agg #[.int .i64 s.voices, vn, vp, vc], .func (.func 46) #[] #[.pointer (some ⟨p, 0, none⟩)]] w fun e w' => ∃ v, e = .returned v ∧ Sl w' 1 encZ v (chooseL s.notes (sndP t)) ∧ Ext w w' := by
  obtain ⟨an, cn, rfl, -, -, hln⟩ := S.nt.len
  obtain ⟨ap, cp, rfl, -, -, hlp⟩ := S.pr.len
  obtain ⟨ac, cc, rfl, -, -, hlc⟩ := S.cd.len
  have SN := S.nt
  have H0 := Lib.hid h0
  go_enter Try.func45, Try.ntmps45
  go_wp2
  have XW := Ext.alloc' w (.cells #[.int .i64 s.voices, .slice an s.notes.length cn, .slice ap s.pairs.length cp, .slice ac s.cads.length cc] 26)
  obtain ⟨W, hW⟩ : ∃ W, w.alloc (.cells #[.int .i64 s.voices, .slice an s.notes.length cn, .slice ap s.pairs.length cp, .slice ac s.cads.length cc] 26) = W := ⟨_, rfl⟩
  obtain ⟨B, hB⟩ : ∃ B, w.heap.size = B := ⟨_, rfl⟩
  rw [hB, hW]
  rw [hW] at XW
  clear hB hW S h0
  go_loopw [5, 11] (fun v i wr => ∃ k : Nat, k ≤ s.notes.length ∧ i = .int .i64 k ∧ OwnR wr W.heap.size 3 1 encZ v (chooseL (s.notes.take k) (sndP t)) ∧ Ext W wr) (fun _ i _ => s.notes.length - (intOf i).toNat)
  case atStart => exact ⟨0, by omega, rfl, OwnR.nil, Ext.refl _⟩
  case round =>
    obtain ⟨k, hk, rfl, own, X⟩ := hrel
    by_cases hlt : k < s.notes.length
    · obtain ⟨b, o, rfl, A⟩ := Sl.nt ((SN.ext XW).ext X) k hlt
      have hts : chooseL (s.notes.take (k + 1)) (sndP t) = chooseL (s.notes.take k) (sndP t) ++ if (sndP t) s.notes[k] = true then [(k : Int)] else [] := by
        rw [List.take_succ_eq_append_getElem hlt, chooseL_snoc, List.length_take, Nat.min_eq_left (by omega)]
      have hlen : (chooseL (s.notes.take k) (sndP t)).length ≤ k := Nat.le_trans chooseL_len (by rw [List.length_take]; omega)
      obtain ⟨x, hx⟩ : ∃ x, s.notes[k] = x := ⟨_, rfl⟩
      rw [hx] at A hts
      obtain ⟨q0, q1, q2, q3, q4, q5, q6, q7, q8, q9⟩ := A
      obtain ⟨c, hc⟩ : ∃ c, (sndP t) x = c := ⟨_, rfl⟩
      rw [hc] at hts
      have HC := Lib.hid hc; have HT := Lib.hid hts
      have CB := Lib.hid fun w' (y : Ext wr w') => sounding1_walk x p t w' (((XW.trans X).trans y).cell H0.out)
      clear hx hc hts
      obtain ⟨wo, rfl⟩ : ∃ wo : World, wo = wr := ⟨_, rfl⟩
      go_wp2_with fail
      refine (CB.out _ (by repeat (first | with_reducible exact Ext.refl _ | with_reducible assumption | with_reducible apply Ext.alloc | with_reducible apply Ext.drew | (with_reducible refine Ext.setCell ?_ (by (try simp) <;> omega) _)))).mono ?_
      rw [HC.out]
      rintro e w1 ⟨rfl, x1⟩
      have y1 : Ext wo w1 := Ext.trans (by repeat (first | with_reducible exact Ext.refl _ | with_reducible assumption | with_reducible apply Ext.alloc | with_reducible apply Ext.drew | (with_reducible refine Ext.setCell ?_ (by (try simp) <;> omega) _))) x1
      have own1 := own.ext y1
      have X1 := X.trans y1
      have hsz := X1.size
      clear q0 q1 q2 q3 q4 q5 q6 q7 q8 q9 x1 own y1
      cases c with
      | true =>
        go_wp2_with (at_builtin; go_must (refine wpList_own1 et_z rfl _ _ rfl own1 rfl (k : Int) rfl rfl rfl (by simp [encZ, Value.oneCell']) (by omega) hsz ?_; intro v' w2 hown' hb' happ _))
        go_roundw
        case rel => exact ⟨k + 1, by omega, by go_num, by rw [HT.out]; exact hown', Below.trans X1 hb'⟩
        case measure => simp [intOf]; omega
      | false =>
        go_wp2
        go_roundw
        case rel => exact ⟨k + 1, by omega, by go_num, by rw [HT.out]; simpa using own1, X1⟩
        case measure => simp [intOf]; omega
    · obtain rfl : k = s.notes.length := by omega
      rw [List.take_length] at own
      have hlen : (chooseL s.notes (sndP t)).length ≤ s.notes.length := chooseL_len
      have S7 := own.sl (fun _ _ => rfl) (by omega)
      have XX := XW.trans X
      clear own SN
      go_wp2
      go_ret
      exact ⟨_, rfl, S7, XX⟩
set_option maxRecDepth 100000 in
set_option maxHeartbeats 2000000 in
theorem chheld_walk (vn vp vc : Value) (s : Sc) (p : Nat) (t : Int) (hn : s.notes.length ≤ 200) (w : World) (S : ScR w vn vp vc s) (h0 : w.cell? ⟨p, 0, none⟩ = some (.int .i64 t)) :
    Calls Try.prog 45 #[.agg #[.int .i64 s.voices, vn, vp, vc], .func (.func 48) #[] #[.pointer (some ⟨p, 0, none⟩)]] w fun e w' => ∃ v, e = .returned v ∧ Sl w' 1 encZ v (chooseL s.notes (heldP t)) ∧ Ext w w' := by
  obtain ⟨an, cn, rfl, -, -, hln⟩ := S.nt.len
  obtain ⟨ap, cp, rfl, -, -, hlp⟩ := S.pr.len
  obtain ⟨ac, cc, rfl, -, -, hlc⟩ := S.cd.len
  have SN := S.nt
  have H0 := Lib.hid h0
  go_enter Try.func45, Try.ntmps45
  go_wp2
  have XW := Ext.alloc' w (.cells #[.int .i64 s.voices, .slice an s.notes.length cn, .slice ap s.pairs.length cp, .slice ac s.cads.length cc] 26)
  obtain ⟨W, hW⟩ : ∃ W, w.alloc (.cells #[.int .i64 s.voices, .slice an s.notes.length cn, .slice ap s.pairs.length cp, .slice ac s.cads.length cc] 26) = W := ⟨_, rfl⟩
  obtain ⟨B, hB⟩ : ∃ B, w.heap.size = B := ⟨_, rfl⟩
  rw [hB, hW]
  rw [hW] at XW
  clear hB hW S h0
  go_loopw [5, 11] (fun v i wr => ∃ k : Nat, k ≤ s.notes.length ∧ i = .int .i64 k ∧ OwnR wr W.heap.size 3 1 encZ v (chooseL (s.notes.take k) (heldP t)) ∧ Ext W wr) (fun _ i _ => s.notes.length - (intOf i).toNat)
  case atStart => exact ⟨0, by omega, rfl, OwnR.nil, Ext.refl _⟩
  case round =>
    obtain ⟨k, hk, rfl, own, X⟩ := hrel
    by_cases hlt : k < s.notes.length
    · obtain ⟨b, o, rfl, A⟩ := Sl.nt ((SN.ext XW).ext X) k hlt
      have hts : chooseL (s.notes.take (k + 1)) (heldP t) = chooseL (s.notes.take k) (heldP t) ++ if (heldP t) s.notes[k] = true then [(k : Int)] else [] := by
        rw [List.take_succ_eq_append_getElem hlt, chooseL_snoc, List.length_take, Nat.min_eq_left (by omega)]
      have hlen : (chooseL (s.notes.take k) (heldP t)).length ≤ k := Nat.le_trans chooseL_len (by rw [List.length_take]; omega)
      obtain ⟨x, hx⟩ : ∃ x, s.notes[k] = x := ⟨_, rfl⟩
      rw [hx] at A hts
      obtain ⟨q0, q1, q2, q3, q4, q5, q6, q7, q8, q9⟩ := A
      obtain ⟨c, hc⟩ : ∃ c, (heldP t) x = c := ⟨_, rfl⟩
      rw [hc] at hts
      have HC := Lib.hid hc; have HT := Lib.hid hts
      have CB := Lib.hid fun w' (y : Ext wr w') => held1_walk x p t w' (((XW.trans X).trans y).cell H0.out)
      clear hx hc hts
      obtain ⟨wo, rfl⟩ : ∃ wo : World, wo = wr := ⟨_, rfl⟩
      go_wp2_with fail
      refine (CB.out _ (by repeat (first | with_reducible exact Ext.refl _ | with_reducible assumption | with_reducible apply Ext.alloc | with_reducible apply Ext.drew | (with_reducible refine Ext.setCell ?_ (by (try simp) <;> omega) _)))).mono ?_
      rw [HC.out]
      rintro e w1 ⟨rfl, x1⟩
      have y1 : Ext wo w1 := Ext.trans (by repeat (first | with_reducible exact Ext.refl _ | with_reducible assumption | with_reducible apply Ext.alloc | with_reducible apply Ext.drew | (with_reducible refine Ext.setCell ?_ (by (try simp) <;> omega) _))) x1
      have own1 := own.ext y1
      have X1 := X.trans y1
      have hsz := X1.size
      clear q0 q1 q2 q3 q4 q5 q6 q7 q8 q9 x1 own y1
      cases c with
      | true =>
        go_wp2_with (at_builtin; go_must (refine wpList_own1 et_z rfl _ _ rfl own1 rfl (k : Int) rfl rfl rfl (by simp [encZ, Value.oneCell']) (by omega) hsz ?_; intro v' w2 hown' hb' happ _))
        go_roundw
        case rel => exact ⟨k + 1, by omega, by go_num, by rw [HT.out]; exact hown', Below.trans X1 hb'⟩
        case measure => simp [intOf]; omega
      | false =>
        go_wp2
        go_roundw
        case rel => exact ⟨k + 1, by omega, by go_num, by rw [HT.out]; simpa using own1, X1⟩
        case measure => simp [intOf]; omega
    · obtain rfl : k = s.notes.length := by omega
      rw [List.take_length] at own
      have hlen : (chooseL s.notes (heldP t)).length ≤ s.notes.length := chooseL_len
      have S7 := own.sl (fun _ _ => rfl) (by omega)
      have XX := XW.trans X
      clear own SN
      go_wp2
      go_ret
      exact ⟨_, rfl, S7, XX⟩
end Go.Proofs.Ytajicmghnllnmaa
