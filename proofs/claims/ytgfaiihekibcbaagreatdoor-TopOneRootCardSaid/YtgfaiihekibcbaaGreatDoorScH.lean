/-
  Walks: the functions of score.First, Before, Sounding and Held; BinarySearchFunc, IndexFunc and choose with them.
-/
import Derived.Test.YtgfaiihekibcbaaGreatDoorLibC
set_option linter.unusedVariables false
namespace Go.Proofs.YtgfaiihekibcbaaGreatDoor
open Go.RowKit Go.Sx Go.Sx.Sz Go.Sx.Sc

set_option maxRecDepth 100000 in
set_option maxHeartbeats 1000000 in
theorem before1_walk (n : Nt) (p : Nat) (v t : Int) (w : World) (h0 : w.cell? ⟨p, 0, none⟩ = some (.int .i64 v)) (h1 : w.cell? ⟨p, 1, none⟩ = some (.int .i64 t)) :
    Calls Tryz.prog 67 #[.agg #[.int .i64 n.v, .int .i64 n.f, .int .i64 n.u, .int .i64 n.x.a, .int .i64 n.x.b, .int .i64 n.x.c, .int .i64 n.x.d, .int .i64 n.x.e, .int .i64 n.x.f, .bool n.tied], .pointer (some ⟨p, 0, none⟩)] w fun e w' => e = .returned (.bool (endP v t n)) ∧ Ext w w' := by
  have lp := lt_of_cell h0
  simp only at lp
  have lp2 : ¬ p = w.heap.size := by omega
  unfold endP
  by_cases hv : n.v = v
  · have e1 : (n.v == v) = true := by rw [beq_iff_eq]; exact hv
    by_cases hu : n.u = t
    · have e2 : (n.u == t) = true := by rw [beq_iff_eq]; exact hu
      rw [decide_eq_true hv, decide_eq_true hu]
      clear hv hu
      go_enter Tryz.func67, Tryz.ntmps67
      go_wp2
      go_ret
      exact ⟨rfl, (by repeat (first | with_reducible exact Ext.refl _ | with_reducible assumption | with_reducible apply Ext.alloc | with_reducible apply Ext.drew | (with_reducible refine Ext.setCell ?_ (by (try simp) <;> omega) _)))⟩
    · have e2 : (n.u == t) = false := by rw [beq_eq_false_iff_ne]; exact hu
      rw [decide_eq_true hv, decide_eq_false hu]
      clear hv hu
      go_enter Tryz.func67, Tryz.ntmps67
      go_wp2
      go_ret
      exact ⟨rfl, (by repeat (first | with_reducible exact Ext.refl _ | with_reducible assumption | with_reducible apply Ext.alloc | with_reducible apply Ext.drew | (with_reducible refine Ext.setCell ?_ (by (try simp) <;> omega) _)))⟩
  · have e1 : (n.v == v) = false := by rw [beq_eq_false_iff_ne]; exact hv
    rw [decide_eq_false hv]
    clear hv
    go_enter Tryz.func67, Tryz.ntmps67
    go_wp2
    go_ret
    exact ⟨rfl, (by repeat (first | with_reducible exact Ext.refl _ | with_reducible assumption | with_reducible apply Ext.alloc | with_reducible apply Ext.drew | (with_reducible refine Ext.setCell ?_ (by (try simp) <;> omega) _)))⟩

set_option maxRecDepth 100000 in
theorem findL_drop {l : List Nt} {p : Nt → Bool} {k : Nat} (hk : k < l.length) : findL (l.drop k) p k = if p l[k] = true then (k : Int) else findL (l.drop (k + 1)) p (k + 1) := by
  rw [List.drop_eq_getElem_cons hk, findL]
set_option maxRecDepth 100000 in
set_option maxHeartbeats 2000000 in
theorem idxf_walk (vl : Value) (l : List Nt) (p : Nat) (v t : Int) (w : World) (S : Sl w 10 encN vl l) (h0 : w.cell? ⟨p, 0, none⟩ = some (.int .i64 v)) (h1 : w.cell? ⟨p, 1, none⟩ = some (.int .i64 t)) :
    Calls Tryz.prog 66 #[vl, .func (.func 67) #[] #[.pointer (some ⟨p, 0, none⟩)]] w fun e w' => e = .returned (.int .i64 (findL l (endP v t) 0)) ∧ Ext w w' := by
  obtain ⟨a?, cap, rfl, -, -, h3⟩ := S.len
  have H0 := Lib.hid h0; have H1 := Lib.hid h1
  clear h0 h1
  go_enter Tryz.func66, Tryz.ntmps66
  go_wp2
  go_loopw [8] (fun i wr => ∃ k : Nat, k ≤ l.length ∧ i = .int .i64 k ∧ findL (l.drop k) (endP v t) k = findL l (endP v t) 0 ∧ Ext w wr) (fun i _ => l.length - (intOf i).toNat)
  case atStart => exact ⟨0, by omega, rfl, rfl, Ext.refl _⟩
  case round =>
    obtain ⟨k, hk, rfl, hf, X⟩ := hrel
    have HF := Lib.hid hf
    clear hf
    by_cases hlt : k < l.length
    · obtain ⟨b, o, rfl, A⟩ := Sl.nt (S.ext X) k hlt
      have hd := @findL_drop l (endP v t) k hlt
      obtain ⟨x, hx⟩ : ∃ x, l[k] = x := ⟨_, rfl⟩
      rw [hx] at A hd
      obtain ⟨q0, q1, q2, q3, q4, q5, q6, q7, q8, q9⟩ := A
      obtain ⟨c, hc⟩ : ∃ c, endP v t x = c := ⟨_, rfl⟩
      rw [hc] at hd
      have HC := Lib.hid hc; have HD := Lib.hid hd
      have B := Lib.hid fun w' (y : Ext wr w') => before1_walk x p v t w' ((X.trans y).cell H0.out) ((X.trans y).cell H1.out)
      clear hd hx hc S
      obtain ⟨wo, rfl⟩ : ∃ wo : World, wo = wr := ⟨_, rfl⟩
      go_wp2_with fail
      refine (B.out _ (by repeat (first | with_reducible exact Ext.refl _ | with_reducible assumption | with_reducible apply Ext.alloc | with_reducible apply Ext.drew | (with_reducible refine Ext.setCell ?_ (by (try simp) <;> omega) _)))).mono ?_
      rw [HC.out]
      rintro e w1 ⟨rfl, x1⟩
      clear q0 q1 q2 q3 q4 q5 q6 q7 q8 q9
      cases c with
      | true =>
        go_wp2
        go_ret
        exact ⟨by rw [← HF.out, HD.out] <;> rfl, X.trans x1⟩
      | false =>
        go_wp2
        go_roundw
        case rel => exact ⟨k + 1, by omega, by go_num, by rw [← HF.out, HD.out] <;> rfl, X.trans x1⟩
        case measure => simp [intOf]; omega
    · obtain rfl : k = l.length := by omega
      rw [List.drop_length] at HF
      clear S
      go_wp2
      go_ret
      exact ⟨by rw [← HF.out] <;> rfl, X⟩
end Go.Proofs.YtgfaiihekibcbaaGreatDoor
